/- A part of the proof of StockBack: words and walks that it uses. -/
import Derived.Test.YtliablhnkoghbaaZStockBack0
import Derived.Shelf.Abstract
import Derived.IntWalk
import Derived.Laws.Cover1
import Derived.Lib.SliceRun
import Derived.Shelf.Small.Strs
namespace Go.Proofs.YtliablhnkoghbaaH
open Go.RowKit Go.Proofs.YtliablhnkoghbaaW.PrintWords
set_option linter.unusedVariables false
set_option linter.unusedSimpArgs false
def PredB (P : Program) (g : Nat) (lb : Array Value) {α : Type} (enc : α → Value) (p : α → Bool) (l : List α) (w : World) : Prop :=
  ∀ (W : World) (x : α), x ∈ l → Below w.heap.size w W → Calls P g (#[enc x] ++ lb) W fun e w' => e = .returned (.bool (p x)) ∧ Below W.heap.size W w'
theorem PredB.below {P : Program} {g : Nat} {lb : Array Value} {α : Type} {enc : α → Value} {p : α → Bool} {l : List α} {w W : World} (h : PredB P g lb enc p l w) (hb : Below w.heap.size w W) : PredB P g lb enc p l W :=
  fun W' x hx hb' => h W' x hx (below_step hb hb')
def idxP {α : Type} (p : α → Bool) (l : List α) : Int := match l.findIdx? p with | some i => (i : Int) | none => -1
theorem idxP_hit {α : Type} (p : α → Bool) (l : List α) (k : Nat) (h : k < l.length) (hk : p l[k] = true) (hj : ∀ j (hj : j < k), p (l[j]'(by omega)) = false) : idxP p l = k := by
  have : l.findIdx? p = some k := by
    rw [List.findIdx?_eq_some_iff_getElem]
    exact ⟨h, hk, fun j hjk => by simp [hj j hjk]⟩
  simp [idxP, this]
theorem idxP_miss {α : Type} (p : α → Bool) (l : List α) (hj : ∀ j (hj : j < l.length), p (l[j]) = false) : idxP p l = -1 := by
  have : l.findIdx? p = none := by
    rw [List.findIdx?_eq_none_iff]
    intro x hx
    obtain ⟨j, h, rfl⟩ := List.getElem_of_mem hx
    exact hj j h
  simp [idxP, this]
theorem idxP_any {α : Type} (p : α → Bool) (l : List α) : decide (0 ≤ idxP p l) = l.any p := by
  unfold idxP
  cases h : l.findIdx? p with
  | none =>
    rw [List.findIdx?_eq_none_iff] at h
    have : l.any p = false := by rw [List.any_eq_false]; intro x hx; simp [h x hx]
    simp [this]
  | some i =>
    rw [List.findIdx?_eq_some_iff_getElem] at h
    obtain ⟨hi, hp, _⟩ := h
    have : l.any p = true := List.any_eq_true.2 ⟨_, List.getElem_mem hi, hp⟩
    simp [this]
def CmpB (P : Program) (g : Nat) (lb : Array Value) {α : Type} (enc : α → Value) (c : α → α → Int) (l : List α) (w : World) : Prop :=
  ∀ (W : World) (x y : α), x ∈ l → y ∈ l → Below w.heap.size w W → Calls P g (#[enc x, enc y] ++ lb) W fun e w' => e = .returned (.int .i64 (c x y)) ∧ Below W.heap.size W w'
theorem CmpB.below {P : Program} {g : Nat} {lb : Array Value} {α : Type} {enc : α → Value} {c : α → α → Int} {l : List α} {w W : World} (h : CmpB P g lb enc c l w) (hb : Below w.heap.size w W) : CmpB P g lb enc c l W :=
  fun W' x y hx hy hb' => h W' x y hx hy (below_step hb hb')
def chainB {α : Type} (r : α → α → Bool) : List α → Bool
  | a :: b :: t => r a b && chainB r (b :: t)
  | _ => true
theorem chainB_iff {α : Type} (r : α → α → Bool) : ∀ l : List α, chainB r l = true ↔ ∀ i (h : i + 1 < l.length), r (l[i]'(by omega)) l[i + 1] = true
  | [] => by simp [chainB]
  | [a] => by simp [chainB]
  | a :: b :: t => by
    rw [chainB, Bool.and_eq_true, chainB_iff r (b :: t)]
    constructor
    · rintro ⟨h1, h2⟩ i h
      cases i with
      | zero => exact h1
      | succ i => exact h2 i (by simpa using h)
    · intro h
      exact ⟨h 0 (by simp), fun i hi => h (i + 1) (by simpa using hi)⟩
theorem chainB_no {α : Type} (r : α → α → Bool) (l : List α) (i : Nat) (h : i + 1 < l.length) (hr : r (l[i]'(by omega)) l[i + 1] = false) : chainB r l = false := by
  cases e : chainB r l with
  | false => rfl
  | true => rw [(chainB_iff r l).1 e i h] at hr; exact hr
theorem getD_get {α : Type} (z : α) (l : List α) (k : Nat) (h : k < l.length) : l.getD k z = l[k] := by
  simp [List.getD_eq_getElem?_getD, List.getElem?_eq_getElem h]
theorem at_int {ik : IntKind} {w : World} {A : Option Addr} {n : Nat} {xs : List Int} (h : Kd.C (Kd.int ik) w A n xs) (i : Int) (h0 : 0 ≤ i) (h1 : i < n) : ∃ ad, A = some ad ∧ w.cell? (ad.add i.toNat) = some (.int ik (rd xs i)) := by
  obtain ⟨ad, c, e, hl, hk, hc⟩ := Kd.C_get h 0 i h0 h1
  obtain rfl : c = [.int ik (xs.getD i.toNat 0)] := hk
  exact ⟨ad, e, by simpa [Kd.int, Kd.scalar, rd] using hc 0 _ rfl⟩
theorem at_string {w : World} {A : Option Addr} {n : Nat} {xs : List ByteArray} (h : Kd.C Kd.string w A n xs) (i : Int) (h0 : 0 ≤ i) (h1 : i < n) : ∃ ad, A = some ad ∧ w.cell? (ad.add i.toNat) = some (.string (rdOf ByteArray.empty xs i)) := by
  obtain ⟨ad, c, e, hl, hk, hc⟩ := Kd.C_get h ByteArray.empty i h0 h1
  obtain rfl : c = [.string (xs.getD i.toNat ByteArray.empty)] := hk
  exact ⟨ad, e, by simpa [Kd.string, Kd.scalar, rdOf] using hc 0 _ rfl⟩
def cmpB (a b : ByteArray) : Int := Lib.compareBytes a.data.toList b.data.toList
def rng (n m : Int) : Bool := decide (1 ≤ n) && decide (n ≤ m)
def CmpT (P : Program) (g : Nat) (lb : Array Value) {α : Type} (enc : α → Value) (tv : Value) (c : α → Int) (l : List α) (w : World) : Prop :=
  ∀ (W : World) (x : α), x ∈ l → Below w.heap.size w W → Calls P g (#[enc x, tv] ++ lb) W fun e w' => e = .returned (.int .i64 (c x)) ∧ Below W.heap.size W w'
def bsP {α : Type} (c : α → Int) (z : α) (l : List α) : Nat → Nat → Nat → Nat
  | 0, lo, _ => lo
  | k + 1, lo, hi => if lo < hi then (if c (l.getD ((lo + hi) / 2) z) < 0 then bsP c z l k ((lo + hi) / 2 + 1) hi else bsP c z l k lo ((lo + hi) / 2)) else lo
def bsAt {α : Type} (c : α → Int) (z : α) (l : List α) : Nat := bsP c z l (l.length + 1) 0 l.length
def bsIs {α : Type} (c : α → Int) (z : α) (l : List α) : Bool := decide (bsAt c z l < l.length) && decide (c (l.getD (bsAt c z l) z) = 0)
theorem C_ints {k : IntKind} {w : World} {ad : Addr} (xs : List Int) (hl : xs.length ≤ 9223372036854775807) (h : ∀ j, j < xs.length → w.cell? (ad.add j) = some (.int k (xs.getD j 0))) : Kd.C (Kd.int k) w (some ad) xs.length xs :=
  Kd.C_of_reads (d := (0 : Int)) (h1 := fun _ => rfl) (show ReadsInt w k (some ad) xs.length xs from ⟨rfl, hl, fun _ => ⟨ad, rfl, h⟩⟩)
theorem wp_region_below {P : Program} {id : Nat} {Q : Exit → Act → World → Prop} {a : Act} {w : World} {l : List Oper} (hm : P.follows .mixedOrders = true) (hB : Region.lexB .any l.toArray = true)
    (h : wpQuiet P l.toArray (fun W => Below w.heap.size w W) (fun a' => ∀ W, Below w.heap.size w W → Q .normal a' W) l a) : (Code.region id l.toArray true).wp P Q a w :=
  wp_region_quiet (C := fun W => Below w.heap.size w W) hm hB (below_drew (Below.refl _ _)) (by simpa using h)
theorem reps_cells_one {α : Type} {R : α → List Value → Prop} {size : Nat} {ps : List α} {cs : List Value} (h : Reps R size ps cs) (hs : 0 < size) (hR : ∀ p c, R p c → ∀ u ∈ c, u.oneCell' = true) : ∀ u ∈ cs, u.oneCell' = true := by
  intro u hu
  obtain ⟨t, ht, rfl⟩ := List.getElem_of_mem hu
  have hl := h.1
  have hj : t / size < ps.length := by
    rw [Nat.div_lt_iff_lt_mul hs]
    omega
  have h2 := hR _ _ (h.2 (t / size) _ (List.getElem?_eq_getElem hj))
  refine h2 _ ?_
  have hm := Nat.mod_lt t hs
  have hd : t / size * size + t % size = t := Nat.div_add_mod' t size
  rw [List.mem_iff_getElem?]
  refine ⟨t % size, ?_⟩
  rw [List.getElem?_take, if_pos hm, List.getElem?_drop, hd]
  exact List.getElem?_eq_getElem ht
theorem cell_old_alloc {w : World} {o : Obj} {a : Addr} {v : Value} (hc : w.cell? a = some v) : (w.alloc o).cell? a = some v := pw_cell_below (below_alloc (Below.refl _ _) _) hc
theorem cell_new {w w2 : World} {o : Obj} (hb : Below (w.heap.size + 1) (w.alloc o) w2) {a : Addr} {v : Value} (hc : (w.alloc o).cell? a = some v) : w2.cell? a = some v := pw_cell_below (by simpa using hb) hc
theorem below_new {w w2 : World} {o : Obj} (hb : Below (w.heap.size + 1) (w.alloc o) w2) : Below w.heap.size w w2 := below_then (below_alloc (Below.refl _ _) o) (by simp) (by simpa using hb)
def okc (c : Int) : Bool := (decide (97 ≤ c) && decide (c ≤ 122)) || (decide (48 ≤ c) && decide (c ≤ 57))
def nameOk (s : ByteArray) : Bool := !(s.toList.isEmpty) && (decide (s.size ≤ 16) && (bytesOf s).all okc)
end Go.Proofs.YtliablhnkoghbaaH
