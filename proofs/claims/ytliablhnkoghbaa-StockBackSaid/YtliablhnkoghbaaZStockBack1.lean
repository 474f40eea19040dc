/- A part of the proof of StockBack: words and walks that it uses. -/
import Derived.Test.YtliablhnkoghbaaZStockBack0
import Derived.Carry
import Derived.SizedLaws
import Derived.OpenShut
import Derived.ChangeSlices
namespace Go.Proofs.YtliablhnkoghbaaH
open Go.RowKit Go.ChangeShapes Go.WideShapes Go.Proofs.YtliablhnkoghbaaW.PrintWords
set_option linter.unusedVariables false
set_option linter.unusedSimpArgs false
structure Opens (P : Program) {α : Type} (k : Kd α) (t : TypeId) (G : α → Prop) : Prop where
  size : P.cellsOf t = k.sz
  read : ∀ {H : Type} {enc : TypeId × Value → H} {w : World} {base : Nat} {spare : Nat → Bool} {held : Bool} {fuel : Nat} {cs : List Value} {x : DataW H × List MemPlace},
    DataW.trod enc P w base spare held fuel t cs = some x → (∀ n ∈ x.1.weights P t, n ≤ reachBytes) → ∃ a : α, k.K w a cs ∧ G a
theorem weights_all_mem {H : Type} {P : Program} {e : TypeId} : ∀ {ds : List (DataW H)} {d : DataW H}, d ∈ ds → ∀ n ∈ d.weights P e, n ∈ DataW.weightsAll P e ds
  | d0 :: ds, d, hd, n, hn => by
    simp only [DataW.weightsAll, List.mem_append]
    rcases List.mem_cons.1 hd with rfl | hd
    · exact Or.inl hn
    · exact Or.inr (weights_all_mem hd n hn)
theorem Opens.int {P : Program} {t : TypeId} {k : IntKind} (hu : P.underlying t = some (.int k)) (hc : P.cellsOf t = 1) : Opens P (Kd.int k) t (fun n => (Lit.int k n).wf = true) where
  size := hc
  read := by
    intro H enc w base spare held fuel cs x h _
    obtain ⟨n, rfl, rfl, hw⟩ := DataW.trod_int hu h
    exact ⟨n, rfl, hw⟩
theorem Opens.bool {P : Program} {t : TypeId} (hu : P.underlying t = some .bool) (hc : P.cellsOf t = 1) : Opens P Kd.bool t (fun _ => True) where
  size := hc
  read := by
    intro H enc w base spare held fuel cs x h _
    obtain ⟨n, rfl, rfl⟩ := DataW.trod_bool hu h
    exact ⟨n, rfl, trivial⟩
theorem Opens.string {P : Program} {t : TypeId} (hu : P.underlying t = some .string) (hc : P.cellsOf t = 1) : Opens P Kd.string t (fun s => s.size ≤ 140737488351232) where
  size := hc
  read := by
    intro H enc w base spare held fuel cs x h hz
    obtain ⟨s, rfl, rfl, hw⟩ := DataW.trod_string hu h
    refine ⟨s, rfl, ?_⟩
    have := hz s.data.toList.length (by simp [DataW.weights])
    rw [Array.length_toList] at this
    exact this
theorem Opens.slice {P : Program} {α : Type} {k : Kd α} {t e : TypeId} {G : α → Prop} (z : α) (h : Opens P k e G) (hu : P.underlying t = some (.slice e)) (hc : P.cellsOf t = 1) {B : Nat} (hB : P.bytesOf e = B) :
    Opens P (Kd.slice e k) t (fun xs => xs.length * B ≤ 140737488351232 ∧ ∀ x ∈ xs, G x) where
  size := hc
  read := by
    intro H enc w base spare held fuel cs x hx hz
    rcases DataW.trod_slice hu hx with ⟨rfl, rfl⟩ | ⟨a, len, cap, elems, rest, n, _, rfl, rfl, hb, hl, hm, hlen, hel, _⟩
    · exact ⟨[], ⟨none, 0, rfl, Nat.le_refl _, ⟨rfl, by simp, fun h => absurd h (by simp)⟩⟩, by simp, by simp⟩
    · have each : ∀ i, i < len → ∃ (b : α) (c : List Value), k.K w b c ∧ G b ∧ c.length = k.sz ∧ ∀ j u, c[j]? = some u → w.cell? (a.add (i * k.sz + j)) = some u := by
        intro i hi
        have he := hel i hi
        have hi' : i < elems.length := by omega
        rw [List.getElem?_eq_getElem hi', Option.bind_eq_some_iff] at he
        obtain ⟨c, hc1, hc2⟩ := he
        obtain ⟨_, hcl, hcc⟩ := World.cells?_some hc1
        obtain ⟨b, hb1, hb2⟩ := h.read hc2 (fun n hn => hz n (by
          simp only [DataW.weights, hu]
          refine List.mem_cons_of_mem _ (List.mem_append_left _ (weights_all_mem (List.mem_map.2 ⟨_, List.getElem_mem hi', rfl⟩) n hn))))
        refine ⟨b, c, hb1, hb2, k.K_len hb1, fun j u hj => ?_⟩
        have hjl : j < c.length := (List.getElem?_eq_some_iff.1 hj).1
        have := hcc j (by omega)
        rw [Addr.add_add, h.size] at this
        rw [this, hj]
      have pick : ∀ i : Fin len, ∃ (b : α), ∃ (c : List Value), k.K w b c ∧ G b ∧ c.length = k.sz ∧ ∀ j u, c[j]? = some u → w.cell? (a.add (i.1 * k.sz + j)) = some u := fun i => each i.1 i.2
      refine ⟨(List.finRange len).map fun i => Classical.choose (pick i), ⟨some a, cap, ?_, ?_, ⟨rfl, ?_, fun _ => ⟨a, rfl, ?_⟩⟩⟩, ?_, ?_⟩
      · simp
      · simpa using hl
      · simp only [List.length_map, List.length_finRange]
        have : maxLen = 9223372036854775807 := rfl
        omega
      · intro j p hj
        obtain ⟨hjl, hjp⟩ := List.getElem?_eq_some_iff.1 hj
        have hjl' : j < len := by simpa using hjl
        obtain ⟨c, h1, h2, h3, h4⟩ := Classical.choose_spec (pick ⟨j, hjl'⟩)
        refine ⟨c, h3, ?_, h4⟩
        rw [← hjp]
        simpa using h1
      · have := hz ((elems.length + rest.length) * P.bytesOf e) (by simp [DataW.weights, hu])
        have hr : reachBytes = 140737488351232 := rfl
        simp only [List.length_map, List.length_finRange]
        have : len * B ≤ (elems.length + rest.length) * P.bytesOf e := by
          rw [hB]
          exact Nat.mul_le_mul_right _ (by omega)
        omega
      · intro x hx
        obtain ⟨i, _, rfl⟩ := List.mem_map.1 hx
        obtain ⟨c, h1, h2, _⟩ := Classical.choose_spec (pick i)
        exact h2
structure OpensF (P : Program) {α : Type} (k : Kd α) (off : Nat) (fs : List Field) (G : α → Prop) : Prop where
  read : ∀ {H : Type} {enc : TypeId × Value → H} {w : World} {base : Nat} {spare : Nat → Bool} {held : Bool} {fuel : Nat} {cs : List Value} {xs : List (DataW H × List MemPlace)},
    cs.length = off + k.sz → xs.length = fs.length → (∀ (i : Nat) (f : Field), fs[i]? = some f → DataW.trod enc P w base spare held fuel f.type ((cs.drop f.offset).take (P.cellsOf f.type)) = xs[i]?) →
    (∀ n ∈ DataW.weightsEach P (fs.map (·.type)) (xs.map (·.1)), n ≤ reachBytes) → ∃ a : α, k.K w a (cs.drop off) ∧ G a
theorem OpensF.one {P : Program} {α : Type} {k : Kd α} {f : Field} {off : Nat} {G : α → Prop} (h : Opens P k f.type G) (ho : f.offset = off) : OpensF P k off [f] G where
  read := by
    intro H enc w base spare held fuel cs xs hl hx hf hz
    obtain ⟨x, rfl⟩ : ∃ x, xs = [x] := by
      match xs, hx with
      | [x], _ => exact ⟨x, rfl⟩
    have h0 := hf 0 f rfl
    rw [List.getElem?_cons_zero, h.size, List.take_of_length_le (by simp [ho]; omega), ho] at h0
    exact h.read h0 (fun n hn => hz n (by simp [DataW.weightsEach]; exact hn))
theorem OpensF.cons {P : Program} {α β : Type} {k : Kd α} {l : Kd β} {f : Field} {fs : List Field} {off : Nat} {G : α → Prop} {G' : β → Prop} (h : Opens P k f.type G) (ho : f.offset = off) (hs : OpensF P l (off + k.sz) fs G') : OpensF P (Kd.pair k l) off (f :: fs) (fun x => G x.1 ∧ G' x.2) where
  read := by
    intro H enc w base spare held fuel cs xs hl hx hf hz
    obtain ⟨x, xs, rfl⟩ : ∃ x ys, xs = x :: ys := by
      match xs, hx with
      | x :: ys, _ => exact ⟨x, ys, rfl⟩
    have hsz : (Kd.pair k l).sz = k.sz + l.sz := rfl
    have h0 := hf 0 f rfl
    rw [List.getElem?_cons_zero, h.size, ho] at h0
    simp only [List.map_cons, DataW.weightsEach, List.mem_append] at hz
    obtain ⟨a, ha, hg⟩ := h.read h0 (fun n hn => hz n (Or.inl hn))
    obtain ⟨b, hb, hg'⟩ := hs.read (cs := cs) (xs := xs) (by omega) (by simpa using hx) (fun i f' hf' => by
      have := hf (i + 1) f' (by simpa using hf')
      simpa using this) (fun n hn => hz n (Or.inr hn))
    refine ⟨(a, b), ⟨_, _, ?_, ha, hb⟩, hg, hg'⟩
    rw [← List.drop_drop, List.take_append_drop]
theorem Opens.struct {P : Program} {α β : Type} {k : Kd α} {t : TypeId} {fs : Array Field} {G : α → Prop} (f : β → α) (g : α → β) (hfg : ∀ a, f (g a) = a) (hu : P.underlying t = some (.struct fs)) (hc : P.cellsOf t = k.sz) (h : OpensF P k 0 fs.toList G) : Opens P (Kd.iso k f) t (fun x => G (f x)) where
  size := hc
  read := by
    intro H enc w base spare held fuel cs x hx hz
    obtain ⟨xs, n, _, rfl, hl, hxl, hf⟩ := DataW.trod_struct hu hx
    obtain ⟨a, ha, hg⟩ := h.read (cs := cs) (xs := xs) (by omega) (by simpa using hxl) (fun i f' hf' => hf i f' (by simpa using hf')) (fun n hn => hz n (by simpa [DataW.weights, hu] using hn))
    refine ⟨g a, ?_, ?_⟩
    · show k.K w (f (g a)) cs
      rw [hfg]
      simpa using ha
    · show G (f (g a))
      rw [hfg]
      exact hg
theorem sized_each {H : Type} {P : Program} {ts : List TypeId} {ds : List (DataW H)} (h : (DataW.weightsEach P ts ds).all (· ≤ reachBytes) = true) {j : Nat} {t : TypeId} {d : DataW H} (ht : ts[j]? = some t) (hd : ds[j]? = some d) : ∀ n ∈ d.weights P t, n ≤ reachBytes := by
  intro n hn
  have := List.all_eq_true.1 h n (DataW.weights_mem_each ht hd n hn)
  simpa using this
theorem Opens.arg_slice {P : Program} {α : Type} {k : Kd α} {t e : TypeId} {G : List α → Prop} (h : Opens P (Kd.slice e k) t G) {H : Type} {enc : TypeId × Value → H} {w : World} {base b0 : Nat} {spare : Nat → Bool} {held : Bool} {r : Reach} {v : Value} {d : DataW H} {p : List MemPlace} (hu : P.underlying t = some (.slice e))
    (hv : Value.okWide P w r b0 t v) (hd : DataW.Trod enc P w base spare held t v d p) (hz : ∀ n ∈ d.weights P t, n ≤ reachBytes) : ∃ A c xs, v = .slice A xs.length c ∧ xs.length ≤ c ∧ Kd.C k w A xs.length xs ∧ G xs := by
  obtain ⟨A, n, c, rfl⟩ := okWide_slice hu hv
  obtain ⟨fuel, hf⟩ := hd
  obtain ⟨xs, ⟨A', c', he, hl, hc⟩, hg⟩ := h.read hf hz
  simp only [Value.cells] at he
  simp at he
  obtain ⟨rfl, rfl, rfl⟩ := he
  exact ⟨A, c, xs, rfl, hl, hc, hg⟩
theorem Opens.arg_int {P : Program} {t : TypeId} {k : IntKind} {G : Int → Prop} (h : Opens P (Kd.int k) t G) {H : Type} {enc : TypeId × Value → H} {w : World} {base b0 : Nat} {spare : Nat → Bool} {held : Bool} {r : Reach} {v : Value} {d : DataW H} {p : List MemPlace} (hu : P.underlying t = some (.int k))
    (hv : Value.okWide P w r b0 t v) (hd : DataW.Trod enc P w base spare held t v d p) (hz : ∀ n ∈ d.weights P t, n ≤ reachBytes) : ∃ x, v = .int k x ∧ G x := by
  obtain ⟨n, rfl⟩ := okWide_int hu hv
  obtain ⟨fuel, hf⟩ := hd
  obtain ⟨x, he, hg⟩ := h.read hf hz
  have he : (Value.int k n).cells.toList = [.int k x] := he
  simp [Value.cells] at he
  subst he
  exact ⟨n, rfl, hg⟩
theorem Opens.arg_string {P : Program} {t : TypeId} {G : ByteArray → Prop} (h : Opens P Kd.string t G) {H : Type} {enc : TypeId × Value → H} {w : World} {base b0 : Nat} {spare : Nat → Bool} {held : Bool} {r : Reach} {v : Value} {d : DataW H} {p : List MemPlace} (hu : P.underlying t = some .string)
    (hv : Value.okWide P w r b0 t v) (hd : DataW.Trod enc P w base spare held t v d p) (hz : ∀ n ∈ d.weights P t, n ≤ reachBytes) : ∃ x, v = .string x ∧ G x := by
  obtain ⟨n, rfl⟩ := okWide_string hu hv
  obtain ⟨fuel, hf⟩ := hd
  obtain ⟨x, he, hg⟩ := h.read hf hz
  have he : (Value.string n).cells.toList = [.string x] := he
  simp [Value.cells] at he
  subst he
  exact ⟨n, rfl, hg⟩
theorem back_arg {H : Type} {enc : TypeId × Value → H} {P : Program} {t : TypeId} (hl : laidOutB P = true) (hr : P.readableRec t = true) (hrow : t < P.types.size) {W W' : World} {v : Value} {d : DataW H} {ps : List MemPlace}
    (h : DataW.Trod enc P W 0 (fun _ => true) true t v d ps) (hb : Below W.heap.size W W') : DataW.Trod enc P W' 0 (fun b => decide (b < W.heap.size)) true t v d ps :=
  Below.trod hl hr hrow h hb (by obtain ⟨m, hm⟩ := h; exact DataW.trod_lt m _ _ _ hm)
end Go.Proofs.YtliablhnkoghbaaH
