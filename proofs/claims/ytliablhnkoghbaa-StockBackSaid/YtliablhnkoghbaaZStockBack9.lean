/- A part of the proof of StockBack: words and walks that it uses. -/
import Derived.Test.YtliablhnkoghbaaZStockBack7
import Derived.Test.YtliablhnkoghbaaZStockBack8
namespace Go.Proofs.Ytliablhnkoghbaa.PStock
open Go.RowKit Go.Proofs.YtliablhnkoghbaaH Go.Proofs.YtliablhnkoghbaaW.PrintWords Go.Proofs.YtliablhnkoghbaaW.PrintLast Go.Proofs.YtliablhnkoghbaaW.PrintMore
set_option linter.unusedVariables false
set_option linter.unusedSimpArgs false
theorem leO_le {α : Type} {f : Nat → Option α} (m : ∀ k, LeO (f k) (f (k + 1))) {a b : Nat} (h : a ≤ b) {r : α} (e : f a = some r) : f b = some r := by
  induction b with
  | zero => obtain rfl : a = 0 := by omega
            exact e
  | succ b ih =>
    by_cases hb : a = b + 1
    · subst hb; exact e
    · exact m b r (ih (by omega))
theorem cmp_eq : ∀ x y, Lib.compareBytes x y = 0 ↔ x = y
  | [], [] => by simp [Lib.compareBytes]
  | [], _ :: _ => by simp [Lib.compareBytes]
  | _ :: _, [] => by simp [Lib.compareBytes]
  | a :: x, b :: y => by
    simp only [Lib.compareBytes, List.cons.injEq]
    by_cases h1 : a < b
    · have : ¬ a = b := by rintro rfl; exact UInt8.lt_irrefl a h1
      simp [h1, this]
    · by_cases h2 : b < a
      · have : ¬ a = b := by rintro rfl; exact h1 h2
        simp [h1, h2, this]
      · have : a = b := UInt8.toNat_inj.1 (by simp only [UInt8.lt_iff_toNat_lt] at h1 h2; omega)
        subst this
        simp [h1, cmp_eq x y]
theorem ba_ext {a b : ByteArray} (h : a.data.toList = b.data.toList) : a = b := ByteArray.ext (Array.ext' h)
theorem tl_inj {a b : ByteArray} (h : a.toList = b.toList) : a = b := by
  rw [ByteArray.toList_eq, ByteArray.toList_eq] at h
  exact ba_ext h
theorem tl_iff {a b : ByteArray} : a.toList = b.toList ↔ a = b := ⟨tl_inj, fun h => by rw [h]⟩
theorem cmpB_eq (a b : ByteArray) : cmpB a b = 0 ↔ a = b := by
  unfold cmpB
  rw [cmp_eq]
  exact ⟨ba_ext, fun h => by rw [h]⟩
theorem gd33 (l : List S33) (i : Nat) (h : i < l.length) : l.getD i z33 = l[i] := by
  simp [List.getD, h]
theorem rowIs_iff (l : List S33) (s : ByteArray) : rowIs l s = true ↔ rowAt l s < l.length ∧ (l.getD (rowAt l s) z33).f0 = s := by
  unfold rowIs rowAt bsIs
  rw [Bool.and_eq_true, decide_eq_true_eq, decide_eq_true_eq, cmpB_eq]
def gotF (l : List S33) (s : ByteArray) : S33 := if rowIs l s = true then l.getD (rowAt l s) z33 else z33
theorem name_ne (s : ByteArray) (h : nameOk s = true) : s.toList ≠ [] := by
  unfold nameOk at h
  intro e
  rw [e] at h
  simp at h
theorem row_mem (l : List S33) (h : rightB l = true) (i : Nat) (hi : i < l.length) : rowMay (l.getD i z33).f0 (l.getD i z33).f1 (l.getD i z33).f2 (l.getD i z33).f3 (l.getD i z33).f4 (l.getD i z33).f5 = true := by
  have := rightB_row l h i hi
  unfold rowUp at this
  rw [Bool.and_eq_true] at this
  exact this.1
theorem got_some (l : List S33) (h : rightB l = true) (s : ByteArray) (hi : rowIs l s = true) : gotF l s = l.getD (rowAt l s) z33 ∧ (gotF l s).f0 = s ∧ s.toList ≠ [] ∧ rowAt l s < l.length := by
  have hq := (rowIs_iff l s).1 hi
  have e : gotF l s = l.getD (rowAt l s) z33 := by unfold gotF; rw [if_pos hi]
  refine ⟨e, by rw [e, hq.2], ?_, hq.1⟩
  have hm := row_mem l h _ hq.1
  unfold rowMay at hm
  rw [Bool.and_eq_true] at hm
  rw [← hq.2]
  exact name_ne _ hm.1
theorem units_in {n : Int} (h : unitsB n = true) : 1 ≤ n ∧ n ≤ 1073741824 := by
  unfold unitsB at h
  simpa using h
theorem rd_nat (l : List S33) (i : Nat) : rd_T33 l (i : Int) = l.getD i z33 := rfl
theorem getD_set (l : List S33) (i : Nat) (h : i < l.length) (x : S33) : (l.set i x).getD i z33 = x := by
  simp [List.getD, h]
def kindFr : Int → Nat := fun i => if i = 2 ∨ i = 3 then 3 else 2
def kindTo : Int → Nat := fun i => if i = 1 then 3 else if i = 2 then 2 else if i = 3 then 4 else 5
def getE (l : List S33) (s : ByteArray) : Int := if rightB l = true then (if rowIs l s = true then 0 else 8) else 1
def getR (l : List S33) (s : ByteArray) : S33 := if rightB l = true then gotF l s else z33
theorem sget_eq (l : List S33) (hl : l.length ≤ 10) (s : ByteArray) : stock_Get.f l s = some ((getR l s).f0, (getR l s).f1, (getR l s).f2, (getR l s).f3, (getR l s).f4, (getR l s).f5, getE l s) := by
  have e0 : stock_at.f l s = some ((rowAt l s : Int), rowIs l s) := by unfold stock_at.f; rw [if_pos (by omega)]
  unfold stock_Get.f getE getR gotF
  rw [stock_Right.f, Option.bind_some, e0]
  cases hR : rightB l with
  | false => rfl
  | true =>
    simp only [if_true, Option.bind_some]
    cases hi : rowIs l s with
    | false => rfl
    | true =>
      have hq := (rowIs_iff l s).1 hi
      simp only [if_true, rd_nat]
      rw [if_pos (by omega), if_pos (by omega)]
end Go.Proofs.Ytliablhnkoghbaa.PStock
namespace Go.Proofs.Ytliablhnkoghbaa.PStock
open Go.RowKit Go.Proofs.YtliablhnkoghbaaH Go.Proofs.YtliablhnkoghbaaW.PrintWords Go.Proofs.YtliablhnkoghbaaW.PrintLast Go.Proofs.YtliablhnkoghbaaW.PrintMore
set_option linter.unusedVariables false
set_option linter.unusedSimpArgs false
def cut18 (s : ByteArray) : ByteArray := s.extract 0 (mn (s.size : Int) 18).toNat
def fewF (l : List S33) : List S33 := (l.take 10).map fun x => ⟨cut18 x.f0, x.f1, x.f2, x.f3, x.f4, x.f5⟩
theorem few_l0 (l : List S33) (h : l.length ≤ 10) : ∀ d k i (acc : List S33), d + i = l.length → d < k → acc.length + d ≤ 1000 →
    tarrylaw08_few.l0 k acc l (l.length : Int) (i : Int) = some (acc ++ (l.drop i).map fun x => ⟨cut18 x.f0, x.f1, x.f2, x.f3, x.f4, x.f5⟩)
  | 0, k + 1, i, acc, hd, hk, ha => by
    unfold tarrylaw08_few.l0
    rw [if_neg (by omega), List.drop_eq_nil_of_le (by omega)]
    simp
  | d + 1, k + 1, i, acc, hd, hk, ha => by
    unfold tarrylaw08_few.l0
    have hi : i < l.length := by omega
    have e : rd_T33 l (i : Int) = l[i] := by
      unfold rd_T33
      simp [List.getD, hi]
    have e1 : wrap64 ((i : Int) + 1) = ((i + 1 : Nat) : Int) := by
      rw [show ((i + 1 : Nat) : Int) = (i : Int) + 1 from by omega]
      unfold wrap64; omega
    have e2 : (l.drop i).map (fun x : S33 => (⟨cut18 x.f0, x.f1, x.f2, x.f3, x.f4, x.f5⟩ : S33)) = ⟨cut18 l[i].f0, l[i].f1, l[i].f2, l[i].f3, l[i].f4, l[i].f5⟩ :: (l.drop (i + 1)).map (fun x : S33 => (⟨cut18 x.f0, x.f1, x.f2, x.f3, x.f4, x.f5⟩ : S33)) := by
      rw [List.drop_eq_getElem_cons hi, List.map_cons]
    have hm : 0 ≤ mn ((l[i].f0).size : Int) 18 ∧ mn ((l[i].f0).size : Int) 18 ≤ ((l[i].f0).size : Int) := by
      unfold mn
      split <;> omega
    rw [if_pos (by omega), if_pos (by omega), if_pos (by omega), e, if_pos hm.1, if_pos hm.2, if_pos (by omega), e1,
      few_l0 l h d k (i + 1) _ (by omega) (by omega) (by simp; omega), e2, List.append_assoc]
    rfl
theorem few_eq (l : List S33) (k : Nat) (hk : 11 ≤ k) : tarrylaw08_few.f k l = some (fewF l) := by
  unfold tarrylaw08_few.f
  have hm : 0 ≤ mn (l.length : Int) 10 ∧ mn (l.length : Int) 10 ≤ (l.length : Int) := by
    unfold mn
    split <;> omega
  have ht : l.take (mn (l.length : Int) 10).toNat = l.take 10 := by
    unfold mn
    split
    · rfl
    · rw [List.take_of_length_le (by omega), List.take_of_length_le (by omega)]
  rw [if_pos hm.1, if_pos hm.2, ht, Option.bind_some]
  have hl : (l.take 10).length ≤ 10 := by
    rw [List.length_take]
    omega
  have := few_l0 (l.take 10) hl (l.take 10).length k 0 [] (by omega) (by omega) (by rw [List.length_nil]; omega)
  rw [show (0 : Int) = ((0 : Nat) : Int) from rfl, this]
  simp [fewF]
theorem fewF_len (l : List S33) : (fewF l).length ≤ 10 := by
  unfold fewF
  simp
  omega
theorem same_l0 (l : List S33) (hl : l.length ≤ 20) : ∀ d k i, d + i = l.length → d < k → tarryref08_Same.l0 k l l (l.length : Int) (i : Int) = some true
  | 0, k + 1, i, hd, hk => by
    unfold tarryref08_Same.l0
    rw [if_neg (by omega)]
  | d + 1, k + 1, i, hd, hk => by
    have e1 : wrap64 ((i : Int) + 1) = ((i + 1 : Nat) : Int) := by unfold wrap64; omega
    unfold tarryref08_Same.l0
    rw [if_pos (by omega), if_pos (by omega), if_pos (by omega), if_pos (by omega), if_neg (by simp), e1]
    exact same_l0 l hl d k (i + 1) (by omega) (by omega)
theorem same_eq (l : List S33) (hl : l.length ≤ 20) (k : Nat) (hk : 30 ≤ k) : tarryref08_Same.f k l l = some true := by
  unfold tarryref08_Same.f
  rw [if_pos rfl]
  exact same_l0 l hl l.length k 0 (by omega) (by omega)
theorem alive_1 : tarrylaw08_alive.f 1 = some true := by kernel_rfl
theorem alive_eq (k : Nat) (hk : 1 ≤ k) : tarrylaw08_alive.f k = some true := leO_le (fun k => tarrylaw08_alive.mono k) hk alive_1
end Go.Proofs.Ytliablhnkoghbaa.PStock
namespace Go.Proofs.Ytliablhnkoghbaa.PStock
open Go.RowKit Go.Proofs.YtliablhnkoghbaaH Go.Proofs.YtliablhnkoghbaaW.PrintWords Go.Proofs.YtliablhnkoghbaaW.PrintLast Go.Proofs.YtliablhnkoghbaaW.PrintMore
set_option linter.unusedVariables false
set_option linter.unusedSimpArgs false
theorem move_cases (fr tt : Nat) (l : List S33) (s : ByteArray) (n : Int) :
    (rightB l = true ∧ unitsB n = true ∧ rowIs l s = true ∧ ¬ rowGet (l.getD (rowAt l s) z33) fr < n ∧
      moveF fr tt l s n = (l.set (rowAt l s) (rowSet (rowSet (l.getD (rowAt l s) z33) (rowGet (l.getD (rowAt l s) z33) fr - n) fr) (rowGet (l.getD (rowAt l s) z33) tt + n) tt), 0)) ∨
    ((moveF fr tt l s n).1 = [] ∧ (moveF fr tt l s n).2 ≠ 0) := by
  unfold moveF
  cases hR : rightB l with
  | false => right; simp
  | true =>
    cases hU : unitsB n with
    | false => right; simp
    | true =>
      cases hi : rowIs l s with
      | false => right; simp
      | true =>
        by_cases hg : rowGet (l.getD (rowAt l s) z33) fr < n
        · right
          rw [if_neg (show ¬ ((!(true && true)) = true) by simp), if_neg (show ¬ (true = false) by simp), if_pos hg]
          exact ⟨rfl, by decide⟩
        · left
          refine ⟨rfl, rfl, rfl, hg, ?_⟩
          rw [if_neg (show ¬ ((!(true && true)) = true) by simp), if_neg (show ¬ (true = false) by simp), if_neg hg]
theorem bsP_congr {α : Type} (c : α → Int) (z : α) (l l' : List α) (h : ∀ t, c (l'.getD t z) = c (l.getD t z)) : ∀ k lo hi, bsP c z l' k lo hi = bsP c z l k lo hi
  | 0, _, _ => rfl
  | k + 1, lo, hi => by
    unfold bsP
    rw [h, bsP_congr c z l l' h k, bsP_congr c z l l' h k]
theorem rowAt_congr (l l' : List S33) (hl : l'.length = l.length) (h : ∀ t, (l'.getD t z33).f0 = (l.getD t z33).f0) (s : ByteArray) : rowAt l' s = rowAt l s := by
  unfold rowAt bsAt
  rw [hl]
  exact bsP_congr _ _ l l' (fun t => by rw [h]) _ _ _
theorem rowIs_congr (l l' : List S33) (hl : l'.length = l.length) (h : ∀ t, (l'.getD t z33).f0 = (l.getD t z33).f0) (s : ByteArray) : rowIs l' s = rowIs l s := by
  have := rowAt_congr l l' hl h s
  unfold rowAt at this
  unfold rowIs bsIs
  simp only [this, hl, h]
theorem getD_set_eq (l : List S33) (p : Nat) (hp : p < l.length) (r : S33) (t : Nat) : (l.set p r).getD t z33 = if t = p then r else l.getD t z33 := by
  by_cases h : t = p
  · subst h; rw [if_pos rfl, getD_set _ _ hp]
  · rw [if_neg h]
    simp [List.getD_eq_getElem?_getD, List.getElem?_set, Ne.symm h]
theorem set_name (l : List S33) (p : Nat) (hp : p < l.length) (r : S33) (hr : r.f0 = (l.getD p z33).f0) (t : Nat) : ((l.set p r).getD t z33).f0 = (l.getD t z33).f0 := by
  rw [getD_set_eq l p hp r t]
  by_cases h : t = p
  · subst h; rw [if_pos rfl, hr]
  · rw [if_neg h]
def mayR (x : S33) : Bool := rowMay x.f0 x.f1 x.f2 x.f3 x.f4 x.f5
theorem right_set (l : List S33) (h : rightB l = true) (p : Nat) (hp : p < l.length) (r : S33) (hr : r.f0 = (l.getD p z33).f0) (hm : mayR r = true) : rightB (l.set p r) = true := by
  rw [rightB_yes]
  · rw [List.length_set, decide_eq_true_eq]; exact rightB_len l h
  · intro i hi
    rw [List.length_set] at hi
    have hu := rightB_row l h i hi
    have n1 := set_name l p hp r hr i
    have n2 := set_name l p hp r hr (i - 1)
    unfold rowUp at hu ⊢
    rw [n2, Bool.and_eq_true] at *
    refine ⟨?_, ?_⟩
    · rw [getD_set_eq l p hp r i]
      by_cases e : i = p
      · rw [if_pos e]; exact hm
      · rw [if_neg e]; exact hu.1
    · rw [n1]; exact hu.2
theorem moved_f0 (x : S33) (a b : Int) (i j : Nat) : (rowSet (rowSet x a i) b j).f0 = x.f0 := by
  unfold rowSet
  split <;> split <;> rfl
def movedR (x : S33) (fr tt : Nat) (n : Int) : S33 := rowSet (rowSet x (rowGet x fr - n) fr) (rowGet x tt + n) tt
theorem moved_may (x : S33) (h : mayR x = true) (i : Int) (h1 : 1 ≤ i) (h2 : i < 5) (n : Int) (hn : 1 ≤ n) (hle : ¬ rowGet x (kindFr i) < n) : mayR (movedR x (kindFr i) (kindTo i) n) = true := by
  obtain ⟨x0, x1, x2, x3, x4, x5⟩ := x
  have hb := rowMay_in h
  unfold mayR rowMay at h ⊢
  rw [Bool.and_eq_true] at h
  obtain rfl | rfl | rfl | rfl : i = 1 ∨ i = 2 ∨ i = 3 ∨ i = 4 := by omega
  all_goals
    simp only [movedR, kindFr, kindTo, rowGet, rowSet, numOk, Bool.and_eq_true, decide_eq_true_eq, if_true, if_false] at hle ⊢
    refine ⟨h.1, ?_⟩
    simp at hle hb ⊢
    omega
end Go.Proofs.Ytliablhnkoghbaa.PStock
