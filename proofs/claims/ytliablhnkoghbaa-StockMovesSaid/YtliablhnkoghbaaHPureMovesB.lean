import Derived.Test.YtliablhnkoghbaaHPureMoves
namespace Go.Proofs.Ytliablhnkoghbaa.PStockMoves
open Go.RowKit Go.Proofs.YtliablhnkoghbaaH Go.Proofs.YtliablhnkoghbaaW.PrintWords Go.Proofs.YtliablhnkoghbaaW.PrintLast Go.Proofs.YtliablhnkoghbaaW.PrintMore
set_option linter.unusedVariables false
set_option linter.unusedSimpArgs false

/-! ### the rows found -/
theorem name_ne (s : ByteArray) (h : nameOk s = true) : s.toList ≠ [] := by
  unfold nameOk at h
  intro e
  rw [e] at h
  simp at h
theorem row_mem (l : List S33) (h : rightB l = true) (i : Nat) (hi : i < l.length) : rowMay (l.getD i z33).f0 (l.getD i z33).f1 (l.getD i z33).f2 (l.getD i z33).f3 (l.getD i z33).f4 (l.getD i z33).f5 = true := by
  have := rightB_row l h i hi
  unfold rowUp at this
  rw [Bool.and_eq_true] at this
  exact this.1
theorem got_none (l : List S33) (s : ByteArray) (hi : rowIs l s = false) : (gotF l s).f0.toList = [] := by
  unfold gotF
  rw [if_neg (by rw [hi]; simp)]
  simp [z33, ByteArray.toList_eq]
theorem got_some (l : List S33) (h : rightB l = true) (s : ByteArray) (hi : rowIs l s = true) : gotF l s = l.getD (rowAt l s) z33 ∧ (gotF l s).f0 = s ∧ s.toList ≠ [] ∧ rowAt l s < l.length := by
  have hq := (rowIs_iff l s).1 hi
  have e : gotF l s = l.getD (rowAt l s) z33 := by unfold gotF; rw [if_pos hi]
  refine ⟨e, by rw [e, hq.2], ?_, hq.1⟩
  have hm := row_mem l h _ hq.1
  unfold rowMay at hm
  rw [Bool.and_eq_true] at hm
  rw [← hq.2]
  exact name_ne _ hm.1

/-! ### Receive -/
def recvF (l : List S33) (s : ByteArray) (n : Int) : List S33 × Int :=
  if (rightB l && (unitsB n && nameOk s)) = true then
    if rowIs l s = true then
      if (l.getD (rowAt l s) z33).f1 > 1073741824 - n then ([], 2)
      else (l.set (rowAt l s) ⟨s, (l.getD (rowAt l s) z33).f1 + n, (l.getD (rowAt l s) z33).f2 + n, (l.getD (rowAt l s) z33).f3, (l.getD (rowAt l s) z33).f4, (l.getD (rowAt l s) z33).f5⟩, 0)
    else if l.length = 8 then ([], 7)
    else (l.take (rowAt l s) ++ (⟨s, n, n, 0, 0, 0⟩ : S33) :: l.drop (rowAt l s), 0)
  else ([], 1)
theorem units_in {n : Int} (h : unitsB n = true) : 1 ≤ n ∧ n ≤ 1073741824 := by
  unfold unitsB at h
  simpa using h
theorem rd_nat (l : List S33) (i : Nat) : rd_T33 l (i : Int) = l.getD i z33 := rfl
theorem getD_set (l : List S33) (i : Nat) (h : i < l.length) (x : S33) : (l.set i x).getD i z33 = x := by
  simp [List.getD, h]
theorem getD_ins (l : List S33) (i : Nat) (h : i ≤ l.length) (x : S33) : (l.take i ++ ([x] ++ l.drop i)).getD i z33 = x := by
  simp [List.getD, List.getElem?_append, h]
theorem set_ins (l : List S33) (i : Nat) (h : i ≤ l.length) (x y : S33) : (l.take i ++ ([x] ++ l.drop i)).set i y = l.take i ++ y :: l.drop i := by
  rw [List.set_append]
  simp [h]
theorem recv_eq (l : List S33) (hl : l.length ≤ 10) (s : ByteArray) (n : Int) (hn : -9223372036854775808 ≤ n ∧ n ≤ 9223372036854775807) (k : Nat) (hk : 1 ≤ k) : stock_Receive.f k l s n = some (recvF l s n) := by
  obtain ⟨k, rfl⟩ : ∃ m, k = m + 1 := ⟨k - 1, by omega⟩
  unfold stock_Receive.f recvF
  rw [stock_Right.f, Option.bind_some, stock_units_eq, Option.bind_some, stock_name_eq, Option.bind_some]
  cases hR : rightB l with
  | false => rfl
  | true =>
    cases hU : unitsB n with
    | false => rfl
    | true =>
      cases hN : nameOk s with
      | false => rfl
      | true =>
        have hu := units_in hU
        have ha := asc_of l hR
        have hsp := rowAt_spec l ha s
        have e0 : stock_at.f l s = some ((rowAt l s : Int), rowIs l s) := by unfold stock_at.f; rw [if_pos (by omega)]
        have e1 : api_Row_29.f l = some l := by unfold api_Row_29.f; rw [if_pos (by omega)]
        have ew : wrap64 (1073741824 - n) = 1073741824 - n := by unfold wrap64; omega
        rw [if_pos rfl, if_pos rfl]
        simp only [stock_Receive.j0, Bool.not_true, Bool.false_eq_true, if_false, Bool.and_self, if_true]
        rw [e0, Option.bind_some, e1, Option.bind_some]
        cases hi : rowIs l s with
        | true =>
          have hq := (rowIs_iff l s).1 hi
          have hm := rowMay_in (row_mem l hR _ hq.1)
          simp only [if_true, rd_nat, ew, Int.toNat_natCast]
          rw [if_pos (by omega), if_pos (by omega)]
          by_cases hov : (l.getD (rowAt l s) z33).f1 > 1073741824 - n
          · rw [if_pos hov, if_pos hov]
          · rw [if_neg hov, if_neg hov, Option.bind_some, getD_set _ _ hq.1, List.set_set]
            have w1 : wrap64 ((l.getD (rowAt l s) z33).f1 + n) = (l.getD (rowAt l s) z33).f1 + n := by unfold wrap64; omega
            have w2 : wrap64 ((l.getD (rowAt l s) z33).f2 + n) = (l.getD (rowAt l s) z33).f2 + n := by unfold wrap64; omega
            rw [w1, w2, hq.2]
        | false =>
          simp only [Bool.false_eq_true, if_false]
          by_cases h8 : l.length = 8
          · rw [if_pos (by omega), if_pos h8]
          · have e2 : api_Row_30.f l (rowAt l s : Int) [(⟨s, 0, 0, 0, 0, 0⟩ : S33)] = some (l.take (rowAt l s) ++ ([(⟨s, 0, 0, 0, 0, 0⟩ : S33)] ++ l.drop (rowAt l s))) := by
              unfold api_Row_30.f
              rw [if_pos ⟨rfl, by omega, by omega, by omega⟩]
              rfl
            have hlen : (l.take (rowAt l s) ++ ([(⟨s, 0, 0, 0, 0, 0⟩ : S33)] ++ l.drop (rowAt l s))).length = l.length + 1 := by
              simp; omega
            have w1 : wrap64 (0 + n) = n := by unfold wrap64; omega
            rw [if_neg (by omega), if_neg h8, e2, Option.bind_some, hlen, if_pos (by omega), if_pos (by omega)]
            simp only [rd_nat, Int.toNat_natCast, getD_ins _ _ hsp.1, ew]
            rw [if_neg (by omega), Option.bind_some, getD_set _ _ (by rw [hlen]; omega), List.set_set, set_ins _ _ hsp.1]
            simp only [w1]
theorem ref_units_eq (n : Int) : tarryref08_units.f n = some (unitsB n) := by
  unfold tarryref08_units.f unitsB
  by_cases h : n ≥ 1
  · have : 1 ≤ n := h
    simp [h, this]
  · have : ¬ 1 ≤ n := h
    simp [h, this]
theorem ref_name_at (s : ByteArray) (hs : s.size ≤ 18) (k : Nat) (hk : 20 ≤ k) : tarryref07_Name.f k s = some (nameOk s) :=
  leO_le (fun k => tarryref07_Name.mono s k) (by omega) (ref_Name_eq s (by omega))
theorem ref_right_eq (l : List S33) (hs : ∀ x ∈ l, x.f0.size ≤ 18) : tarryref08_Right.f l = some (rightB l) := by
  unfold tarryref08_Right.f smallB
  rw [if_pos]
  rw [List.all_eq_true]
  intro x hx
  have := hs x hx
  simpa using by omega
theorem refrecv_eq (l : List S33) (hl : l.length ≤ 10) (hs : ∀ x ∈ l, x.f0.size ≤ 18) (s : ByteArray) (hz : s.size ≤ 18) (n : Int) (hn : -9223372036854775808 ≤ n ∧ n ≤ 9223372036854775807) (k : Nat) (hk : 200 ≤ k) : tarryref08_Receive.f k l s n = some (recvF l s n) := by
  obtain ⟨k, rfl⟩ : ∃ m, k = m + 2 := ⟨k - 2, by omega⟩
  unfold tarryref08_Receive.f recvF
  rw [ref_right_eq l hs, Option.bind_some, ref_units_eq, Option.bind_some, ref_name_at s hz _ (by omega), Option.bind_some]
  cases hR : rightB l with
  | false => rfl
  | true =>
    cases hU : unitsB n with
    | false => rfl
    | true =>
      cases hN : nameOk s with
      | false => rfl
      | true =>
        have hu := units_in hU
        have ha := asc_of l hR
        have hsp := rowAt_spec l ha s
        rw [if_pos rfl, if_pos rfl]
        simp only [tarryref08_Receive.j0, Bool.not_true, Bool.false_eq_true, if_false, Bool.and_self, if_true]
        rw [get_eq l hl ha s _ (by omega), Option.bind_some]
        cases hi : rowIs l s with
        | true =>
          have hg := got_some l hR s hi
          have hq := (rowIs_iff l s).1 hi
          have hm := rowMay_in (row_mem l hR _ hq.1)
          have w1 : wrap64 ((l.getD (rowAt l s) z33).f1 + n) = (l.getD (rowAt l s) z33).f1 + n := by unfold wrap64; omega
          have w2 : wrap64 ((l.getD (rowAt l s) z33).f2 + n) = (l.getD (rowAt l s) z33).f2 + n := by unfold wrap64; omega
          have hne : ¬ ((gotF l s).f0.toList = []) := by rw [hg.2.1]; exact hg.2.2.1
          simp only [if_true]
          rw [if_neg hne, hg.1]
          simp only [tarryref08_Receive.j1, Bool.false_eq_true, if_false, if_true]
          rw [w1, w2]
          by_cases hov : (l.getD (rowAt l s) z33).f1 > 1073741824 - n
          · rw [if_pos hov, if_pos (by omega)]
          · have := set_eq ⟨s, (l.getD (rowAt l s) z33).f1 + n, (l.getD (rowAt l s) z33).f2 + n, (l.getD (rowAt l s) z33).f3, (l.getD (rowAt l s) z33).f4, (l.getD (rowAt l s) z33).f5⟩ l hl hs k (by omega)
            have e := set_found l ha ⟨s, (l.getD (rowAt l s) z33).f1 + n, (l.getD (rowAt l s) z33).f2 + n, (l.getD (rowAt l s) z33).f3, (l.getD (rowAt l s) z33).f4, (l.getD (rowAt l s) z33).f5⟩ hi
            rw [if_neg hov, if_neg (by omega), this, Option.bind_some, e]
        | false =>
          have hg : gotF l s = z33 := by unfold gotF; rw [if_neg (by rw [hi]; simp)]
          have w1 : wrap64 (0 + n) = n := by unfold wrap64; omega
          simp only [Bool.false_eq_true, if_false]
          rw [if_pos (got_none l s hi), hg]
          simp only [tarryref08_Receive.j1]
          by_cases h8 : l.length = 8
          · rw [if_pos (by rw [h8]; rfl), if_pos h8]
          · have hne : ((l.length : Int) == 8) = false := by
              rw [beq_eq_false_iff_ne]; omega
            have := set_eq ⟨s, n, n, 0, 0, 0⟩ l hl hs k (by omega)
            have e := set_new l ha ⟨s, n, n, 0, 0, 0⟩ hi
            replace this : tarryref08_Set.f k l s n n z33.f3 z33.f4 z33.f5 = some (setL ⟨s, n, n, 0, 0, 0⟩ false l) := this
            have w1' : wrap64 (z33.f1 + n) = n := w1
            have w2' : wrap64 (z33.f2 + n) = n := w1
            rw [hne, if_neg (by simp), if_neg h8, w1', w2', if_neg (by omega), this, Option.bind_some, e]

/-! ### the moves -/
theorem move_nil {fr tt : Nat} {l : List S33} {s : ByteArray} {n : Int} (h : (rightB l && unitsB n) = false) : moveF fr tt l s n = ([], 1) := by
  unfold moveF
  rw [h]
  rfl
def kindFr : Int → Nat := fun i => if i = 2 ∨ i = 3 then 3 else 2
def kindTo : Int → Nat := fun i => if i = 1 then 3 else if i = 2 then 2 else if i = 3 then 4 else 5
theorem does_eq (l : List S33) (s : ByteArray) (n i : Int) (h1 : 1 ≤ i) (h2 : i < 5) : tarrylaw08_does.f l s n i = some (moveF (kindFr i) (kindTo i) l s n) := by
  unfold tarrylaw08_does.f stock_Hold.f stock_Release.f stock_Ship.f stock_Lose.f
  obtain rfl | rfl | rfl | rfl : i = 1 ∨ i = 2 ∨ i = 3 ∨ i = 4 := by omega
  all_goals rfl
theorem refmove_eq (l : List S33) (hl : l.length ≤ 10) (hs : ∀ x ∈ l, x.f0.size ≤ 18) (s : ByteArray) (n : Int) (k : Nat) (hk : 200 ≤ k) (i : Int) (h1 : 1 ≤ i) (h2 : i < 5) : tarryref08_Move.f k l s n i = some (moveF (kindFr i) (kindTo i) l s n) := by
  obtain ⟨k, rfl⟩ : ∃ m, k = m + 3 := ⟨k - 3, by omega⟩
  unfold tarryref08_Move.f
  rw [ref_right_eq l hs, Option.bind_some, ref_units_eq, Option.bind_some]
  cases hR : rightB l with
  | false =>
    rw [move_nil (by rw [hR]; rfl)]
    rfl
  | true =>
    cases hU : unitsB n with
    | false =>
      rw [move_nil (by rw [hR, hU]; rfl)]
      rfl
    | true =>
      have hu := units_in hU
      have ha := asc_of l hR
      rw [if_pos rfl]
      simp only [tarryref08_Move.j0, Bool.not_true, Bool.false_eq_true, if_false]
      rw [get_eq l hl ha s _ (by omega), Option.bind_some]
      unfold moveF
      rw [hR, hU, if_neg (show ¬ ((!(true && true)) = true) by simp)]
      cases hi : rowIs l s with
      | false => rw [if_pos (got_none l s hi), if_pos rfl]
      | true =>
        have hg := got_some l hR s hi
        have hm := rowMay_in (row_mem l hR _ hg.2.2.2)
        rw [if_neg (show ¬ ((gotF l s).f0.toList = []) by rw [hg.2.1]; exact hg.2.2.1), if_neg (show ¬ (true = false) by simp), ← hg.1]
        rw [← hg.1] at hm
        have hf := set_found l ha
        have hse := fun r : S33 => set_eq r l hl hs k (by omega)
        have hp := hg.2.1
        generalize gotF l s = x at *
        obtain ⟨x0, x1, x2, x3, x4, x5⟩ := x
        simp only at hp hm
        subst hp
        have a2 : wrap64 (x2 + n) = x2 + n := by unfold wrap64; omega
        have a3 : wrap64 (x3 + n) = x3 + n := by unfold wrap64; omega
        have a4 : wrap64 (x4 + n) = x4 + n := by unfold wrap64; omega
        have a5 : wrap64 (x5 + n) = x5 + n := by unfold wrap64; omega
        have b2 : wrap64 (x2 - n) = x2 - n := by unfold wrap64; omega
        have b3 : wrap64 (x3 - n) = x3 - n := by unfold wrap64; omega
        have fin : ∀ y1 y2 y3 y4 y5 : Int, (tarryref08_Set.f k l x0 y1 y2 y3 y4 y5).bind (fun t => some (t, (0 : Int))) = some (l.set (rowAt l x0) ⟨x0, y1, y2, y3, y4, y5⟩, 0) := by
          intro y1 y2 y3 y4 y5
          have := hse ⟨x0, y1, y2, y3, y4, y5⟩
          simp only at this
          rw [this, Option.bind_some, hf ⟨x0, y1, y2, y3, y4, y5⟩ hi]
        obtain rfl | rfl | rfl | rfl : i = 1 ∨ i = 2 ∨ i = 3 ∨ i = 4 := by omega
        · simp only [tarryref08_Move.j1, tarryref08_Move.j2, kindFr, kindTo, rowGet, rowSet, fin, a3, b2, if_neg, if_pos]
          by_cases hc : x2 < n <;> simp [hc]
        · simp only [tarryref08_Move.j1, tarryref08_Move.j2, kindFr, kindTo, rowGet, rowSet, fin, a2, b3, if_neg, if_pos]
          by_cases hc : x3 < n <;> simp [hc]
        · simp only [tarryref08_Move.j1, tarryref08_Move.j2, kindFr, kindTo, rowGet, rowSet, fin, a4, b3, if_neg, if_pos]
          by_cases hc : x3 < n <;> simp [hc]
        · simp only [tarryref08_Move.j1, tarryref08_Move.j2, kindFr, kindTo, rowGet, rowSet, fin, a5, b2, if_neg, if_pos]
          by_cases hc : x2 < n <;> simp [hc]
end Go.Proofs.Ytliablhnkoghbaa.PStockMoves
