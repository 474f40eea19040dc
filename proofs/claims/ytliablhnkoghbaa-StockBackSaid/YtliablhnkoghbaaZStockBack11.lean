/- A part of the proof of StockBack: words and walks that it uses. -/
import Derived.Test.YtliablhnkoghbaaZStockBack9
import Derived.Test.YtliablhnkoghbaaZStockBack10
namespace Go.Proofs.Ytliablhnkoghbaa.PStock
open Go.RowKit Go.Proofs.YtliablhnkoghbaaH Go.Proofs.YtliablhnkoghbaaW.PrintWords Go.Proofs.YtliablhnkoghbaaW.PrintLast Go.Proofs.YtliablhnkoghbaaW.PrintMore
set_option linter.unusedVariables false
set_option linter.unusedSimpArgs false
theorem back_l0 (s : ByteArray) (l a c : List S33) (hl : l.length ≤ 10) (ha : a.length = l.length) (hc : c.length = l.length) (h : ∀ t, t < l.length → (l.getD t z33).f0 ≠ s → a.getD t z33 = l.getD t z33 ∧ c.getD t z33 = l.getD t z33) :
    ∀ d k i, d + i = l.length → d < k → tarrylaw08_StockBack.l0 k s a c l (l.length : Int) (i : Int) = some true
  | 0, k + 1, i, hd, hk => by
    unfold tarrylaw08_StockBack.l0
    rw [if_neg (by omega)]
  | d + 1, k + 1, i, hd, hk => by
    have e1 : wrap64 ((i : Int) + 1) = ((i + 1 : Nat) : Int) := by unfold wrap64; omega
    have IH := back_l0 s l a c hl ha hc h d k (i + 1) (by omega) (by omega)
    unfold tarrylaw08_StockBack.l0
    rw [if_pos (by omega), if_pos (by omega), if_pos (by omega), e1]
    by_cases hs : (l.getD i z33).f0 = s
    · rw [if_pos (show (rd_T33 l (i : Int)).f0.toList = s.toList from tl_iff.2 hs)]
      exact IH
    · obtain ⟨h1, h2⟩ := h i (by omega) hs
      replace h1 : rd_T33 a (i : Int) = rd_T33 l (i : Int) := h1
      replace h2 : rd_T33 c (i : Int) = rd_T33 l (i : Int) := h2
      rw [if_neg (show ¬ (rd_T33 l (i : Int)).f0.toList = s.toList from fun q => hs (tl_iff.1 q)), if_pos (by omega), h1, h2, if_neg (by simp), if_pos (by omega), if_neg (by simp)]
      exact IH
theorem back_row (x : S33) (n : Int) : movedR (movedR x 2 3 n) 3 2 n = x := by
  obtain ⟨x0, x1, x2, x3, x4, x5⟩ := x
  simp only [movedR, rowGet, rowSet, S33.mk.injEq, true_and, and_true]
  omega
theorem set_self (l : List S33) (p : Nat) (hp : p < l.length) : l.set p (l.getD p z33) = l := by
  rw [gd33 l p hp, List.set_getElem_self]
theorem back_law (l : List S33) (s : ByteArray) (n : Int) : tarrylaw08_StockBack.f 500 l s n = some true := by
  have hl := fewF_len l
  have hm : 0 ≤ mn (s.size : Int) 18 ∧ mn (s.size : Int) 18 ≤ (s.size : Int) := by
    unfold mn
    split <;> omega
  unfold tarrylaw08_StockBack.f
  rw [few_eq l 500 (by omega), Option.bind_some, if_pos hm.1, if_pos hm.2, show s.extract 0 (mn (s.size : Int) 18).toNat = cut18 s from rfl]
  generalize fewF l = l at hl
  generalize cut18 s = s
  rw [stock_Hold.f, Option.bind_some, sget_eq l hl s, Option.bind_some]
  rcases move_cases 2 3 l s n with ⟨hR, hU, hi, hg, e⟩ | ⟨e0, e1⟩
  · have hp := (rowIs_iff l s).1 hi
    have un := units_in hU
    have mp := row_mem l hR _ hp.1
    have eR : getR l s = l.getD (rowAt l s) z33 := by unfold getR; rw [if_pos hR, (got_some l hR s hi).1]
    have eE : getE l s = 0 := by unfold getE; rw [if_pos hR, if_pos hi]
    have mp' := moved_may _ mp 1 (by omega) (by omega) n un.1 hg
    have np : (movedR (l.getD (rowAt l s) z33) 2 3 n).f0 = (l.getD (rowAt l s) z33).f0 := moved_f0 _ _ _ _ _
    change moveF 2 3 l s n = (l.set (rowAt l s) (movedR (l.getD (rowAt l s) z33) 2 3 n), 0) at e
    have rp := right_set l hR _ hp.1 _ np mp'
    have sp := set_name l _ hp.1 _ np
    have h3 : ¬ rowGet (movedR (l.getD (rowAt l s) z33) 2 3 n) 3 < n := by
      have hb := rowMay_in mp
      generalize l.getD (rowAt l s) z33 = x at *
      obtain ⟨x0, x1, x2, x3, x4, x5⟩ := x
      simp only [movedR, rowGet, rowSet] at *
      omega
    have step : ∀ tt, moveF 3 tt (l.set (rowAt l s) (movedR (l.getD (rowAt l s) z33) 2 3 n)) s n = (l.set (rowAt l s) (movedR (movedR (l.getD (rowAt l s) z33) 2 3 n) 3 tt n), 0) := by
      intro tt
      have ea := rowAt_congr l _ (by simp) sp s
      have ei := rowIs_congr l _ (by simp) sp s
      have eg : (l.set (rowAt l s) (movedR (l.getD (rowAt l s) z33) 2 3 n)).getD (rowAt l s) z33 = movedR (l.getD (rowAt l s) z33) 2 3 n := by rw [getD_set_eq l _ hp.1, if_pos rfl]
      unfold moveF
      rw [rp, hU, ei, hi, ea, eg, if_neg (show ¬ ((!(true && true)) = true) by simp), if_neg (show ¬ (true = false) by simp), if_neg h3, List.set_set]
      rfl
    rw [e, if_pos rfl, stock_Release.f, Option.bind_some, stock_Ship.f, Option.bind_some, step 2, step 4, back_row, set_self l _ hp.1, if_pos eE, eR, if_neg (show ¬ (l.getD (rowAt l s) z33).f2 < n from hg), if_neg (by omega), if_pos rfl, if_pos rfl,
      same_eq l (by omega) 500 (by omega), Option.bind_some, if_pos rfl, if_pos (by simp), if_pos (by simp), alive_eq 500 (by omega), Option.bind_some]
    refine back_l0 s l _ _ hl (by simp) (by simp) (fun t ht hne => ?_) l.length 499 0 (by omega) (by omega)
    have : t ≠ rowAt l s := by
      rintro rfl
      exact hne hp.2
    refine ⟨?_, ?_⟩
    · rw [getD_set_eq l _ hp.1, if_neg this]
    · rw [getD_set_eq l _ hp.1, if_neg this]
  · rw [if_neg e1, alive_eq 500 (by omega), Option.bind_some, if_pos rfl, e0, if_pos (by simp)]
    by_cases hE : getE l s = 0
    · rw [if_pos hE]
      by_cases hn : n < 1
      · rw [if_pos hn]
      · rw [if_neg hn]
        have hR : rightB l = true := by
          cases h : rightB l with
          | true => rfl
          | false => unfold getE at hE; rw [h] at hE; simp at hE
        have hi : rowIs l s = true := by
          cases h : rowIs l s with
          | true => rfl
          | false => unfold getE at hE; rw [hR, h] at hE; simp at hE
        have eR : getR l s = l.getD (rowAt l s) z33 := by unfold getR; rw [if_pos hR, (got_some l hR s hi).1]
        have hp := (rowIs_iff l s).1 hi
        have hb := rowMay_in (row_mem l hR _ hp.1)
        rw [eR]
        congr 1
        rw [decide_eq_true_eq]
        have hx : ¬ (unitsB n = true ∧ ¬ rowGet (l.getD (rowAt l s) z33) 2 < n) := by
          rintro ⟨h1, h2⟩
          apply e1
          unfold moveF
          rw [hR, h1, hi, if_neg (show ¬ ((!(true && true)) = true) by simp), if_neg (show ¬ (true = false) by simp), if_neg h2]
        by_cases h2 : rowGet (l.getD (rowAt l s) z33) 2 < n
        · exact h2
        · exfalso
          apply hx
          refine ⟨?_, h2⟩
          have h2 : ¬ (l.getD (rowAt l s) z33).f2 < n := h2
          unfold unitsB
          rw [Bool.and_eq_true, decide_eq_true_eq, decide_eq_true_eq]
          omega
    · rw [if_neg hE]
end Go.Proofs.Ytliablhnkoghbaa.PStock
