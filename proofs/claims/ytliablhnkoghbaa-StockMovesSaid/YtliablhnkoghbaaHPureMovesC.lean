import Derived.Test.YtliablhnkoghbaaHPureMovesB
namespace Go.Proofs.Ytliablhnkoghbaa.PStockMoves
open Go.RowKit Go.Proofs.YtliablhnkoghbaaH Go.Proofs.YtliablhnkoghbaaW.PrintWords Go.Proofs.YtliablhnkoghbaaW.PrintLast Go.Proofs.YtliablhnkoghbaaW.PrintMore
set_option linter.unusedVariables false
set_option linter.unusedSimpArgs false

theorem recv_len (l : List S33) (hl : l.length ≤ 10) (s : ByteArray) (n : Int) : (recvF l s n).1.length ≤ 20 := by
  unfold recvF
  repeat' split
  all_goals simp only [List.length_nil, List.length_set, List.length_append, List.length_take, List.length_cons, List.length_drop]
  all_goals omega
theorem move_len (fr tt : Nat) (l : List S33) (hl : l.length ≤ 10) (s : ByteArray) (n : Int) : (moveF fr tt l s n).1.length ≤ 20 := by
  unfold moveF
  repeat' split
  all_goals simp only [List.length_nil, List.length_set]
  all_goals omega
/-- What Get answers, and the error. -/
def getE (l : List S33) (s : ByteArray) : Int := if rightB l = true then (if rowIs l s = true then 0 else 8) else 1
def getR (l : List S33) (s : ByteArray) : S33 := if rightB l = true then gotF l s else z33
theorem sget_eq (l : List S33) (hl : l.length ≤ 10) (s : ByteArray) : stock_Get.f l s = some ((getR l s).f0, (getR l s).f1, (getR l s).f2, (getR l s).f3, (getR l s).f4, (getR l s).f5, getE l s) := by
  have e0 : stock_at.f l s = some ((rowAt l s : Int), rowIs l s) := by unfold stock_at.f; rw [if_pos (by omega)]
  unfold stock_Get.f getE getR gotF
  rw [stock_Right.f, Option.bind_some, e0]
  cases hR : rightB l with
  | false => rfl
  | true =>
    simp only [if_true, Option.bind_some]
    cases hi : rowIs l s with
    | false => rfl
    | true =>
      have hq := (rowIs_iff l s).1 hi
      simp only [if_true, rd_nat]
      rw [if_pos (by omega), if_pos (by omega)]
theorem moves_end (l : List S33) (hl : l.length ≤ 10) (hs : ∀ x ∈ l, x.f0.size ≤ 18) (s : ByteArray) (n : Int) (k : Nat) (hk : 200 ≤ k) : tarrylaw08_StockMoves.l0 k l s n (getE l s) 5 (getR l s).f0 (getR l s).f1 (getR l s).f2 (getR l s).f3 (getR l s).f4 (getR l s).f5 = some true := by
  obtain ⟨k, rfl⟩ : ∃ m, k = m + 1 := ⟨k - 1, by omega⟩
  unfold tarrylaw08_StockMoves.l0
  rw [if_neg (by omega), ref_right_eq l hs, Option.bind_some]
  unfold getE getR
  cases hR : rightB l with
  | false => simp [z33, ByteArray.toList_eq]
  | true =>
    have ha := asc_of l hR
    simp only [if_true]
    rw [get_eq l hl ha s _ (by omega), Option.bind_some]
    simp only [beq_self_eq_true, Bool.and_self, if_true]
    cases hi : rowIs l s with
    | true =>
      have hg := got_some l hR s hi
      have hx : (gotF l s).f0.toList ≠ [] := by rw [hg.2.1]; exact hg.2.2.1
      clear hg
      generalize gotF l s = x at *
      simp [hx]
    | false =>
      have hx := got_none l s hi
      generalize gotF l s = x at *
      simp [hx]
theorem moves_go (l : List S33) (hl : l.length ≤ 10) (hs : ∀ x ∈ l, x.f0.size ≤ 18) (s : ByteArray) (n : Int) (d : Nat) : ∀ (i : Int) (k : Nat), 1 ≤ i → i + d = 5 → 200 + d ≤ k → tarrylaw08_StockMoves.l0 k l s n (getE l s) i (getR l s).f0 (getR l s).f1 (getR l s).f2 (getR l s).f3 (getR l s).f4 (getR l s).f5 = some true := by
  induction d with
  | zero =>
    intro i k h1 h2 h3
    obtain rfl : i = 5 := by omega
    exact moves_end l hl hs s n k (by omega)
  | succ d ih =>
    intro i k h1 h2 h3
    obtain ⟨k, rfl⟩ : ∃ m, k = m + 1 := ⟨k - 1, by omega⟩
    have e1 : wrap64 (i + 1) = i + 1 := by unfold wrap64; omega
    unfold tarrylaw08_StockMoves.l0
    rw [if_pos (by omega), does_eq l s n i h1 (by omega), Option.bind_some, refmove_eq l hl hs s n k (by omega) i h1 (by omega), Option.bind_some, if_pos rfl,
      same_eq _ (move_len _ _ l hl s n) k (by omega), Option.bind_some, if_pos rfl, e1]
    exact ih (i + 1) k (by omega) (by omega) (by omega)
theorem moves_law (l : List S33) (s : ByteArray) (n : Int) (hn : -9223372036854775808 ≤ n ∧ n ≤ 9223372036854775807) : tarrylaw08_StockMoves.f 500 l s n = some true := by
  have hl := fewF_len l
  have hs := fewF_small l
  have hz := cut18_size s
  have hm : 0 ≤ mn (s.size : Int) 18 ∧ mn (s.size : Int) 18 ≤ (s.size : Int) := by
    unfold mn
    split <;> omega
  unfold tarrylaw08_StockMoves.f
  rw [few_eq l 500 (by omega), Option.bind_some, if_pos hm.1, if_pos hm.2, show s.extract 0 (mn (s.size : Int) 18).toNat = cut18 s from rfl]
  generalize fewF l = l at hl hs
  generalize cut18 s = s at hz
  rw [sget_eq l hl s, Option.bind_some, recv_eq l hl s n hn 500 (by omega), Option.bind_some, refrecv_eq l hl hs s hz n hn 500 (by omega), Option.bind_some, stock_Right.f, Option.bind_some,
    ref_right_eq l hs, Option.bind_some, if_neg (show ¬ ((rightB l != rightB l) = true) by simp), if_pos rfl, same_eq _ (recv_len l hl s n) 500 (by omega), Option.bind_some, if_pos rfl, alive_eq 500 (by omega), Option.bind_some]
  exact moves_go l hl hs s n 4 1 499 (by omega) (by omega) (by omega)
end Go.Proofs.Ytliablhnkoghbaa.PStockMoves
