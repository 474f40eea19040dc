-- PRINTED by print.py (a twelfth state) out of the translation. Not trusted: Lean checks it.
import Derived.Test.YtliablhnkoghbaaPStockMovesx0
import Derived.Test.YtliablhnkoghbaaPStockMovesx1
import Derived.Test.YtliablhnkoghbaaPStockMovesx3
import Derived.Test.YtliablhnkoghbaaPStockMovesx4
import Derived.Test.YtliablhnkoghbaaPStockMovesx5
namespace Go.Proofs.Ytliablhnkoghbaa.PStockMoves
open Go.RowKit Go.Proofs.YtliablhnkoghbaaH Go.Proofs.YtliablhnkoghbaaW.PrintWords Go.Proofs.YtliablhnkoghbaaW.PrintLast Go.Proofs.YtliablhnkoghbaaW.PrintMore
attribute [local go_sem] max2_int min2_int max_two min_two max_three min_three max_four min_four   -- for this text's walks alone
set_option linter.unusedVariables false
set_option linter.unusedSimpArgs false

attribute [local go_sem high] eqA33
/-! ### stock_Ship: function 14 (by hand) -/
theorem stock_Ship_1.calls (g o : Nat) (w : World) : Calls Try.prog 26 #[.pointer (some ⟨g, o, none⟩)] w fun e w' => e = .returned (.tuple #[.pointer (some ⟨g, o + 3, none⟩), .pointer (some ⟨g, o + 4, none⟩)]) ∧ Below w.heap.size w w' := by
  have hu33 := Try.underlying33
  go_enter Try.func26, Try.ntmps26
  go_wp2
  go_quiet (fail)
  go_wp2
  go_ret2
  exact ⟨rfl, pw_below_drewN (Below.refl _ _) _⟩
def stock_Ship.f (l0 : List S33) (a1 : ByteArray) (a2 : Int) : Option (List S33 × Int) := some (moveF 3 4 l0 a1 a2)
set_option maxHeartbeats 8000000 in
set_option maxRecDepth 100000 in
theorem stock_Ship_move.calls (A0 : Option Addr) (c0 : Nat) (l0 : List S33) (a1 : ByteArray) (a2 : Int) (r1 : List S33) (r2 : Int) (w : World) (hr0 : Kd.C k33 w A0 l0.length l0) (hc0 : l0.length ≤ c0) (h : moveF 3 4 l0 a1 a2 = (r1, r2)) :
    Calls Try.prog 22 #[.slice A0 l0.length c0, .string a1, .int .i64 a2, .func (.func 26) #[] #[]] w fun e w' => ∃ v0_ : Value, e = .returned (.tuple #[v0_, .int .i64 r2]) ∧ Kd.R k33 33 w' w.heap.size (fun _ => True) v0_ r1 ∧ Below w.heap.size w w' := by
  have hu33 := Try.underlying33
  have HR := Aside0.mk hr0
  have HC := Aside0.mk hc0
  have H := Aside0.mk h
  have h1 := Aside0.mk (stock_Right.calls A0 c0 l0 _ w hr0 hc0 rfl)
  have RI := Aside0.mk (show rightB l0 = true → l0.length ≤ 8 ∧ ∀ i, i < l0.length → rowUp l0 i = true from fun h => ⟨rightB_len l0 h, rightB_row l0 h⟩)
  have UI := Aside0.mk (show unitsB a2 = true → 1 ≤ a2 ∧ a2 ≤ 1073741824 by simp only [unitsB, Bool.and_eq_true, decide_eq_true_eq]; exact id)
  have h2 := Aside0.mk (fun W => stock_units.calls a2 _ W (stock_units_eq a2))
  clear hr0 hc0 h
  unfold moveF at H
  generalize rightB l0 = qr at h1 H RI
  generalize unitsB a2 = qu at h2 H UI
  go_enter Try.func22, Try.ntmps22
  go_wp2_with fail
  refine h1.out.mono ?_
  rintro e w2 ⟨rfl, hb2⟩
  have B2 := Aside0.mk hb2
  clear hb2 h1
  cases qr with
  | false =>
    go_wp2
    go_ret2
    have H2 := H.out
    simp at H2
    obtain ⟨rfl, rfl⟩ := H2
    exact ⟨_, rfl, Kd.R_nil _ _ _ _ _, B2.out⟩
  | true =>
    go_wp2_with fail
    refine (h2.out _).mono ?_
    rintro e w3 ⟨rfl, hd3⟩
    have B3 := Aside0.mk (below_step B2.out hd3.below)
    clear hd3 h2 B2
    cases qu with
    | false =>
      go_wp2
      go_ret2
      have H2 := H.out
      simp at H2
      obtain ⟨rfl, rfl⟩ := H2
      exact ⟨_, rfl, Kd.R_nil _ _ _ _ _, B3.out⟩
    | true =>
      obtain ⟨hlen, hup⟩ := RI.out (by first | rfl | trivial)
      obtain ⟨hn1, hn2⟩ := UI.out (by first | rfl | trivial)
      have UP := Aside0.mk hup
      clear hup RI UI
      have hat : stock_at.f l0 a1 = some ((rowAt l0 a1 : Int), rowIs l0 a1) := by unfold stock_at.f; rw [if_pos (by omega)]
      have IS := Aside0.mk (show rowIs l0 a1 = true → rowAt l0 a1 < l0.length by
        unfold rowIs bsIs rowAt
        intro h
        rw [Bool.and_eq_true, decide_eq_true_eq] at h
        exact h.1)
      have h4 := Aside0.mk (stock_at.calls A0 c0 l0 a1 _ _ w3 (Kd.C_below HR.out B3.out) HC.out hat)
      clear hat
      generalize rowAt l0 a1 = p at h4 H IS
      generalize rowIs l0 a1 = qi at h4 H IS
      go_wp2_with fail
      refine h4.out.mono ?_
      rintro e w4 ⟨rfl, hb4⟩
      have B4 := Aside0.mk (below_step B3.out hb4)
      clear hb4 h4 B3
      cases qi with
      | false =>
        go_wp2
        go_ret2
        have H2 := H.out
        simp at H2
        obtain ⟨rfl, rfl⟩ := H2
        exact ⟨_, rfl, Kd.R_nil _ _ _ _ _, B4.out⟩
      | true =>
        have hp : p < l0.length := IS.out (by first | rfl | trivial)
        clear IS
        go_wp2_with fail
        refine (api_Row_29.calls A0 c0 l0 l0 w4 (Kd.C_below HR.out B4.out) HC.out (by unfold api_Row_29.f; rw [if_pos (by omega)])).mono ?_
        rintro e w5 ⟨v5, rfl, ho5, hb5⟩
        obtain ⟨g, cap, rfl, hgb, hgl, _⟩ := Kd.R_form ho5 (by omega)
        obtain ⟨cs, hcl, hcm, hcc, hcf⟩ := Kd.R_elem ho5 z33 (p : Int) (by omega) (by omega)
        have B5 := Aside0.mk (below_step B4.out hb5)
        have O5 := Aside0.mk ho5
        rw [show l0.getD (p : Int).toNat z33 = l0.getD p z33 from rfl] at hcm
        have U := UP.out p hp
        unfold rowUp at U
        rw [Bool.and_eq_true] at U
        have MI := rowMay_in U.1
        clear U UP
        obtain ⟨x, hx⟩ : ∃ x, x = l0.getD p z33 := ⟨_, rfl⟩
        have HX := Aside0.mk hx
        rw [← hx] at hcm MI
        have H3 := H.out
        simp only [Bool.true_and, Bool.not_true, Bool.and_self, Bool.false_eq_true, if_false, ← hx] at H3
        have H4 := Aside0.mk H3
        have SZ : Aside0 (w.heap.size ≤ g) := ⟨Nat.le_trans B4.out.size hgb⟩
        have SZ2 : Aside0 (w.heap.size ≤ w4.heap.size) := ⟨B4.out.size⟩
        clear H3 H B4 hb5 ho5 hx
        obtain rfl := k33_openM hcm
        have c0_ : w5.cell? ⟨g, p * 6 + 3, none⟩ = some (.int .i64 x.f3) := hcc 3 _ rfl
        have c1_ : w5.cell? ⟨g, p * 6 + 4, none⟩ = some (.int .i64 x.f4) := hcc 4 _ rfl
        clear hcc hcf hcm hcl
        have hpz : (p : Int) < (l0.length : Int) := by omega
        have HG := Aside0.mk hgb
        have hc1 := stock_Ship_1.calls g (p * 6) w5
        go_wp2_with fail
        refine hc1.mono ?_
        rintro e w6 ⟨rfl, hb6⟩
        have f0_ : w6.frozen? ⟨g, p * 6 + 3, none⟩ = false := (hb6.frozen (p := ⟨g, p * 6 + 3, none⟩) hgl).trans (by
          obtain ⟨_, _, _, _, hf⟩ := Kd.R_elem O5.out z33 (p : Int) (by omega) (by omega)
          exact hf 3)
        have f1_ : w6.frozen? ⟨g, p * 6 + 4, none⟩ = false := (hb6.frozen (p := ⟨g, p * 6 + 4, none⟩) hgl).trans (by
          obtain ⟨_, _, _, _, hf⟩ := Kd.R_elem O5.out z33 (p : Int) (by omega) (by omega)
          exact hf 4)
        replace c0_ := pw_cell_below hb6 c0_
        replace c1_ := pw_cell_below hb6 c1_
        have O6 := Aside0.mk (Kd.R_below O5.out hb6)
        have B6 := Aside0.mk (below_step B5.out hb6)
        have HGL := Aside0.mk (show g < w6.heap.size by have := hb6.size; omega)
        clear hb6 hc1 O5 B5 hgl hgb
        obtain ⟨m1, m2, m3, m4, m5, m6, m7, m8, m9, m10, m11⟩ := MI
        by_cases hlt : x.f3 < a2
        · go_wp2
          go_ret2
          have H5 := H4.out
          simp only [rowGet, hlt, if_true, Prod.mk.injEq] at H5
          obtain ⟨rfl, rfl⟩ := H5
          exact ⟨_, rfl, Kd.R_nil _ _ _ _ _, B6.out⟩
        · have H5 := H4.out
          simp only [rowGet, rowSet, hlt, if_false, Prod.mk.injEq] at H5
          have H6 := Aside0.mk H5
          clear H5 H4
          have s0 : IntKind.i64.wrap (x.f3 - a2) = x.f3 - a2 := IntWalk.i64_in _ (by omega)
          have s1 : IntKind.i64.wrap (x.f4 + a2) = x.f4 + a2 := IntWalk.i64_in _ (by omega)
          have hltb : decide (x.f3 < a2) = false := by simpa using hlt
          go_wp2
          go_ret2
          obtain ⟨rfl, rfl⟩ := H6.out
          obtain ⟨cs6, l6, m6_, cc6, _⟩ := Kd.R_elem O6.out z33 (p : Int) (by omega) hpz
          rw [show l0.getD (p : Int).toNat z33 = x from HX.out.symm] at m6_
          obtain rfl := k33_openM m6_
          have O7 := (Kd.R_seg O6.out (p : Int) (by omega) hpz (seg := [.int .i64 (x.f3 - a2)]) (j := 3) (x' := rowSet x (x.f3 - a2) 3) (okp := fun _ => False) l6 cc6 (show 3 + 1 ≤ 6 by omega) (k33_mkM _ _ _ (rowSet x (x.f3 - a2) 3)) (fun _ h => h.elim)).1
          obtain ⟨cs7, l7, m7_, cc7, _⟩ := Kd.R_elem O7 z33 (p : Int) (by omega) hpz
          rw [show (l0.set (p : Int).toNat (rowSet x (x.f3 - a2) 3)).getD (p : Int).toNat z33 = rowSet x (x.f3 - a2) 3 by simp [List.getD_eq_getElem?_getD, hp]] at m7_
          obtain rfl := k33_openM m7_
          have O8 := (Kd.R_seg O7 (p : Int) (by omega) hpz (seg := [.int .i64 (x.f4 + a2)]) (j := 4) (x' := rowSet (rowSet x (x.f3 - a2) 3) (x.f4 + a2) 4) (okp := fun _ => False) l7 cc7 (show 4 + 1 ≤ 6 by omega) (k33_mkM _ _ _ (rowSet (rowSet x (x.f3 - a2) 3) (x.f4 + a2) 4)) (fun _ h => h.elim)).1
          rw [List.set_set] at O8
          refine ⟨_, rfl, Kd.R_lower (Kd.R_mono O8 (fun _ _ => trivial)) ?_, ?_⟩
          · exact SZ2.out
          · exact below_set (below_set B6.out SZ.out) SZ.out
theorem stock_Ship.calls (A0 : Option Addr) (c0 : Nat) (l0 : List S33) (a1 : ByteArray) (a2 : Int) (r1 : List S33) (r2 : Int) (w : World) (hr0 : Kd.C k33 w A0 l0.length l0) (hc0 : l0.length ≤ c0) (h : stock_Ship.f l0 a1 a2 = some (r1, r2)) :
    Calls Try.prog 14 #[.slice A0 l0.length c0, .string a1, .int .i64 a2] w fun e w' => ∃ v0_ : Value, e = .returned (.tuple #[v0_, .int .i64 r2]) ∧ Kd.R k33 33 w' w.heap.size (fun _ => True) v0_ r1 ∧ Below w.heap.size w w' := by
  have H := Aside0.mk (stock_Ship_move.calls A0 c0 l0 a1 a2 r1 r2 w hr0 hc0 (Option.some.inj h))
  clear hr0 hc0 h
  go_enter Try.func14, Try.ntmps14
  go_wp2_with (go_at_call 22; refine H.out.mono ?_; rintro e w' ⟨v, rfl, ho, hb⟩; have HO := Aside0.mk ho; have HB := Aside0.mk hb; clear ho hb)
  go_ret2
  exact ⟨_, rfl, HO.out, HB.out⟩


/-! ### stock_Lose: function 20 (by hand) -/
theorem stock_Lose_1.calls (g o : Nat) (w : World) : Calls Try.prog 36 #[.pointer (some ⟨g, o, none⟩)] w fun e w' => e = .returned (.tuple #[.pointer (some ⟨g, o + 2, none⟩), .pointer (some ⟨g, o + 5, none⟩)]) ∧ Below w.heap.size w w' := by
  have hu33 := Try.underlying33
  go_enter Try.func36, Try.ntmps36
  go_wp2
  go_quiet (fail)
  go_wp2
  go_ret2
  exact ⟨rfl, pw_below_drewN (Below.refl _ _) _⟩
def stock_Lose.f (l0 : List S33) (a1 : ByteArray) (a2 : Int) : Option (List S33 × Int) := some (moveF 2 5 l0 a1 a2)
set_option maxHeartbeats 8000000 in
set_option maxRecDepth 100000 in
theorem stock_Lose_move.calls (A0 : Option Addr) (c0 : Nat) (l0 : List S33) (a1 : ByteArray) (a2 : Int) (r1 : List S33) (r2 : Int) (w : World) (hr0 : Kd.C k33 w A0 l0.length l0) (hc0 : l0.length ≤ c0) (h : moveF 2 5 l0 a1 a2 = (r1, r2)) :
    Calls Try.prog 22 #[.slice A0 l0.length c0, .string a1, .int .i64 a2, .func (.func 36) #[] #[]] w fun e w' => ∃ v0_ : Value, e = .returned (.tuple #[v0_, .int .i64 r2]) ∧ Kd.R k33 33 w' w.heap.size (fun _ => True) v0_ r1 ∧ Below w.heap.size w w' := by
  have hu33 := Try.underlying33
  have HR := Aside0.mk hr0
  have HC := Aside0.mk hc0
  have H := Aside0.mk h
  have h1 := Aside0.mk (stock_Right.calls A0 c0 l0 _ w hr0 hc0 rfl)
  have RI := Aside0.mk (show rightB l0 = true → l0.length ≤ 8 ∧ ∀ i, i < l0.length → rowUp l0 i = true from fun h => ⟨rightB_len l0 h, rightB_row l0 h⟩)
  have UI := Aside0.mk (show unitsB a2 = true → 1 ≤ a2 ∧ a2 ≤ 1073741824 by simp only [unitsB, Bool.and_eq_true, decide_eq_true_eq]; exact id)
  have h2 := Aside0.mk (fun W => stock_units.calls a2 _ W (stock_units_eq a2))
  clear hr0 hc0 h
  unfold moveF at H
  generalize rightB l0 = qr at h1 H RI
  generalize unitsB a2 = qu at h2 H UI
  go_enter Try.func22, Try.ntmps22
  go_wp2_with fail
  refine h1.out.mono ?_
  rintro e w2 ⟨rfl, hb2⟩
  have B2 := Aside0.mk hb2
  clear hb2 h1
  cases qr with
  | false =>
    go_wp2
    go_ret2
    have H2 := H.out
    simp at H2
    obtain ⟨rfl, rfl⟩ := H2
    exact ⟨_, rfl, Kd.R_nil _ _ _ _ _, B2.out⟩
  | true =>
    go_wp2_with fail
    refine (h2.out _).mono ?_
    rintro e w3 ⟨rfl, hd3⟩
    have B3 := Aside0.mk (below_step B2.out hd3.below)
    clear hd3 h2 B2
    cases qu with
    | false =>
      go_wp2
      go_ret2
      have H2 := H.out
      simp at H2
      obtain ⟨rfl, rfl⟩ := H2
      exact ⟨_, rfl, Kd.R_nil _ _ _ _ _, B3.out⟩
    | true =>
      obtain ⟨hlen, hup⟩ := RI.out (by first | rfl | trivial)
      obtain ⟨hn1, hn2⟩ := UI.out (by first | rfl | trivial)
      have UP := Aside0.mk hup
      clear hup RI UI
      have hat : stock_at.f l0 a1 = some ((rowAt l0 a1 : Int), rowIs l0 a1) := by unfold stock_at.f; rw [if_pos (by omega)]
      have IS := Aside0.mk (show rowIs l0 a1 = true → rowAt l0 a1 < l0.length by
        unfold rowIs bsIs rowAt
        intro h
        rw [Bool.and_eq_true, decide_eq_true_eq] at h
        exact h.1)
      have h4 := Aside0.mk (stock_at.calls A0 c0 l0 a1 _ _ w3 (Kd.C_below HR.out B3.out) HC.out hat)
      clear hat
      generalize rowAt l0 a1 = p at h4 H IS
      generalize rowIs l0 a1 = qi at h4 H IS
      go_wp2_with fail
      refine h4.out.mono ?_
      rintro e w4 ⟨rfl, hb4⟩
      have B4 := Aside0.mk (below_step B3.out hb4)
      clear hb4 h4 B3
      cases qi with
      | false =>
        go_wp2
        go_ret2
        have H2 := H.out
        simp at H2
        obtain ⟨rfl, rfl⟩ := H2
        exact ⟨_, rfl, Kd.R_nil _ _ _ _ _, B4.out⟩
      | true =>
        have hp : p < l0.length := IS.out (by first | rfl | trivial)
        clear IS
        go_wp2_with fail
        refine (api_Row_29.calls A0 c0 l0 l0 w4 (Kd.C_below HR.out B4.out) HC.out (by unfold api_Row_29.f; rw [if_pos (by omega)])).mono ?_
        rintro e w5 ⟨v5, rfl, ho5, hb5⟩
        obtain ⟨g, cap, rfl, hgb, hgl, _⟩ := Kd.R_form ho5 (by omega)
        obtain ⟨cs, hcl, hcm, hcc, hcf⟩ := Kd.R_elem ho5 z33 (p : Int) (by omega) (by omega)
        have B5 := Aside0.mk (below_step B4.out hb5)
        have O5 := Aside0.mk ho5
        rw [show l0.getD (p : Int).toNat z33 = l0.getD p z33 from rfl] at hcm
        have U := UP.out p hp
        unfold rowUp at U
        rw [Bool.and_eq_true] at U
        have MI := rowMay_in U.1
        clear U UP
        obtain ⟨x, hx⟩ : ∃ x, x = l0.getD p z33 := ⟨_, rfl⟩
        have HX := Aside0.mk hx
        rw [← hx] at hcm MI
        have H3 := H.out
        simp only [Bool.true_and, Bool.not_true, Bool.and_self, Bool.false_eq_true, if_false, ← hx] at H3
        have H4 := Aside0.mk H3
        have SZ : Aside0 (w.heap.size ≤ g) := ⟨Nat.le_trans B4.out.size hgb⟩
        have SZ2 : Aside0 (w.heap.size ≤ w4.heap.size) := ⟨B4.out.size⟩
        clear H3 H B4 hb5 ho5 hx
        obtain rfl := k33_openM hcm
        have c0_ : w5.cell? ⟨g, p * 6 + 2, none⟩ = some (.int .i64 x.f2) := hcc 2 _ rfl
        have c1_ : w5.cell? ⟨g, p * 6 + 5, none⟩ = some (.int .i64 x.f5) := hcc 5 _ rfl
        clear hcc hcf hcm hcl
        have hpz : (p : Int) < (l0.length : Int) := by omega
        have HG := Aside0.mk hgb
        have hc1 := stock_Lose_1.calls g (p * 6) w5
        go_wp2_with fail
        refine hc1.mono ?_
        rintro e w6 ⟨rfl, hb6⟩
        have f0_ : w6.frozen? ⟨g, p * 6 + 2, none⟩ = false := (hb6.frozen (p := ⟨g, p * 6 + 2, none⟩) hgl).trans (by
          obtain ⟨_, _, _, _, hf⟩ := Kd.R_elem O5.out z33 (p : Int) (by omega) (by omega)
          exact hf 2)
        have f1_ : w6.frozen? ⟨g, p * 6 + 5, none⟩ = false := (hb6.frozen (p := ⟨g, p * 6 + 5, none⟩) hgl).trans (by
          obtain ⟨_, _, _, _, hf⟩ := Kd.R_elem O5.out z33 (p : Int) (by omega) (by omega)
          exact hf 5)
        replace c0_ := pw_cell_below hb6 c0_
        replace c1_ := pw_cell_below hb6 c1_
        have O6 := Aside0.mk (Kd.R_below O5.out hb6)
        have B6 := Aside0.mk (below_step B5.out hb6)
        have HGL := Aside0.mk (show g < w6.heap.size by have := hb6.size; omega)
        clear hb6 hc1 O5 B5 hgl hgb
        obtain ⟨m1, m2, m3, m4, m5, m6, m7, m8, m9, m10, m11⟩ := MI
        by_cases hlt : x.f2 < a2
        · go_wp2
          go_ret2
          have H5 := H4.out
          simp only [rowGet, hlt, if_true, Prod.mk.injEq] at H5
          obtain ⟨rfl, rfl⟩ := H5
          exact ⟨_, rfl, Kd.R_nil _ _ _ _ _, B6.out⟩
        · have H5 := H4.out
          simp only [rowGet, rowSet, hlt, if_false, Prod.mk.injEq] at H5
          have H6 := Aside0.mk H5
          clear H5 H4
          have s0 : IntKind.i64.wrap (x.f2 - a2) = x.f2 - a2 := IntWalk.i64_in _ (by omega)
          have s1 : IntKind.i64.wrap (x.f5 + a2) = x.f5 + a2 := IntWalk.i64_in _ (by omega)
          have hltb : decide (x.f2 < a2) = false := by simpa using hlt
          go_wp2
          go_ret2
          obtain ⟨rfl, rfl⟩ := H6.out
          obtain ⟨cs6, l6, m6_, cc6, _⟩ := Kd.R_elem O6.out z33 (p : Int) (by omega) hpz
          rw [show l0.getD (p : Int).toNat z33 = x from HX.out.symm] at m6_
          obtain rfl := k33_openM m6_
          have O7 := (Kd.R_seg O6.out (p : Int) (by omega) hpz (seg := [.int .i64 (x.f2 - a2)]) (j := 2) (x' := rowSet x (x.f2 - a2) 2) (okp := fun _ => False) l6 cc6 (show 2 + 1 ≤ 6 by omega) (k33_mkM _ _ _ (rowSet x (x.f2 - a2) 2)) (fun _ h => h.elim)).1
          obtain ⟨cs7, l7, m7_, cc7, _⟩ := Kd.R_elem O7 z33 (p : Int) (by omega) hpz
          rw [show (l0.set (p : Int).toNat (rowSet x (x.f2 - a2) 2)).getD (p : Int).toNat z33 = rowSet x (x.f2 - a2) 2 by simp [List.getD_eq_getElem?_getD, hp]] at m7_
          obtain rfl := k33_openM m7_
          have O8 := (Kd.R_seg O7 (p : Int) (by omega) hpz (seg := [.int .i64 (x.f5 + a2)]) (j := 5) (x' := rowSet (rowSet x (x.f2 - a2) 2) (x.f5 + a2) 5) (okp := fun _ => False) l7 cc7 (show 5 + 1 ≤ 6 by omega) (k33_mkM _ _ _ (rowSet (rowSet x (x.f2 - a2) 2) (x.f5 + a2) 5)) (fun _ h => h.elim)).1
          rw [List.set_set] at O8
          refine ⟨_, rfl, Kd.R_lower (Kd.R_mono O8 (fun _ _ => trivial)) ?_, ?_⟩
          · exact SZ2.out
          · exact below_set (below_set B6.out SZ.out) SZ.out
theorem stock_Lose.calls (A0 : Option Addr) (c0 : Nat) (l0 : List S33) (a1 : ByteArray) (a2 : Int) (r1 : List S33) (r2 : Int) (w : World) (hr0 : Kd.C k33 w A0 l0.length l0) (hc0 : l0.length ≤ c0) (h : stock_Lose.f l0 a1 a2 = some (r1, r2)) :
    Calls Try.prog 20 #[.slice A0 l0.length c0, .string a1, .int .i64 a2] w fun e w' => ∃ v0_ : Value, e = .returned (.tuple #[v0_, .int .i64 r2]) ∧ Kd.R k33 33 w' w.heap.size (fun _ => True) v0_ r1 ∧ Below w.heap.size w w' := by
  have H := Aside0.mk (stock_Lose_move.calls A0 c0 l0 a1 a2 r1 r2 w hr0 hc0 (Option.some.inj h))
  clear hr0 hc0 h
  go_enter Try.func20, Try.ntmps20
  go_wp2_with (go_at_call 22; refine H.out.mono ?_; rintro e w' ⟨v, rfl, ho, hb⟩; have HO := Aside0.mk ho; have HB := Aside0.mk hb; clear ho hb)
  go_ret2
  exact ⟨_, rfl, HO.out, HB.out⟩


/-! ### tarrylaw08_does: function 8 -/
def tarrylaw08_does.f (l0 : List (S33)) (a1 : ByteArray) (a2 : Int) (a3 : Int) : Option ((List (S33)) × Int) := if a3 = 1 then ((stock_Hold.f l0 a1 a2).bind fun bt167 => (some (bt167.1, bt167.2))) else (if a3 = 2 then ((stock_Release.f l0 a1 a2).bind fun bt171 => (some (bt171.1, bt171.2))) else (if a3 = 3 then ((stock_Ship.f l0 a1 a2).bind fun bt175 => (some (bt175.1, bt175.2))) else ((stock_Lose.f l0 a1 a2).bind fun bt179 => (some (bt179.1, bt179.2)))))
set_option maxHeartbeats 8000000 in
set_option maxRecDepth 100000 in
theorem tarrylaw08_does.calls (A0 : Option Addr) (c0 : Nat) (l0 : List (S33)) (a1 : ByteArray) (a2 : Int) (a3 : Int) (r1 : List (S33)) (r2 : Int) (w : World) (hr0 : Kd.C k33 w A0 l0.length l0) (hc0 : l0.length ≤ c0) (h : tarrylaw08_does.f l0 a1 a2 a3 = some (r1, r2)) :
    Calls Try.prog 8 #[.slice A0 l0.length c0, .string a1, .int .i64 a2, .int .i64 a3] w fun e w' => ∃ v0_ : Value, e = .returned (.tuple #[v0_, .int .i64 r2]) ∧ Kd.R k33 33 w' w.heap.size (fun _ => True) v0_ r1 ∧ Below w.heap.size w w' := by
  have HR0 := Aside0.mk hr0
  have HC0 := Aside0.mk hc0
  clear hr0 hc0
  have HB := Aside0.mk (Below.refl w.heap.size w)
  have H : (if a3 = 1 then ((stock_Hold.f l0 a1 a2).bind fun bt167 => (some (bt167.1, bt167.2))) else (if a3 = 2 then ((stock_Release.f l0 a1 a2).bind fun bt171 => (some (bt171.1, bt171.2))) else (if a3 = 3 then ((stock_Ship.f l0 a1 a2).bind fun bt175 => (some (bt175.1, bt175.2))) else ((stock_Lose.f l0 a1 a2).bind fun bt179 => (some (bt179.1, bt179.2)))))) = some (r1, r2) := h
  clear h
  by_cases c5 : a3 = 1
  · rw [if_pos c5] at H
    have c5b0 : (a3 == 1) = true := beq_iff_eq.mpr c5
    have c5b1 : (a3 != 1) = false := bne_eq_false_iff_eq.mpr c5
    clear c5
    replace H := Option.bind_eq_some_iff.mp H
    obtain ⟨⟨t167, t168⟩, A60, H⟩ := H
    replace H : (some (t167, t168)) = some (r1, r2) := H
    have A6 := Aside0.mk A60
    clear A60
    simp only [Option.some.injEq, Prod.mk.injEq] at H
    obtain ⟨rfl, rfl⟩ := H
    go_enter Try.func8, Try.ntmps8
    go_wp2_with (first | ((with_reducible refine gate_callee (f := 11) rfl ?_); refine goesL_ (some 16) rfl rfl Try.func11 (by kernel_rfl) rfl #[.slice A0 l0.length c0, .string a1, .int .i64 a2] rfl (by (try simp only [List.map_toArray, List.map_cons, List.map_nil]); first | done | rfl | (simp only [List.length_drop, List.length_take]; rfl)) ?_; (with_reducible refine (stock_Hold.calls _ _ l0 a1 a2 t167 t168 _ ?side1 ?side2 A6.out).mono ?_); (case side1 => repeat (first | exact HR0.out | (with_reducible refine Kd.C_alloc ?_ _) | (with_reducible refine Kd.C_drewN ?_ _) | (with_reducible refine Kd.C_drew ?_))); (case side2 => exact HC0.out); rintro e w7 ⟨v169, rfl, ho0, hb⟩; refine ⟨_, rfl, ?_⟩; have n0_ := Aside0.mk (Kd.R_lower ho0 (below_size (by repeat (first | (with_reducible first | exact HB.out | apply below_alloc | apply pw_below_drewN | apply below_drew1) | exact HB.out)))); have n1_ := Aside0.mk (below_step (by repeat (first | (with_reducible first | exact HB.out | apply below_alloc | apply pw_below_drewN | apply below_drew1) | exact HB.out)) hb); clear HB; have HO170 := n0_; have HB := n1_; clear n0_ n1_; (try clear hb); (try clear hb2); (try clear hk); (try clear hi); (try clear ho0)))
    go_ret2
    exact ⟨_, by first | rfl | (simp [errW_none, errW_some] <;> rfl) | (simp [*, errW_none, errW_some] <;> rfl), by (with_reducible repeat (first | apply Kd.R_alloc | apply Kd.R_drewN | apply Kd.R_drew)); exact HO170.out, by repeat (first | (with_reducible first | exact HB.out | apply below_alloc | apply pw_below_drewN | apply below_drew1) | exact HB.out)⟩
  · rw [if_neg c5] at H
    have c5b0 : (a3 == 1) = false := beq_eq_false_iff_ne.mpr c5
    have c5b1 : (a3 != 1) = true := bne_iff_ne.mpr c5
    by_cases c8 : a3 = 2
    · rw [if_pos c8] at H
      have c8b0 : (a3 == 2) = true := beq_iff_eq.mpr c8
      have c8b1 : (a3 != 2) = false := bne_eq_false_iff_eq.mpr c8
      clear c8
      replace H := Option.bind_eq_some_iff.mp H
      obtain ⟨⟨t171, t172⟩, A90, H⟩ := H
      replace H : (some (t171, t172)) = some (r1, r2) := H
      have A9 := Aside0.mk A90
      clear A90
      simp only [Option.some.injEq, Prod.mk.injEq] at H
      obtain ⟨rfl, rfl⟩ := H
      go_enter Try.func8, Try.ntmps8
      go_wp2_with (first | ((with_reducible refine gate_callee (f := 13) rfl ?_); refine goesL_ (some 24) rfl rfl Try.func13 (by kernel_rfl) rfl #[.slice A0 l0.length c0, .string a1, .int .i64 a2] rfl (by (try simp only [List.map_toArray, List.map_cons, List.map_nil]); first | done | rfl | (simp only [List.length_drop, List.length_take]; rfl)) ?_; (with_reducible refine (stock_Release.calls _ _ l0 a1 a2 t171 t172 _ ?side1 ?side2 A9.out).mono ?_); (case side1 => repeat (first | exact HR0.out | (with_reducible refine Kd.C_alloc ?_ _) | (with_reducible refine Kd.C_drewN ?_ _) | (with_reducible refine Kd.C_drew ?_))); (case side2 => exact HC0.out); rintro e w10 ⟨v173, rfl, ho0, hb⟩; refine ⟨_, rfl, ?_⟩; have n0_ := Aside0.mk (Kd.R_lower ho0 (below_size (by repeat (first | (with_reducible first | exact HB.out | apply below_alloc | apply pw_below_drewN | apply below_drew1) | exact HB.out)))); have n1_ := Aside0.mk (below_step (by repeat (first | (with_reducible first | exact HB.out | apply below_alloc | apply pw_below_drewN | apply below_drew1) | exact HB.out)) hb); clear HB; have HO174 := n0_; have HB := n1_; clear n0_ n1_; (try clear hb); (try clear hb2); (try clear hk); (try clear hi); (try clear ho0)))
      go_ret2
      exact ⟨_, by first | rfl | (simp [errW_none, errW_some] <;> rfl) | (simp [*, errW_none, errW_some] <;> rfl), by (with_reducible repeat (first | apply Kd.R_alloc | apply Kd.R_drewN | apply Kd.R_drew)); exact HO174.out, by repeat (first | (with_reducible first | exact HB.out | apply below_alloc | apply pw_below_drewN | apply below_drew1) | exact HB.out)⟩
    · rw [if_neg c8] at H
      have c8b0 : (a3 == 2) = false := beq_eq_false_iff_ne.mpr c8
      have c8b1 : (a3 != 2) = true := bne_iff_ne.mpr c8
      by_cases c11 : a3 = 3
      · rw [if_pos c11] at H
        have c11b0 : (a3 == 3) = true := beq_iff_eq.mpr c11
        have c11b1 : (a3 != 3) = false := bne_eq_false_iff_eq.mpr c11
        clear c11
        replace H := Option.bind_eq_some_iff.mp H
        obtain ⟨⟨t175, t176⟩, A120, H⟩ := H
        replace H : (some (t175, t176)) = some (r1, r2) := H
        have A12 := Aside0.mk A120
        clear A120
        simp only [Option.some.injEq, Prod.mk.injEq] at H
        obtain ⟨rfl, rfl⟩ := H
        go_enter Try.func8, Try.ntmps8
        go_wp2_with (first | ((with_reducible refine gate_callee (f := 14) rfl ?_); refine goesL_ (some 32) rfl rfl Try.func14 (by kernel_rfl) rfl #[.slice A0 l0.length c0, .string a1, .int .i64 a2] rfl (by (try simp only [List.map_toArray, List.map_cons, List.map_nil]); first | done | rfl | (simp only [List.length_drop, List.length_take]; rfl)) ?_; (with_reducible refine (stock_Ship.calls _ _ l0 a1 a2 t175 t176 _ ?side1 ?side2 A12.out).mono ?_); (case side1 => repeat (first | exact HR0.out | (with_reducible refine Kd.C_alloc ?_ _) | (with_reducible refine Kd.C_drewN ?_ _) | (with_reducible refine Kd.C_drew ?_))); (case side2 => exact HC0.out); rintro e w13 ⟨v177, rfl, ho0, hb⟩; refine ⟨_, rfl, ?_⟩; have n0_ := Aside0.mk (Kd.R_lower ho0 (below_size (by repeat (first | (with_reducible first | exact HB.out | apply below_alloc | apply pw_below_drewN | apply below_drew1) | exact HB.out)))); have n1_ := Aside0.mk (below_step (by repeat (first | (with_reducible first | exact HB.out | apply below_alloc | apply pw_below_drewN | apply below_drew1) | exact HB.out)) hb); clear HB; have HO178 := n0_; have HB := n1_; clear n0_ n1_; (try clear hb); (try clear hb2); (try clear hk); (try clear hi); (try clear ho0)))
        go_ret2
        exact ⟨_, by first | rfl | (simp [errW_none, errW_some] <;> rfl) | (simp [*, errW_none, errW_some] <;> rfl), by (with_reducible repeat (first | apply Kd.R_alloc | apply Kd.R_drewN | apply Kd.R_drew)); exact HO178.out, by repeat (first | (with_reducible first | exact HB.out | apply below_alloc | apply pw_below_drewN | apply below_drew1) | exact HB.out)⟩
      · rw [if_neg c11] at H
        have c11b0 : (a3 == 3) = false := beq_eq_false_iff_ne.mpr c11
        have c11b1 : (a3 != 3) = true := bne_iff_ne.mpr c11
        replace H := Option.bind_eq_some_iff.mp H
        obtain ⟨⟨t179, t180⟩, A140, H⟩ := H
        replace H : (some (t179, t180)) = some (r1, r2) := H
        have A14 := Aside0.mk A140
        clear A140
        simp only [Option.some.injEq, Prod.mk.injEq] at H
        obtain ⟨rfl, rfl⟩ := H
        go_enter Try.func8, Try.ntmps8
        go_wp2_with (first | ((with_reducible refine gate_callee (f := 20) rfl ?_); refine goesL_ (some 38) rfl rfl Try.func20 (by kernel_rfl) rfl #[.slice A0 l0.length c0, .string a1, .int .i64 a2] rfl (by (try simp only [List.map_toArray, List.map_cons, List.map_nil]); first | done | rfl | (simp only [List.length_drop, List.length_take]; rfl)) ?_; (with_reducible refine (stock_Lose.calls _ _ l0 a1 a2 t179 t180 _ ?side1 ?side2 A14.out).mono ?_); (case side1 => repeat (first | exact HR0.out | (with_reducible refine Kd.C_alloc ?_ _) | (with_reducible refine Kd.C_drewN ?_ _) | (with_reducible refine Kd.C_drew ?_))); (case side2 => exact HC0.out); rintro e w15 ⟨v181, rfl, ho0, hb⟩; refine ⟨_, rfl, ?_⟩; have n0_ := Aside0.mk (Kd.R_lower ho0 (below_size (by repeat (first | (with_reducible first | exact HB.out | apply below_alloc | apply pw_below_drewN | apply below_drew1) | exact HB.out)))); have n1_ := Aside0.mk (below_step (by repeat (first | (with_reducible first | exact HB.out | apply below_alloc | apply pw_below_drewN | apply below_drew1) | exact HB.out)) hb); clear HB; have HO182 := n0_; have HB := n1_; clear n0_ n1_; (try clear hb); (try clear hb2); (try clear hk); (try clear hi); (try clear ho0)))
        go_ret2
        exact ⟨_, by first | rfl | (simp [errW_none, errW_some] <;> rfl) | (simp [*, errW_none, errW_some] <;> rfl), by (with_reducible repeat (first | apply Kd.R_alloc | apply Kd.R_drewN | apply Kd.R_drew)); exact HO182.out, by repeat (first | (with_reducible first | exact HB.out | apply below_alloc | apply pw_below_drewN | apply below_drew1) | exact HB.out)⟩

/-! ### tarryref08_Same: function 9 -/
def tarryref08_Same.l0 : Nat → List (S33) → List (S33) → Int → Int → Option (Bool)
  | 0, _, _, _, _ => none
  | k + 1, x0, x1, x12, x13 => if x13 < x12 then (if 0 ≤ x13 then (if x13 < (x0.length : Int) then (if x13 < (x1.length : Int) then (if (!((((rd_T33 x0 x13).f0).toList) == (((rd_T33 x1 x13).f0).toList)) || (!(((rd_T33 x0 x13).f1) == ((rd_T33 x1 x13).f1)) || (!(((rd_T33 x0 x13).f2) == ((rd_T33 x1 x13).f2)) || (!(((rd_T33 x0 x13).f3) == ((rd_T33 x1 x13).f3)) || (!(((rd_T33 x0 x13).f4) == ((rd_T33 x1 x13).f4)) || (!(((rd_T33 x0 x13).f5) == ((rd_T33 x1 x13).f5)))))))) = true then (some false) else (tarryref08_Same.l0 k x0 x1 x12 (wrap64 (x13 + 1)))) else (none)) else (none)) else (none)) else (some true)
def tarryref08_Same.f (k : Nat) (l0 : List (S33)) (l1 : List (S33)) : Option (Bool) := if (l0.length : Int) = (l1.length : Int) then (tarryref08_Same.l0 k l0 l1 (l0.length : Int) 0) else (some false)
theorem tarryref08_Same.mono_l : ∀ k, (∀ y0 y1 y2 y3, LeO (tarryref08_Same.l0 k y0 y1 y2 y3) (tarryref08_Same.l0 (k + 1) y0 y1 y2 y3))
  | 0 => fun _ _ _ _ r h => by simp [tarryref08_Same.l0] at h
  | k + 1 => by
    have ih0 := tarryref08_Same.mono_l k
    · intro y0 y1 y2 y3
      unfold tarryref08_Same.l0
      repeat' first
      | (with_reducible exact ih0 _ _ _ _)
      | (with_reducible exact LeO.refl _)
      | (with_reducible exact LeO.none _)
      | (with_reducible refine LeO.ite ?_ ?_)
      | (with_reducible refine LeO.bind ?_ (fun _ => ?_))
      | exact ih0 _ _ _ _
      | exact LeO.none _
      | refine LeO.ite ?_ ?_
      | refine LeO.bind ?_ (fun _ => ?_)
theorem tarryref08_Same.mono : ∀ a0 a1 k, LeO (tarryref08_Same.f k a0 a1) (tarryref08_Same.f (k + 1) a0 a1) := by
  intro a0 a1 k
  have ih0 := tarryref08_Same.mono_l k
  unfold tarryref08_Same.f
  repeat' first
      | (with_reducible exact ih0 _ _ _ _)
      | (with_reducible exact LeO.refl _)
      | (with_reducible exact LeO.none _)
      | (with_reducible refine LeO.ite ?_ ?_)
      | (with_reducible refine LeO.bind ?_ (fun _ => ?_))
      | exact ih0 _ _ _ _
      | exact LeO.none _
      | refine LeO.ite ?_ ?_
      | refine LeO.bind ?_ (fun _ => ?_)
set_option maxHeartbeats 8000000 in
set_option maxRecDepth 100000 in
theorem tarryref08_Same.calls (k : Nat) (A0 : Option Addr) (c0 : Nat) (l0 : List (S33)) (A1 : Option Addr) (c1 : Nat) (l1 : List (S33)) (r : Bool) (w : World) (hr0 : Kd.C k33 w A0 l0.length l0) (hc0 : l0.length ≤ c0) (hr1 : Kd.C k33 w A1 l1.length l1) (hc1 : l1.length ≤ c1) (h : tarryref08_Same.f k l0 l1 = some r) :
    Calls Try.prog 9 #[.slice A0 l0.length c0, .slice A1 l1.length c1] w fun e w' => e = .returned (.bool r) ∧ Drawn0 w w' := by
  have hu33 := Try.underlying33
  have HR0 := Aside0.mk hr0
  have HC0 := Aside0.mk hc0
  clear hr0 hc0
  have HR1 := Aside0.mk hr1
  have HC1 := Aside0.mk hc1
  clear hr1 hc1
  have H : (if (l0.length : Int) = (l1.length : Int) then (tarryref08_Same.l0 k l0 l1 (l0.length : Int) 0) else (some false)) = some r := h
  clear h
  by_cases c3 : (l0.length : Int) = (l1.length : Int)
  · rw [if_pos c3] at H
    have c3b0 : ((l0.length : Int) == (l1.length : Int)) = true := beq_iff_eq.mpr c3
    have c3b1 : ((l0.length : Int) != (l1.length : Int)) = false := bne_eq_false_iff_eq.mpr c3
    have c3b2 : (l0.length == l1.length) = true := by first | simpa using c3 | (simp at c3 ⊢; omega)
    clear c3
    have H' := Aside0.mk H
    clear H
    go_enter Try.func9, Try.ntmps9
    go_wp2
    repeat (go_quiet (fail); try go_wp2)
    go_loopg [13] k (fun kq v13 w' => ∃ (x13_1 : Int), v13 = .int .i64 x13_1 ∧ Aside0 (tarryref08_Same.l0 kq l0 l1 (l0.length : Int) x13_1 = some r) ∧ Aside0 (kq ≤ k) ∧ Drawn0 w w')
    case atStart => exact ⟨(0), (by first | rfl | (simp; done) | (simp [*]; done)), H', ⟨Nat.le_refl _⟩, by repeat (first | exact Drawn0.refl _ | apply Drawn0.step)⟩
    case round =>
      clear H'
      try clear c1
      try clear p2
      try clear c3
      try clear c3b0
      try clear c3b1
      try clear c3b2
      obtain ⟨x13_1, rfl, HA, HK1, ⟨m1, rfl⟩⟩ := hrel
      cases gk with
      | zero => exact absurd HA.out (by simp [tarryref08_Same.l0])
      | succ k1 =>
        have H := HA.out
        clear HA
        simp only [tarryref08_Same.l0] at H
        by_cases c4 : x13_1 < (l0.length : Int)
        · rw [if_pos c4] at H
          have c4b0 : decide (x13_1 < (l0.length : Int)) = true := decide_eq_true c4
          clear c4
          by_cases c5 : 0 ≤ x13_1
          · rw [if_pos c5] at H
            have c5b0 : decide (0 ≤ x13_1) = true := decide_eq_true c5
            clear c5
            by_cases c6 : x13_1 < (l0.length : Int)
            · rw [if_pos c6] at H
              have c6b0 : decide (x13_1 < (l0.length : Int)) = true := decide_eq_true c6
              clear c6
              by_cases c7 : x13_1 < (l1.length : Int)
              · rw [if_pos c7] at H
                have c7b0 : decide (x13_1 < (l1.length : Int)) = true := decide_eq_true c7
                clear c7
                by_cases c8 : (!((((rd_T33 l0 x13_1).f0).toList) == (((rd_T33 l1 x13_1).f0).toList)) || (!(((rd_T33 l0 x13_1).f1) == ((rd_T33 l1 x13_1).f1)) || (!(((rd_T33 l0 x13_1).f2) == ((rd_T33 l1 x13_1).f2)) || (!(((rd_T33 l0 x13_1).f3) == ((rd_T33 l1 x13_1).f3)) || (!(((rd_T33 l0 x13_1).f4) == ((rd_T33 l1 x13_1).f4)) || (!(((rd_T33 l0 x13_1).f5) == ((rd_T33 l1 x13_1).f5)))))))) = true
                · rw [if_pos c8] at H
                  have c8b0 : (!((((rd_T33 l0 x13_1).f0).toList) == (((rd_T33 l1 x13_1).f0).toList)) || (!(((rd_T33 l0 x13_1).f1) == ((rd_T33 l1 x13_1).f1)) || (!(((rd_T33 l0 x13_1).f2) == ((rd_T33 l1 x13_1).f2)) || (!(((rd_T33 l0 x13_1).f3) == ((rd_T33 l1 x13_1).f3)) || (!(((rd_T33 l0 x13_1).f4) == ((rd_T33 l1 x13_1).f4)) || (!(((rd_T33 l0 x13_1).f5) == ((rd_T33 l1 x13_1).f5)))))))) = true := c8
                  clear c8
                  obtain rfl := Option.some.inj H
                  have p183 : 0 ≤ (x13_1 : Int) := of_decide_eq_true (by first | (with_reducible assumption) | assumption)
                  have q183 : x13_1 < (l0.length : Int) := of_decide_eq_true (by first | (with_reducible assumption) | assumption)
                  obtain ⟨ad183, e183, hx183_0, hx183_1, hx183_2, hx183_3, hx183_4, hx183_5⟩ := at_T33 HR0.out x13_1 p183 q183
                  cases e183
                  replace p183 := eq_true p183
                  replace q183 := eq_true q183
                  have p184 : 0 ≤ (x13_1 : Int) := of_decide_eq_true (by first | (with_reducible assumption) | assumption)
                  have q184 : x13_1 < (l1.length : Int) := of_decide_eq_true (by first | (with_reducible assumption) | assumption)
                  obtain ⟨ad184, e184, hx184_0, hx184_1, hx184_2, hx184_3, hx184_4, hx184_5⟩ := at_T33 HR1.out x13_1 p184 q184
                  cases e184
                  replace p184 := eq_true p184
                  replace q184 := eq_true q184
                  go_wp2
                  repeat (go_quiet (fail); try go_wp2)
                  go_ret
                  exact ⟨by first | rfl | (simp; done) | (simp [*]; done), by repeat (first | exact Drawn0.refl _ | apply Drawn0.step)⟩
                · rw [if_neg c8] at H
                  have c8b0 : (!((((rd_T33 l0 x13_1).f0).toList) == (((rd_T33 l1 x13_1).f0).toList)) || (!(((rd_T33 l0 x13_1).f1) == ((rd_T33 l1 x13_1).f1)) || (!(((rd_T33 l0 x13_1).f2) == ((rd_T33 l1 x13_1).f2)) || (!(((rd_T33 l0 x13_1).f3) == ((rd_T33 l1 x13_1).f3)) || (!(((rd_T33 l0 x13_1).f4) == ((rd_T33 l1 x13_1).f4)) || (!(((rd_T33 l0 x13_1).f5) == ((rd_T33 l1 x13_1).f5)))))))) = false := by simpa using c8
                  clear c8
                  have H' := Aside0.mk H
                  clear H
                  have p183 : 0 ≤ (x13_1 : Int) := of_decide_eq_true (by first | (with_reducible assumption) | assumption)
                  have q183 : x13_1 < (l0.length : Int) := of_decide_eq_true (by first | (with_reducible assumption) | assumption)
                  obtain ⟨ad183, e183, hx183_0, hx183_1, hx183_2, hx183_3, hx183_4, hx183_5⟩ := at_T33 HR0.out x13_1 p183 q183
                  cases e183
                  replace p183 := eq_true p183
                  replace q183 := eq_true q183
                  have p184 : 0 ≤ (x13_1 : Int) := of_decide_eq_true (by first | (with_reducible assumption) | assumption)
                  have q184 : x13_1 < (l1.length : Int) := of_decide_eq_true (by first | (with_reducible assumption) | assumption)
                  obtain ⟨ad184, e184, hx184_0, hx184_1, hx184_2, hx184_3, hx184_4, hx184_5⟩ := at_T33 HR1.out x13_1 p184 q184
                  cases e184
                  replace p184 := eq_true p184
                  replace q184 := eq_true q184
                  go_wp2
                  repeat (go_quiet (fail); try go_wp2)
                  go_roundg k1
                  case measure => have := HK1.out; omega
                  case rel => exact ⟨(wrap64 (x13_1 + 1)), (by first | rfl | (simp; done) | (simp [*]; done)), H', ⟨by have := HK1.out; omega⟩, by repeat (first | exact Drawn0.refl _ | apply Drawn0.step)⟩
              · rw [if_neg c7] at H
                exact absurd H (by simp)
            · rw [if_neg c6] at H
              exact absurd H (by simp)
          · rw [if_neg c5] at H
            exact absurd H (by simp)
        · rw [if_neg c4] at H
          have c4b0 : decide (x13_1 < (l0.length : Int)) = false := decide_eq_false c4
          clear c4
          obtain rfl := Option.some.inj H
          go_wp2
          repeat (go_quiet (fail); try go_wp2)
          go_ret
          exact ⟨by first | rfl | (simp; done) | (simp [*]; done), by repeat (first | exact Drawn0.refl _ | apply Drawn0.step)⟩
  · rw [if_neg c3] at H
    have c3b0 : ((l0.length : Int) == (l1.length : Int)) = false := beq_eq_false_iff_ne.mpr c3
    have c3b1 : ((l0.length : Int) != (l1.length : Int)) = true := bne_iff_ne.mpr c3
    have c3b2 : (l0.length == l1.length) = false := by first | simpa using c3 | (simp at c3 ⊢; omega)
    obtain rfl := Option.some.inj H
    go_enter Try.func9, Try.ntmps9
    go_wp2
    repeat (go_quiet (fail); try go_wp2)
    go_ret
    exact ⟨by first | rfl | (simp; done) | (simp [*]; done), by repeat (first | exact Drawn0.refl _ | apply Drawn0.step)⟩

/-! ### stock_Get: function 12 -/
def stock_Get.f (l0 : List (S33)) (a1 : ByteArray) : Option (ByteArray × Int × Int × Int × Int × Int × Int) := (stock_Right.f l0).bind fun t186 => (if t186 = true then ((stock_at.f l0 a1).bind fun bt187 => (if bt187.2 = true then (if 0 ≤ bt187.1 then (if bt187.1 < (l0.length : Int) then (some ((rd_T33 l0 bt187.1).f0, (rd_T33 l0 bt187.1).f1, (rd_T33 l0 bt187.1).f2, (rd_T33 l0 bt187.1).f3, (rd_T33 l0 bt187.1).f4, (rd_T33 l0 bt187.1).f5, 0)) else (none)) else (none)) else (some ((⟨#[]⟩ : ByteArray), 0, 0, 0, 0, 0, 8)))) else (some ((⟨#[]⟩ : ByteArray), 0, 0, 0, 0, 0, 1)))
set_option maxHeartbeats 8000000 in
set_option maxRecDepth 100000 in
theorem stock_Get.calls (A0 : Option Addr) (c0 : Nat) (l0 : List (S33)) (a1 : ByteArray) (r1 : ByteArray) (r2 : Int) (r3 : Int) (r4 : Int) (r5 : Int) (r6 : Int) (r7 : Int) (w : World) (hr0 : Kd.C k33 w A0 l0.length l0) (hc0 : l0.length ≤ c0) (h : stock_Get.f l0 a1 = some (r1, r2, r3, r4, r5, r6, r7)) :
    Calls Try.prog 12 #[.slice A0 l0.length c0, .string a1] w fun e w' => e = .returned (.tuple #[.agg #[.string r1, .int .i64 r2, .int .i64 r3, .int .i64 r4, .int .i64 r5, .int .i64 r6], .int .i64 r7]) ∧ Below w.heap.size w w' := by
  have hu33 := Try.underlying33
  have HR0 := Aside0.mk hr0
  have HC0 := Aside0.mk hc0
  clear hr0 hc0
  have HB := Aside0.mk (Below.refl w.heap.size w)
  have H : ((stock_Right.f l0).bind fun t186 => (if t186 = true then ((stock_at.f l0 a1).bind fun bt187 => (if bt187.2 = true then (if 0 ≤ bt187.1 then (if bt187.1 < (l0.length : Int) then (some ((rd_T33 l0 bt187.1).f0, (rd_T33 l0 bt187.1).f1, (rd_T33 l0 bt187.1).f2, (rd_T33 l0 bt187.1).f3, (rd_T33 l0 bt187.1).f4, (rd_T33 l0 bt187.1).f5, 0)) else (none)) else (none)) else (some ((⟨#[]⟩ : ByteArray), 0, 0, 0, 0, 0, 8)))) else (some ((⟨#[]⟩ : ByteArray), 0, 0, 0, 0, 0, 1)))) = some (r1, r2, r3, r4, r5, r6, r7) := h
  clear h
  replace H := Option.bind_eq_some_iff.mp H
  obtain ⟨t186, A30, H⟩ := H
  replace H : (if t186 = true then ((stock_at.f l0 a1).bind fun bt187 => (if bt187.2 = true then (if 0 ≤ bt187.1 then (if bt187.1 < (l0.length : Int) then (some ((rd_T33 l0 bt187.1).f0, (rd_T33 l0 bt187.1).f1, (rd_T33 l0 bt187.1).f2, (rd_T33 l0 bt187.1).f3, (rd_T33 l0 bt187.1).f4, (rd_T33 l0 bt187.1).f5, 0)) else (none)) else (none)) else (some ((⟨#[]⟩ : ByteArray), 0, 0, 0, 0, 0, 8)))) else (some ((⟨#[]⟩ : ByteArray), 0, 0, 0, 0, 0, 1))) = some (r1, r2, r3, r4, r5, r6, r7) := H
  have A3 := Aside0.mk A30
  clear A30
  by_cases c4 : t186 = true
  · subst c4
    have H1 : ((stock_at.f l0 a1).bind fun bt187 => (if bt187.2 = true then (if 0 ≤ bt187.1 then (if bt187.1 < (l0.length : Int) then (some ((rd_T33 l0 bt187.1).f0, (rd_T33 l0 bt187.1).f1, (rd_T33 l0 bt187.1).f2, (rd_T33 l0 bt187.1).f3, (rd_T33 l0 bt187.1).f4, (rd_T33 l0 bt187.1).f5, 0)) else (none)) else (none)) else (some ((⟨#[]⟩ : ByteArray), 0, 0, 0, 0, 0, 8)))) = some (r1, r2, r3, r4, r5, r6, r7) := by rw [if_pos rfl] at H; exact H
    clear H
    have H := H1
    clear H1
    replace H := Option.bind_eq_some_iff.mp H
    obtain ⟨⟨t187, t188⟩, A50, H⟩ := H
    replace H : (if t188 = true then (if 0 ≤ t187 then (if t187 < (l0.length : Int) then (some ((rd_T33 l0 t187).f0, (rd_T33 l0 t187).f1, (rd_T33 l0 t187).f2, (rd_T33 l0 t187).f3, (rd_T33 l0 t187).f4, (rd_T33 l0 t187).f5, 0)) else (none)) else (none)) else (some ((⟨#[]⟩ : ByteArray), 0, 0, 0, 0, 0, 8))) = some (r1, r2, r3, r4, r5, r6, r7) := H
    have A5 := Aside0.mk A50
    clear A50
    by_cases c6 : t188 = true
    · subst c6
      have H1 : (if 0 ≤ t187 then (if t187 < (l0.length : Int) then (some ((rd_T33 l0 t187).f0, (rd_T33 l0 t187).f1, (rd_T33 l0 t187).f2, (rd_T33 l0 t187).f3, (rd_T33 l0 t187).f4, (rd_T33 l0 t187).f5, 0)) else (none)) else (none)) = some (r1, r2, r3, r4, r5, r6, r7) := by rw [if_pos rfl] at H; exact H
      clear H
      have H := H1
      clear H1
      by_cases c7 : 0 ≤ t187
      · rw [if_pos c7] at H
        have c7b0 : decide (0 ≤ t187) = true := decide_eq_true c7
        clear c7
        by_cases c8 : t187 < (l0.length : Int)
        · rw [if_pos c8] at H
          have c8b0 : decide (t187 < (l0.length : Int)) = true := decide_eq_true c8
          clear c8
          simp only [Option.some.injEq, Prod.mk.injEq] at H
          obtain ⟨rfl, rfl, rfl, rfl, rfl, rfl, rfl⟩ := H
          go_enter Try.func12, Try.ntmps12
          go_wp2_with (first | ((with_reducible refine gate_dst (N := 4) rfl ?_); refine box_event ?hg (N := 4) ?hd (cs := #[.string (⟨#[]⟩ : ByteArray), .int .i64 0, .int .i64 0, .int .i64 0, .int .i64 0, .int .i64 0]) (t := 33) ?hr ?_; (case hd => rfl); (case hg => rfl); (case hr => first | (go_simp; done) | (go_simp; rfl)); intro gb185 hg w9 hbox hb; have n0_ := Aside0.mk (below_step (by repeat (first | (with_reducible first | exact HB.out | apply below_alloc | apply pw_below_drewN | apply below_drew1) | exact HB.out)) hb); have n1_ := Aside0.mk (hbox); have n2_ := Aside0.mk ((by rw [hg]; exact (below_size (by repeat (first | (with_reducible first | exact HB.out | apply below_alloc | apply pw_below_drewN | apply below_drew1) | exact HB.out))) : w.heap.size ≤ gb185)); have n3_ := Aside0.mk ((by rw [hg]; exact (below_size (by repeat (first | (with_reducible first | exact HB.out | apply below_alloc | apply pw_below_drewN | apply below_drew1) | exact HB.out))) : w.heap.size ≤ gb185)); clear HB; have HB := n0_; have BK185 := n1_; have GW185 := n2_; have GE185 := n3_; clear n0_ n1_ n2_ n3_; clear hb hbox hg) | ((with_reducible refine gate_callee (f := 10) rfl ?_); refine goesL_ (some 9) rfl rfl Try.func10 (by kernel_rfl) rfl #[.slice A0 l0.length c0] rfl (by (try simp only [List.map_toArray, List.map_cons, List.map_nil]); first | done | rfl | (simp only [List.length_drop, List.length_take]; rfl)) ?_; (with_reducible refine (stock_Right.calls _ _ l0 true _ ?side1 ?side2 A3.out).mono ?_); (case side1 => repeat (first | exact (Kd.C_below HR0.out HB.out) | (with_reducible refine Kd.C_alloc ?_ _) | (with_reducible refine Kd.C_drewN ?_ _) | (with_reducible refine Kd.C_drew ?_))); (case side2 => exact HC0.out); rintro e w10 ⟨rfl, hb⟩; refine ⟨_, rfl, ?_⟩; have n0_ := Aside0.mk (blk_below (g := gb185) (o := .cells #[.string (⟨#[]⟩ : ByteArray), .int .i64 0, .int .i64 0, .int .i64 0, .int .i64 0, .int .i64 0] 33 (0, 0)) (by (with_reducible repeat (first | refine blk_drewN ?_ _ | refine blk_drew ?_ | refine blk_alloc ?_ _)); exact BK185.out) hb); have n1_ := Aside0.mk (below_step (by repeat (first | (with_reducible first | exact HB.out | apply below_alloc | apply pw_below_drewN | apply below_drew1 | refine below_set ?_ GE185.out) | exact HB.out)) hb); clear BK185; clear HB; have BK185 := n0_; have HB := n1_; clear n0_ n1_; (try clear hb); (try clear hb2); (try clear hk); (try clear hi)) | ((with_reducible refine gate_callee (f := 24) rfl ?_); refine goesL_ (some 15) rfl rfl Try.func24 (by kernel_rfl) rfl #[.slice A0 l0.length c0, .string a1] rfl (by (try simp only [List.map_toArray, List.map_cons, List.map_nil]); first | done | rfl | (simp only [List.length_drop, List.length_take]; rfl)) ?_; (with_reducible refine (stock_at.calls _ _ l0 a1 t187 true _ ?side1 ?side2 A5.out).mono ?_); (case side1 => repeat (first | exact (Kd.C_below HR0.out HB.out) | (with_reducible refine Kd.C_alloc ?_ _) | (with_reducible refine Kd.C_drewN ?_ _) | (with_reducible refine Kd.C_drew ?_))); (case side2 => exact HC0.out); rintro e w11 ⟨rfl, hb⟩; refine ⟨_, rfl, ?_⟩; have n0_ := Aside0.mk (blk_below (g := gb185) (o := .cells #[.string (⟨#[]⟩ : ByteArray), .int .i64 0, .int .i64 0, .int .i64 0, .int .i64 0, .int .i64 0] 33 (0, 0)) (by (with_reducible repeat (first | refine blk_drewN ?_ _ | refine blk_drew ?_ | refine blk_alloc ?_ _)); exact BK185.out) hb); have n1_ := Aside0.mk (below_step (by repeat (first | (with_reducible first | exact HB.out | apply below_alloc | apply pw_below_drewN | apply below_drew1 | refine below_set ?_ GE185.out) | exact HB.out)) hb); clear BK185; clear HB; have BK185 := n0_; have HB := n1_; clear n0_ n1_; (try clear hb); (try clear hb2); (try clear hk); (try clear hi); have p189 : 0 ≤ (t187 : Int) := of_decide_eq_true (by first | (with_reducible assumption) | assumption); have q189 : t187 < (l0.length : Int) := of_decide_eq_true (by first | (with_reducible assumption) | assumption); obtain ⟨ad189, e189, hx189_0, hx189_1, hx189_2, hx189_3, hx189_4, hx189_5⟩ := at_T33 HR0.out t187 p189 q189; cases e189; replace hx189_0 := (HB.out.cell (World.block_lt_of_cell? w _ hx189_0)).trans hx189_0; replace hx189_1 := (HB.out.cell (World.block_lt_of_cell? w _ hx189_1)).trans hx189_1; replace hx189_2 := (HB.out.cell (World.block_lt_of_cell? w _ hx189_2)).trans hx189_2; replace hx189_3 := (HB.out.cell (World.block_lt_of_cell? w _ hx189_3)).trans hx189_3; replace hx189_4 := (HB.out.cell (World.block_lt_of_cell? w _ hx189_4)).trans hx189_4; replace hx189_5 := (HB.out.cell (World.block_lt_of_cell? w _ hx189_5)).trans hx189_5; replace p189 := eq_true p189; replace q189 := eq_true q189; have hcz12_0 : w11.cell? ⟨gb185, 0, none⟩ = some (.string (⟨#[]⟩ : ByteArray)) := (blk_cell BK185.out 0).trans rfl; have hcz12_1 : w11.cell? ⟨gb185, 1, none⟩ = some (.int .i64 0) := (blk_cell BK185.out 1).trans rfl; have hcz12_2 : w11.cell? ⟨gb185, 2, none⟩ = some (.int .i64 0) := (blk_cell BK185.out 2).trans rfl; have hcz12_3 : w11.cell? ⟨gb185, 3, none⟩ = some (.int .i64 0) := (blk_cell BK185.out 3).trans rfl; have hcz12_4 : w11.cell? ⟨gb185, 4, none⟩ = some (.int .i64 0) := (blk_cell BK185.out 4).trans rfl; have hcz12_5 : w11.cell? ⟨gb185, 5, none⟩ = some (.int .i64 0) := (blk_cell BK185.out 5).trans rfl; have hfz12_0 := blk_frozen BK185.out 0; have hfz12_1 := blk_frozen BK185.out 1; have hfz12_2 := blk_frozen BK185.out 2; have hfz12_3 := blk_frozen BK185.out 3; have hfz12_4 := blk_frozen BK185.out 4; have hfz12_5 := blk_frozen BK185.out 5))
          refine bodyPost_ret (results_ct rfl _ _ gb185 33 #[.string ((rd_T33 l0 t187).f0), .int .i64 ((rd_T33 l0 t187).f1), .int .i64 ((rd_T33 l0 t187).f2), .int .i64 ((rd_T33 l0 t187).f3), .int .i64 ((rd_T33 l0 t187).f4), .int .i64 ((rd_T33 l0 t187).f5)] (0, 0) _ rfl (by (with_reducible repeat (first | refine blk_drewN ?_ _ | refine blk_drew ?_ | refine blk_alloc ?_ _)); refine blk_put (cs := #[.string ((rd_T33 l0 t187).f0), .int .i64 ((rd_T33 l0 t187).f1), .int .i64 ((rd_T33 l0 t187).f2), .int .i64 ((rd_T33 l0 t187).f3), .int .i64 ((rd_T33 l0 t187).f4), .int .i64 0]) ?_ 5 _ rfl; (with_reducible repeat (first | refine blk_drewN ?_ _ | refine blk_drew ?_ | refine blk_alloc ?_ _)); refine blk_put (cs := #[.string ((rd_T33 l0 t187).f0), .int .i64 ((rd_T33 l0 t187).f1), .int .i64 ((rd_T33 l0 t187).f2), .int .i64 ((rd_T33 l0 t187).f3), .int .i64 0, .int .i64 0]) ?_ 4 _ rfl; (with_reducible repeat (first | refine blk_drewN ?_ _ | refine blk_drew ?_ | refine blk_alloc ?_ _)); refine blk_put (cs := #[.string ((rd_T33 l0 t187).f0), .int .i64 ((rd_T33 l0 t187).f1), .int .i64 ((rd_T33 l0 t187).f2), .int .i64 0, .int .i64 0, .int .i64 0]) ?_ 3 _ rfl; (with_reducible repeat (first | refine blk_drewN ?_ _ | refine blk_drew ?_ | refine blk_alloc ?_ _)); refine blk_put (cs := #[.string ((rd_T33 l0 t187).f0), .int .i64 ((rd_T33 l0 t187).f1), .int .i64 0, .int .i64 0, .int .i64 0, .int .i64 0]) ?_ 2 _ rfl; (with_reducible repeat (first | refine blk_drewN ?_ _ | refine blk_drew ?_ | refine blk_alloc ?_ _)); refine blk_put (cs := #[.string ((rd_T33 l0 t187).f0), .int .i64 0, .int .i64 0, .int .i64 0, .int .i64 0, .int .i64 0]) ?_ 1 _ rfl; (with_reducible repeat (first | refine blk_drewN ?_ _ | refine blk_drew ?_ | refine blk_alloc ?_ _)); refine blk_put (cs := #[.string (⟨#[]⟩ : ByteArray), .int .i64 0, .int .i64 0, .int .i64 0, .int .i64 0, .int .i64 0]) ?_ 0 _ rfl; (with_reducible repeat (first | refine blk_drewN ?_ _ | refine blk_drew ?_ | refine blk_alloc ?_ _)); exact BK185.out) Try.underlying33 rfl (by kernel_rfl)) rfl ?_
          exact ⟨by first | rfl | (simp [errW_none, errW_some] <;> rfl) | (simp [*, errW_none, errW_some] <;> rfl), by repeat (first | (with_reducible first | exact HB.out | apply below_alloc | apply pw_below_drewN | apply below_drew1 | refine below_set ?_ GE185.out) | exact HB.out)⟩
        · rw [if_neg c8] at H
          exact absurd H (by simp)
      · rw [if_neg c7] at H
        exact absurd H (by simp)
    · replace c6 := Bool.eq_false_iff.mpr c6
      subst c6
      have H1 : (some ((⟨#[]⟩ : ByteArray), 0, 0, 0, 0, 0, 8)) = some (r1, r2, r3, r4, r5, r6, r7) := by rw [if_neg (show ¬ (false = true) by decide)] at H; exact H
      clear H
      have H := H1
      clear H1
      simp only [Option.some.injEq, Prod.mk.injEq] at H
      obtain ⟨rfl, rfl, rfl, rfl, rfl, rfl, rfl⟩ := H
      go_enter Try.func12, Try.ntmps12
      go_wp2_with (first | ((with_reducible refine gate_dst (N := 4) rfl ?_); refine box_event ?hg (N := 4) ?hd (cs := #[.string (⟨#[]⟩ : ByteArray), .int .i64 0, .int .i64 0, .int .i64 0, .int .i64 0, .int .i64 0]) (t := 33) ?hr ?_; (case hd => rfl); (case hg => rfl); (case hr => first | (go_simp; done) | (go_simp; rfl)); intro gb185 hg w13 hbox hb; have n0_ := Aside0.mk (below_step (by repeat (first | (with_reducible first | exact HB.out | apply below_alloc | apply pw_below_drewN | apply below_drew1) | exact HB.out)) hb); have n1_ := Aside0.mk (hbox); have n2_ := Aside0.mk ((by rw [hg]; exact (below_size (by repeat (first | (with_reducible first | exact HB.out | apply below_alloc | apply pw_below_drewN | apply below_drew1) | exact HB.out))) : w.heap.size ≤ gb185)); have n3_ := Aside0.mk ((by rw [hg]; exact (below_size (by repeat (first | (with_reducible first | exact HB.out | apply below_alloc | apply pw_below_drewN | apply below_drew1) | exact HB.out))) : w.heap.size ≤ gb185)); clear HB; have HB := n0_; have BK185 := n1_; have GW185 := n2_; have GE185 := n3_; clear n0_ n1_ n2_ n3_; clear hb hbox hg) | ((with_reducible refine gate_callee (f := 10) rfl ?_); refine goesL_ (some 9) rfl rfl Try.func10 (by kernel_rfl) rfl #[.slice A0 l0.length c0] rfl (by (try simp only [List.map_toArray, List.map_cons, List.map_nil]); first | done | rfl | (simp only [List.length_drop, List.length_take]; rfl)) ?_; (with_reducible refine (stock_Right.calls _ _ l0 true _ ?side1 ?side2 A3.out).mono ?_); (case side1 => repeat (first | exact (Kd.C_below HR0.out HB.out) | (with_reducible refine Kd.C_alloc ?_ _) | (with_reducible refine Kd.C_drewN ?_ _) | (with_reducible refine Kd.C_drew ?_))); (case side2 => exact HC0.out); rintro e w14 ⟨rfl, hb⟩; refine ⟨_, rfl, ?_⟩; have n0_ := Aside0.mk (blk_below (g := gb185) (o := .cells #[.string (⟨#[]⟩ : ByteArray), .int .i64 0, .int .i64 0, .int .i64 0, .int .i64 0, .int .i64 0] 33 (0, 0)) (by (with_reducible repeat (first | refine blk_drewN ?_ _ | refine blk_drew ?_ | refine blk_alloc ?_ _)); exact BK185.out) hb); have n1_ := Aside0.mk (below_step (by repeat (first | (with_reducible first | exact HB.out | apply below_alloc | apply pw_below_drewN | apply below_drew1 | refine below_set ?_ GE185.out) | exact HB.out)) hb); clear BK185; clear HB; have BK185 := n0_; have HB := n1_; clear n0_ n1_; (try clear hb); (try clear hb2); (try clear hk); (try clear hi)) | ((with_reducible refine gate_callee (f := 24) rfl ?_); refine goesL_ (some 15) rfl rfl Try.func24 (by kernel_rfl) rfl #[.slice A0 l0.length c0, .string a1] rfl (by (try simp only [List.map_toArray, List.map_cons, List.map_nil]); first | done | rfl | (simp only [List.length_drop, List.length_take]; rfl)) ?_; (with_reducible refine (stock_at.calls _ _ l0 a1 t187 false _ ?side1 ?side2 A5.out).mono ?_); (case side1 => repeat (first | exact (Kd.C_below HR0.out HB.out) | (with_reducible refine Kd.C_alloc ?_ _) | (with_reducible refine Kd.C_drewN ?_ _) | (with_reducible refine Kd.C_drew ?_))); (case side2 => exact HC0.out); rintro e w15 ⟨rfl, hb⟩; refine ⟨_, rfl, ?_⟩; have n0_ := Aside0.mk (blk_below (g := gb185) (o := .cells #[.string (⟨#[]⟩ : ByteArray), .int .i64 0, .int .i64 0, .int .i64 0, .int .i64 0, .int .i64 0] 33 (0, 0)) (by (with_reducible repeat (first | refine blk_drewN ?_ _ | refine blk_drew ?_ | refine blk_alloc ?_ _)); exact BK185.out) hb); have n1_ := Aside0.mk (below_step (by repeat (first | (with_reducible first | exact HB.out | apply below_alloc | apply pw_below_drewN | apply below_drew1 | refine below_set ?_ GE185.out) | exact HB.out)) hb); clear BK185; clear HB; have BK185 := n0_; have HB := n1_; clear n0_ n1_; (try clear hb); (try clear hb2); (try clear hk); (try clear hi); have hcz16_0 : w15.cell? ⟨gb185, 0, none⟩ = some (.string (⟨#[]⟩ : ByteArray)) := (blk_cell BK185.out 0).trans rfl; have hcz16_1 : w15.cell? ⟨gb185, 1, none⟩ = some (.int .i64 0) := (blk_cell BK185.out 1).trans rfl; have hcz16_2 : w15.cell? ⟨gb185, 2, none⟩ = some (.int .i64 0) := (blk_cell BK185.out 2).trans rfl; have hcz16_3 : w15.cell? ⟨gb185, 3, none⟩ = some (.int .i64 0) := (blk_cell BK185.out 3).trans rfl; have hcz16_4 : w15.cell? ⟨gb185, 4, none⟩ = some (.int .i64 0) := (blk_cell BK185.out 4).trans rfl; have hcz16_5 : w15.cell? ⟨gb185, 5, none⟩ = some (.int .i64 0) := (blk_cell BK185.out 5).trans rfl; have hfz16_0 := blk_frozen BK185.out 0; have hfz16_1 := blk_frozen BK185.out 1; have hfz16_2 := blk_frozen BK185.out 2; have hfz16_3 := blk_frozen BK185.out 3; have hfz16_4 := blk_frozen BK185.out 4; have hfz16_5 := blk_frozen BK185.out 5))
      refine bodyPost_ret (results_ct rfl _ _ gb185 33 #[.string (⟨#[]⟩ : ByteArray), .int .i64 0, .int .i64 0, .int .i64 0, .int .i64 0, .int .i64 0] (0, 0) _ rfl (by (with_reducible repeat (first | refine blk_drewN ?_ _ | refine blk_drew ?_ | refine blk_alloc ?_ _)); refine blk_put (cs := #[.string (⟨#[]⟩ : ByteArray), .int .i64 0, .int .i64 0, .int .i64 0, .int .i64 0, .int .i64 0]) ?_ 5 _ rfl; (with_reducible repeat (first | refine blk_drewN ?_ _ | refine blk_drew ?_ | refine blk_alloc ?_ _)); refine blk_put (cs := #[.string (⟨#[]⟩ : ByteArray), .int .i64 0, .int .i64 0, .int .i64 0, .int .i64 0, .int .i64 0]) ?_ 4 _ rfl; (with_reducible repeat (first | refine blk_drewN ?_ _ | refine blk_drew ?_ | refine blk_alloc ?_ _)); refine blk_put (cs := #[.string (⟨#[]⟩ : ByteArray), .int .i64 0, .int .i64 0, .int .i64 0, .int .i64 0, .int .i64 0]) ?_ 3 _ rfl; (with_reducible repeat (first | refine blk_drewN ?_ _ | refine blk_drew ?_ | refine blk_alloc ?_ _)); refine blk_put (cs := #[.string (⟨#[]⟩ : ByteArray), .int .i64 0, .int .i64 0, .int .i64 0, .int .i64 0, .int .i64 0]) ?_ 2 _ rfl; (with_reducible repeat (first | refine blk_drewN ?_ _ | refine blk_drew ?_ | refine blk_alloc ?_ _)); refine blk_put (cs := #[.string (⟨#[]⟩ : ByteArray), .int .i64 0, .int .i64 0, .int .i64 0, .int .i64 0, .int .i64 0]) ?_ 1 _ rfl; (with_reducible repeat (first | refine blk_drewN ?_ _ | refine blk_drew ?_ | refine blk_alloc ?_ _)); refine blk_put (cs := #[.string (⟨#[]⟩ : ByteArray), .int .i64 0, .int .i64 0, .int .i64 0, .int .i64 0, .int .i64 0]) ?_ 0 _ rfl; (with_reducible repeat (first | refine blk_drewN ?_ _ | refine blk_drew ?_ | refine blk_alloc ?_ _)); exact BK185.out) Try.underlying33 rfl (by kernel_rfl)) rfl ?_
      exact ⟨by first | rfl | (simp [errW_none, errW_some] <;> rfl) | (simp [*, errW_none, errW_some] <;> rfl), by repeat (first | (with_reducible first | exact HB.out | apply below_alloc | apply pw_below_drewN | apply below_drew1 | refine below_set ?_ GE185.out) | exact HB.out)⟩
  · replace c4 := Bool.eq_false_iff.mpr c4
    subst c4
    have H1 : (some ((⟨#[]⟩ : ByteArray), 0, 0, 0, 0, 0, 1)) = some (r1, r2, r3, r4, r5, r6, r7) := by rw [if_neg (show ¬ (false = true) by decide)] at H; exact H
    clear H
    have H := H1
    clear H1
    simp only [Option.some.injEq, Prod.mk.injEq] at H
    obtain ⟨rfl, rfl, rfl, rfl, rfl, rfl, rfl⟩ := H
    go_enter Try.func12, Try.ntmps12
    go_wp2_with (first | ((with_reducible refine gate_dst (N := 4) rfl ?_); refine box_event ?hg (N := 4) ?hd (cs := #[.string (⟨#[]⟩ : ByteArray), .int .i64 0, .int .i64 0, .int .i64 0, .int .i64 0, .int .i64 0]) (t := 33) ?hr ?_; (case hd => rfl); (case hg => rfl); (case hr => first | (go_simp; done) | (go_simp; rfl)); intro gb185 hg w17 hbox hb; have n0_ := Aside0.mk (below_step (by repeat (first | (with_reducible first | exact HB.out | apply below_alloc | apply pw_below_drewN | apply below_drew1) | exact HB.out)) hb); have n1_ := Aside0.mk (hbox); have n2_ := Aside0.mk ((by rw [hg]; exact (below_size (by repeat (first | (with_reducible first | exact HB.out | apply below_alloc | apply pw_below_drewN | apply below_drew1) | exact HB.out))) : w.heap.size ≤ gb185)); have n3_ := Aside0.mk ((by rw [hg]; exact (below_size (by repeat (first | (with_reducible first | exact HB.out | apply below_alloc | apply pw_below_drewN | apply below_drew1) | exact HB.out))) : w.heap.size ≤ gb185)); clear HB; have HB := n0_; have BK185 := n1_; have GW185 := n2_; have GE185 := n3_; clear n0_ n1_ n2_ n3_; clear hb hbox hg) | ((with_reducible refine gate_callee (f := 10) rfl ?_); refine goesL_ (some 9) rfl rfl Try.func10 (by kernel_rfl) rfl #[.slice A0 l0.length c0] rfl (by (try simp only [List.map_toArray, List.map_cons, List.map_nil]); first | done | rfl | (simp only [List.length_drop, List.length_take]; rfl)) ?_; (with_reducible refine (stock_Right.calls _ _ l0 false _ ?side1 ?side2 A3.out).mono ?_); (case side1 => repeat (first | exact (Kd.C_below HR0.out HB.out) | (with_reducible refine Kd.C_alloc ?_ _) | (with_reducible refine Kd.C_drewN ?_ _) | (with_reducible refine Kd.C_drew ?_))); (case side2 => exact HC0.out); rintro e w18 ⟨rfl, hb⟩; refine ⟨_, rfl, ?_⟩; have n0_ := Aside0.mk (blk_below (g := gb185) (o := .cells #[.string (⟨#[]⟩ : ByteArray), .int .i64 0, .int .i64 0, .int .i64 0, .int .i64 0, .int .i64 0] 33 (0, 0)) (by (with_reducible repeat (first | refine blk_drewN ?_ _ | refine blk_drew ?_ | refine blk_alloc ?_ _)); exact BK185.out) hb); have n1_ := Aside0.mk (below_step (by repeat (first | (with_reducible first | exact HB.out | apply below_alloc | apply pw_below_drewN | apply below_drew1 | refine below_set ?_ GE185.out) | exact HB.out)) hb); clear BK185; clear HB; have BK185 := n0_; have HB := n1_; clear n0_ n1_; (try clear hb); (try clear hb2); (try clear hk); (try clear hi); have hcz19_0 : w18.cell? ⟨gb185, 0, none⟩ = some (.string (⟨#[]⟩ : ByteArray)) := (blk_cell BK185.out 0).trans rfl; have hcz19_1 : w18.cell? ⟨gb185, 1, none⟩ = some (.int .i64 0) := (blk_cell BK185.out 1).trans rfl; have hcz19_2 : w18.cell? ⟨gb185, 2, none⟩ = some (.int .i64 0) := (blk_cell BK185.out 2).trans rfl; have hcz19_3 : w18.cell? ⟨gb185, 3, none⟩ = some (.int .i64 0) := (blk_cell BK185.out 3).trans rfl; have hcz19_4 : w18.cell? ⟨gb185, 4, none⟩ = some (.int .i64 0) := (blk_cell BK185.out 4).trans rfl; have hcz19_5 : w18.cell? ⟨gb185, 5, none⟩ = some (.int .i64 0) := (blk_cell BK185.out 5).trans rfl; have hfz19_0 := blk_frozen BK185.out 0; have hfz19_1 := blk_frozen BK185.out 1; have hfz19_2 := blk_frozen BK185.out 2; have hfz19_3 := blk_frozen BK185.out 3; have hfz19_4 := blk_frozen BK185.out 4; have hfz19_5 := blk_frozen BK185.out 5))
    refine bodyPost_ret (results_ct rfl _ _ gb185 33 #[.string (⟨#[]⟩ : ByteArray), .int .i64 0, .int .i64 0, .int .i64 0, .int .i64 0, .int .i64 0] (0, 0) _ rfl (by (with_reducible repeat (first | refine blk_drewN ?_ _ | refine blk_drew ?_ | refine blk_alloc ?_ _)); refine blk_put (cs := #[.string (⟨#[]⟩ : ByteArray), .int .i64 0, .int .i64 0, .int .i64 0, .int .i64 0, .int .i64 0]) ?_ 5 _ rfl; (with_reducible repeat (first | refine blk_drewN ?_ _ | refine blk_drew ?_ | refine blk_alloc ?_ _)); refine blk_put (cs := #[.string (⟨#[]⟩ : ByteArray), .int .i64 0, .int .i64 0, .int .i64 0, .int .i64 0, .int .i64 0]) ?_ 4 _ rfl; (with_reducible repeat (first | refine blk_drewN ?_ _ | refine blk_drew ?_ | refine blk_alloc ?_ _)); refine blk_put (cs := #[.string (⟨#[]⟩ : ByteArray), .int .i64 0, .int .i64 0, .int .i64 0, .int .i64 0, .int .i64 0]) ?_ 3 _ rfl; (with_reducible repeat (first | refine blk_drewN ?_ _ | refine blk_drew ?_ | refine blk_alloc ?_ _)); refine blk_put (cs := #[.string (⟨#[]⟩ : ByteArray), .int .i64 0, .int .i64 0, .int .i64 0, .int .i64 0, .int .i64 0]) ?_ 2 _ rfl; (with_reducible repeat (first | refine blk_drewN ?_ _ | refine blk_drew ?_ | refine blk_alloc ?_ _)); refine blk_put (cs := #[.string (⟨#[]⟩ : ByteArray), .int .i64 0, .int .i64 0, .int .i64 0, .int .i64 0, .int .i64 0]) ?_ 1 _ rfl; (with_reducible repeat (first | refine blk_drewN ?_ _ | refine blk_drew ?_ | refine blk_alloc ?_ _)); refine blk_put (cs := #[.string (⟨#[]⟩ : ByteArray), .int .i64 0, .int .i64 0, .int .i64 0, .int .i64 0, .int .i64 0]) ?_ 0 _ rfl; (with_reducible repeat (first | refine blk_drewN ?_ _ | refine blk_drew ?_ | refine blk_alloc ?_ _)); exact BK185.out) Try.underlying33 rfl (by kernel_rfl)) rfl ?_
    exact ⟨by first | rfl | (simp [errW_none, errW_some] <;> rfl) | (simp [*, errW_none, errW_some] <;> rfl), by repeat (first | (with_reducible first | exact HB.out | apply below_alloc | apply pw_below_drewN | apply below_drew1 | refine below_set ?_ GE185.out) | exact HB.out)⟩

end Go.Proofs.Ytliablhnkoghbaa.PStockMoves
