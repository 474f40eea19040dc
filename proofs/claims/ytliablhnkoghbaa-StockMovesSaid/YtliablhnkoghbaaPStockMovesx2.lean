-- PRINTED by print.py (a twelfth state) out of the translation. Not trusted: Lean checks it.
import Derived.Test.YtliablhnkoghbaaPStockMovesx0
namespace Go.Proofs.Ytliablhnkoghbaa.PStockMoves
open Go.RowKit Go.Proofs.YtliablhnkoghbaaH Go.Proofs.YtliablhnkoghbaaW.PrintWords Go.Proofs.YtliablhnkoghbaaW.PrintLast Go.Proofs.YtliablhnkoghbaaW.PrintMore
attribute [local go_sem] max2_int min2_int max_two min_two max_three min_three max_four min_four   -- for this text's walks alone
set_option linter.unusedVariables false
set_option linter.unusedSimpArgs false

/-! ### tarrylaw08_few: function 6 -/
def tarrylaw08_few.l0 : Nat → List (S33) → List (S33) → Int → Int → Option ((List (S33)))
  | 0, _, _, _, _ => none
  | k + 1, x3, x10, x11, x12 => if x12 < x11 then (if 0 ≤ x12 then (if x12 < (x10.length : Int) then (if 0 ≤ (mn (((rd_T33 x10 x12).f0).size : Int) 18) then (if (mn (((rd_T33 x10 x12).f0).size : Int) 18) ≤ (((rd_T33 x10 x12).f0).size : Int) then (if x3.length < 2513169434916 then (tarrylaw08_few.l0 k (x3 ++ [(⟨((rd_T33 x10 x12).f0).extract 0 ((mn (((rd_T33 x10 x12).f0).size : Int) 18) : Int).toNat, (rd_T33 x10 x12).f1, (rd_T33 x10 x12).f2, (rd_T33 x10 x12).f3, (rd_T33 x10 x12).f4, (rd_T33 x10 x12).f5⟩ : S33)]) x10 x11 (wrap64 (x12 + 1))) else (none)) else (none)) else (none)) else (none)) else (none)) else (some x3)
def tarrylaw08_few.f (k : Nat) (l0 : List (S33)) : Option ((List (S33))) := if 0 ≤ (mn (l0.length : Int) 10) then (if (mn (l0.length : Int) 10) ≤ (l0.length : Int) then ((some (l0.take ((mn (l0.length : Int) 10) : Int).toNat : List (S33))).bind fun y101 => (tarrylaw08_few.l0 k ([] : List (S33)) y101 (y101.length : Int) 0)) else (none)) else (none)
theorem tarrylaw08_few.mono_l : ∀ k, (∀ y0 y1 y2 y3, LeO (tarrylaw08_few.l0 k y0 y1 y2 y3) (tarrylaw08_few.l0 (k + 1) y0 y1 y2 y3))
  | 0 => fun _ _ _ _ r h => by simp [tarrylaw08_few.l0] at h
  | k + 1 => by
    have ih0 := tarrylaw08_few.mono_l k
    · intro y0 y1 y2 y3
      unfold tarrylaw08_few.l0
      repeat' first
      | (with_reducible exact ih0 _ _ _ _)
      | (with_reducible exact LeO.refl _)
      | (with_reducible exact LeO.none _)
      | (with_reducible refine LeO.ite ?_ ?_)
      | (with_reducible refine LeO.bind ?_ (fun _ => ?_))
      | exact ih0 _ _ _ _
      | exact LeO.none _
      | refine LeO.ite ?_ ?_
      | refine LeO.bind ?_ (fun _ => ?_)
theorem tarrylaw08_few.mono : ∀ a0 k, LeO (tarrylaw08_few.f k a0) (tarrylaw08_few.f (k + 1) a0) := by
  intro a0 k
  have ih0 := tarrylaw08_few.mono_l k
  unfold tarrylaw08_few.f
  repeat' first
      | (with_reducible exact ih0 _ _ _ _)
      | (with_reducible exact LeO.refl _)
      | (with_reducible exact LeO.none _)
      | (with_reducible refine LeO.ite ?_ ?_)
      | (with_reducible refine LeO.bind ?_ (fun _ => ?_))
      | exact ih0 _ _ _ _
      | exact LeO.none _
      | refine LeO.ite ?_ ?_
      | refine LeO.bind ?_ (fun _ => ?_)
set_option maxHeartbeats 8000000 in
set_option maxRecDepth 100000 in
theorem tarrylaw08_few.calls (k : Nat) (A0 : Option Addr) (c0 : Nat) (l0 : List (S33)) (r : List (S33)) (w : World) (hr0 : Kd.C k33 w A0 l0.length l0) (hc0 : l0.length ≤ c0) (h : tarrylaw08_few.f k l0 = some r) :
    Calls Try.prog 6 #[.slice A0 l0.length c0] w fun e w' => ∃ v0_ : Value, e = .returned (v0_) ∧ Kd.R k33 33 w' w.heap.size (fun _ => True) v0_ r ∧ Below w.heap.size w w' := by
  have hu33 := Try.underlying33
  have HR0 := Aside0.mk hr0
  have HC0 := Aside0.mk hc0
  clear hr0 hc0
  have HB := Aside0.mk (Below.refl w.heap.size w)
  have H : (if 0 ≤ (mn (l0.length : Int) 10) then (if (mn (l0.length : Int) 10) ≤ (l0.length : Int) then ((some (l0.take ((mn (l0.length : Int) 10) : Int).toNat : List (S33))).bind fun y101 => (tarrylaw08_few.l0 k ([] : List (S33)) y101 (y101.length : Int) 0)) else (none)) else (none)) = some r := h
  clear h
  obtain ⟨ji2, hji2⟩ : ∃ j_ : Int, (mn (l0.length : Int) 10) = j_ := ⟨_, rfl⟩
  replace H : (if 0 ≤ (ji2) then (if (ji2) ≤ (l0.length : Int) then ((some (l0.take ((ji2) : Int).toNat : List (S33))).bind fun y101 => (tarrylaw08_few.l0 k ([] : List (S33)) y101 (y101.length : Int) 0)) else (none)) else (none)) = some r := by first | (rw [hji2] at H; exact H) | (simp only [hji2] at H ⊢; exact H)
  (try (have hji2h : ji2 ≤ 10 := by (rw [← hji2]; unfold mn; (repeat' split) <;> omega)))
  (try (have hji2g : ji2 ≤ 64 := by omega))
  (try (have hji2l : 0 ≤ ji2 := by (rw [← hji2]; unfold mn; (repeat' split) <;> omega)))
  (try (have hji2m : 0 ≤ ji2 := by omega))
  have hji2_ : (if 10 < (l0.length : Int) then 10 else (l0.length : Int)) = ji2 := hji2
  by_cases c3 : 0 ≤ (ji2)
  · rw [if_pos c3] at H
    have c3b0 := eq_true c3
    have c3b1 : decide (0 ≤ (ji2)) = true := decide_eq_true c3
    clear c3
    by_cases c4 : (ji2) ≤ (l0.length : Int)
    · rw [if_pos c4] at H
      have c4b0 := eq_true c4
      have c4b1 : decide ((ji2) ≤ (l0.length : Int)) = true := decide_eq_true c4
      clear c4
      obtain ⟨y101, hy101⟩ : ∃ y_ : List (S33), y_ = (l0.take ((ji2) : Int).toNat) := ⟨_, rfl⟩
      replace H : (tarrylaw08_few.l0 k ([] : List (S33)) y101 (y101.length : Int) 0) = some r := by first | (rw [hy101]; with_reducible exact H) | (have H2_ := (Option.bind_some _ _).symm.trans H; rw [hy101]; with_reducible exact H2_) | (have H2_ := (Option.bind_some _ _).symm.trans H; with_reducible exact H2_) | with_reducible exact H | (rw [hy101]; exact H) | exact H
      have Ny101 := Aside0.mk hy101
      clear hy101
      have H' := Aside0.mk H
      clear H
      have q5 : ((ji2) : Int) ≤ ((l0.length : Int) : Int) := of_decide_eq_true (by first | (with_reducible assumption) | assumption)
      obtain ⟨i05, hi05, _, hsz5, _⟩ := info_parts info33
      have hroom5 : l0.length ≤ c0 := HC0.out
      have hC5 : Kd.C k33 _ A0 l0.length l0 := HR0.out
      have hcut5 := cut_to (P := Try.prog) 22 33 .i64 Try.underlying22 hi05 A0 l0.length c0 (ji2) (of_decide_eq_true (by first | (with_reducible assumption) | assumption)) q5 hroom5
      have hr5 := Kd.C_take (m := ((ji2) : Int).toNat) hC5 (by omega)
      have hy5 : y101.length = ((ji2) : Int).toNat := (by rw [Ny101.out, List.length_take]; omega)
      rw [← Ny101.out] at hr5
      rw [← hy5] at hcut5
      have HR104 := Aside0.mk hr5
      have HC104 := Aside0.mk (show y101.length ≤ c0 from by omega)
      clear hr5 hC5 hroom5 hi05 hsz5
      have KY5 := Aside0.mk hy5
      clear hy5
      replace q5 := eq_true q5
      go_enter Try.func6, Try.ntmps6
      go_wp2
      go_loopg [3, 12] k (fun kq v3 v12 w' => ∃ (x3_1 : List (S33)) (x12_1 : Int), v12 = .int .i64 x12_1 ∧ Aside0 (tarrylaw08_few.l0 kq x3_1 y101 (y101.length : Int) x12_1 = some r) ∧ Aside0 (kq ≤ k) ∧ Aside0 (Kd.R k33 33 w' w.heap.size (fun _ => True) v3 x3_1) ∧ Aside0 (Below w.heap.size w w'))
      case atStart => exact ⟨(([] : List (S33))), (0), (by first | rfl | (simp; done) | (simp [*]; done)), H', ⟨Nat.le_refl _⟩, ⟨by first | exact Kd.R_nil _ _ _ _ _ | exact Kd.N_nil _ _ _ _ _ | exact Kd.V_nil _ _ _ _ _ | exact Kd.Q_nil _ _ _ _ _ | exact Kd.S_nil _ _ _ _ _⟩, ⟨by repeat (first | (with_reducible first | exact HB.out | apply below_alloc | apply pw_below_drewN | apply below_drew1) | exact HB.out)⟩⟩
      case round =>
        clear H'
        try clear p2
        try clear c3
        try clear c3b0
        try clear c3b1
        try clear c4
        try clear c4b0
        try clear c4b1
        try clear q5
        try clear q5
        obtain ⟨x3_1, x12_1, rfl, HA, HK1, HO_3, HB⟩ := hrel
        cases gk with
        | zero => exact absurd HA.out (by simp [tarrylaw08_few.l0])
        | succ k1 =>
          have H := HA.out
          clear HA
          simp only [tarrylaw08_few.l0] at H
          by_cases c6 : x12_1 < (y101.length : Int)
          · rw [if_pos c6] at H
            have c6b0 : decide (x12_1 < (y101.length : Int)) = true := decide_eq_true c6
            clear c6
            by_cases c7 : 0 ≤ x12_1
            · rw [if_pos c7] at H
              have c7b0 : decide (0 ≤ x12_1) = true := decide_eq_true c7
              clear c7
              by_cases c8 : x12_1 < (y101.length : Int)
              · rw [if_pos c8] at H
                have c8b0 : decide (x12_1 < (y101.length : Int)) = true := decide_eq_true c8
                clear c8
                obtain ⟨ji9, hji9⟩ : ∃ j_ : Int, (mn (((rd_T33 y101 x12_1).f0).size : Int) 18) = j_ := ⟨_, rfl⟩
                replace H : (if 0 ≤ (ji9) then (if (ji9) ≤ (((rd_T33 y101 x12_1).f0).size : Int) then (if x3_1.length < 2513169434916 then (tarrylaw08_few.l0 k1 (x3_1 ++ [(⟨((rd_T33 y101 x12_1).f0).extract 0 ((ji9) : Int).toNat, (rd_T33 y101 x12_1).f1, (rd_T33 y101 x12_1).f2, (rd_T33 y101 x12_1).f3, (rd_T33 y101 x12_1).f4, (rd_T33 y101 x12_1).f5⟩ : S33)]) y101 (y101.length : Int) (wrap64 (x12_1 + 1))) else (none)) else (none)) else (none)) = some r := by first | (rw [hji9] at H; exact H) | (simp only [hji9] at H ⊢; exact H)
                have hji9_ : (if 18 < (((rd_T33 y101 x12_1).f0).size : Int) then 18 else (((rd_T33 y101 x12_1).f0).size : Int)) = ji9 := hji9
                by_cases c10 : 0 ≤ (ji9)
                · rw [if_pos c10] at H
                  have c10b0 := eq_true c10
                  have c10b1 : decide (0 ≤ (ji9)) = true := decide_eq_true c10
                  clear c10
                  by_cases c11 : (ji9) ≤ (((rd_T33 y101 x12_1).f0).size : Int)
                  · rw [if_pos c11] at H
                    have c11b0 := eq_true c11
                    have c11b1 : decide ((ji9) ≤ (((rd_T33 y101 x12_1).f0).size : Int)) = true := decide_eq_true c11
                    clear c11
                    by_cases c12 : x3_1.length < 2513169434916
                    · rw [if_pos c12] at H
                      have LMc12 := Aside0.mk c12
                      clear c12
                      obtain ⟨y107, hy107⟩ : ∃ y_ : List (S33), y_ = (x3_1 ++ [(⟨((rd_T33 y101 x12_1).f0).extract 0 ((ji9) : Int).toNat, (rd_T33 y101 x12_1).f1, (rd_T33 y101 x12_1).f2, (rd_T33 y101 x12_1).f3, (rd_T33 y101 x12_1).f4, (rd_T33 y101 x12_1).f5⟩ : S33)]) := ⟨_, rfl⟩
                      replace H : (tarrylaw08_few.l0 k1 y107 y101 (y101.length : Int) (wrap64 (x12_1 + 1))) = some r := by first | (rw [hy107]; with_reducible exact H) | (have H2_ := (Option.bind_some _ _).symm.trans H; rw [hy107]; with_reducible exact H2_) | (have H2_ := (Option.bind_some _ _).symm.trans H; with_reducible exact H2_) | with_reducible exact H | (rw [hy107]; exact H) | exact H
                      have Ny107 := Aside0.mk hy107
                      clear hy107
                      have H' := Aside0.mk H
                      clear H
                      have p105 : 0 ≤ (x12_1 : Int) := of_decide_eq_true (by first | (with_reducible assumption) | assumption)
                      have q105 : x12_1 < (y101.length : Int) := of_decide_eq_true (by first | (with_reducible assumption) | assumption)
                      obtain ⟨ad105, e105, hx105_0, hx105_1, hx105_2, hx105_3, hx105_4, hx105_5⟩ := at_T33 HR104.out x12_1 p105 q105
                      cases e105
                      replace hx105_0 := (HB.out.cell (World.block_lt_of_cell? w _ hx105_0)).trans hx105_0
                      replace hx105_1 := (HB.out.cell (World.block_lt_of_cell? w _ hx105_1)).trans hx105_1
                      replace hx105_2 := (HB.out.cell (World.block_lt_of_cell? w _ hx105_2)).trans hx105_2
                      replace hx105_3 := (HB.out.cell (World.block_lt_of_cell? w _ hx105_3)).trans hx105_3
                      replace hx105_4 := (HB.out.cell (World.block_lt_of_cell? w _ hx105_4)).trans hx105_4
                      replace hx105_5 := (HB.out.cell (World.block_lt_of_cell? w _ hx105_5)).trans hx105_5
                      replace p105 := eq_true p105
                      replace q105 := eq_true q105
                      go_wp2_with (first | ((with_reducible refine gate_dst (N := 5) rfl ?_); refine box_event ?hg (N := 5) ?hd (cs := #[.string (⟨#[]⟩ : ByteArray), .int .i64 0, .int .i64 0, .int .i64 0, .int .i64 0, .int .i64 0]) (t := 33) ?hr ?_; (case hd => rfl); (case hg => rfl); (case hr => first | (go_simp; done) | (go_simp; rfl)); intro gb106 hg w13 hbox hb; have n0_ := Aside0.mk (Kd.R_below (Kd.R_elderB (by (with_reducible repeat (first | apply Kd.R_alloc | apply Kd.R_drewN | apply Kd.R_drew)); exact HO_3.out) gb106 (Nat.le_of_eq hg.symm)) hb); have n1_ := Aside0.mk (below_step (by repeat (first | (with_reducible first | exact HB.out | apply below_alloc | apply pw_below_drewN | apply below_drew1) | exact HB.out)) hb); have n2_ := Aside0.mk (hbox); have n3_ := Aside0.mk ((by rw [hg]; exact (below_size (by repeat (first | (with_reducible first | exact HB.out | apply below_alloc | apply pw_below_drewN | apply below_drew1) | exact HB.out))) : w.heap.size ≤ gb106)); have n4_ := Aside0.mk ((by rw [hg]; exact (below_size (by repeat (first | (with_reducible first | exact HB.out | apply below_alloc | apply pw_below_drewN | apply below_drew1) | exact HB.out))) : w.heap.size ≤ gb106)); clear HO_3; clear HB; have HO_3 := n0_; have HB := n1_; have BK106 := n2_; have GW106 := n3_; have GE106 := n4_; clear n0_ n1_ n2_ n3_ n4_; clear hb hbox hg; have hcz14_0 : w13.cell? ⟨gb106, 0, none⟩ = some (.string (⟨#[]⟩ : ByteArray)) := (blk_cell BK106.out 0).trans rfl; have hcz14_1 : w13.cell? ⟨gb106, 1, none⟩ = some (.int .i64 0) := (blk_cell BK106.out 1).trans rfl; have hcz14_2 : w13.cell? ⟨gb106, 2, none⟩ = some (.int .i64 0) := (blk_cell BK106.out 2).trans rfl; have hcz14_3 : w13.cell? ⟨gb106, 3, none⟩ = some (.int .i64 0) := (blk_cell BK106.out 3).trans rfl; have hcz14_4 : w13.cell? ⟨gb106, 4, none⟩ = some (.int .i64 0) := (blk_cell BK106.out 4).trans rfl; have hcz14_5 : w13.cell? ⟨gb106, 5, none⟩ = some (.int .i64 0) := (blk_cell BK106.out 5).trans rfl; have hfz14_0 := blk_frozen BK106.out 0; have hfz14_1 := blk_frozen BK106.out 1; have hfz14_2 := blk_frozen BK106.out 2; have hfz14_3 := blk_frozen BK106.out 3; have hfz14_4 := blk_frozen BK106.out 4; have hfz14_5 := blk_frozen BK106.out 5) | ((with_reducible refine gate_builtin (b := .append) (xs := #[.tmp 24, .tmp 26]) rfl ?_); at_builtin; refine Kd.R_append k33 (w0 := w) w.heap.size rfl (.tmp 24) (.tmp 26) 22 33 (.agg #[(.string ⟨#[]⟩), (.int .i64 0), (.int .i64 0), (.int .i64 0), (.int .i64 0), (.int .i64 0)]) 56 rfl Try.underlying22 info33 rfl (by decide) (by omega) u3 x3_1 (⟨((rd_T33 y101 x12_1).f0).extract 0 ((ji9) : Int).toNat, (rd_T33 y101 x12_1).f1, (rd_T33 y101 x12_1).f2, (rd_T33 y101 x12_1).f3, (rd_T33 y101 x12_1).f4, (rd_T33 y101 x12_1).f5⟩ : S33) [.string (((rd_T33 y101 x12_1).f0).extract 0 ((ji9) : Int).toNat), .int .i64 ((rd_T33 y101 x12_1).f1), .int .i64 ((rd_T33 y101 x12_1).f2), .int .i64 ((rd_T33 y101 x12_1).f3), .int .i64 ((rd_T33 y101 x12_1).f4), .int .i64 ((rd_T33 y101 x12_1).f5)] (fun k_ => k_ ≠ gb106) (fun _ => False) rfl (by first | (go_simp; done) | (go_simp; rfl)) ?aP (fun _ hk => hk.elim) ?aF ?aO ?aB ?aS ?aL ?_; (case aP => exact k33_mkM _ _ _ (⟨((rd_T33 y101 x12_1).f0).extract 0 ((ji9) : Int).toNat, (rd_T33 y101 x12_1).f1, (rd_T33 y101 x12_1).f2, (rd_T33 y101 x12_1).f3, (rd_T33 y101 x12_1).f4, (rd_T33 y101 x12_1).f5⟩ : S33)); (case aB => exact (by repeat (first | (with_reducible first | exact HB.out | apply below_alloc | apply pw_below_drewN | apply below_drew1 | refine below_set ?_ GE106.out) | exact HB.out))); (case aF => exact (fun k_ hk => Kd.freshB (g := gb106) (o := .cells #[.string (((rd_T33 y101 x12_1).f0).extract 0 ((ji9) : Int).toNat), .int .i64 ((rd_T33 y101 x12_1).f1), .int .i64 ((rd_T33 y101 x12_1).f2), .int .i64 ((rd_T33 y101 x12_1).f3), .int .i64 ((rd_T33 y101 x12_1).f4), .int .i64 ((rd_T33 y101 x12_1).f5)] 33 (0, 0)) (by (with_reducible repeat (first | refine blk_drewN ?_ _ | refine blk_drew ?_ | refine blk_alloc ?_ _)); refine blk_put (cs := #[.string ((rd_T33 y101 x12_1).f0), .int .i64 ((rd_T33 y101 x12_1).f1), .int .i64 ((rd_T33 y101 x12_1).f2), .int .i64 ((rd_T33 y101 x12_1).f3), .int .i64 ((rd_T33 y101 x12_1).f4), .int .i64 ((rd_T33 y101 x12_1).f5)]) ?_ 0 _ rfl; (with_reducible repeat (first | refine blk_drewN ?_ _ | refine blk_drew ?_ | refine blk_alloc ?_ _)); refine blk_put (cs := #[.string ((rd_T33 y101 x12_1).f0), .int .i64 ((rd_T33 y101 x12_1).f1), .int .i64 ((rd_T33 y101 x12_1).f2), .int .i64 ((rd_T33 y101 x12_1).f3), .int .i64 ((rd_T33 y101 x12_1).f4), .int .i64 0]) ?_ 5 _ rfl; (with_reducible repeat (first | refine blk_drewN ?_ _ | refine blk_drew ?_ | refine blk_alloc ?_ _)); refine blk_put (cs := #[.string ((rd_T33 y101 x12_1).f0), .int .i64 ((rd_T33 y101 x12_1).f1), .int .i64 ((rd_T33 y101 x12_1).f2), .int .i64 ((rd_T33 y101 x12_1).f3), .int .i64 0, .int .i64 0]) ?_ 4 _ rfl; (with_reducible repeat (first | refine blk_drewN ?_ _ | refine blk_drew ?_ | refine blk_alloc ?_ _)); refine blk_put (cs := #[.string ((rd_T33 y101 x12_1).f0), .int .i64 ((rd_T33 y101 x12_1).f1), .int .i64 ((rd_T33 y101 x12_1).f2), .int .i64 0, .int .i64 0, .int .i64 0]) ?_ 3 _ rfl; (with_reducible repeat (first | refine blk_drewN ?_ _ | refine blk_drew ?_ | refine blk_alloc ?_ _)); refine blk_put (cs := #[.string ((rd_T33 y101 x12_1).f0), .int .i64 ((rd_T33 y101 x12_1).f1), .int .i64 0, .int .i64 0, .int .i64 0, .int .i64 0]) ?_ 2 _ rfl; (with_reducible repeat (first | refine blk_drewN ?_ _ | refine blk_drew ?_ | refine blk_alloc ?_ _)); refine blk_put (cs := #[.string ((rd_T33 y101 x12_1).f0), .int .i64 0, .int .i64 0, .int .i64 0, .int .i64 0, .int .i64 0]) ?_ 1 _ rfl; (with_reducible repeat (first | refine blk_drewN ?_ _ | refine blk_drew ?_ | refine blk_alloc ?_ _)); refine blk_put (cs := #[.string (⟨#[]⟩ : ByteArray), .int .i64 0, .int .i64 0, .int .i64 0, .int .i64 0, .int .i64 0]) ?_ 0 _ rfl; (with_reducible repeat (first | refine blk_drewN ?_ _ | refine blk_drew ?_ | refine blk_alloc ?_ _)); exact BK106.out) k_ hk)); (case aO => exact (by (with_reducible repeat (first | apply Kd.R_alloc | apply Kd.R_drewN | apply Kd.R_drew)); exact Kd.R_mono (Kd.R_far (p := ⟨gb106, 0, none⟩) (Kd.R_far (p := ⟨gb106, 5, none⟩) (Kd.R_far (p := ⟨gb106, 4, none⟩) (Kd.R_far (p := ⟨gb106, 3, none⟩) (Kd.R_far (p := ⟨gb106, 2, none⟩) (Kd.R_far (p := ⟨gb106, 1, none⟩) (Kd.R_far (p := ⟨gb106, 0, none⟩) (Kd.R_mono HO_3.out (fun k_ hk => (⟨hk, hk.2⟩ : _ ∧ k_ ≠ gb106))) (fun _ hk => hk.2) (.string ((rd_T33 y101 x12_1).f0))) (fun _ hk => hk.2) (.int .i64 ((rd_T33 y101 x12_1).f1))) (fun _ hk => hk.2) (.int .i64 ((rd_T33 y101 x12_1).f2))) (fun _ hk => hk.2) (.int .i64 ((rd_T33 y101 x12_1).f3))) (fun _ hk => hk.2) (.int .i64 ((rd_T33 y101 x12_1).f4))) (fun _ hk => hk.2) (.int .i64 ((rd_T33 y101 x12_1).f5))) (fun _ hk => hk.2) (.string (((rd_T33 y101 x12_1).f0).extract 0 ((ji9) : Int).toNat))) (fun _ hk => hk.1.2))); (case aS => exact (below_size (by repeat (first | (with_reducible first | exact HB.out | apply below_alloc | apply pw_below_drewN | apply below_drew1 | refine below_set ?_ GE106.out) | exact HB.out)))); (case aL => have := LMc12.out; omega); intro v108 w15 ho hb hg hat; rw [← Ny107.out] at ho; have n0_ := Aside0.mk (blk_grown (g := gb106) (o := .cells #[.string (((rd_T33 y101 x12_1).f0).extract 0 ((ji9) : Int).toNat), .int .i64 ((rd_T33 y101 x12_1).f1), .int .i64 ((rd_T33 y101 x12_1).f2), .int .i64 ((rd_T33 y101 x12_1).f3), .int .i64 ((rd_T33 y101 x12_1).f4), .int .i64 ((rd_T33 y101 x12_1).f5)] 33 (0, 0)) (by (with_reducible repeat (first | refine blk_drewN ?_ _ | refine blk_drew ?_ | refine blk_alloc ?_ _)); refine blk_put (cs := #[.string ((rd_T33 y101 x12_1).f0), .int .i64 ((rd_T33 y101 x12_1).f1), .int .i64 ((rd_T33 y101 x12_1).f2), .int .i64 ((rd_T33 y101 x12_1).f3), .int .i64 ((rd_T33 y101 x12_1).f4), .int .i64 ((rd_T33 y101 x12_1).f5)]) ?_ 0 _ rfl; (with_reducible repeat (first | refine blk_drewN ?_ _ | refine blk_drew ?_ | refine blk_alloc ?_ _)); refine blk_put (cs := #[.string ((rd_T33 y101 x12_1).f0), .int .i64 ((rd_T33 y101 x12_1).f1), .int .i64 ((rd_T33 y101 x12_1).f2), .int .i64 ((rd_T33 y101 x12_1).f3), .int .i64 ((rd_T33 y101 x12_1).f4), .int .i64 0]) ?_ 5 _ rfl; (with_reducible repeat (first | refine blk_drewN ?_ _ | refine blk_drew ?_ | refine blk_alloc ?_ _)); refine blk_put (cs := #[.string ((rd_T33 y101 x12_1).f0), .int .i64 ((rd_T33 y101 x12_1).f1), .int .i64 ((rd_T33 y101 x12_1).f2), .int .i64 ((rd_T33 y101 x12_1).f3), .int .i64 0, .int .i64 0]) ?_ 4 _ rfl; (with_reducible repeat (first | refine blk_drewN ?_ _ | refine blk_drew ?_ | refine blk_alloc ?_ _)); refine blk_put (cs := #[.string ((rd_T33 y101 x12_1).f0), .int .i64 ((rd_T33 y101 x12_1).f1), .int .i64 ((rd_T33 y101 x12_1).f2), .int .i64 0, .int .i64 0, .int .i64 0]) ?_ 3 _ rfl; (with_reducible repeat (first | refine blk_drewN ?_ _ | refine blk_drew ?_ | refine blk_alloc ?_ _)); refine blk_put (cs := #[.string ((rd_T33 y101 x12_1).f0), .int .i64 ((rd_T33 y101 x12_1).f1), .int .i64 0, .int .i64 0, .int .i64 0, .int .i64 0]) ?_ 2 _ rfl; (with_reducible repeat (first | refine blk_drewN ?_ _ | refine blk_drew ?_ | refine blk_alloc ?_ _)); refine blk_put (cs := #[.string ((rd_T33 y101 x12_1).f0), .int .i64 0, .int .i64 0, .int .i64 0, .int .i64 0, .int .i64 0]) ?_ 1 _ rfl; (with_reducible repeat (first | refine blk_drewN ?_ _ | refine blk_drew ?_ | refine blk_alloc ?_ _)); refine blk_put (cs := #[.string (⟨#[]⟩ : ByteArray), .int .i64 0, .int .i64 0, .int .i64 0, .int .i64 0, .int .i64 0]) ?_ 0 _ rfl; (with_reducible repeat (first | refine blk_drewN ?_ _ | refine blk_drew ?_ | refine blk_alloc ?_ _)); exact BK106.out) hg (Kd.R_away HO_3.out (fun _ hk => hk.2))); have n1_ := Aside0.mk (hb); have n2_ := Aside0.mk (ho); clear BK106; clear HB; clear HO_3; have BK106 := n0_; have HB := n1_; have HO109 := n2_; clear n0_ n1_ n2_; clear ho hb hg hat))
                      go_roundg k1
                      case measure => have := HK1.out; omega
                      case rel => exact ⟨(y107), (wrap64 (x12_1 + 1)), (by first | rfl | (simp; done) | (simp [*]; done)), H', ⟨by have := HK1.out; omega⟩, ⟨by (with_reducible repeat (first | apply Kd.R_alloc | apply Kd.R_drewN | apply Kd.R_drew)); exact Kd.R_mono HO109.out (fun _ hk => trivial)⟩, ⟨by repeat (first | (with_reducible first | exact HB.out | apply below_alloc | apply pw_below_drewN | apply below_drew1 | refine below_set ?_ GE106.out) | exact HB.out)⟩⟩
                    · rw [if_neg c12] at H
                      exact absurd H (by simp)
                  · rw [if_neg c11] at H
                    exact absurd H (by simp)
                · rw [if_neg c10] at H
                  exact absurd H (by simp)
              · rw [if_neg c8] at H
                exact absurd H (by simp)
            · rw [if_neg c7] at H
              exact absurd H (by simp)
          · rw [if_neg c6] at H
            have c6b0 : decide (x12_1 < (y101.length : Int)) = false := decide_eq_false c6
            clear c6
            obtain rfl := Option.some.inj H
            go_wp2
            go_ret
            exact ⟨_, by first | rfl | (simp [errW_none, errW_some] <;> rfl) | (simp only [← hji2]; first | rfl | (simp [errW_none, errW_some] <;> rfl)) | (simp [*, errW_none, errW_some] <;> rfl), by (with_reducible repeat (first | apply Kd.R_alloc | apply Kd.R_drewN | apply Kd.R_drew)); exact HO_3.out, by repeat (first | (with_reducible first | exact HB.out | apply below_alloc | apply pw_below_drewN | apply below_drew1) | exact HB.out)⟩
    · rw [if_neg c4] at H
      exact absurd H (by simp)
  · rw [if_neg c3] at H
    exact absurd H (by simp)

/-! ### api_Sub_59: function 59 (by hand) -/


/-! ### api_Sub_47: function 47 (by hand) -/
set_option maxHeartbeats 2000000 in
theorem slices_sub_IndexFunc.calls (p : S69 → Bool) (g : Nat) (lb : Array Value) (eg : ∀ args w, (callFunc g args).run Try.prog w = .ok (.enter g args) w) (A0 : Option Addr) (c0 : Nat) (l0 : List S69) (w : World)
    (hr0 : Kd.C k69 w A0 l0.length l0) (hp : PredB Try.prog g lb (fun x_ : S69 => Value.agg #[.string x_.f0, .string x_.f1, .int .i64 x_.f2, .int .i64 x_.f3, .int .i64 x_.f4]) p l0 w) :
    Calls Try.prog 59 #[.slice A0 l0.length c0, .func (.func g) #[] lb] w fun e w' => e = .returned (.int .i64 (idxP p l0)) ∧ Below w.heap.size w w' := by
  have hu69 := Try.underlying69
  have HR0 := Aside0.mk hr0
  have HP := Aside0.mk hp
  clear hr0 hp
  have hlen : l0.length ≤ 9223372036854775807 := HR0.out.2.1
  go_enter Try.func59, Try.ntmps59
  go_wp2
  go_loopg [5, 8] l0.length (fun gg _ s8 wr => ∃ kk : Nat, kk ≤ l0.length ∧ l0.length - kk ≤ gg ∧ s8 = .int .i64 kk ∧ Aside0 (Below w.heap.size w wr) ∧ Aside0 (∀ j (hj : j < l0.length), j < kk → p l0[j] = false))
  case atStart => exact ⟨0, Nat.zero_le _, by omega, rfl, ⟨Below.refl _ w⟩, ⟨fun j _ hj => absurd hj (Nat.not_lt_zero _)⟩⟩
  case round =>
    obtain ⟨kk, hkk, hg, rfl, BW, A⟩ := hrel
    by_cases hlt : kk < l0.length
    · have hltz : (kk : Int) < (l0.length : Int) := by omega
      obtain ⟨ad, e0, hx0, hx1, hx2, hx3, hx4⟩ := at_T69 HR0.out (kk : Int) (by omega) hltz
      subst e0
      replace hx0 := (BW.out.cell (World.block_lt_of_cell? w _ hx0)).trans hx0
      replace hx1 := (BW.out.cell (World.block_lt_of_cell? w _ hx1)).trans hx1
      replace hx2 := (BW.out.cell (World.block_lt_of_cell? w _ hx2)).trans hx2
      replace hx3 := (BW.out.cell (World.block_lt_of_cell? w _ hx3)).trans hx3
      replace hx4 := (BW.out.cell (World.block_lt_of_cell? w _ hx4)).trans hx4
      have hcall := HP.out wr (rd_T69 l0 (kk : Int)) (by rw [show rd_T69 l0 (kk : Int) = l0[kk] from getD_get _ l0 kk hlt]; exact List.getElem_mem hlt) BW.out
      simp only [Int.toNat_natCast] at hx0 hx1 hx2 hx3 hx4
      generalize hy : rd_T69 l0 (kk : Int) = y at hx0 hx1 hx2 hx3 hx4 hcall
      have Y : Aside0 (l0[kk] = y) := ⟨(getD_get _ l0 kk hlt).symm.trans hy⟩
      clear hy
      cases hq : p y with
      | true =>
        rw [hq] at hcall
        have Q := Aside0.mk hq
        clear hq
        go_wp2_with (go_at_fn g; refine hcall.mono ?_; rintro e w' ⟨rfl, hb'⟩)
        go_ret
        refine ⟨?_, below_step BW.out hb'⟩
        rw [idxP_hit p l0 kk hlt (by rw [Y.out]; exact Q.out) (fun j hj => A.out j (by omega) hj)]
        rfl
      | false =>
        rw [hq] at hcall
        have Q := Aside0.mk hq
        clear hq
        go_wp2_with (go_at_fn g; refine hcall.mono ?_; rintro e w' ⟨rfl, hb'⟩)
        go_roundg (l0.length - (kk + 1))
        case measure => omega
        case rel =>
          refine ⟨kk + 1, by omega, by omega, by go_num, ⟨below_step BW.out hb'⟩, ⟨fun j hj hjk => ?_⟩⟩
          by_cases e : j = kk
          · subst e
            rw [Y.out]; exact Q.out
          · exact A.out j hj (by omega)
    · have hltz : ¬ (kk : Int) < (l0.length : Int) := by omega
      have E0 : kk = l0.length := by omega
      subst E0
      go_wp2
      go_ret
      refine ⟨?_, BW.out⟩
      rw [idxP_miss p l0 (fun j hj => A.out j hj hj)]
      rfl
set_option maxHeartbeats 2000000 in
theorem slices_sub_ContainsFunc.calls (p : S69 → Bool) (g : Nat) (lb : Array Value) (eg : ∀ args w, (callFunc g args).run Try.prog w = .ok (.enter g args) w) (A0 : Option Addr) (c0 : Nat) (l0 : List S69) (w : World)
    (hr0 : Kd.C k69 w A0 l0.length l0) (hp : PredB Try.prog g lb (fun x_ : S69 => Value.agg #[.string x_.f0, .string x_.f1, .int .i64 x_.f2, .int .i64 x_.f3, .int .i64 x_.f4]) p l0 w) :
    Calls Try.prog 47 #[.slice A0 l0.length c0, .func (.func g) #[] lb] w fun e w' => e = .returned (.bool (l0.any p)) ∧ Below w.heap.size w w' := by
  have H := slices_sub_IndexFunc.calls p g lb eg A0 c0 l0 w hr0 hp
  have E := Aside0.mk (idxP_any p l0)
  clear hr0 hp
  generalize idxP p l0 = x at H E
  go_enter Try.func47, Try.ntmps47
  go_wp2_with (go_at_call 59; refine H.mono ?_; rintro e w' ⟨rfl, hb⟩)
  go_ret
  refine ⟨?_, hb⟩
  rw [← E.out]
  rfl

/-! ### goods_name_1: function 63 -/
def goods_name_1.f (a0 : Int) : Option (Bool) := if a0 < 97 then (if a0 < 48 then (some true) else (some (decide (a0 > 57)))) else (if a0 > 122 then (if a0 < 48 then (some true) else (some (decide (a0 > 57)))) else (some false))
set_option maxHeartbeats 8000000 in
set_option maxRecDepth 100000 in
theorem goods_name_1.calls (a0 : Int) (r : Bool) (w : World) (h : goods_name_1.f a0 = some r) :
    Calls Try.prog 63 #[.int .u8 a0] w fun e w' => e = .returned (.bool r) ∧ Drawn0 w w' := by
  have H : (if a0 < 97 then (if a0 < 48 then (some true) else (some (decide (a0 > 57)))) else (if a0 > 122 then (if a0 < 48 then (some true) else (some (decide (a0 > 57)))) else (some false))) = some r := h
  clear h
  by_cases c2 : a0 < 97
  · rw [if_pos c2] at H
    have c2b0 : decide (a0 < 97) = true := decide_eq_true c2
    clear c2
    by_cases c3 : a0 < 48
    · rw [if_pos c3] at H
      have c3b0 : decide (a0 < 48) = true := decide_eq_true c3
      clear c3
      obtain rfl := Option.some.inj H
      go_enter Try.func63, Try.ntmps63
      go_wp2
      go_ret
      exact ⟨by first | rfl | (simp; done) | (simp [*]; done), by repeat (first | exact Drawn0.refl _ | apply Drawn0.step)⟩
    · rw [if_neg c3] at H
      have c3b0 : decide (a0 < 48) = false := decide_eq_false c3
      clear c3
      obtain rfl := Option.some.inj H
      go_enter Try.func63, Try.ntmps63
      go_wp2
      go_ret
      exact ⟨by first | rfl | (simp; done) | (simp [*]; done), by repeat (first | exact Drawn0.refl _ | apply Drawn0.step)⟩
  · rw [if_neg c2] at H
    have c2b0 : decide (a0 < 97) = false := decide_eq_false c2
    clear c2
    by_cases c4 : a0 > 122
    · rw [if_pos c4] at H
      have c4b0 : decide (122 < a0) = true := decide_eq_true c4
      clear c4
      by_cases c5 : a0 < 48
      · rw [if_pos c5] at H
        have c5b0 : decide (a0 < 48) = true := decide_eq_true c5
        clear c5
        obtain rfl := Option.some.inj H
        go_enter Try.func63, Try.ntmps63
        go_wp2
        go_ret
        exact ⟨by first | rfl | (simp; done) | (simp [*]; done), by repeat (first | exact Drawn0.refl _ | apply Drawn0.step)⟩
      · rw [if_neg c5] at H
        have c5b0 : decide (a0 < 48) = false := decide_eq_false c5
        clear c5
        obtain rfl := Option.some.inj H
        go_enter Try.func63, Try.ntmps63
        go_wp2
        go_ret
        exact ⟨by first | rfl | (simp; done) | (simp [*]; done), by repeat (first | exact Drawn0.refl _ | apply Drawn0.step)⟩
    · rw [if_neg c4] at H
      have c4b0 : decide (122 < a0) = false := decide_eq_false c4
      clear c4
      obtain rfl := Option.some.inj H
      go_enter Try.func63, Try.ntmps63
      go_wp2
      go_ret
      exact ⟨by first | rfl | (simp; done) | (simp [*]; done), by repeat (first | exact Drawn0.refl _ | apply Drawn0.step)⟩

/-! ### slices_IndexFunc_byte_byte: function 68 (by hand) -/


/-! ### slices_ContainsFunc_byte_byte: function 64 (by hand) -/
set_option maxHeartbeats 2000000 in
theorem slices_u8_IndexFunc.calls (p : Int → Bool) (g : Nat) (lb : Array Value) (eg : ∀ args w, (callFunc g args).run Try.prog w = .ok (.enter g args) w) (A0 : Option Addr) (c0 : Nat) (l0 : List Int) (w : World)
    (hr0 : Kd.C (Kd.int .u8) w A0 l0.length l0) (hp : PredB Try.prog g lb (Value.int .u8) p l0 w) :
    Calls Try.prog 68 #[.slice A0 l0.length c0, .func (.func g) #[] lb] w fun e w' => e = .returned (.int .i64 (idxP p l0)) ∧ Below w.heap.size w w' := by
  have HR0 := Aside0.mk hr0
  have HP := Aside0.mk hp
  clear hr0 hp
  have hlen : l0.length ≤ 9223372036854775807 := HR0.out.2.1
  go_enter Try.func68, Try.ntmps68
  go_wp2
  go_loopg [5, 8] l0.length (fun gg _ s8 wr => ∃ kk : Nat, kk ≤ l0.length ∧ l0.length - kk ≤ gg ∧ s8 = .int .i64 kk ∧ Aside0 (Below w.heap.size w wr) ∧ Aside0 (∀ j (hj : j < l0.length), j < kk → p l0[j] = false))
  case atStart => exact ⟨0, Nat.zero_le _, by omega, rfl, ⟨Below.refl _ w⟩, ⟨fun j _ hj => absurd hj (Nat.not_lt_zero _)⟩⟩
  case round =>
    obtain ⟨kk, hkk, hg, rfl, BW, A⟩ := hrel
    by_cases hlt : kk < l0.length
    · have hltz : (kk : Int) < (l0.length : Int) := by omega
      obtain ⟨ad, e0, hx0⟩ := at_int HR0.out (kk : Int) (by omega) hltz
      subst e0
      replace hx0 := (BW.out.cell (World.block_lt_of_cell? w _ hx0)).trans hx0
      have hcall := HP.out wr (rd l0 (kk : Int)) (by rw [show rd l0 (kk : Int) = l0[kk] from getD_get _ l0 kk hlt]; exact List.getElem_mem hlt) BW.out
      simp only [Int.toNat_natCast] at hx0
      generalize hy : rd l0 (kk : Int) = y at hx0 hcall
      have Y : Aside0 (l0[kk] = y) := ⟨(getD_get _ l0 kk hlt).symm.trans hy⟩
      clear hy
      cases hq : p y with
      | true =>
        rw [hq] at hcall
        have Q := Aside0.mk hq
        clear hq
        go_wp2_with (go_at_fn g; refine hcall.mono ?_; rintro e w' ⟨rfl, hb'⟩)
        go_ret
        refine ⟨?_, below_step BW.out hb'⟩
        rw [idxP_hit p l0 kk hlt (by rw [Y.out]; exact Q.out) (fun j hj => A.out j (by omega) hj)]
        rfl
      | false =>
        rw [hq] at hcall
        have Q := Aside0.mk hq
        clear hq
        go_wp2_with (go_at_fn g; refine hcall.mono ?_; rintro e w' ⟨rfl, hb'⟩)
        go_roundg (l0.length - (kk + 1))
        case measure => omega
        case rel =>
          refine ⟨kk + 1, by omega, by omega, by go_num, ⟨below_step BW.out hb'⟩, ⟨fun j hj hjk => ?_⟩⟩
          by_cases e : j = kk
          · subst e
            rw [Y.out]; exact Q.out
          · exact A.out j hj (by omega)
    · have hltz : ¬ (kk : Int) < (l0.length : Int) := by omega
      have E0 : kk = l0.length := by omega
      subst E0
      go_wp2
      go_ret
      refine ⟨?_, BW.out⟩
      rw [idxP_miss p l0 (fun j hj => A.out j hj hj)]
      rfl
set_option maxHeartbeats 2000000 in
theorem slices_u8_ContainsFunc.calls (p : Int → Bool) (g : Nat) (lb : Array Value) (eg : ∀ args w, (callFunc g args).run Try.prog w = .ok (.enter g args) w) (A0 : Option Addr) (c0 : Nat) (l0 : List Int) (w : World)
    (hr0 : Kd.C (Kd.int .u8) w A0 l0.length l0) (hp : PredB Try.prog g lb (Value.int .u8) p l0 w) :
    Calls Try.prog 64 #[.slice A0 l0.length c0, .func (.func g) #[] lb] w fun e w' => e = .returned (.bool (l0.any p)) ∧ Below w.heap.size w w' := by
  have H := slices_u8_IndexFunc.calls p g lb eg A0 c0 l0 w hr0 hp
  have E := Aside0.mk (idxP_any p l0)
  clear hr0 hp
  generalize idxP p l0 = x at H E
  go_enter Try.func64, Try.ntmps64
  go_wp2_with (go_at_call 68; refine H.mono ?_; rintro e w' ⟨rfl, hb⟩)
  go_ret
  refine ⟨?_, hb⟩
  rw [← E.out]
  rfl

/-! ### goods_name: function 53 (by hand) -/
def goods_name.f (a0 : ByteArray) : Option Bool := some (nameOk a0)
theorem goods_name_odd (x : Int) : goods_name_1.f x = some (!okc x) := by
  unfold goods_name_1.f okc
  by_cases h1 : x < 97 <;> by_cases h2 : x > 122 <;> by_cases h3 : x < 48 <;> by_cases h4 : x > 57 <;> simp [h1, h2, h3, h4] <;> omega
set_option maxHeartbeats 2000000 in
theorem goods_name.calls (a0 : ByteArray) (r : Bool) (w : World) (h : goods_name.f a0 = some r) :
    Calls Try.prog 53 #[.string a0] w fun e w' => e = .returned (.bool r) ∧ Below w.heap.size w w' := by
  obtain rfl := Option.some.inj h
  clear h
  have kb := fun W => print_bytes (P := Try.prog) 9 83 5 Try.underlying9 Try.underlying83 Try.underlying5 a0 W
  by_cases h1 : a0.toList = []
  · have e1 : nameOk a0 = false := by simp [nameOk, h1]
    rw [e1]
    go_enter Try.func53, Try.ntmps53
    go_wp2
    go_ret
    exact ⟨rfl, Below.refl _ _⟩
  · have h1b : a0.toList.isEmpty = false := by simpa using h1
    by_cases h2 : a0.size ≤ 16
    · have e1 : nameOk a0 = !((bytesOf a0).any fun x => !okc x) := by simp [nameOk, h1, h2, List.all_eq_not_any_not]
      rw [e1]
      have E : Aside0 ((bytesOf a0).length = a0.size) := ⟨bytesOf_length a0⟩
      have HC : ∀ (W : World) c0, Below w.heap.size w W → Calls Try.prog 64 #[.slice (some ⟨W.heap.size, 0, none⟩) a0.size c0, .func (.func 63) #[] #[]] (Lib.bytesWorld W 5 a0) fun e w' => e = .returned (.bool ((bytesOf a0).any fun x => !okc x)) ∧ Below w.heap.size w w' := by
        intro W c0 hW
        have hr := bytes_reads W 5 a0 (by omega)
        rw [← E.out] at hr
        have := slices_u8_ContainsFunc.calls (fun x => !okc x) 63 #[] (enters_of Try.func63 (by kernel_rfl) rfl) (some ⟨W.heap.size, 0, none⟩) c0 (bytesOf a0) (Lib.bytesWorld W 5 a0) (Kd.C_of_reads (d := (0 : Int)) (h1 := fun _ => rfl) hr) (fun W' x _ hb => (goods_name_1.calls x _ W' (goods_name_odd x)).mono fun e w' ⟨he, hd⟩ => ⟨he, hd.below⟩)
        rw [E.out] at this
        exact this.mono fun e w' ⟨he, hb⟩ => ⟨he, below_step (bytes_below hW hW.size _ _) hb⟩
      have HC := Aside0.mk HC
      clear e1
      go_enter Try.func53, Try.ntmps53
      go_wp2_with (go_at_call 64; refine (HC.out _ _ (Below.refl _ _)).mono ?_; rintro e w' ⟨rfl, hb⟩)
      go_ret
      exact ⟨rfl, hb⟩
    · have e1 : nameOk a0 = false := by simp [nameOk, h2]
      rw [e1]
      go_enter Try.func53, Try.ntmps53
      go_wp2
      go_ret
      exact ⟨rfl, Below.refl _ _⟩


/-! ### goods_in: function 60 -/
def goods_in.f (a0 : Int) (a1 : Int) : Option (Bool) := if a0 ≥ 1 then (some (decide (a0 ≤ a1))) else (some false)
set_option maxHeartbeats 8000000 in
set_option maxRecDepth 100000 in
theorem goods_in.calls (a0 : Int) (a1 : Int) (r : Bool) (w : World) (h : goods_in.f a0 a1 = some r) :
    Calls Try.prog 60 #[.int .i64 a0, .int .i64 a1] w fun e w' => e = .returned (.bool r) ∧ Drawn0 w w' := by
  have H : (if a0 ≥ 1 then (some (decide (a0 ≤ a1))) else (some false)) = some r := h
  clear h
  by_cases c3 : a0 ≥ 1
  · rw [if_pos c3] at H
    have c3b0 : decide (1 ≤ a0) = true := decide_eq_true c3
    clear c3
    obtain rfl := Option.some.inj H
    go_enter Try.func60, Try.ntmps60
    go_wp2
    go_ret
    exact ⟨by first | rfl | (simp; done) | (simp [*]; done), by repeat (first | exact Drawn0.refl _ | apply Drawn0.step)⟩
  · rw [if_neg c3] at H
    have c3b0 : decide (1 ≤ a0) = false := decide_eq_false c3
    clear c3
    obtain rfl := Option.some.inj H
    go_enter Try.func60, Try.ntmps60
    go_wp2
    go_ret
    exact ⟨by first | rfl | (simp; done) | (simp [*]; done), by repeat (first | exact Drawn0.refl _ | apply Drawn0.step)⟩

/-! ### goods_may: function 49 -/
def goods_may.f (a0_0 : ByteArray) (a0_1 : ByteArray) (a0_2 : Int) (a0_3 : Int) (a0_4 : Int) : Option (Bool) := (goods_name.f a0_0).bind fun t111 => (if t111 = true then ((goods_name.f a0_1).bind fun t112 => (if t112 = true then (if a0_0.toList = a0_1.toList then (some false) else ((goods_in.f a0_2 9).bind fun t113 => (if t113 = true then ((goods_in.f a0_3 100).bind fun t114 => (if t114 = true then ((goods_in.f a0_4 100).bind fun t115 => (some t115)) else (some false))) else (some false)))) else (some false))) else (some false))
set_option maxHeartbeats 8000000 in
set_option maxRecDepth 100000 in
theorem goods_may.calls (a0_0 : ByteArray) (a0_1 : ByteArray) (a0_2 : Int) (a0_3 : Int) (a0_4 : Int) (r : Bool) (w : World) (h : goods_may.f a0_0 a0_1 a0_2 a0_3 a0_4 = some r) :
    Calls Try.prog 49 #[.agg #[.string a0_0, .string a0_1, .int .i64 a0_2, .int .i64 a0_3, .int .i64 a0_4]] w fun e w' => e = .returned (.bool r) ∧ Below w.heap.size w w' := by
  have hu69 := Try.underlying69
  have HB := Aside0.mk (Below.refl w.heap.size w)
  have H : ((goods_name.f a0_0).bind fun t111 => (if t111 = true then ((goods_name.f a0_1).bind fun t112 => (if t112 = true then (if a0_0.toList = a0_1.toList then (some false) else ((goods_in.f a0_2 9).bind fun t113 => (if t113 = true then ((goods_in.f a0_3 100).bind fun t114 => (if t114 = true then ((goods_in.f a0_4 100).bind fun t115 => (some t115)) else (some false))) else (some false)))) else (some false))) else (some false))) = some r := h
  clear h
  replace H := Option.bind_eq_some_iff.mp H
  obtain ⟨t111, A20, H⟩ := H
  replace H : (if t111 = true then ((goods_name.f a0_1).bind fun t112 => (if t112 = true then (if a0_0.toList = a0_1.toList then (some false) else ((goods_in.f a0_2 9).bind fun t113 => (if t113 = true then ((goods_in.f a0_3 100).bind fun t114 => (if t114 = true then ((goods_in.f a0_4 100).bind fun t115 => (some t115)) else (some false))) else (some false)))) else (some false))) else (some false)) = some r := H
  have A2 := Aside0.mk A20
  clear A20
  by_cases c3 : t111 = true
  · subst c3
    have H1 : ((goods_name.f a0_1).bind fun t112 => (if t112 = true then (if a0_0.toList = a0_1.toList then (some false) else ((goods_in.f a0_2 9).bind fun t113 => (if t113 = true then ((goods_in.f a0_3 100).bind fun t114 => (if t114 = true then ((goods_in.f a0_4 100).bind fun t115 => (some t115)) else (some false))) else (some false)))) else (some false))) = some r := by rw [if_pos rfl] at H; exact H
    clear H
    have H := H1
    clear H1
    replace H := Option.bind_eq_some_iff.mp H
    obtain ⟨t112, A40, H⟩ := H
    replace H : (if t112 = true then (if a0_0.toList = a0_1.toList then (some false) else ((goods_in.f a0_2 9).bind fun t113 => (if t113 = true then ((goods_in.f a0_3 100).bind fun t114 => (if t114 = true then ((goods_in.f a0_4 100).bind fun t115 => (some t115)) else (some false))) else (some false)))) else (some false)) = some r := H
    have A4 := Aside0.mk A40
    clear A40
    by_cases c5 : t112 = true
    · subst c5
      have H1 : (if a0_0.toList = a0_1.toList then (some false) else ((goods_in.f a0_2 9).bind fun t113 => (if t113 = true then ((goods_in.f a0_3 100).bind fun t114 => (if t114 = true then ((goods_in.f a0_4 100).bind fun t115 => (some t115)) else (some false))) else (some false)))) = some r := by rw [if_pos rfl] at H; exact H
      clear H
      have H := H1
      clear H1
      by_cases c6 : a0_0.toList = a0_1.toList
      · rw [if_pos c6] at H
        have c6b0 : (a0_0.toList == a0_1.toList) = true := beq_iff_eq.mpr c6
        have c6b1 : (a0_0.toList != a0_1.toList) = false := bne_eq_false_iff_eq.mpr c6
        clear c6
        obtain rfl := Option.some.inj H
        go_enter Try.func49, Try.ntmps49
        go_wp2_with (first | ((with_reducible refine gate_dst (N := 1) rfl ?_); refine box_event ?hg (N := 1) ?hd (cs := #[.string a0_0, .string a0_1, .int .i64 a0_2, .int .i64 a0_3, .int .i64 a0_4]) (t := 69) ?hr ?_; (case hd => rfl); (case hg => rfl); (case hr => first | (go_simp; done) | (go_simp; rfl)); intro gb110 hg w7 hbox hb; have n0_ := Aside0.mk (below_step (by repeat (first | (with_reducible first | exact HB.out | apply below_alloc | apply pw_below_drewN | apply below_drew1) | exact HB.out)) hb); have n1_ := Aside0.mk (hbox); have n2_ := Aside0.mk ((by rw [hg]; exact (below_size (by repeat (first | (with_reducible first | exact HB.out | apply below_alloc | apply pw_below_drewN | apply below_drew1) | exact HB.out))) : w.heap.size ≤ gb110)); have n3_ := Aside0.mk ((by rw [hg]; exact (below_size (by repeat (first | (with_reducible first | exact HB.out | apply below_alloc | apply pw_below_drewN | apply below_drew1) | exact HB.out))) : w.heap.size ≤ gb110)); clear HB; have HB := n0_; have BK110 := n1_; have GW110 := n2_; have GE110 := n3_; clear n0_ n1_ n2_ n3_; clear hb hbox hg; have hcz8_0 : w7.cell? ⟨gb110, 0, none⟩ = some (.string a0_0) := (blk_cell BK110.out 0).trans rfl; have hcz8_1 : w7.cell? ⟨gb110, 1, none⟩ = some (.string a0_1) := (blk_cell BK110.out 1).trans rfl; have hcz8_2 : w7.cell? ⟨gb110, 2, none⟩ = some (.int .i64 a0_2) := (blk_cell BK110.out 2).trans rfl; have hcz8_3 : w7.cell? ⟨gb110, 3, none⟩ = some (.int .i64 a0_3) := (blk_cell BK110.out 3).trans rfl; have hcz8_4 : w7.cell? ⟨gb110, 4, none⟩ = some (.int .i64 a0_4) := (blk_cell BK110.out 4).trans rfl; have hfz8_0 := blk_frozen BK110.out 0; have hfz8_1 := blk_frozen BK110.out 1; have hfz8_2 := blk_frozen BK110.out 2; have hfz8_3 := blk_frozen BK110.out 3; have hfz8_4 := blk_frozen BK110.out 4) | ((with_reducible refine gate_callee (f := 53) rfl ?_); refine goesL_ (some 5) rfl rfl Try.func53 (by kernel_rfl) rfl #[.string a0_0] rfl (by (try simp only [List.map_toArray, List.map_cons, List.map_nil]); first | done | rfl | (simp only [List.length_drop, List.length_take]; rfl)) ?_; (with_reducible refine (goods_name.calls a0_0 true _ A2.out).mono ?_); rintro e w9 ⟨rfl, hb⟩; refine ⟨_, rfl, ?_⟩; have n0_ := Aside0.mk (blk_below (g := gb110) (o := .cells #[.string a0_0, .string a0_1, .int .i64 a0_2, .int .i64 a0_3, .int .i64 a0_4] 69 (0, 0)) (by (with_reducible repeat (first | refine blk_drewN ?_ _ | refine blk_drew ?_ | refine blk_alloc ?_ _)); exact BK110.out) hb); have n1_ := Aside0.mk (below_step (by repeat (first | (with_reducible first | exact HB.out | apply below_alloc | apply pw_below_drewN | apply below_drew1 | refine below_set ?_ GE110.out) | exact HB.out)) hb); clear BK110; clear HB; have BK110 := n0_; have HB := n1_; clear n0_ n1_; (try clear hb); (try clear hb2); (try clear hk); (try clear hi); have hcz10_0 : w9.cell? ⟨gb110, 0, none⟩ = some (.string a0_0) := (blk_cell BK110.out 0).trans rfl; have hcz10_1 : w9.cell? ⟨gb110, 1, none⟩ = some (.string a0_1) := (blk_cell BK110.out 1).trans rfl; have hcz10_2 : w9.cell? ⟨gb110, 2, none⟩ = some (.int .i64 a0_2) := (blk_cell BK110.out 2).trans rfl; have hcz10_3 : w9.cell? ⟨gb110, 3, none⟩ = some (.int .i64 a0_3) := (blk_cell BK110.out 3).trans rfl; have hcz10_4 : w9.cell? ⟨gb110, 4, none⟩ = some (.int .i64 a0_4) := (blk_cell BK110.out 4).trans rfl; have hfz10_0 := blk_frozen BK110.out 0; have hfz10_1 := blk_frozen BK110.out 1; have hfz10_2 := blk_frozen BK110.out 2; have hfz10_3 := blk_frozen BK110.out 3; have hfz10_4 := blk_frozen BK110.out 4) | (go_at_call 53; (with_reducible refine (goods_name.calls a0_1 true _ A4.out).mono ?_); rintro e w11 ⟨rfl, hb⟩; have n0_ := Aside0.mk (blk_below (g := gb110) (o := .cells #[.string a0_0, .string a0_1, .int .i64 a0_2, .int .i64 a0_3, .int .i64 a0_4] 69 (0, 0)) (by (with_reducible repeat (first | refine blk_drewN ?_ _ | refine blk_drew ?_ | refine blk_alloc ?_ _)); exact BK110.out) hb); have n1_ := Aside0.mk (below_step (by repeat (first | (with_reducible first | exact HB.out | apply below_alloc | apply pw_below_drewN | apply below_drew1 | refine below_set ?_ GE110.out) | exact HB.out)) hb); clear BK110; clear HB; have BK110 := n0_; have HB := n1_; clear n0_ n1_; (try clear hb); (try clear hb2); (try clear hk); (try clear hi); have hcz12_0 : w11.cell? ⟨gb110, 0, none⟩ = some (.string a0_0) := (blk_cell BK110.out 0).trans rfl; have hcz12_1 : w11.cell? ⟨gb110, 1, none⟩ = some (.string a0_1) := (blk_cell BK110.out 1).trans rfl; have hcz12_2 : w11.cell? ⟨gb110, 2, none⟩ = some (.int .i64 a0_2) := (blk_cell BK110.out 2).trans rfl; have hcz12_3 : w11.cell? ⟨gb110, 3, none⟩ = some (.int .i64 a0_3) := (blk_cell BK110.out 3).trans rfl; have hcz12_4 : w11.cell? ⟨gb110, 4, none⟩ = some (.int .i64 a0_4) := (blk_cell BK110.out 4).trans rfl; have hfz12_0 := blk_frozen BK110.out 0; have hfz12_1 := blk_frozen BK110.out 1; have hfz12_2 := blk_frozen BK110.out 2; have hfz12_3 := blk_frozen BK110.out 3; have hfz12_4 := blk_frozen BK110.out 4))
        go_ret
        exact ⟨by first | rfl | (simp [errW_none, errW_some] <;> rfl) | (simp [*, errW_none, errW_some] <;> rfl), by repeat (first | (with_reducible first | exact HB.out | apply below_alloc | apply pw_below_drewN | apply below_drew1 | refine below_set ?_ GE110.out) | exact HB.out)⟩
      · rw [if_neg c6] at H
        have c6b0 : (a0_0.toList == a0_1.toList) = false := beq_eq_false_iff_ne.mpr c6
        have c6b1 : (a0_0.toList != a0_1.toList) = true := bne_iff_ne.mpr c6
        replace H := Option.bind_eq_some_iff.mp H
        obtain ⟨t113, A130, H⟩ := H
        replace H : (if t113 = true then ((goods_in.f a0_3 100).bind fun t114 => (if t114 = true then ((goods_in.f a0_4 100).bind fun t115 => (some t115)) else (some false))) else (some false)) = some r := H
        have A13 := Aside0.mk A130
        clear A130
        by_cases c14 : t113 = true
        · subst c14
          have H1 : ((goods_in.f a0_3 100).bind fun t114 => (if t114 = true then ((goods_in.f a0_4 100).bind fun t115 => (some t115)) else (some false))) = some r := by rw [if_pos rfl] at H; exact H
          clear H
          have H := H1
          clear H1
          replace H := Option.bind_eq_some_iff.mp H
          obtain ⟨t114, A150, H⟩ := H
          replace H : (if t114 = true then ((goods_in.f a0_4 100).bind fun t115 => (some t115)) else (some false)) = some r := H
          have A15 := Aside0.mk A150
          clear A150
          by_cases c16 : t114 = true
          · subst c16
            have H1 : ((goods_in.f a0_4 100).bind fun t115 => (some t115)) = some r := by rw [if_pos rfl] at H; exact H
            clear H
            have H := H1
            clear H1
            replace H := Option.bind_eq_some_iff.mp H
            obtain ⟨t115, A170, H⟩ := H
            replace H : (some t115) = some r := H
            have A17 := Aside0.mk A170
            clear A170
            obtain rfl := Option.some.inj H
            go_enter Try.func49, Try.ntmps49
            go_wp2_with (first | ((with_reducible refine gate_dst (N := 1) rfl ?_); refine box_event ?hg (N := 1) ?hd (cs := #[.string a0_0, .string a0_1, .int .i64 a0_2, .int .i64 a0_3, .int .i64 a0_4]) (t := 69) ?hr ?_; (case hd => rfl); (case hg => rfl); (case hr => first | (go_simp; done) | (go_simp; rfl)); intro gb110 hg w18 hbox hb; have n0_ := Aside0.mk (below_step (by repeat (first | (with_reducible first | exact HB.out | apply below_alloc | apply pw_below_drewN | apply below_drew1) | exact HB.out)) hb); have n1_ := Aside0.mk (hbox); have n2_ := Aside0.mk ((by rw [hg]; exact (below_size (by repeat (first | (with_reducible first | exact HB.out | apply below_alloc | apply pw_below_drewN | apply below_drew1) | exact HB.out))) : w.heap.size ≤ gb110)); have n3_ := Aside0.mk ((by rw [hg]; exact (below_size (by repeat (first | (with_reducible first | exact HB.out | apply below_alloc | apply pw_below_drewN | apply below_drew1) | exact HB.out))) : w.heap.size ≤ gb110)); clear HB; have HB := n0_; have BK110 := n1_; have GW110 := n2_; have GE110 := n3_; clear n0_ n1_ n2_ n3_; clear hb hbox hg; have hcz19_0 : w18.cell? ⟨gb110, 0, none⟩ = some (.string a0_0) := (blk_cell BK110.out 0).trans rfl; have hcz19_1 : w18.cell? ⟨gb110, 1, none⟩ = some (.string a0_1) := (blk_cell BK110.out 1).trans rfl; have hcz19_2 : w18.cell? ⟨gb110, 2, none⟩ = some (.int .i64 a0_2) := (blk_cell BK110.out 2).trans rfl; have hcz19_3 : w18.cell? ⟨gb110, 3, none⟩ = some (.int .i64 a0_3) := (blk_cell BK110.out 3).trans rfl; have hcz19_4 : w18.cell? ⟨gb110, 4, none⟩ = some (.int .i64 a0_4) := (blk_cell BK110.out 4).trans rfl; have hfz19_0 := blk_frozen BK110.out 0; have hfz19_1 := blk_frozen BK110.out 1; have hfz19_2 := blk_frozen BK110.out 2; have hfz19_3 := blk_frozen BK110.out 3; have hfz19_4 := blk_frozen BK110.out 4) | ((with_reducible refine gate_callee (f := 53) rfl ?_); refine goesL_ (some 5) rfl rfl Try.func53 (by kernel_rfl) rfl #[.string a0_0] rfl (by (try simp only [List.map_toArray, List.map_cons, List.map_nil]); first | done | rfl | (simp only [List.length_drop, List.length_take]; rfl)) ?_; (with_reducible refine (goods_name.calls a0_0 true _ A2.out).mono ?_); rintro e w20 ⟨rfl, hb⟩; refine ⟨_, rfl, ?_⟩; have n0_ := Aside0.mk (blk_below (g := gb110) (o := .cells #[.string a0_0, .string a0_1, .int .i64 a0_2, .int .i64 a0_3, .int .i64 a0_4] 69 (0, 0)) (by (with_reducible repeat (first | refine blk_drewN ?_ _ | refine blk_drew ?_ | refine blk_alloc ?_ _)); exact BK110.out) hb); have n1_ := Aside0.mk (below_step (by repeat (first | (with_reducible first | exact HB.out | apply below_alloc | apply pw_below_drewN | apply below_drew1 | refine below_set ?_ GE110.out) | exact HB.out)) hb); clear BK110; clear HB; have BK110 := n0_; have HB := n1_; clear n0_ n1_; (try clear hb); (try clear hb2); (try clear hk); (try clear hi); have hcz21_0 : w20.cell? ⟨gb110, 0, none⟩ = some (.string a0_0) := (blk_cell BK110.out 0).trans rfl; have hcz21_1 : w20.cell? ⟨gb110, 1, none⟩ = some (.string a0_1) := (blk_cell BK110.out 1).trans rfl; have hcz21_2 : w20.cell? ⟨gb110, 2, none⟩ = some (.int .i64 a0_2) := (blk_cell BK110.out 2).trans rfl; have hcz21_3 : w20.cell? ⟨gb110, 3, none⟩ = some (.int .i64 a0_3) := (blk_cell BK110.out 3).trans rfl; have hcz21_4 : w20.cell? ⟨gb110, 4, none⟩ = some (.int .i64 a0_4) := (blk_cell BK110.out 4).trans rfl; have hfz21_0 := blk_frozen BK110.out 0; have hfz21_1 := blk_frozen BK110.out 1; have hfz21_2 := blk_frozen BK110.out 2; have hfz21_3 := blk_frozen BK110.out 3; have hfz21_4 := blk_frozen BK110.out 4) | (go_at_call 53; (with_reducible refine (goods_name.calls a0_1 true _ A4.out).mono ?_); rintro e w22 ⟨rfl, hb⟩; have n0_ := Aside0.mk (blk_below (g := gb110) (o := .cells #[.string a0_0, .string a0_1, .int .i64 a0_2, .int .i64 a0_3, .int .i64 a0_4] 69 (0, 0)) (by (with_reducible repeat (first | refine blk_drewN ?_ _ | refine blk_drew ?_ | refine blk_alloc ?_ _)); exact BK110.out) hb); have n1_ := Aside0.mk (below_step (by repeat (first | (with_reducible first | exact HB.out | apply below_alloc | apply pw_below_drewN | apply below_drew1 | refine below_set ?_ GE110.out) | exact HB.out)) hb); clear BK110; clear HB; have BK110 := n0_; have HB := n1_; clear n0_ n1_; (try clear hb); (try clear hb2); (try clear hk); (try clear hi); have hcz23_0 : w22.cell? ⟨gb110, 0, none⟩ = some (.string a0_0) := (blk_cell BK110.out 0).trans rfl; have hcz23_1 : w22.cell? ⟨gb110, 1, none⟩ = some (.string a0_1) := (blk_cell BK110.out 1).trans rfl; have hcz23_2 : w22.cell? ⟨gb110, 2, none⟩ = some (.int .i64 a0_2) := (blk_cell BK110.out 2).trans rfl; have hcz23_3 : w22.cell? ⟨gb110, 3, none⟩ = some (.int .i64 a0_3) := (blk_cell BK110.out 3).trans rfl; have hcz23_4 : w22.cell? ⟨gb110, 4, none⟩ = some (.int .i64 a0_4) := (blk_cell BK110.out 4).trans rfl; have hfz23_0 := blk_frozen BK110.out 0; have hfz23_1 := blk_frozen BK110.out 1; have hfz23_2 := blk_frozen BK110.out 2; have hfz23_3 := blk_frozen BK110.out 3; have hfz23_4 := blk_frozen BK110.out 4) | (go_at_call 60; (with_reducible refine (goods_in.calls a0_2 9 true _ A13.out).mono ?_); rintro e w' ⟨rfl, ⟨nd, rfl⟩⟩) | (go_at_call 60; (with_reducible refine (goods_in.calls a0_3 100 true _ A15.out).mono ?_); rintro e w' ⟨rfl, ⟨nd, rfl⟩⟩) | (go_at_call 60; (with_reducible refine (goods_in.calls a0_4 100 t115 _ A17.out).mono ?_); rintro e w' ⟨rfl, ⟨nd, rfl⟩⟩))
            go_ret
            exact ⟨by first | rfl | (simp [errW_none, errW_some] <;> rfl) | (simp [*, errW_none, errW_some] <;> rfl), by repeat (first | (with_reducible first | exact HB.out | apply below_alloc | apply pw_below_drewN | apply below_drew1 | refine below_set ?_ GE110.out) | exact HB.out)⟩
          · replace c16 := Bool.eq_false_iff.mpr c16
            subst c16
            have H1 : (some false) = some r := by rw [if_neg (show ¬ (false = true) by decide)] at H; exact H
            clear H
            have H := H1
            clear H1
            obtain rfl := Option.some.inj H
            go_enter Try.func49, Try.ntmps49
            go_wp2_with (first | ((with_reducible refine gate_dst (N := 1) rfl ?_); refine box_event ?hg (N := 1) ?hd (cs := #[.string a0_0, .string a0_1, .int .i64 a0_2, .int .i64 a0_3, .int .i64 a0_4]) (t := 69) ?hr ?_; (case hd => rfl); (case hg => rfl); (case hr => first | (go_simp; done) | (go_simp; rfl)); intro gb110 hg w24 hbox hb; have n0_ := Aside0.mk (below_step (by repeat (first | (with_reducible first | exact HB.out | apply below_alloc | apply pw_below_drewN | apply below_drew1) | exact HB.out)) hb); have n1_ := Aside0.mk (hbox); have n2_ := Aside0.mk ((by rw [hg]; exact (below_size (by repeat (first | (with_reducible first | exact HB.out | apply below_alloc | apply pw_below_drewN | apply below_drew1) | exact HB.out))) : w.heap.size ≤ gb110)); have n3_ := Aside0.mk ((by rw [hg]; exact (below_size (by repeat (first | (with_reducible first | exact HB.out | apply below_alloc | apply pw_below_drewN | apply below_drew1) | exact HB.out))) : w.heap.size ≤ gb110)); clear HB; have HB := n0_; have BK110 := n1_; have GW110 := n2_; have GE110 := n3_; clear n0_ n1_ n2_ n3_; clear hb hbox hg; have hcz25_0 : w24.cell? ⟨gb110, 0, none⟩ = some (.string a0_0) := (blk_cell BK110.out 0).trans rfl; have hcz25_1 : w24.cell? ⟨gb110, 1, none⟩ = some (.string a0_1) := (blk_cell BK110.out 1).trans rfl; have hcz25_2 : w24.cell? ⟨gb110, 2, none⟩ = some (.int .i64 a0_2) := (blk_cell BK110.out 2).trans rfl; have hcz25_3 : w24.cell? ⟨gb110, 3, none⟩ = some (.int .i64 a0_3) := (blk_cell BK110.out 3).trans rfl; have hcz25_4 : w24.cell? ⟨gb110, 4, none⟩ = some (.int .i64 a0_4) := (blk_cell BK110.out 4).trans rfl; have hfz25_0 := blk_frozen BK110.out 0; have hfz25_1 := blk_frozen BK110.out 1; have hfz25_2 := blk_frozen BK110.out 2; have hfz25_3 := blk_frozen BK110.out 3; have hfz25_4 := blk_frozen BK110.out 4) | ((with_reducible refine gate_callee (f := 53) rfl ?_); refine goesL_ (some 5) rfl rfl Try.func53 (by kernel_rfl) rfl #[.string a0_0] rfl (by (try simp only [List.map_toArray, List.map_cons, List.map_nil]); first | done | rfl | (simp only [List.length_drop, List.length_take]; rfl)) ?_; (with_reducible refine (goods_name.calls a0_0 true _ A2.out).mono ?_); rintro e w26 ⟨rfl, hb⟩; refine ⟨_, rfl, ?_⟩; have n0_ := Aside0.mk (blk_below (g := gb110) (o := .cells #[.string a0_0, .string a0_1, .int .i64 a0_2, .int .i64 a0_3, .int .i64 a0_4] 69 (0, 0)) (by (with_reducible repeat (first | refine blk_drewN ?_ _ | refine blk_drew ?_ | refine blk_alloc ?_ _)); exact BK110.out) hb); have n1_ := Aside0.mk (below_step (by repeat (first | (with_reducible first | exact HB.out | apply below_alloc | apply pw_below_drewN | apply below_drew1 | refine below_set ?_ GE110.out) | exact HB.out)) hb); clear BK110; clear HB; have BK110 := n0_; have HB := n1_; clear n0_ n1_; (try clear hb); (try clear hb2); (try clear hk); (try clear hi); have hcz27_0 : w26.cell? ⟨gb110, 0, none⟩ = some (.string a0_0) := (blk_cell BK110.out 0).trans rfl; have hcz27_1 : w26.cell? ⟨gb110, 1, none⟩ = some (.string a0_1) := (blk_cell BK110.out 1).trans rfl; have hcz27_2 : w26.cell? ⟨gb110, 2, none⟩ = some (.int .i64 a0_2) := (blk_cell BK110.out 2).trans rfl; have hcz27_3 : w26.cell? ⟨gb110, 3, none⟩ = some (.int .i64 a0_3) := (blk_cell BK110.out 3).trans rfl; have hcz27_4 : w26.cell? ⟨gb110, 4, none⟩ = some (.int .i64 a0_4) := (blk_cell BK110.out 4).trans rfl; have hfz27_0 := blk_frozen BK110.out 0; have hfz27_1 := blk_frozen BK110.out 1; have hfz27_2 := blk_frozen BK110.out 2; have hfz27_3 := blk_frozen BK110.out 3; have hfz27_4 := blk_frozen BK110.out 4) | (go_at_call 53; (with_reducible refine (goods_name.calls a0_1 true _ A4.out).mono ?_); rintro e w28 ⟨rfl, hb⟩; have n0_ := Aside0.mk (blk_below (g := gb110) (o := .cells #[.string a0_0, .string a0_1, .int .i64 a0_2, .int .i64 a0_3, .int .i64 a0_4] 69 (0, 0)) (by (with_reducible repeat (first | refine blk_drewN ?_ _ | refine blk_drew ?_ | refine blk_alloc ?_ _)); exact BK110.out) hb); have n1_ := Aside0.mk (below_step (by repeat (first | (with_reducible first | exact HB.out | apply below_alloc | apply pw_below_drewN | apply below_drew1 | refine below_set ?_ GE110.out) | exact HB.out)) hb); clear BK110; clear HB; have BK110 := n0_; have HB := n1_; clear n0_ n1_; (try clear hb); (try clear hb2); (try clear hk); (try clear hi); have hcz29_0 : w28.cell? ⟨gb110, 0, none⟩ = some (.string a0_0) := (blk_cell BK110.out 0).trans rfl; have hcz29_1 : w28.cell? ⟨gb110, 1, none⟩ = some (.string a0_1) := (blk_cell BK110.out 1).trans rfl; have hcz29_2 : w28.cell? ⟨gb110, 2, none⟩ = some (.int .i64 a0_2) := (blk_cell BK110.out 2).trans rfl; have hcz29_3 : w28.cell? ⟨gb110, 3, none⟩ = some (.int .i64 a0_3) := (blk_cell BK110.out 3).trans rfl; have hcz29_4 : w28.cell? ⟨gb110, 4, none⟩ = some (.int .i64 a0_4) := (blk_cell BK110.out 4).trans rfl; have hfz29_0 := blk_frozen BK110.out 0; have hfz29_1 := blk_frozen BK110.out 1; have hfz29_2 := blk_frozen BK110.out 2; have hfz29_3 := blk_frozen BK110.out 3; have hfz29_4 := blk_frozen BK110.out 4) | (go_at_call 60; (with_reducible refine (goods_in.calls a0_2 9 true _ A13.out).mono ?_); rintro e w' ⟨rfl, ⟨nd, rfl⟩⟩) | (go_at_call 60; (with_reducible refine (goods_in.calls a0_3 100 false _ A15.out).mono ?_); rintro e w' ⟨rfl, ⟨nd, rfl⟩⟩))
            go_ret
            exact ⟨by first | rfl | (simp [errW_none, errW_some] <;> rfl) | (simp [*, errW_none, errW_some] <;> rfl), by repeat (first | (with_reducible first | exact HB.out | apply below_alloc | apply pw_below_drewN | apply below_drew1 | refine below_set ?_ GE110.out) | exact HB.out)⟩
        · replace c14 := Bool.eq_false_iff.mpr c14
          subst c14
          have H1 : (some false) = some r := by rw [if_neg (show ¬ (false = true) by decide)] at H; exact H
          clear H
          have H := H1
          clear H1
          obtain rfl := Option.some.inj H
          go_enter Try.func49, Try.ntmps49
          go_wp2_with (first | ((with_reducible refine gate_dst (N := 1) rfl ?_); refine box_event ?hg (N := 1) ?hd (cs := #[.string a0_0, .string a0_1, .int .i64 a0_2, .int .i64 a0_3, .int .i64 a0_4]) (t := 69) ?hr ?_; (case hd => rfl); (case hg => rfl); (case hr => first | (go_simp; done) | (go_simp; rfl)); intro gb110 hg w30 hbox hb; have n0_ := Aside0.mk (below_step (by repeat (first | (with_reducible first | exact HB.out | apply below_alloc | apply pw_below_drewN | apply below_drew1) | exact HB.out)) hb); have n1_ := Aside0.mk (hbox); have n2_ := Aside0.mk ((by rw [hg]; exact (below_size (by repeat (first | (with_reducible first | exact HB.out | apply below_alloc | apply pw_below_drewN | apply below_drew1) | exact HB.out))) : w.heap.size ≤ gb110)); have n3_ := Aside0.mk ((by rw [hg]; exact (below_size (by repeat (first | (with_reducible first | exact HB.out | apply below_alloc | apply pw_below_drewN | apply below_drew1) | exact HB.out))) : w.heap.size ≤ gb110)); clear HB; have HB := n0_; have BK110 := n1_; have GW110 := n2_; have GE110 := n3_; clear n0_ n1_ n2_ n3_; clear hb hbox hg; have hcz31_0 : w30.cell? ⟨gb110, 0, none⟩ = some (.string a0_0) := (blk_cell BK110.out 0).trans rfl; have hcz31_1 : w30.cell? ⟨gb110, 1, none⟩ = some (.string a0_1) := (blk_cell BK110.out 1).trans rfl; have hcz31_2 : w30.cell? ⟨gb110, 2, none⟩ = some (.int .i64 a0_2) := (blk_cell BK110.out 2).trans rfl; have hcz31_3 : w30.cell? ⟨gb110, 3, none⟩ = some (.int .i64 a0_3) := (blk_cell BK110.out 3).trans rfl; have hcz31_4 : w30.cell? ⟨gb110, 4, none⟩ = some (.int .i64 a0_4) := (blk_cell BK110.out 4).trans rfl; have hfz31_0 := blk_frozen BK110.out 0; have hfz31_1 := blk_frozen BK110.out 1; have hfz31_2 := blk_frozen BK110.out 2; have hfz31_3 := blk_frozen BK110.out 3; have hfz31_4 := blk_frozen BK110.out 4) | ((with_reducible refine gate_callee (f := 53) rfl ?_); refine goesL_ (some 5) rfl rfl Try.func53 (by kernel_rfl) rfl #[.string a0_0] rfl (by (try simp only [List.map_toArray, List.map_cons, List.map_nil]); first | done | rfl | (simp only [List.length_drop, List.length_take]; rfl)) ?_; (with_reducible refine (goods_name.calls a0_0 true _ A2.out).mono ?_); rintro e w32 ⟨rfl, hb⟩; refine ⟨_, rfl, ?_⟩; have n0_ := Aside0.mk (blk_below (g := gb110) (o := .cells #[.string a0_0, .string a0_1, .int .i64 a0_2, .int .i64 a0_3, .int .i64 a0_4] 69 (0, 0)) (by (with_reducible repeat (first | refine blk_drewN ?_ _ | refine blk_drew ?_ | refine blk_alloc ?_ _)); exact BK110.out) hb); have n1_ := Aside0.mk (below_step (by repeat (first | (with_reducible first | exact HB.out | apply below_alloc | apply pw_below_drewN | apply below_drew1 | refine below_set ?_ GE110.out) | exact HB.out)) hb); clear BK110; clear HB; have BK110 := n0_; have HB := n1_; clear n0_ n1_; (try clear hb); (try clear hb2); (try clear hk); (try clear hi); have hcz33_0 : w32.cell? ⟨gb110, 0, none⟩ = some (.string a0_0) := (blk_cell BK110.out 0).trans rfl; have hcz33_1 : w32.cell? ⟨gb110, 1, none⟩ = some (.string a0_1) := (blk_cell BK110.out 1).trans rfl; have hcz33_2 : w32.cell? ⟨gb110, 2, none⟩ = some (.int .i64 a0_2) := (blk_cell BK110.out 2).trans rfl; have hcz33_3 : w32.cell? ⟨gb110, 3, none⟩ = some (.int .i64 a0_3) := (blk_cell BK110.out 3).trans rfl; have hcz33_4 : w32.cell? ⟨gb110, 4, none⟩ = some (.int .i64 a0_4) := (blk_cell BK110.out 4).trans rfl; have hfz33_0 := blk_frozen BK110.out 0; have hfz33_1 := blk_frozen BK110.out 1; have hfz33_2 := blk_frozen BK110.out 2; have hfz33_3 := blk_frozen BK110.out 3; have hfz33_4 := blk_frozen BK110.out 4) | (go_at_call 53; (with_reducible refine (goods_name.calls a0_1 true _ A4.out).mono ?_); rintro e w34 ⟨rfl, hb⟩; have n0_ := Aside0.mk (blk_below (g := gb110) (o := .cells #[.string a0_0, .string a0_1, .int .i64 a0_2, .int .i64 a0_3, .int .i64 a0_4] 69 (0, 0)) (by (with_reducible repeat (first | refine blk_drewN ?_ _ | refine blk_drew ?_ | refine blk_alloc ?_ _)); exact BK110.out) hb); have n1_ := Aside0.mk (below_step (by repeat (first | (with_reducible first | exact HB.out | apply below_alloc | apply pw_below_drewN | apply below_drew1 | refine below_set ?_ GE110.out) | exact HB.out)) hb); clear BK110; clear HB; have BK110 := n0_; have HB := n1_; clear n0_ n1_; (try clear hb); (try clear hb2); (try clear hk); (try clear hi); have hcz35_0 : w34.cell? ⟨gb110, 0, none⟩ = some (.string a0_0) := (blk_cell BK110.out 0).trans rfl; have hcz35_1 : w34.cell? ⟨gb110, 1, none⟩ = some (.string a0_1) := (blk_cell BK110.out 1).trans rfl; have hcz35_2 : w34.cell? ⟨gb110, 2, none⟩ = some (.int .i64 a0_2) := (blk_cell BK110.out 2).trans rfl; have hcz35_3 : w34.cell? ⟨gb110, 3, none⟩ = some (.int .i64 a0_3) := (blk_cell BK110.out 3).trans rfl; have hcz35_4 : w34.cell? ⟨gb110, 4, none⟩ = some (.int .i64 a0_4) := (blk_cell BK110.out 4).trans rfl; have hfz35_0 := blk_frozen BK110.out 0; have hfz35_1 := blk_frozen BK110.out 1; have hfz35_2 := blk_frozen BK110.out 2; have hfz35_3 := blk_frozen BK110.out 3; have hfz35_4 := blk_frozen BK110.out 4) | (go_at_call 60; (with_reducible refine (goods_in.calls a0_2 9 false _ A13.out).mono ?_); rintro e w' ⟨rfl, ⟨nd, rfl⟩⟩))
          go_ret
          exact ⟨by first | rfl | (simp [errW_none, errW_some] <;> rfl) | (simp [*, errW_none, errW_some] <;> rfl), by repeat (first | (with_reducible first | exact HB.out | apply below_alloc | apply pw_below_drewN | apply below_drew1 | refine below_set ?_ GE110.out) | exact HB.out)⟩
    · replace c5 := Bool.eq_false_iff.mpr c5
      subst c5
      have H1 : (some false) = some r := by rw [if_neg (show ¬ (false = true) by decide)] at H; exact H
      clear H
      have H := H1
      clear H1
      obtain rfl := Option.some.inj H
      go_enter Try.func49, Try.ntmps49
      go_wp2_with (first | ((with_reducible refine gate_dst (N := 1) rfl ?_); refine box_event ?hg (N := 1) ?hd (cs := #[.string a0_0, .string a0_1, .int .i64 a0_2, .int .i64 a0_3, .int .i64 a0_4]) (t := 69) ?hr ?_; (case hd => rfl); (case hg => rfl); (case hr => first | (go_simp; done) | (go_simp; rfl)); intro gb110 hg w36 hbox hb; have n0_ := Aside0.mk (below_step (by repeat (first | (with_reducible first | exact HB.out | apply below_alloc | apply pw_below_drewN | apply below_drew1) | exact HB.out)) hb); have n1_ := Aside0.mk (hbox); have n2_ := Aside0.mk ((by rw [hg]; exact (below_size (by repeat (first | (with_reducible first | exact HB.out | apply below_alloc | apply pw_below_drewN | apply below_drew1) | exact HB.out))) : w.heap.size ≤ gb110)); have n3_ := Aside0.mk ((by rw [hg]; exact (below_size (by repeat (first | (with_reducible first | exact HB.out | apply below_alloc | apply pw_below_drewN | apply below_drew1) | exact HB.out))) : w.heap.size ≤ gb110)); clear HB; have HB := n0_; have BK110 := n1_; have GW110 := n2_; have GE110 := n3_; clear n0_ n1_ n2_ n3_; clear hb hbox hg; have hcz37_0 : w36.cell? ⟨gb110, 0, none⟩ = some (.string a0_0) := (blk_cell BK110.out 0).trans rfl; have hcz37_1 : w36.cell? ⟨gb110, 1, none⟩ = some (.string a0_1) := (blk_cell BK110.out 1).trans rfl; have hcz37_2 : w36.cell? ⟨gb110, 2, none⟩ = some (.int .i64 a0_2) := (blk_cell BK110.out 2).trans rfl; have hcz37_3 : w36.cell? ⟨gb110, 3, none⟩ = some (.int .i64 a0_3) := (blk_cell BK110.out 3).trans rfl; have hcz37_4 : w36.cell? ⟨gb110, 4, none⟩ = some (.int .i64 a0_4) := (blk_cell BK110.out 4).trans rfl; have hfz37_0 := blk_frozen BK110.out 0; have hfz37_1 := blk_frozen BK110.out 1; have hfz37_2 := blk_frozen BK110.out 2; have hfz37_3 := blk_frozen BK110.out 3; have hfz37_4 := blk_frozen BK110.out 4) | ((with_reducible refine gate_callee (f := 53) rfl ?_); refine goesL_ (some 5) rfl rfl Try.func53 (by kernel_rfl) rfl #[.string a0_0] rfl (by (try simp only [List.map_toArray, List.map_cons, List.map_nil]); first | done | rfl | (simp only [List.length_drop, List.length_take]; rfl)) ?_; (with_reducible refine (goods_name.calls a0_0 true _ A2.out).mono ?_); rintro e w38 ⟨rfl, hb⟩; refine ⟨_, rfl, ?_⟩; have n0_ := Aside0.mk (blk_below (g := gb110) (o := .cells #[.string a0_0, .string a0_1, .int .i64 a0_2, .int .i64 a0_3, .int .i64 a0_4] 69 (0, 0)) (by (with_reducible repeat (first | refine blk_drewN ?_ _ | refine blk_drew ?_ | refine blk_alloc ?_ _)); exact BK110.out) hb); have n1_ := Aside0.mk (below_step (by repeat (first | (with_reducible first | exact HB.out | apply below_alloc | apply pw_below_drewN | apply below_drew1 | refine below_set ?_ GE110.out) | exact HB.out)) hb); clear BK110; clear HB; have BK110 := n0_; have HB := n1_; clear n0_ n1_; (try clear hb); (try clear hb2); (try clear hk); (try clear hi); have hcz39_0 : w38.cell? ⟨gb110, 0, none⟩ = some (.string a0_0) := (blk_cell BK110.out 0).trans rfl; have hcz39_1 : w38.cell? ⟨gb110, 1, none⟩ = some (.string a0_1) := (blk_cell BK110.out 1).trans rfl; have hcz39_2 : w38.cell? ⟨gb110, 2, none⟩ = some (.int .i64 a0_2) := (blk_cell BK110.out 2).trans rfl; have hcz39_3 : w38.cell? ⟨gb110, 3, none⟩ = some (.int .i64 a0_3) := (blk_cell BK110.out 3).trans rfl; have hcz39_4 : w38.cell? ⟨gb110, 4, none⟩ = some (.int .i64 a0_4) := (blk_cell BK110.out 4).trans rfl; have hfz39_0 := blk_frozen BK110.out 0; have hfz39_1 := blk_frozen BK110.out 1; have hfz39_2 := blk_frozen BK110.out 2; have hfz39_3 := blk_frozen BK110.out 3; have hfz39_4 := blk_frozen BK110.out 4) | (go_at_call 53; (with_reducible refine (goods_name.calls a0_1 false _ A4.out).mono ?_); rintro e w40 ⟨rfl, hb⟩; have n0_ := Aside0.mk (blk_below (g := gb110) (o := .cells #[.string a0_0, .string a0_1, .int .i64 a0_2, .int .i64 a0_3, .int .i64 a0_4] 69 (0, 0)) (by (with_reducible repeat (first | refine blk_drewN ?_ _ | refine blk_drew ?_ | refine blk_alloc ?_ _)); exact BK110.out) hb); have n1_ := Aside0.mk (below_step (by repeat (first | (with_reducible first | exact HB.out | apply below_alloc | apply pw_below_drewN | apply below_drew1 | refine below_set ?_ GE110.out) | exact HB.out)) hb); clear BK110; clear HB; have BK110 := n0_; have HB := n1_; clear n0_ n1_; (try clear hb); (try clear hb2); (try clear hk); (try clear hi)))
      go_ret
      exact ⟨by first | rfl | (simp [errW_none, errW_some] <;> rfl) | (simp [*, errW_none, errW_some] <;> rfl), by repeat (first | (with_reducible first | exact HB.out | apply below_alloc | apply pw_below_drewN | apply below_drew1 | refine below_set ?_ GE110.out) | exact HB.out)⟩
  · replace c3 := Bool.eq_false_iff.mpr c3
    subst c3
    have H1 : (some false) = some r := by rw [if_neg (show ¬ (false = true) by decide)] at H; exact H
    clear H
    have H := H1
    clear H1
    obtain rfl := Option.some.inj H
    go_enter Try.func49, Try.ntmps49
    go_wp2_with (first | ((with_reducible refine gate_dst (N := 1) rfl ?_); refine box_event ?hg (N := 1) ?hd (cs := #[.string a0_0, .string a0_1, .int .i64 a0_2, .int .i64 a0_3, .int .i64 a0_4]) (t := 69) ?hr ?_; (case hd => rfl); (case hg => rfl); (case hr => first | (go_simp; done) | (go_simp; rfl)); intro gb110 hg w41 hbox hb; have n0_ := Aside0.mk (below_step (by repeat (first | (with_reducible first | exact HB.out | apply below_alloc | apply pw_below_drewN | apply below_drew1) | exact HB.out)) hb); have n1_ := Aside0.mk (hbox); have n2_ := Aside0.mk ((by rw [hg]; exact (below_size (by repeat (first | (with_reducible first | exact HB.out | apply below_alloc | apply pw_below_drewN | apply below_drew1) | exact HB.out))) : w.heap.size ≤ gb110)); have n3_ := Aside0.mk ((by rw [hg]; exact (below_size (by repeat (first | (with_reducible first | exact HB.out | apply below_alloc | apply pw_below_drewN | apply below_drew1) | exact HB.out))) : w.heap.size ≤ gb110)); clear HB; have HB := n0_; have BK110 := n1_; have GW110 := n2_; have GE110 := n3_; clear n0_ n1_ n2_ n3_; clear hb hbox hg; have hcz42_0 : w41.cell? ⟨gb110, 0, none⟩ = some (.string a0_0) := (blk_cell BK110.out 0).trans rfl; have hcz42_1 : w41.cell? ⟨gb110, 1, none⟩ = some (.string a0_1) := (blk_cell BK110.out 1).trans rfl; have hcz42_2 : w41.cell? ⟨gb110, 2, none⟩ = some (.int .i64 a0_2) := (blk_cell BK110.out 2).trans rfl; have hcz42_3 : w41.cell? ⟨gb110, 3, none⟩ = some (.int .i64 a0_3) := (blk_cell BK110.out 3).trans rfl; have hcz42_4 : w41.cell? ⟨gb110, 4, none⟩ = some (.int .i64 a0_4) := (blk_cell BK110.out 4).trans rfl; have hfz42_0 := blk_frozen BK110.out 0; have hfz42_1 := blk_frozen BK110.out 1; have hfz42_2 := blk_frozen BK110.out 2; have hfz42_3 := blk_frozen BK110.out 3; have hfz42_4 := blk_frozen BK110.out 4) | ((with_reducible refine gate_callee (f := 53) rfl ?_); refine goesL_ (some 5) rfl rfl Try.func53 (by kernel_rfl) rfl #[.string a0_0] rfl (by (try simp only [List.map_toArray, List.map_cons, List.map_nil]); first | done | rfl | (simp only [List.length_drop, List.length_take]; rfl)) ?_; (with_reducible refine (goods_name.calls a0_0 false _ A2.out).mono ?_); rintro e w43 ⟨rfl, hb⟩; refine ⟨_, rfl, ?_⟩; have n0_ := Aside0.mk (blk_below (g := gb110) (o := .cells #[.string a0_0, .string a0_1, .int .i64 a0_2, .int .i64 a0_3, .int .i64 a0_4] 69 (0, 0)) (by (with_reducible repeat (first | refine blk_drewN ?_ _ | refine blk_drew ?_ | refine blk_alloc ?_ _)); exact BK110.out) hb); have n1_ := Aside0.mk (below_step (by repeat (first | (with_reducible first | exact HB.out | apply below_alloc | apply pw_below_drewN | apply below_drew1 | refine below_set ?_ GE110.out) | exact HB.out)) hb); clear BK110; clear HB; have BK110 := n0_; have HB := n1_; clear n0_ n1_; (try clear hb); (try clear hb2); (try clear hk); (try clear hi)))
    go_ret
    exact ⟨by first | rfl | (simp [errW_none, errW_some] <;> rfl) | (simp [*, errW_none, errW_some] <;> rfl), by repeat (first | (with_reducible first | exact HB.out | apply below_alloc | apply pw_below_drewN | apply below_drew1 | refine below_set ?_ GE110.out) | exact HB.out)⟩

/-! ### slices_Index_string_string: function 61 -/
def slices_Index_string_string.l0 : Nat → List ByteArray → ByteArray → Int → Int → Option (Int)
  | 0, _, _, _, _ => none
  | k + 1, x0, x1, x7, x8 => if x8 < x7 then (if 0 ≤ x8 then (if x8 < (x0.length : Int) then (if x1.toList = (rdOf ByteArray.empty x0 x8).toList then (some x8) else (slices_Index_string_string.l0 k x0 x1 x7 (wrap64 (x8 + 1)))) else (none)) else (none)) else (some (-1))
def slices_Index_string_string.f (k : Nat) (l0 : List ByteArray) (a1 : ByteArray) : Option (Int) := slices_Index_string_string.l0 k l0 a1 (l0.length : Int) 0
theorem slices_Index_string_string.mono_l : ∀ k, (∀ y0 y1 y2 y3, LeO (slices_Index_string_string.l0 k y0 y1 y2 y3) (slices_Index_string_string.l0 (k + 1) y0 y1 y2 y3))
  | 0 => fun _ _ _ _ r h => by simp [slices_Index_string_string.l0] at h
  | k + 1 => by
    have ih0 := slices_Index_string_string.mono_l k
    · intro y0 y1 y2 y3
      unfold slices_Index_string_string.l0
      repeat' first
      | (with_reducible exact ih0 _ _ _ _)
      | (with_reducible exact LeO.refl _)
      | (with_reducible exact LeO.none _)
      | (with_reducible refine LeO.ite ?_ ?_)
      | (with_reducible refine LeO.bind ?_ (fun _ => ?_))
      | exact ih0 _ _ _ _
      | exact LeO.none _
      | refine LeO.ite ?_ ?_
      | refine LeO.bind ?_ (fun _ => ?_)
theorem slices_Index_string_string.mono : ∀ a0 a1 k, LeO (slices_Index_string_string.f k a0 a1) (slices_Index_string_string.f (k + 1) a0 a1) := by
  intro a0 a1 k
  have ih0 := slices_Index_string_string.mono_l k
  unfold slices_Index_string_string.f
  repeat' first
      | (with_reducible exact ih0 _ _ _ _)
      | (with_reducible exact LeO.refl _)
      | (with_reducible exact LeO.none _)
      | (with_reducible refine LeO.ite ?_ ?_)
      | (with_reducible refine LeO.bind ?_ (fun _ => ?_))
      | exact ih0 _ _ _ _
      | exact LeO.none _
      | refine LeO.ite ?_ ?_
      | refine LeO.bind ?_ (fun _ => ?_)
set_option maxHeartbeats 8000000 in
set_option maxRecDepth 100000 in
theorem slices_Index_string_string.calls (k : Nat) (A0 : Option Addr) (c0 : Nat) (l0 : List ByteArray) (a1 : ByteArray) (r : Int) (w : World) (hr0 : Kd.C Kd.string w A0 l0.length l0) (hc0 : l0.length ≤ c0) (h : slices_Index_string_string.f k l0 a1 = some r) :
    Calls Try.prog 61 #[.slice A0 l0.length c0, .string a1] w fun e w' => e = .returned (.int .i64 r) ∧ Drawn0 w w' := by
  have HR0 := Aside0.mk hr0
  have HC0 := Aside0.mk hc0
  clear hr0 hc0
  have H : (slices_Index_string_string.l0 k l0 a1 (l0.length : Int) 0) = some r := h
  clear h
  have H' := Aside0.mk H
  clear H
  go_enter Try.func61, Try.ntmps61
  go_wp2
  go_loopg [8] k (fun kq v8 w' => ∃ (x8_1 : Int), v8 = .int .i64 x8_1 ∧ Aside0 (slices_Index_string_string.l0 kq l0 a1 (l0.length : Int) x8_1 = some r) ∧ Aside0 (kq ≤ k) ∧ Drawn0 w w')
  case atStart => exact ⟨(0), (by first | rfl | (simp; done) | (simp [*]; done)), H', ⟨Nat.le_refl _⟩, by repeat (first | exact Drawn0.refl _ | apply Drawn0.step)⟩
  case round =>
    clear H'
    try clear p2
    obtain ⟨x8_1, rfl, HA, HK1, ⟨m1, rfl⟩⟩ := hrel
    cases gk with
    | zero => exact absurd HA.out (by simp [slices_Index_string_string.l0])
    | succ k1 =>
      have H := HA.out
      clear HA
      simp only [slices_Index_string_string.l0] at H
      by_cases c3 : x8_1 < (l0.length : Int)
      · rw [if_pos c3] at H
        have c3b0 : decide (x8_1 < (l0.length : Int)) = true := decide_eq_true c3
        clear c3
        by_cases c4 : 0 ≤ x8_1
        · rw [if_pos c4] at H
          have c4b0 : decide (0 ≤ x8_1) = true := decide_eq_true c4
          clear c4
          by_cases c5 : x8_1 < (l0.length : Int)
          · rw [if_pos c5] at H
            have c5b0 : decide (x8_1 < (l0.length : Int)) = true := decide_eq_true c5
            clear c5
            by_cases c6 : a1.toList = (rdOf ByteArray.empty l0 x8_1).toList
            · rw [if_pos c6] at H
              have c6b0 : (a1.toList == (rdOf ByteArray.empty l0 x8_1).toList) = true := beq_iff_eq.mpr c6
              have c6b1 : (a1.toList != (rdOf ByteArray.empty l0 x8_1).toList) = false := bne_eq_false_iff_eq.mpr c6
              clear c6
              obtain rfl := Option.some.inj H
              have p116 : 0 ≤ (x8_1 : Int) := of_decide_eq_true (by first | (with_reducible assumption) | assumption)
              have q116 : x8_1 < (l0.length : Int) := of_decide_eq_true (by first | (with_reducible assumption) | assumption)
              obtain ⟨ad116, e116, hx116_0⟩ := Kd.at_string HR0.out x8_1 p116 q116
              cases e116
              replace p116 := eq_true p116
              replace q116 := eq_true q116
              go_wp2
              go_ret
              exact ⟨by first | rfl | (simp; done) | (simp [*]; done), by repeat (first | exact Drawn0.refl _ | apply Drawn0.step)⟩
            · rw [if_neg c6] at H
              have c6b0 : (a1.toList == (rdOf ByteArray.empty l0 x8_1).toList) = false := beq_eq_false_iff_ne.mpr c6
              have c6b1 : (a1.toList != (rdOf ByteArray.empty l0 x8_1).toList) = true := bne_iff_ne.mpr c6
              have H' := Aside0.mk H
              clear H
              have p116 : 0 ≤ (x8_1 : Int) := of_decide_eq_true (by first | (with_reducible assumption) | assumption)
              have q116 : x8_1 < (l0.length : Int) := of_decide_eq_true (by first | (with_reducible assumption) | assumption)
              obtain ⟨ad116, e116, hx116_0⟩ := Kd.at_string HR0.out x8_1 p116 q116
              cases e116
              replace p116 := eq_true p116
              replace q116 := eq_true q116
              go_wp2
              go_roundg k1
              case measure => have := HK1.out; omega
              case rel => exact ⟨(wrap64 (x8_1 + 1)), (by first | rfl | (simp; done) | (simp [*]; done)), H', ⟨by have := HK1.out; omega⟩, by repeat (first | exact Drawn0.refl _ | apply Drawn0.step)⟩
          · rw [if_neg c5] at H
            exact absurd H (by simp)
        · rw [if_neg c4] at H
          exact absurd H (by simp)
      · rw [if_neg c3] at H
        have c3b0 : decide (x8_1 < (l0.length : Int)) = false := decide_eq_false c3
        clear c3
        obtain rfl := Option.some.inj H
        go_wp2
        go_ret
        exact ⟨by first | rfl | (simp; done) | (simp [*]; done), by repeat (first | exact Drawn0.refl _ | apply Drawn0.step)⟩

/-! ### slices_Contains_string_string: function 50 -/
def slices_Contains_string_string.f (k : Nat) (l0 : List ByteArray) (a1 : ByteArray) : Option (Bool) := (slices_Index_string_string.f k l0 a1).bind fun t117 => (some (decide (t117 ≥ 0)))
theorem slices_Contains_string_string.mono : ∀ a0 a1 k, LeO (slices_Contains_string_string.f k a0 a1) (slices_Contains_string_string.f (k + 1) a0 a1) := by
  intro a0 a1 k
  unfold slices_Contains_string_string.f
  repeat' first
      | (with_reducible exact slices_Index_string_string.mono _ _ _)
      | (with_reducible exact LeO.refl _)
      | (with_reducible exact LeO.none _)
      | (with_reducible refine LeO.ite ?_ ?_)
      | (with_reducible refine LeO.bind ?_ (fun _ => ?_))
      | exact slices_Index_string_string.mono _ _ _
      | exact LeO.none _
      | refine LeO.ite ?_ ?_
      | refine LeO.bind ?_ (fun _ => ?_)
set_option maxHeartbeats 8000000 in
set_option maxRecDepth 100000 in
theorem slices_Contains_string_string.calls (k : Nat) (A0 : Option Addr) (c0 : Nat) (l0 : List ByteArray) (a1 : ByteArray) (r : Bool) (w : World) (hr0 : Kd.C Kd.string w A0 l0.length l0) (hc0 : l0.length ≤ c0) (h : slices_Contains_string_string.f k l0 a1 = some r) :
    Calls Try.prog 50 #[.slice A0 l0.length c0, .string a1] w fun e w' => e = .returned (.bool r) ∧ Drawn0 w w' := by
  have HR0 := Aside0.mk hr0
  have HC0 := Aside0.mk hc0
  clear hr0 hc0
  have H : ((slices_Index_string_string.f k l0 a1).bind fun t117 => (some (decide (t117 ≥ 0)))) = some r := h
  clear h
  replace H := Option.bind_eq_some_iff.mp H
  obtain ⟨t117, A30, H⟩ := H
  replace H : (some (decide (t117 ≥ 0))) = some r := H
  have A3 := Aside0.mk A30
  clear A30
  obtain rfl := Option.some.inj H
  go_enter Try.func50, Try.ntmps50
  go_wp2_with (first | ((with_reducible refine gate_callee (f := 61) rfl ?_); refine goesL_ (some 7) rfl rfl Try.func61 (by kernel_rfl) rfl #[.slice A0 l0.length c0, .string a1] rfl (by (try simp only [List.map_toArray, List.map_cons, List.map_nil]); first | done | rfl | (simp only [List.length_drop, List.length_take]; rfl)) ?_; (with_reducible refine (slices_Index_string_string.calls k _ _ l0 a1 t117 _ ?side1 ?side2 A3.out).mono ?_); (case side1 => repeat (first | exact HR0.out | (with_reducible refine Kd.C_alloc ?_ _) | (with_reducible refine Kd.C_drewN ?_ _) | (with_reducible refine Kd.C_drew ?_))); (case side2 => exact HC0.out); rintro e w' ⟨rfl, ⟨nd, rfl⟩⟩; refine ⟨_, rfl, ?_⟩))
  go_ret
  exact ⟨by first | rfl | (simp; done) | (simp [*]; done), by repeat (first | exact Drawn0.refl _ | apply Drawn0.step)⟩

/-! ### slices_IndexFunc_string_string: function 62 (by hand) -/


/-! ### slices_ContainsFunc_string_string: function 51 (by hand) -/
set_option maxHeartbeats 2000000 in
theorem slices_str_IndexFunc.calls (p : ByteArray → Bool) (g : Nat) (lb : Array Value) (eg : ∀ args w, (callFunc g args).run Try.prog w = .ok (.enter g args) w) (A0 : Option Addr) (c0 : Nat) (l0 : List ByteArray) (w : World)
    (hr0 : Kd.C Kd.string w A0 l0.length l0) (hp : PredB Try.prog g lb Value.string p l0 w) :
    Calls Try.prog 62 #[.slice A0 l0.length c0, .func (.func g) #[] lb] w fun e w' => e = .returned (.int .i64 (idxP p l0)) ∧ Below w.heap.size w w' := by
  have HR0 := Aside0.mk hr0
  have HP := Aside0.mk hp
  clear hr0 hp
  have hlen : l0.length ≤ 9223372036854775807 := HR0.out.2.1
  go_enter Try.func62, Try.ntmps62
  go_wp2
  go_loopg [5, 8] l0.length (fun gg _ s8 wr => ∃ kk : Nat, kk ≤ l0.length ∧ l0.length - kk ≤ gg ∧ s8 = .int .i64 kk ∧ Aside0 (Below w.heap.size w wr) ∧ Aside0 (∀ j (hj : j < l0.length), j < kk → p l0[j] = false))
  case atStart => exact ⟨0, Nat.zero_le _, by omega, rfl, ⟨Below.refl _ w⟩, ⟨fun j _ hj => absurd hj (Nat.not_lt_zero _)⟩⟩
  case round =>
    obtain ⟨kk, hkk, hg, rfl, BW, A⟩ := hrel
    by_cases hlt : kk < l0.length
    · have hltz : (kk : Int) < (l0.length : Int) := by omega
      obtain ⟨ad, e0, hx0⟩ := at_string HR0.out (kk : Int) (by omega) hltz
      subst e0
      replace hx0 := (BW.out.cell (World.block_lt_of_cell? w _ hx0)).trans hx0
      have hcall := HP.out wr (rdOf ByteArray.empty l0 (kk : Int)) (by rw [show rdOf ByteArray.empty l0 (kk : Int) = l0[kk] from getD_get _ l0 kk hlt]; exact List.getElem_mem hlt) BW.out
      simp only [Int.toNat_natCast] at hx0
      generalize hy : rdOf ByteArray.empty l0 (kk : Int) = y at hx0 hcall
      have Y : Aside0 (l0[kk] = y) := ⟨(getD_get _ l0 kk hlt).symm.trans hy⟩
      clear hy
      cases hq : p y with
      | true =>
        rw [hq] at hcall
        have Q := Aside0.mk hq
        clear hq
        go_wp2_with (go_at_fn g; refine hcall.mono ?_; rintro e w' ⟨rfl, hb'⟩)
        go_ret
        refine ⟨?_, below_step BW.out hb'⟩
        rw [idxP_hit p l0 kk hlt (by rw [Y.out]; exact Q.out) (fun j hj => A.out j (by omega) hj)]
        rfl
      | false =>
        rw [hq] at hcall
        have Q := Aside0.mk hq
        clear hq
        go_wp2_with (go_at_fn g; refine hcall.mono ?_; rintro e w' ⟨rfl, hb'⟩)
        go_roundg (l0.length - (kk + 1))
        case measure => omega
        case rel =>
          refine ⟨kk + 1, by omega, by omega, by go_num, ⟨below_step BW.out hb'⟩, ⟨fun j hj hjk => ?_⟩⟩
          by_cases e : j = kk
          · subst e
            rw [Y.out]; exact Q.out
          · exact A.out j hj (by omega)
    · have hltz : ¬ (kk : Int) < (l0.length : Int) := by omega
      have E0 : kk = l0.length := by omega
      subst E0
      go_wp2
      go_ret
      refine ⟨?_, BW.out⟩
      rw [idxP_miss p l0 (fun j hj => A.out j hj hj)]
      rfl
set_option maxHeartbeats 2000000 in
theorem slices_str_ContainsFunc.calls (p : ByteArray → Bool) (g : Nat) (lb : Array Value) (eg : ∀ args w, (callFunc g args).run Try.prog w = .ok (.enter g args) w) (A0 : Option Addr) (c0 : Nat) (l0 : List ByteArray) (w : World)
    (hr0 : Kd.C Kd.string w A0 l0.length l0) (hp : PredB Try.prog g lb Value.string p l0 w) :
    Calls Try.prog 51 #[.slice A0 l0.length c0, .func (.func g) #[] lb] w fun e w' => e = .returned (.bool (l0.any p)) ∧ Below w.heap.size w w' := by
  have H := slices_str_IndexFunc.calls p g lb eg A0 c0 l0 w hr0 hp
  have E := Aside0.mk (idxP_any p l0)
  clear hr0 hp
  generalize idxP p l0 = x at H E
  go_enter Try.func51, Try.ntmps51
  go_wp2_with (go_at_call 62; refine H.mono ?_; rintro e w' ⟨rfl, hb⟩)
  go_ret
  refine ⟨?_, hb⟩
  rw [← E.out]
  rfl

/-! ### strings_Compare: function 41 (by hand) -/
def strings_Compare.ren : Go.Shelf.Ren := ⟨fun | 106 => 41 | 213 => 46 | 265 => 58 | n => n, fun | 9 => 9 | 3 => 3 | n => n, fun | n => n⟩
theorem strings_Compare.lays : Go.Proofs.Lays.n106 Try.prog strings_Compare.ren := {
  mixed := by kernel_rfl
  f106 := Try.func41.trans (congrArg some (by kernel_rfl))
  f213 := Try.func46.trans (congrArg some (by kernel_rfl))
  f265 := Try.func58.trans (congrArg some (by kernel_rfl))
  t3 := Try.underlying3
  a3 := Try.isAgg3
  z3 := Try.sizeOf3
  v3 := Try.zeroValue3
  t9 := Try.underlying9
  a9 := Try.isAgg9
  z9 := Try.sizeOf9
  v9 := Try.zeroValue9 }
def strings_Compare.f (a0 : ByteArray) (a1 : ByteArray) : Option Int := some (cmpB a0 a1)
theorem strings_Compare.calls (a0 : ByteArray) (a1 : ByteArray) (r : Int) (w : World) (h : strings_Compare.f a0 a1 = some r) :
    Calls Try.prog 41 #[.string a0, .string a1] w fun e w' => e = .returned (.int .i64 r) ∧ Drawn0 w w' := by
  obtain rfl := Option.some.inj h
  exact (Any.strings_Compare strings_Compare.lays a0 a1 w).mono fun e w' ⟨he, hw⟩ => ⟨he, by rw [hw]; exact Drawn0.refl _⟩


/-! ### goods_rising_string: function 54 (by hand) -/
set_option maxHeartbeats 4000000 in
theorem rising_str.calls (c : ByteArray → ByteArray → Int) (g : Nat) (lb : Array Value) (eg : ∀ args w, (callFunc g args).run Try.prog w = .ok (.enter g args) w) (A0 : Option Addr) (c0 : Nat) (l0 : List ByteArray) (most : Int) (w : World)
    (hr0 : Kd.C Kd.string w A0 l0.length l0) (hp : CmpB Try.prog g lb Value.string c l0 w) :
    Calls Try.prog 54 #[.slice A0 l0.length c0, .int .i64 most, .func (.func g) #[] lb] w fun e w' => e = .returned (.bool (chainB (fun x y => decide (c x y < 0)) l0 && decide ((l0.length : Int) ≤ most))) ∧ Below w.heap.size w w' := by
  have HR0 := Aside0.mk hr0
  have HP := Aside0.mk hp
  clear hr0 hp
  have hlen : l0.length ≤ 9223372036854775807 := HR0.out.2.1
  go_enter Try.func54, Try.ntmps54
  go_wp2
  go_loopg [7] l0.length (fun gg s7 wr => ∃ m : Nat, m ≤ l0.length ∧ l0.length - m ≤ gg ∧ s7 = .int .i64 ((m : Int) + 1) ∧ Aside0 (Below w.heap.size w wr) ∧ Aside0 (∀ j (hj : j + 1 < l0.length), j < m → c (l0[j]'(by omega)) l0[j + 1] < 0))
  case atStart => exact ⟨0, by omega, by omega, rfl, ⟨Below.refl _ w⟩, ⟨fun j _ hj => by omega⟩⟩
  case round =>
    obtain ⟨m, hkk, hg, rfl, BW, A⟩ := hrel
    by_cases hlt : m + 1 < l0.length
    · have hltz : (m : Int) + 1 < (l0.length : Int) := by omega
      have hltm : (m : Int) < (l0.length : Int) := by omega
      have h0m : (0 : Int) ≤ (m : Int) + 1 := by omega
      have htn : ((m : Int) + 1).toNat = m + 1 := by omega
      have hmod : IntKind.i64.wrap (m : Int) = (m : Int) := IntWalk.i64_in _ (by omega)
      obtain ⟨ad, e0, hx0⟩ := at_string HR0.out ((m : Int) + 1) (by omega) hltz
      obtain ⟨ad2, e2, hy0⟩ := at_string HR0.out (m : Int) (by omega) hltm
      obtain rfl := Option.some.inj (e0.symm.trans e2)
      subst e0
      clear e2
      replace hx0 := (BW.out.cell (World.block_lt_of_cell? w _ hx0)).trans hx0
      replace hy0 := (BW.out.cell (World.block_lt_of_cell? w _ hy0)).trans hy0
      have g1 : rdOf ByteArray.empty l0 ((m : Int) + 1) = l0[m + 1] := getD_get _ l0 (m + 1) hlt
      have g0 : rdOf ByteArray.empty l0 (m : Int) = l0[m]'(by omega) := getD_get _ l0 m (by omega)
      have hcall := HP.out wr.drew (rdOf ByteArray.empty l0 (m : Int)) (rdOf ByteArray.empty l0 ((m : Int) + 1)) (by rw [g0]; exact List.getElem_mem _) (by rw [g1]; exact List.getElem_mem hlt) (below_drew BW.out)
      simp only [Int.toNat_natCast] at hy0
      rw [htn] at hx0
      have hadd : ad.add (m + 1) = ⟨ad.block, ad.off + (m + 1), none⟩ := by unfold Addr.add; rw [if_neg (by omega)]
      rw [hadd] at hx0
      clear hadd
      generalize hy_ : rdOf ByteArray.empty l0 ((m : Int) + 1) = y at hx0 hcall g1
      generalize hx_ : rdOf ByteArray.empty l0 (m : Int) = x at hy0 hcall g0
      have Y := Aside0.mk g1.symm
      have X := Aside0.mk g0.symm
      clear hx_ hy_ g0 g1
      by_cases hq : c x y < 0
      · have hd : decide (0 ≤ c x y) = false := by simpa using hq
        have Q := Aside0.mk hq
        clear hq
        generalize hqq : c x y = q at hd hcall Q
        have QE := Aside0.mk hqq
        clear hqq
        go_wp2
        go_still_tail 10, (by kernel_rfl)
        change wpList _ _ _ _ _ (wr.drew)
        go_wp2_with (go_at_fn g; refine hcall.mono ?_; rintro e w' ⟨rfl, hb'⟩)
        go_roundg (l0.length - (m + 1))
        case measure => omega
        case rel =>
          refine ⟨m + 1, by omega, by omega, by go_num, ⟨below_step (below_drew BW.out) hb'⟩, ⟨fun j hj hjk => ?_⟩⟩
          by_cases e : j = m
          · subst e; rw [X.out, Y.out, QE.out]; exact Q.out
          · exact A.out j hj (by omega)
      · have hd : decide (0 ≤ c x y) = true := by simpa using hq
        have Q := Aside0.mk hq
        clear hq
        generalize hqq : c x y = q at hd hcall Q
        have QE := Aside0.mk hqq
        clear hqq
        go_wp2
        go_still_tail 10, (by kernel_rfl)
        change wpList _ _ _ _ _ (wr.drew)
        go_wp2_with (go_at_fn g; refine hcall.mono ?_; rintro e w' ⟨rfl, hb'⟩)
        go_ret
        refine ⟨?_, below_step (below_drew BW.out) hb'⟩
        rw [chainB_no _ l0 m hlt (by rw [X.out, Y.out, QE.out]; simpa using Q.out)]
        rfl
    · have hltz : ¬ (m : Int) + 1 < (l0.length : Int) := by omega
      go_wp2
      go_ret
      refine ⟨?_, BW.out⟩
      rw [(chainB_iff _ l0).2 (fun i hi => by simpa using A.out i hi (by omega)), Bool.true_and]
      rfl

end Go.Proofs.Ytliablhnkoghbaa.PStockMoves
