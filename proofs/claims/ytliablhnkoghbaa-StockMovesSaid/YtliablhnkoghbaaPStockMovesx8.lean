-- PRINTED by print.py (a twelfth state) out of the translation. Not trusted: Lean checks it.
import Derived.Test.YtliablhnkoghbaaPStockMovesx0
import Derived.Test.YtliablhnkoghbaaPStockMovesx7
namespace Go.Proofs.Ytliablhnkoghbaa.PStockMoves
open Go.RowKit Go.Proofs.YtliablhnkoghbaaH Go.Proofs.YtliablhnkoghbaaW.PrintWords Go.Proofs.YtliablhnkoghbaaW.PrintLast Go.Proofs.YtliablhnkoghbaaW.PrintMore
attribute [local go_sem] max2_int min2_int max_two min_two max_three min_three max_four min_four   -- for this text's walks alone
set_option linter.unusedVariables false
set_option linter.unusedSimpArgs false

/-! ### tarryref08_Get: function 19 -/
def tarryref08_Get.l0 : Nat → ByteArray → List (S33) → Int → Int → Option (ByteArray × Int × Int × Int × Int × Int)
  | 0, _, _, _, _ => none
  | k + 1, x1, x7, x8, x9 => if x9 < x8 then (if 0 ≤ x9 then (if x9 < (x7.length : Int) then (if ((rd_T33 x7 x9).f0).toList = x1.toList then (some ((rd_T33 x7 x9).f0, (rd_T33 x7 x9).f1, (rd_T33 x7 x9).f2, (rd_T33 x7 x9).f3, (rd_T33 x7 x9).f4, (rd_T33 x7 x9).f5)) else (tarryref08_Get.l0 k x1 x7 x8 (wrap64 (x9 + 1)))) else (none)) else (none)) else (some ((⟨#[]⟩ : ByteArray), 0, 0, 0, 0, 0))
def tarryref08_Get.f (k : Nat) (l0 : List (S33)) (a1 : ByteArray) : Option (ByteArray × Int × Int × Int × Int × Int) := tarryref08_Get.l0 k a1 l0 (l0.length : Int) 0
theorem tarryref08_Get.mono_l : ∀ k, (∀ y0 y1 y2 y3, LeO (tarryref08_Get.l0 k y0 y1 y2 y3) (tarryref08_Get.l0 (k + 1) y0 y1 y2 y3))
  | 0 => fun _ _ _ _ r h => by simp [tarryref08_Get.l0] at h
  | k + 1 => by
    have ih0 := tarryref08_Get.mono_l k
    · intro y0 y1 y2 y3
      unfold tarryref08_Get.l0
      repeat' first
      | (with_reducible exact ih0 _ _ _ _)
      | (with_reducible exact LeO.refl _)
      | (with_reducible exact LeO.none _)
      | (with_reducible refine LeO.ite ?_ ?_)
      | (with_reducible refine LeO.bind ?_ (fun _ => ?_))
      | exact ih0 _ _ _ _
      | exact LeO.none _
      | refine LeO.ite ?_ ?_
      | refine LeO.bind ?_ (fun _ => ?_)
theorem tarryref08_Get.mono : ∀ a0 a1 k, LeO (tarryref08_Get.f k a0 a1) (tarryref08_Get.f (k + 1) a0 a1) := by
  intro a0 a1 k
  have ih0 := tarryref08_Get.mono_l k
  unfold tarryref08_Get.f
  repeat' first
      | (with_reducible exact ih0 _ _ _ _)
      | (with_reducible exact LeO.refl _)
      | (with_reducible exact LeO.none _)
      | (with_reducible refine LeO.ite ?_ ?_)
      | (with_reducible refine LeO.bind ?_ (fun _ => ?_))
      | exact ih0 _ _ _ _
      | exact LeO.none _
      | refine LeO.ite ?_ ?_
      | refine LeO.bind ?_ (fun _ => ?_)
set_option maxHeartbeats 8000000 in
set_option maxRecDepth 100000 in
theorem tarryref08_Get.calls (k : Nat) (A0 : Option Addr) (c0 : Nat) (l0 : List (S33)) (a1 : ByteArray) (r1 : ByteArray) (r2 : Int) (r3 : Int) (r4 : Int) (r5 : Int) (r6 : Int) (w : World) (hr0 : Kd.C k33 w A0 l0.length l0) (hc0 : l0.length ≤ c0) (h : tarryref08_Get.f k l0 a1 = some (r1, r2, r3, r4, r5, r6)) :
    Calls Try.prog 19 #[.slice A0 l0.length c0, .string a1] w fun e w' => e = .returned (.agg #[.string r1, .int .i64 r2, .int .i64 r3, .int .i64 r4, .int .i64 r5, .int .i64 r6]) ∧ Below w.heap.size w w' := by
  have hu33 := Try.underlying33
  have HR0 := Aside0.mk hr0
  have HC0 := Aside0.mk hc0
  clear hr0 hc0
  have HB := Aside0.mk (Below.refl w.heap.size w)
  have H : (tarryref08_Get.l0 k a1 l0 (l0.length : Int) 0) = some (r1, r2, r3, r4, r5, r6) := h
  clear h
  have H' := Aside0.mk H
  clear H
  go_enter Try.func19, Try.ntmps19
  go_wp2_with (first | ((with_reducible refine gate_dst (N := 4) rfl ?_); refine box_event ?hg (N := 4) ?hd (cs := #[.string (⟨#[]⟩ : ByteArray), .int .i64 0, .int .i64 0, .int .i64 0, .int .i64 0, .int .i64 0]) (t := 33) ?hr ?_; (case hd => rfl); (case hg => rfl); (case hr => first | (go_simp; done) | (go_simp; rfl)); intro gb190 hg w3 hbox hb; have n0_ := Aside0.mk (below_step (by repeat (first | (with_reducible first | exact HB.out | apply below_alloc | apply pw_below_drewN | apply below_drew1) | exact HB.out)) hb); have n1_ := Aside0.mk (hbox); have n2_ := Aside0.mk ((by rw [hg]; exact (below_size (by repeat (first | (with_reducible first | exact HB.out | apply below_alloc | apply pw_below_drewN | apply below_drew1) | exact HB.out))) : w.heap.size ≤ gb190)); have n3_ := Aside0.mk ((by rw [hg]; exact (below_size (by repeat (first | (with_reducible first | exact HB.out | apply below_alloc | apply pw_below_drewN | apply below_drew1) | exact HB.out))) : w.heap.size ≤ gb190)); clear HB; have HB := n0_; have BK190 := n1_; have GW190 := n2_; have GE190 := n3_; clear n0_ n1_ n2_ n3_; clear hb hbox hg))
  go_loopg [9] k (fun kq v9 w' => ∃ (x9_1 : Int) (x191000_1 : ByteArray) (x191001_1 : Int) (x191002_1 : Int) (x191003_1 : Int) (x191004_1 : Int) (x191005_1 : Int), v9 = .int .i64 x9_1 ∧ Aside0 (tarryref08_Get.l0 kq a1 l0 (l0.length : Int) x9_1 = some (r1, r2, r3, r4, r5, r6)) ∧ Aside0 (kq ≤ k) ∧ Aside0 (w'.heap[gb190]? = some (.cells #[.string x191000_1, .int .i64 x191001_1, .int .i64 x191002_1, .int .i64 x191003_1, .int .i64 x191004_1, .int .i64 x191005_1] 33 (0, 0))) ∧ Aside0 (Below w.heap.size w w'))
  case atStart => exact ⟨(0), ((⟨#[]⟩ : ByteArray)), (0), (0), (0), (0), (0), (by first | rfl | (simp; done) | (simp [*]; done)), H', ⟨Nat.le_refl _⟩, ⟨by (with_reducible repeat (first | refine blk_drewN ?_ _ | refine blk_drew ?_ | refine blk_alloc ?_ _)); exact BK190.out⟩, ⟨by repeat (first | (with_reducible first | exact HB.out | apply below_alloc | apply pw_below_drewN | apply below_drew1 | refine below_set ?_ GE190.out) | exact HB.out)⟩⟩
  case round =>
    clear H'
    try clear c1
    try clear p2
    obtain ⟨x9_1, x191000_1, x191001_1, x191002_1, x191003_1, x191004_1, x191005_1, rfl, HA, HK1, BK190, HB⟩ := hrel
    cases gk with
    | zero => exact absurd HA.out (by simp [tarryref08_Get.l0])
    | succ k1 =>
      have H := HA.out
      clear HA
      simp only [tarryref08_Get.l0] at H
      by_cases c4 : x9_1 < (l0.length : Int)
      · rw [if_pos c4] at H
        have c4b0 : decide (x9_1 < (l0.length : Int)) = true := decide_eq_true c4
        clear c4
        by_cases c5 : 0 ≤ x9_1
        · rw [if_pos c5] at H
          have c5b0 : decide (0 ≤ x9_1) = true := decide_eq_true c5
          clear c5
          by_cases c6 : x9_1 < (l0.length : Int)
          · rw [if_pos c6] at H
            have c6b0 : decide (x9_1 < (l0.length : Int)) = true := decide_eq_true c6
            clear c6
            by_cases c7 : ((rd_T33 l0 x9_1).f0).toList = a1.toList
            · rw [if_pos c7] at H
              have c7b0 : (((rd_T33 l0 x9_1).f0).toList == a1.toList) = true := beq_iff_eq.mpr c7
              have c7b1 : (((rd_T33 l0 x9_1).f0).toList != a1.toList) = false := bne_eq_false_iff_eq.mpr c7
              clear c7
              simp only [Option.some.injEq, Prod.mk.injEq] at H
              obtain ⟨rfl, rfl, rfl, rfl, rfl, rfl⟩ := H
              have p191 : 0 ≤ (x9_1 : Int) := of_decide_eq_true (by first | (with_reducible assumption) | assumption)
              have q191 : x9_1 < (l0.length : Int) := of_decide_eq_true (by first | (with_reducible assumption) | assumption)
              obtain ⟨ad191, e191, hx191_0, hx191_1, hx191_2, hx191_3, hx191_4, hx191_5⟩ := at_T33 HR0.out x9_1 p191 q191
              cases e191
              replace hx191_0 := (HB.out.cell (World.block_lt_of_cell? w _ hx191_0)).trans hx191_0
              replace hx191_1 := (HB.out.cell (World.block_lt_of_cell? w _ hx191_1)).trans hx191_1
              replace hx191_2 := (HB.out.cell (World.block_lt_of_cell? w _ hx191_2)).trans hx191_2
              replace hx191_3 := (HB.out.cell (World.block_lt_of_cell? w _ hx191_3)).trans hx191_3
              replace hx191_4 := (HB.out.cell (World.block_lt_of_cell? w _ hx191_4)).trans hx191_4
              replace hx191_5 := (HB.out.cell (World.block_lt_of_cell? w _ hx191_5)).trans hx191_5
              replace p191 := eq_true p191
              replace q191 := eq_true q191
              go_wp2_with (first | ((with_reducible refine gate_dst (N := 6) rfl ?_); refine box_event ?hg (N := 6) ?hd (cs := #[.string (⟨#[]⟩ : ByteArray), .int .i64 0, .int .i64 0, .int .i64 0, .int .i64 0, .int .i64 0]) (t := 33) ?hr ?_; (case hd => rfl); (case hg => rfl); (case hr => first | (go_simp; done) | (go_simp; rfl)); intro gb192 hg w8 hbox hb; have n0_ := Aside0.mk (blk_below (g := gb190) (o := .cells #[.string x191000_1, .int .i64 x191001_1, .int .i64 x191002_1, .int .i64 x191003_1, .int .i64 x191004_1, .int .i64 x191005_1] 33 (0, 0)) (by (with_reducible repeat (first | refine blk_drewN ?_ _ | refine blk_drew ?_ | refine blk_alloc ?_ _)); exact BK190.out) hb); have n1_ := Aside0.mk (below_step (by repeat (first | (with_reducible first | exact HB.out | apply below_alloc | apply pw_below_drewN | apply below_drew1 | refine below_set ?_ GE190.out) | exact HB.out)) hb); have n2_ := Aside0.mk (hbox); have n3_ := Aside0.mk ((by rw [hg]; exact (below_size (by repeat (first | (with_reducible first | exact HB.out | apply below_alloc | apply pw_below_drewN | apply below_drew1 | refine below_set ?_ GE190.out) | exact HB.out))) : w.heap.size ≤ gb192)); have n4_ := Aside0.mk ((by rw [hg]; exact (below_size (by repeat (first | (with_reducible first | exact HB.out | apply below_alloc | apply pw_below_drewN | apply below_drew1 | refine below_set ?_ GE190.out) | exact HB.out))) : w.heap.size ≤ gb192)); have n5_ := Aside0.mk ((by rw [hg]; exact Nat.ne_of_lt (blk_lt (g := gb190) (o := .cells #[.string x191000_1, .int .i64 x191001_1, .int .i64 x191002_1, .int .i64 x191003_1, .int .i64 x191004_1, .int .i64 x191005_1] 33 (0, 0)) (by (with_reducible repeat (first | refine blk_drewN ?_ _ | refine blk_drew ?_ | refine blk_alloc ?_ _)); exact BK190.out)) : gb190 ≠ gb192)); have n6_ := Aside0.mk ((by rw [hg]; exact Nat.ne_of_gt (blk_lt (g := gb190) (o := .cells #[.string x191000_1, .int .i64 x191001_1, .int .i64 x191002_1, .int .i64 x191003_1, .int .i64 x191004_1, .int .i64 x191005_1] 33 (0, 0)) (by (with_reducible repeat (first | refine blk_drewN ?_ _ | refine blk_drew ?_ | refine blk_alloc ?_ _)); exact BK190.out)) : gb192 ≠ gb190)); clear BK190; clear HB; have BK190 := n0_; have HB := n1_; have BK192 := n2_; have GW192 := n3_; have GE192 := n4_; have NB190_192 := n5_; have NB192_190 := n6_; clear n0_ n1_ n2_ n3_ n4_ n5_ n6_; clear hb hbox hg; have hnb9 := NB192_190.out; have hnc9 := NB190_192.out; have hcz10_0 : w8.cell? ⟨gb192, 0, none⟩ = some (.string (⟨#[]⟩ : ByteArray)) := (blk_cell BK192.out 0).trans rfl; have hcz10_1 : w8.cell? ⟨gb192, 1, none⟩ = some (.int .i64 0) := (blk_cell BK192.out 1).trans rfl; have hcz10_2 : w8.cell? ⟨gb192, 2, none⟩ = some (.int .i64 0) := (blk_cell BK192.out 2).trans rfl; have hcz10_3 : w8.cell? ⟨gb192, 3, none⟩ = some (.int .i64 0) := (blk_cell BK192.out 3).trans rfl; have hcz10_4 : w8.cell? ⟨gb192, 4, none⟩ = some (.int .i64 0) := (blk_cell BK192.out 4).trans rfl; have hcz10_5 : w8.cell? ⟨gb192, 5, none⟩ = some (.int .i64 0) := (blk_cell BK192.out 5).trans rfl; have hfz10_0 := blk_frozen BK192.out 0; have hfz10_1 := blk_frozen BK192.out 1; have hfz10_2 := blk_frozen BK192.out 2; have hfz10_3 := blk_frozen BK192.out 3; have hfz10_4 := blk_frozen BK192.out 4; have hfz10_5 := blk_frozen BK192.out 5; have hcz11_0 : w8.cell? ⟨gb190, 0, none⟩ = some (.string x191000_1) := (blk_cell BK190.out 0).trans rfl; have hcz11_1 : w8.cell? ⟨gb190, 1, none⟩ = some (.int .i64 x191001_1) := (blk_cell BK190.out 1).trans rfl; have hcz11_2 : w8.cell? ⟨gb190, 2, none⟩ = some (.int .i64 x191002_1) := (blk_cell BK190.out 2).trans rfl; have hcz11_3 : w8.cell? ⟨gb190, 3, none⟩ = some (.int .i64 x191003_1) := (blk_cell BK190.out 3).trans rfl; have hcz11_4 : w8.cell? ⟨gb190, 4, none⟩ = some (.int .i64 x191004_1) := (blk_cell BK190.out 4).trans rfl; have hcz11_5 : w8.cell? ⟨gb190, 5, none⟩ = some (.int .i64 x191005_1) := (blk_cell BK190.out 5).trans rfl; have hfz11_0 := blk_frozen BK190.out 0; have hfz11_1 := blk_frozen BK190.out 1; have hfz11_2 := blk_frozen BK190.out 2; have hfz11_3 := blk_frozen BK190.out 3; have hfz11_4 := blk_frozen BK190.out 4; have hfz11_5 := blk_frozen BK190.out 5))
              refine bodyPost_ret (results_cell_row rfl _ _ gb190 33 #[.string ((rd_T33 l0 x9_1).f0), .int .i64 ((rd_T33 l0 x9_1).f1), .int .i64 ((rd_T33 l0 x9_1).f2), .int .i64 ((rd_T33 l0 x9_1).f3), .int .i64 ((rd_T33 l0 x9_1).f4), .int .i64 ((rd_T33 l0 x9_1).f5)] (0, 0) _ rfl (by (with_reducible repeat (first | refine blk_drewN ?_ _ | refine blk_drew ?_ | refine blk_alloc ?_ _)); refine blk_put (cs := #[.string ((rd_T33 l0 x9_1).f0), .int .i64 ((rd_T33 l0 x9_1).f1), .int .i64 ((rd_T33 l0 x9_1).f2), .int .i64 ((rd_T33 l0 x9_1).f3), .int .i64 ((rd_T33 l0 x9_1).f4), .int .i64 x191005_1]) ?_ 5 _ rfl; (with_reducible repeat (first | refine blk_drewN ?_ _ | refine blk_drew ?_ | refine blk_alloc ?_ _)); refine blk_put (cs := #[.string ((rd_T33 l0 x9_1).f0), .int .i64 ((rd_T33 l0 x9_1).f1), .int .i64 ((rd_T33 l0 x9_1).f2), .int .i64 ((rd_T33 l0 x9_1).f3), .int .i64 x191004_1, .int .i64 x191005_1]) ?_ 4 _ rfl; (with_reducible repeat (first | refine blk_drewN ?_ _ | refine blk_drew ?_ | refine blk_alloc ?_ _)); refine blk_put (cs := #[.string ((rd_T33 l0 x9_1).f0), .int .i64 ((rd_T33 l0 x9_1).f1), .int .i64 ((rd_T33 l0 x9_1).f2), .int .i64 x191003_1, .int .i64 x191004_1, .int .i64 x191005_1]) ?_ 3 _ rfl; (with_reducible repeat (first | refine blk_drewN ?_ _ | refine blk_drew ?_ | refine blk_alloc ?_ _)); refine blk_put (cs := #[.string ((rd_T33 l0 x9_1).f0), .int .i64 ((rd_T33 l0 x9_1).f1), .int .i64 x191002_1, .int .i64 x191003_1, .int .i64 x191004_1, .int .i64 x191005_1]) ?_ 2 _ rfl; (with_reducible repeat (first | refine blk_drewN ?_ _ | refine blk_drew ?_ | refine blk_alloc ?_ _)); refine blk_put (cs := #[.string ((rd_T33 l0 x9_1).f0), .int .i64 x191001_1, .int .i64 x191002_1, .int .i64 x191003_1, .int .i64 x191004_1, .int .i64 x191005_1]) ?_ 1 _ rfl; (with_reducible repeat (first | refine blk_drewN ?_ _ | refine blk_drew ?_ | refine blk_alloc ?_ _)); refine blk_put (cs := #[.string x191000_1, .int .i64 x191001_1, .int .i64 x191002_1, .int .i64 x191003_1, .int .i64 x191004_1, .int .i64 x191005_1]) ?_ 0 _ rfl; (with_reducible repeat (first | refine blk_drewN ?_ _ | refine blk_drew ?_ | refine blk_alloc ?_ _)); refine blk_far ?_ NB190_192.out _; (with_reducible repeat (first | refine blk_drewN ?_ _ | refine blk_drew ?_ | refine blk_alloc ?_ _)); refine blk_far ?_ NB190_192.out _; (with_reducible repeat (first | refine blk_drewN ?_ _ | refine blk_drew ?_ | refine blk_alloc ?_ _)); refine blk_far ?_ NB190_192.out _; (with_reducible repeat (first | refine blk_drewN ?_ _ | refine blk_drew ?_ | refine blk_alloc ?_ _)); refine blk_far ?_ NB190_192.out _; (with_reducible repeat (first | refine blk_drewN ?_ _ | refine blk_drew ?_ | refine blk_alloc ?_ _)); refine blk_far ?_ NB190_192.out _; (with_reducible repeat (first | refine blk_drewN ?_ _ | refine blk_drew ?_ | refine blk_alloc ?_ _)); refine blk_far ?_ NB190_192.out _; (with_reducible repeat (first | refine blk_drewN ?_ _ | refine blk_drew ?_ | refine blk_alloc ?_ _)); exact BK190.out) Try.underlying33 rfl (by kernel_rfl)) rfl ?_
              exact ⟨by first | rfl | (simp [errW_none, errW_some] <;> rfl) | (simp [*, errW_none, errW_some] <;> rfl), by repeat (first | (with_reducible first | exact HB.out | apply below_alloc | apply pw_below_drewN | apply below_drew1 | refine below_set ?_ GE190.out | refine below_set ?_ GE192.out) | exact HB.out)⟩
            · rw [if_neg c7] at H
              have c7b0 : (((rd_T33 l0 x9_1).f0).toList == a1.toList) = false := beq_eq_false_iff_ne.mpr c7
              have c7b1 : (((rd_T33 l0 x9_1).f0).toList != a1.toList) = true := bne_iff_ne.mpr c7
              have H' := Aside0.mk H
              clear H
              have p191 : 0 ≤ (x9_1 : Int) := of_decide_eq_true (by first | (with_reducible assumption) | assumption)
              have q191 : x9_1 < (l0.length : Int) := of_decide_eq_true (by first | (with_reducible assumption) | assumption)
              obtain ⟨ad191, e191, hx191_0, hx191_1, hx191_2, hx191_3, hx191_4, hx191_5⟩ := at_T33 HR0.out x9_1 p191 q191
              cases e191
              replace hx191_0 := (HB.out.cell (World.block_lt_of_cell? w _ hx191_0)).trans hx191_0
              replace hx191_1 := (HB.out.cell (World.block_lt_of_cell? w _ hx191_1)).trans hx191_1
              replace hx191_2 := (HB.out.cell (World.block_lt_of_cell? w _ hx191_2)).trans hx191_2
              replace hx191_3 := (HB.out.cell (World.block_lt_of_cell? w _ hx191_3)).trans hx191_3
              replace hx191_4 := (HB.out.cell (World.block_lt_of_cell? w _ hx191_4)).trans hx191_4
              replace hx191_5 := (HB.out.cell (World.block_lt_of_cell? w _ hx191_5)).trans hx191_5
              replace p191 := eq_true p191
              replace q191 := eq_true q191
              go_wp2_with (first | ((with_reducible refine gate_dst (N := 6) rfl ?_); refine box_event ?hg (N := 6) ?hd (cs := #[.string (⟨#[]⟩ : ByteArray), .int .i64 0, .int .i64 0, .int .i64 0, .int .i64 0, .int .i64 0]) (t := 33) ?hr ?_; (case hd => rfl); (case hg => rfl); (case hr => first | (go_simp; done) | (go_simp; rfl)); intro gb192 hg w12 hbox hb; have n0_ := Aside0.mk (blk_below (g := gb190) (o := .cells #[.string x191000_1, .int .i64 x191001_1, .int .i64 x191002_1, .int .i64 x191003_1, .int .i64 x191004_1, .int .i64 x191005_1] 33 (0, 0)) (by (with_reducible repeat (first | refine blk_drewN ?_ _ | refine blk_drew ?_ | refine blk_alloc ?_ _)); exact BK190.out) hb); have n1_ := Aside0.mk (below_step (by repeat (first | (with_reducible first | exact HB.out | apply below_alloc | apply pw_below_drewN | apply below_drew1 | refine below_set ?_ GE190.out) | exact HB.out)) hb); have n2_ := Aside0.mk (hbox); have n3_ := Aside0.mk ((by rw [hg]; exact (below_size (by repeat (first | (with_reducible first | exact HB.out | apply below_alloc | apply pw_below_drewN | apply below_drew1 | refine below_set ?_ GE190.out) | exact HB.out))) : w.heap.size ≤ gb192)); have n4_ := Aside0.mk ((by rw [hg]; exact (below_size (by repeat (first | (with_reducible first | exact HB.out | apply below_alloc | apply pw_below_drewN | apply below_drew1 | refine below_set ?_ GE190.out) | exact HB.out))) : w.heap.size ≤ gb192)); have n5_ := Aside0.mk ((by rw [hg]; exact Nat.ne_of_lt (blk_lt (g := gb190) (o := .cells #[.string x191000_1, .int .i64 x191001_1, .int .i64 x191002_1, .int .i64 x191003_1, .int .i64 x191004_1, .int .i64 x191005_1] 33 (0, 0)) (by (with_reducible repeat (first | refine blk_drewN ?_ _ | refine blk_drew ?_ | refine blk_alloc ?_ _)); exact BK190.out)) : gb190 ≠ gb192)); have n6_ := Aside0.mk ((by rw [hg]; exact Nat.ne_of_gt (blk_lt (g := gb190) (o := .cells #[.string x191000_1, .int .i64 x191001_1, .int .i64 x191002_1, .int .i64 x191003_1, .int .i64 x191004_1, .int .i64 x191005_1] 33 (0, 0)) (by (with_reducible repeat (first | refine blk_drewN ?_ _ | refine blk_drew ?_ | refine blk_alloc ?_ _)); exact BK190.out)) : gb192 ≠ gb190)); clear BK190; clear HB; have BK190 := n0_; have HB := n1_; have BK192 := n2_; have GW192 := n3_; have GE192 := n4_; have NB190_192 := n5_; have NB192_190 := n6_; clear n0_ n1_ n2_ n3_ n4_ n5_ n6_; clear hb hbox hg; have hnb13 := NB192_190.out; have hnc13 := NB190_192.out; have hcz14_0 : w12.cell? ⟨gb192, 0, none⟩ = some (.string (⟨#[]⟩ : ByteArray)) := (blk_cell BK192.out 0).trans rfl; have hcz14_1 : w12.cell? ⟨gb192, 1, none⟩ = some (.int .i64 0) := (blk_cell BK192.out 1).trans rfl; have hcz14_2 : w12.cell? ⟨gb192, 2, none⟩ = some (.int .i64 0) := (blk_cell BK192.out 2).trans rfl; have hcz14_3 : w12.cell? ⟨gb192, 3, none⟩ = some (.int .i64 0) := (blk_cell BK192.out 3).trans rfl; have hcz14_4 : w12.cell? ⟨gb192, 4, none⟩ = some (.int .i64 0) := (blk_cell BK192.out 4).trans rfl; have hcz14_5 : w12.cell? ⟨gb192, 5, none⟩ = some (.int .i64 0) := (blk_cell BK192.out 5).trans rfl; have hfz14_0 := blk_frozen BK192.out 0; have hfz14_1 := blk_frozen BK192.out 1; have hfz14_2 := blk_frozen BK192.out 2; have hfz14_3 := blk_frozen BK192.out 3; have hfz14_4 := blk_frozen BK192.out 4; have hfz14_5 := blk_frozen BK192.out 5))
              go_roundg k1
              case measure => have := HK1.out; omega
              case rel => exact ⟨(wrap64 (x9_1 + 1)), (x191000_1), (x191001_1), (x191002_1), (x191003_1), (x191004_1), (x191005_1), (by first | rfl | (simp; done) | (simp [*]; done)), H', ⟨by have := HK1.out; omega⟩, ⟨by (with_reducible repeat (first | refine blk_drewN ?_ _ | refine blk_drew ?_ | refine blk_alloc ?_ _)); refine blk_far ?_ NB190_192.out _; (with_reducible repeat (first | refine blk_drewN ?_ _ | refine blk_drew ?_ | refine blk_alloc ?_ _)); refine blk_far ?_ NB190_192.out _; (with_reducible repeat (first | refine blk_drewN ?_ _ | refine blk_drew ?_ | refine blk_alloc ?_ _)); refine blk_far ?_ NB190_192.out _; (with_reducible repeat (first | refine blk_drewN ?_ _ | refine blk_drew ?_ | refine blk_alloc ?_ _)); refine blk_far ?_ NB190_192.out _; (with_reducible repeat (first | refine blk_drewN ?_ _ | refine blk_drew ?_ | refine blk_alloc ?_ _)); refine blk_far ?_ NB190_192.out _; (with_reducible repeat (first | refine blk_drewN ?_ _ | refine blk_drew ?_ | refine blk_alloc ?_ _)); refine blk_far ?_ NB190_192.out _; (with_reducible repeat (first | refine blk_drewN ?_ _ | refine blk_drew ?_ | refine blk_alloc ?_ _)); exact BK190.out⟩, ⟨by repeat (first | (with_reducible first | exact HB.out | apply below_alloc | apply pw_below_drewN | apply below_drew1 | refine below_set ?_ GE190.out | refine below_set ?_ GE192.out) | exact HB.out)⟩⟩
          · rw [if_neg c6] at H
            exact absurd H (by simp)
        · rw [if_neg c5] at H
          exact absurd H (by simp)
      · rw [if_neg c4] at H
        have c4b0 : decide (x9_1 < (l0.length : Int)) = false := decide_eq_false c4
        clear c4
        simp only [Option.some.injEq, Prod.mk.injEq] at H
        obtain ⟨rfl, rfl, rfl, rfl, rfl, rfl⟩ := H
        have hcz15_0 : wr.cell? ⟨gb190, 0, none⟩ = some (.string x191000_1) := (blk_cell BK190.out 0).trans rfl
        have hcz15_1 : wr.cell? ⟨gb190, 1, none⟩ = some (.int .i64 x191001_1) := (blk_cell BK190.out 1).trans rfl
        have hcz15_2 : wr.cell? ⟨gb190, 2, none⟩ = some (.int .i64 x191002_1) := (blk_cell BK190.out 2).trans rfl
        have hcz15_3 : wr.cell? ⟨gb190, 3, none⟩ = some (.int .i64 x191003_1) := (blk_cell BK190.out 3).trans rfl
        have hcz15_4 : wr.cell? ⟨gb190, 4, none⟩ = some (.int .i64 x191004_1) := (blk_cell BK190.out 4).trans rfl
        have hcz15_5 : wr.cell? ⟨gb190, 5, none⟩ = some (.int .i64 x191005_1) := (blk_cell BK190.out 5).trans rfl
        have hfz15_0 := blk_frozen BK190.out 0
        have hfz15_1 := blk_frozen BK190.out 1
        have hfz15_2 := blk_frozen BK190.out 2
        have hfz15_3 := blk_frozen BK190.out 3
        have hfz15_4 := blk_frozen BK190.out 4
        have hfz15_5 := blk_frozen BK190.out 5
        go_wp2
        refine bodyPost_ret (results_cell_row rfl _ _ gb190 33 #[.string (⟨#[]⟩ : ByteArray), .int .i64 0, .int .i64 0, .int .i64 0, .int .i64 0, .int .i64 0] (0, 0) _ rfl (by (with_reducible repeat (first | refine blk_drewN ?_ _ | refine blk_drew ?_ | refine blk_alloc ?_ _)); refine blk_put (cs := #[.string (⟨#[]⟩ : ByteArray), .int .i64 0, .int .i64 0, .int .i64 0, .int .i64 0, .int .i64 x191005_1]) ?_ 5 _ rfl; (with_reducible repeat (first | refine blk_drewN ?_ _ | refine blk_drew ?_ | refine blk_alloc ?_ _)); refine blk_put (cs := #[.string (⟨#[]⟩ : ByteArray), .int .i64 0, .int .i64 0, .int .i64 0, .int .i64 x191004_1, .int .i64 x191005_1]) ?_ 4 _ rfl; (with_reducible repeat (first | refine blk_drewN ?_ _ | refine blk_drew ?_ | refine blk_alloc ?_ _)); refine blk_put (cs := #[.string (⟨#[]⟩ : ByteArray), .int .i64 0, .int .i64 0, .int .i64 x191003_1, .int .i64 x191004_1, .int .i64 x191005_1]) ?_ 3 _ rfl; (with_reducible repeat (first | refine blk_drewN ?_ _ | refine blk_drew ?_ | refine blk_alloc ?_ _)); refine blk_put (cs := #[.string (⟨#[]⟩ : ByteArray), .int .i64 0, .int .i64 x191002_1, .int .i64 x191003_1, .int .i64 x191004_1, .int .i64 x191005_1]) ?_ 2 _ rfl; (with_reducible repeat (first | refine blk_drewN ?_ _ | refine blk_drew ?_ | refine blk_alloc ?_ _)); refine blk_put (cs := #[.string (⟨#[]⟩ : ByteArray), .int .i64 x191001_1, .int .i64 x191002_1, .int .i64 x191003_1, .int .i64 x191004_1, .int .i64 x191005_1]) ?_ 1 _ rfl; (with_reducible repeat (first | refine blk_drewN ?_ _ | refine blk_drew ?_ | refine blk_alloc ?_ _)); refine blk_put (cs := #[.string x191000_1, .int .i64 x191001_1, .int .i64 x191002_1, .int .i64 x191003_1, .int .i64 x191004_1, .int .i64 x191005_1]) ?_ 0 _ rfl; (with_reducible repeat (first | refine blk_drewN ?_ _ | refine blk_drew ?_ | refine blk_alloc ?_ _)); exact BK190.out) Try.underlying33 rfl (by kernel_rfl)) rfl ?_
        exact ⟨by first | rfl | (simp [errW_none, errW_some] <;> rfl) | (simp [*, errW_none, errW_some] <;> rfl), by repeat (first | (with_reducible first | exact HB.out | apply below_alloc | apply pw_below_drewN | apply below_drew1 | refine below_set ?_ GE190.out) | exact HB.out)⟩

/-! ### tarryref08_units: function 31 -/
def tarryref08_units.f (a0 : Int) : Option (Bool) := if a0 ≥ 1 then (some (decide (a0 ≤ 1073741824))) else (some false)
set_option maxHeartbeats 8000000 in
set_option maxRecDepth 100000 in
theorem tarryref08_units.calls (a0 : Int) (r : Bool) (w : World) (h : tarryref08_units.f a0 = some r) :
    Calls Try.prog 31 #[.int .i64 a0] w fun e w' => e = .returned (.bool r) ∧ Drawn0 w w' := by
  have H : (if a0 ≥ 1 then (some (decide (a0 ≤ 1073741824))) else (some false)) = some r := h
  clear h
  by_cases c2 : a0 ≥ 1
  · rw [if_pos c2] at H
    have c2b0 : decide (1 ≤ a0) = true := decide_eq_true c2
    clear c2
    obtain rfl := Option.some.inj H
    go_enter Try.func31, Try.ntmps31
    go_wp2
    go_ret
    exact ⟨by first | rfl | (simp; done) | (simp [*]; done), by repeat (first | exact Drawn0.refl _ | apply Drawn0.step)⟩
  · rw [if_neg c2] at H
    have c2b0 : decide (1 ≤ a0) = false := decide_eq_false c2
    clear c2
    obtain rfl := Option.some.inj H
    go_enter Try.func31, Try.ntmps31
    go_wp2
    go_ret
    exact ⟨by first | rfl | (simp; done) | (simp [*]; done), by repeat (first | exact Drawn0.refl _ | apply Drawn0.step)⟩

/-! ### tarryref08_Set: function 33 -/
mutual
def tarryref08_Set.l0 : Nat → List (S33) → Bool → List (S33) → Int → Int → ByteArray → Int → Int → Int → Int → Int → Option ((List (S33)))
  | 0, _, _, _, _, _, _, _, _, _, _, _ => none
  | k + 1, x5, x6, x10, x11, x12, x194000, x194001, x194002, x194003, x194004, x194005 => if x12 < x11 then (if 0 ≤ x12 then (if x12 < (x10.length : Int) then (if x6 = true then (tarryref08_Set.j1 k x5 x6 x10 x11 x12 false x194000 x194001 x194002 x194003 x194004 x194005 ((rd_T33 x10 x12).f0) ((rd_T33 x10 x12).f1) ((rd_T33 x10 x12).f2) ((rd_T33 x10 x12).f3) ((rd_T33 x10 x12).f4) ((rd_T33 x10 x12).f5)) else ((tarryref07_Less.f k ((rd_T33 x10 x12).f0) x194000).bind fun t202 => (tarryref08_Set.j1 k x5 x6 x10 x11 x12 (!t202) x194000 x194001 x194002 x194003 x194004 x194005 ((rd_T33 x10 x12).f0) ((rd_T33 x10 x12).f1) ((rd_T33 x10 x12).f2) ((rd_T33 x10 x12).f3) ((rd_T33 x10 x12).f4) ((rd_T33 x10 x12).f5)))) else (none)) else (none)) else (if x6 = true then (some x5) else (if x5.length < 2513169434916 then (some (x5 ++ [(⟨x194000, x194001, x194002, x194003, x194004, x194005⟩ : S33)])) else (none)))
def tarryref08_Set.j1 : Nat → List (S33) → Bool → List (S33) → Int → Int → Bool → ByteArray → Int → Int → Int → Int → Int → ByteArray → Int → Int → Int → Int → Int → Option ((List (S33)))
  | 0, _, _, _, _, _, _, _, _, _, _, _, _, _, _, _, _, _, _ => none
  | k + 1, x5, x6, x10, x11, x12, x25, x194000, x194001, x194002, x194003, x194004, x194005, x202000, x202001, x202002, x202003, x202004, x202005 => if x25 = true then (if x5.length < 2513169434916 then ((some (x5 ++ [(⟨x194000, x194001, x194002, x194003, x194004, x194005⟩ : S33)] : List (S33))).bind fun y203 => (if x202000.toList = x194000.toList then (tarryref08_Set.l0 k y203 true x10 x11 (wrap64 (x12 + 1)) x194000 x194001 x194002 x194003 x194004 x194005) else (if y203.length < 2513169434916 then (tarryref08_Set.l0 k (y203 ++ [(⟨x202000, x202001, x202002, x202003, x202004, x202005⟩ : S33)]) true x10 x11 (wrap64 (x12 + 1)) x194000 x194001 x194002 x194003 x194004 x194005) else (none)))) else (none)) else (if x202000.toList = x194000.toList then (tarryref08_Set.l0 k x5 x6 x10 x11 (wrap64 (x12 + 1)) x194000 x194001 x194002 x194003 x194004 x194005) else (if x5.length < 2513169434916 then (tarryref08_Set.l0 k (x5 ++ [(⟨x202000, x202001, x202002, x202003, x202004, x202005⟩ : S33)]) x6 x10 x11 (wrap64 (x12 + 1)) x194000 x194001 x194002 x194003 x194004 x194005) else (none)))
end
def tarryref08_Set.f (k : Nat) (l0 : List (S33)) (a1_0 : ByteArray) (a1_1 : Int) (a1_2 : Int) (a1_3 : Int) (a1_4 : Int) (a1_5 : Int) : Option ((List (S33))) := tarryref08_Set.l0 k (([] : List (S33))) false l0 (l0.length : Int) 0 a1_0 a1_1 a1_2 a1_3 a1_4 a1_5
theorem tarryref08_Set.mono_l : ∀ k, (∀ y0 y1 y2 y3 y4 y5 y6 y7 y8 y9 y10, LeO (tarryref08_Set.l0 k y0 y1 y2 y3 y4 y5 y6 y7 y8 y9 y10) (tarryref08_Set.l0 (k + 1) y0 y1 y2 y3 y4 y5 y6 y7 y8 y9 y10)) ∧ (∀ y0 y1 y2 y3 y4 y5 y6 y7 y8 y9 y10 y11 y12 y13 y14 y15 y16 y17, LeO (tarryref08_Set.j1 k y0 y1 y2 y3 y4 y5 y6 y7 y8 y9 y10 y11 y12 y13 y14 y15 y16 y17) (tarryref08_Set.j1 (k + 1) y0 y1 y2 y3 y4 y5 y6 y7 y8 y9 y10 y11 y12 y13 y14 y15 y16 y17))
  | 0 => ⟨fun _ _ _ _ _ _ _ _ _ _ _ r h => by simp [tarryref08_Set.l0] at h, fun _ _ _ _ _ _ _ _ _ _ _ _ _ _ _ _ _ _ r h => by simp [tarryref08_Set.j1] at h⟩
  | k + 1 => by
    obtain ⟨ih0, ih1⟩ := tarryref08_Set.mono_l k
    refine ⟨?_, ?_⟩
    · intro y0 y1 y2 y3 y4 y5 y6 y7 y8 y9 y10
      unfold tarryref08_Set.l0
      repeat' first
      | (with_reducible exact ih0 _ _ _ _ _ _ _ _ _ _ _)
      | (with_reducible exact ih1 _ _ _ _ _ _ _ _ _ _ _ _ _ _ _ _ _ _)
      | (with_reducible exact tarryref07_Less.mono _ _ _)
      | (with_reducible exact LeO.refl _)
      | (with_reducible exact LeO.none _)
      | (with_reducible refine LeO.ite ?_ ?_)
      | (with_reducible refine LeO.bind ?_ (fun _ => ?_))
      | exact ih0 _ _ _ _ _ _ _ _ _ _ _
      | exact ih1 _ _ _ _ _ _ _ _ _ _ _ _ _ _ _ _ _ _
      | exact tarryref07_Less.mono _ _ _
      | exact LeO.none _
      | refine LeO.ite ?_ ?_
      | refine LeO.bind ?_ (fun _ => ?_)
    · intro y0 y1 y2 y3 y4 y5 y6 y7 y8 y9 y10 y11 y12 y13 y14 y15 y16 y17
      unfold tarryref08_Set.j1
      repeat' first
      | (with_reducible exact ih0 _ _ _ _ _ _ _ _ _ _ _)
      | (with_reducible exact ih1 _ _ _ _ _ _ _ _ _ _ _ _ _ _ _ _ _ _)
      | (with_reducible exact tarryref07_Less.mono _ _ _)
      | (with_reducible exact LeO.refl _)
      | (with_reducible exact LeO.none _)
      | (with_reducible refine LeO.ite ?_ ?_)
      | (with_reducible refine LeO.bind ?_ (fun _ => ?_))
      | exact ih0 _ _ _ _ _ _ _ _ _ _ _
      | exact ih1 _ _ _ _ _ _ _ _ _ _ _ _ _ _ _ _ _ _
      | exact tarryref07_Less.mono _ _ _
      | exact LeO.none _
      | refine LeO.ite ?_ ?_
      | refine LeO.bind ?_ (fun _ => ?_)
theorem tarryref08_Set.mono : ∀ a0 a1 a2 a3 a4 a5 a6 k, LeO (tarryref08_Set.f k a0 a1 a2 a3 a4 a5 a6) (tarryref08_Set.f (k + 1) a0 a1 a2 a3 a4 a5 a6) := by
  intro a0 a1 a2 a3 a4 a5 a6 k
  obtain ⟨ih0, ih1⟩ := tarryref08_Set.mono_l k
  unfold tarryref08_Set.f
  repeat' first
      | (with_reducible exact ih0 _ _ _ _ _ _ _ _ _ _ _)
      | (with_reducible exact ih1 _ _ _ _ _ _ _ _ _ _ _ _ _ _ _ _ _ _)
      | (with_reducible exact tarryref07_Less.mono _ _ _)
      | (with_reducible exact LeO.refl _)
      | (with_reducible exact LeO.none _)
      | (with_reducible refine LeO.ite ?_ ?_)
      | (with_reducible refine LeO.bind ?_ (fun _ => ?_))
      | exact ih0 _ _ _ _ _ _ _ _ _ _ _
      | exact ih1 _ _ _ _ _ _ _ _ _ _ _ _ _ _ _ _ _ _
      | exact tarryref07_Less.mono _ _ _
      | exact LeO.none _
      | refine LeO.ite ?_ ?_
      | refine LeO.bind ?_ (fun _ => ?_)
set_option maxHeartbeats 8000000 in
set_option maxRecDepth 100000 in
theorem tarryref08_Set.calls (k : Nat) (A0 : Option Addr) (c0 : Nat) (l0 : List (S33)) (a1_0 : ByteArray) (a1_1 : Int) (a1_2 : Int) (a1_3 : Int) (a1_4 : Int) (a1_5 : Int) (r : List (S33)) (w : World) (hr0 : Kd.C k33 w A0 l0.length l0) (hc0 : l0.length ≤ c0) (h : tarryref08_Set.f k l0 a1_0 a1_1 a1_2 a1_3 a1_4 a1_5 = some r) :
    Calls Try.prog 33 #[.slice A0 l0.length c0, .agg #[.string a1_0, .int .i64 a1_1, .int .i64 a1_2, .int .i64 a1_3, .int .i64 a1_4, .int .i64 a1_5]] w fun e w' => ∃ v0_ : Value, e = .returned (v0_) ∧ Kd.R k33 33 w' w.heap.size (fun _ => True) v0_ r ∧ Below w.heap.size w w' := by
  have hu33 := Try.underlying33
  have HR0 := Aside0.mk hr0
  have HC0 := Aside0.mk hc0
  clear hr0 hc0
  have HB := Aside0.mk (Below.refl w.heap.size w)
  have H : (tarryref08_Set.l0 k (([] : List (S33))) false l0 (l0.length : Int) 0 a1_0 a1_1 a1_2 a1_3 a1_4 a1_5) = some r := h
  clear h
  obtain ⟨y194, hy194⟩ : ∃ y_ : List (S33), y_ = (([] : List (S33))) := ⟨_, rfl⟩
  replace H : (tarryref08_Set.l0 k y194 false l0 (l0.length : Int) 0 a1_0 a1_1 a1_2 a1_3 a1_4 a1_5) = some r := by first | (rw [hy194]; with_reducible exact H) | (have H2_ := (Option.bind_some _ _).symm.trans H; rw [hy194]; with_reducible exact H2_) | (have H2_ := (Option.bind_some _ _).symm.trans H; with_reducible exact H2_) | with_reducible exact H | (rw [hy194]; exact H) | exact H
  have Ny194 := Aside0.mk hy194
  clear hy194
  have H' := Aside0.mk H
  clear H
  go_enter Try.func33, Try.ntmps33
  go_wp2_with (first | ((with_reducible refine gate_dst (N := 3) rfl ?_); refine box_event ?hg (N := 3) ?hd (cs := #[.string a1_0, .int .i64 a1_1, .int .i64 a1_2, .int .i64 a1_3, .int .i64 a1_4, .int .i64 a1_5]) (t := 33) ?hr ?_; (case hd => rfl); (case hg => rfl); (case hr => first | (go_simp; done) | (go_simp; rfl)); intro gb193 hg w3 hbox hb; have n0_ := Aside0.mk (below_step (by repeat (first | (with_reducible first | exact HB.out | apply below_alloc | apply pw_below_drewN | apply below_drew1) | exact HB.out)) hb); have n1_ := Aside0.mk (hbox); have n2_ := Aside0.mk ((by rw [hg]; exact (below_size (by repeat (first | (with_reducible first | exact HB.out | apply below_alloc | apply pw_below_drewN | apply below_drew1) | exact HB.out))) : w.heap.size ≤ gb193)); have n3_ := Aside0.mk ((by rw [hg]; exact (below_size (by repeat (first | (with_reducible first | exact HB.out | apply below_alloc | apply pw_below_drewN | apply below_drew1) | exact HB.out))) : w.heap.size ≤ gb193)); clear HB; have HB := n0_; have BK193 := n1_; have GW193 := n2_; have GE193 := n3_; clear n0_ n1_ n2_ n3_; clear hb hbox hg) | ((with_reducible refine gate_dst (N := 9) rfl ?_); refine Kd.R_lit k33 _ 33 ?hg (N := 9) ?hd (xs := ([] : List (S33))) (inner := []) (ok := fun _ => True) (okp := fun _ => True) ?hr ?hp (fun _ hk => hk) trivial (Below.refl _ _) (Nat.le_refl _) (by simp) ?_; (case hd => rfl); (case hg => rfl); (case hr => first | (go_simp; done) | (go_simp; rfl)); (case hp => exact (Reps.none _ _)); intro v195 w4 ho5 hb hg_ hnew_; clear hg_ hnew_; (first | rw [← Ny194.out] at ho5 | (simp only [Int.reduceToNat] at ho5; rw [← Ny194.out] at ho5)); have n0_ := Aside0.mk (Kd.R_lower (Kd.R_newB ho5 (g := gb193) (o := .cells #[.string a1_0, .int .i64 a1_1, .int .i64 a1_2, .int .i64 a1_3, .int .i64 a1_4, .int .i64 a1_5] 33 (0, 0)) (by (with_reducible repeat (first | refine blk_drewN ?_ _ | refine blk_drew ?_ | refine blk_alloc ?_ _)); exact BK193.out)) (below_size (by repeat (first | (with_reducible first | exact HB.out | apply below_alloc | apply pw_below_drewN | apply below_drew1 | refine below_set ?_ GE193.out) | exact HB.out)))); have n1_ := Aside0.mk (blk_below (g := gb193) (o := .cells #[.string a1_0, .int .i64 a1_1, .int .i64 a1_2, .int .i64 a1_3, .int .i64 a1_4, .int .i64 a1_5] 33 (0, 0)) (by (with_reducible repeat (first | refine blk_drewN ?_ _ | refine blk_drew ?_ | refine blk_alloc ?_ _)); exact BK193.out) hb); have n2_ := Aside0.mk (below_step (by repeat (first | (with_reducible first | exact HB.out | apply below_alloc | apply pw_below_drewN | apply below_drew1 | refine below_set ?_ GE193.out) | exact HB.out)) hb); clear BK193; clear HB; have HO196 := n0_; have BK193 := n1_; have HB := n2_; clear n0_ n1_ n2_; clear hb ho5))
  go_loopg [5, 6, 12] k (fun kq v5 v6 v12 w' => ∃ (x5_1 : List (S33)) (x6_1 : Bool) (x12_1 : Int), v6 = .bool x6_1 ∧ v12 = .int .i64 x12_1 ∧ Aside0 (tarryref08_Set.l0 kq x5_1 x6_1 l0 (l0.length : Int) x12_1 a1_0 a1_1 a1_2 a1_3 a1_4 a1_5 = some r) ∧ Aside0 (kq ≤ k) ∧ Aside0 (Kd.R k33 33 w' w.heap.size (fun k_ => k_ ≠ gb193) v5 x5_1) ∧ Aside0 (w'.heap[gb193]? = some (.cells #[.string a1_0, .int .i64 a1_1, .int .i64 a1_2, .int .i64 a1_3, .int .i64 a1_4, .int .i64 a1_5] 33 (0, 0))) ∧ Aside0 (Below w.heap.size w w'))
  case atStart => exact ⟨(y194), (false), (0), (by first | rfl | (simp; done) | (simp [*]; done)), (by first | rfl | (simp; done) | (simp [*]; done)), H', ⟨Nat.le_refl _⟩, ⟨by (with_reducible repeat (first | apply Kd.R_alloc | apply Kd.R_drewN | apply Kd.R_drew)); exact Kd.R_mono HO196.out (fun _ hk => hk.2)⟩, ⟨by (with_reducible repeat (first | refine blk_drewN ?_ _ | refine blk_drew ?_ | refine blk_alloc ?_ _)); exact BK193.out⟩, ⟨by repeat (first | (with_reducible first | exact HB.out | apply below_alloc | apply pw_below_drewN | apply below_drew1 | refine below_set ?_ GE193.out) | exact HB.out)⟩⟩
  case round =>
    clear H'
    try clear p2
    try clear c3
    obtain ⟨x5_1, x6_1, x12_1, rfl, rfl, HA, HK1, HO_5, BK193, HB⟩ := hrel
    cases gk with
    | zero => exact absurd HA.out (by simp [tarryref08_Set.l0])
    | succ k1 =>
      have H := HA.out
      clear HA
      simp only [tarryref08_Set.l0] at H
      by_cases c6 : x12_1 < (l0.length : Int)
      · rw [if_pos c6] at H
        have c6b0 : decide (x12_1 < (l0.length : Int)) = true := decide_eq_true c6
        clear c6
        by_cases c7 : 0 ≤ x12_1
        · rw [if_pos c7] at H
          have c7b0 : decide (0 ≤ x12_1) = true := decide_eq_true c7
          clear c7
          by_cases c8 : x12_1 < (l0.length : Int)
          · rw [if_pos c8] at H
            have c8b0 : decide (x12_1 < (l0.length : Int)) = true := decide_eq_true c8
            clear c8
            have HC9 := Aside0.mk H
            clear H
            have p200 : 0 ≤ (x12_1 : Int) := of_decide_eq_true (by first | (with_reducible assumption) | assumption)
            have q200 : x12_1 < (l0.length : Int) := of_decide_eq_true (by first | (with_reducible assumption) | assumption)
            obtain ⟨ad200, e200, hx200_0, hx200_1, hx200_2, hx200_3, hx200_4, hx200_5⟩ := at_T33 HR0.out x12_1 p200 q200
            cases e200
            replace hx200_0 := (HB.out.cell (World.block_lt_of_cell? w _ hx200_0)).trans hx200_0
            replace hx200_1 := (HB.out.cell (World.block_lt_of_cell? w _ hx200_1)).trans hx200_1
            replace hx200_2 := (HB.out.cell (World.block_lt_of_cell? w _ hx200_2)).trans hx200_2
            replace hx200_3 := (HB.out.cell (World.block_lt_of_cell? w _ hx200_3)).trans hx200_3
            replace hx200_4 := (HB.out.cell (World.block_lt_of_cell? w _ hx200_4)).trans hx200_4
            replace hx200_5 := (HB.out.cell (World.block_lt_of_cell? w _ hx200_5)).trans hx200_5
            replace p200 := eq_true p200
            replace q200 := eq_true q200
            go_upto_region 6 with (first | ((with_reducible refine gate_dst (N := 8) rfl ?_); refine box_event ?hg (N := 8) ?hd (cs := #[.string (⟨#[]⟩ : ByteArray), .int .i64 0, .int .i64 0, .int .i64 0, .int .i64 0, .int .i64 0]) (t := 33) ?hr ?_; (case hd => rfl); (case hg => rfl); (case hr => first | (go_simp; done) | (go_simp; rfl)); intro gb201 hg w10 hbox hb; have n0_ := Aside0.mk (Kd.R_below (Kd.R_elderB (by (with_reducible repeat (first | apply Kd.R_alloc | apply Kd.R_drewN | apply Kd.R_drew)); exact HO_5.out) gb201 (Nat.le_of_eq hg.symm)) hb); have n1_ := Aside0.mk (blk_below (g := gb193) (o := .cells #[.string a1_0, .int .i64 a1_1, .int .i64 a1_2, .int .i64 a1_3, .int .i64 a1_4, .int .i64 a1_5] 33 (0, 0)) (by (with_reducible repeat (first | refine blk_drewN ?_ _ | refine blk_drew ?_ | refine blk_alloc ?_ _)); exact BK193.out) hb); have n2_ := Aside0.mk (below_step (by repeat (first | (with_reducible first | exact HB.out | apply below_alloc | apply pw_below_drewN | apply below_drew1 | refine below_set ?_ GE193.out) | exact HB.out)) hb); have n3_ := Aside0.mk (hbox); have n4_ := Aside0.mk ((by rw [hg]; exact (below_size (by repeat (first | (with_reducible first | exact HB.out | apply below_alloc | apply pw_below_drewN | apply below_drew1 | refine below_set ?_ GE193.out) | exact HB.out))) : w.heap.size ≤ gb201)); have n5_ := Aside0.mk ((by rw [hg]; exact (below_size (by repeat (first | (with_reducible first | exact HB.out | apply below_alloc | apply pw_below_drewN | apply below_drew1 | refine below_set ?_ GE193.out) | exact HB.out))) : w.heap.size ≤ gb201)); have n6_ := Aside0.mk ((by rw [hg]; exact Nat.ne_of_lt (blk_lt (g := gb193) (o := .cells #[.string a1_0, .int .i64 a1_1, .int .i64 a1_2, .int .i64 a1_3, .int .i64 a1_4, .int .i64 a1_5] 33 (0, 0)) (by (with_reducible repeat (first | refine blk_drewN ?_ _ | refine blk_drew ?_ | refine blk_alloc ?_ _)); exact BK193.out)) : gb193 ≠ gb201)); have n7_ := Aside0.mk ((by rw [hg]; exact Nat.ne_of_gt (blk_lt (g := gb193) (o := .cells #[.string a1_0, .int .i64 a1_1, .int .i64 a1_2, .int .i64 a1_3, .int .i64 a1_4, .int .i64 a1_5] 33 (0, 0)) (by (with_reducible repeat (first | refine blk_drewN ?_ _ | refine blk_drew ?_ | refine blk_alloc ?_ _)); exact BK193.out)) : gb201 ≠ gb193)); clear HO_5; clear BK193; clear HB; have HO_5 := n0_; have BK193 := n1_; have HB := n2_; have BK201 := n3_; have GW201 := n4_; have GE201 := n5_; have NB193_201 := n6_; have NB201_193 := n7_; clear n0_ n1_ n2_ n3_ n4_ n5_ n6_ n7_; clear hb hbox hg; have hnb11 := NB201_193.out; have hnc11 := NB193_201.out; have hcz12_0 : w10.cell? ⟨gb201, 0, none⟩ = some (.string (⟨#[]⟩ : ByteArray)) := (blk_cell BK201.out 0).trans rfl; have hcz12_1 : w10.cell? ⟨gb201, 1, none⟩ = some (.int .i64 0) := (blk_cell BK201.out 1).trans rfl; have hcz12_2 : w10.cell? ⟨gb201, 2, none⟩ = some (.int .i64 0) := (blk_cell BK201.out 2).trans rfl; have hcz12_3 : w10.cell? ⟨gb201, 3, none⟩ = some (.int .i64 0) := (blk_cell BK201.out 3).trans rfl; have hcz12_4 : w10.cell? ⟨gb201, 4, none⟩ = some (.int .i64 0) := (blk_cell BK201.out 4).trans rfl; have hcz12_5 : w10.cell? ⟨gb201, 5, none⟩ = some (.int .i64 0) := (blk_cell BK201.out 5).trans rfl; have hfz12_0 := blk_frozen BK201.out 0; have hfz12_1 := blk_frozen BK201.out 1; have hfz12_2 := blk_frozen BK201.out 2; have hfz12_3 := blk_frozen BK201.out 3; have hfz12_4 := blk_frozen BK201.out 4; have hfz12_5 := blk_frozen BK201.out 5))
            (try simp only [Act.put, List.setIfInBounds_toArray, List.set_cons_zero, List.set_cons_succ])
            go_cut [25] (fun v25 wc => ∃ (kq : Nat) (x25_8 : Bool), v25 = .bool x25_8 ∧ Aside0 (tarryref08_Set.j1 kq x5_1 x6_1 l0 (l0.length : Int) x12_1 x25_8 a1_0 a1_1 a1_2 a1_3 a1_4 a1_5 ((rd_T33 l0 x12_1).f0) ((rd_T33 l0 x12_1).f1) ((rd_T33 l0 x12_1).f2) ((rd_T33 l0 x12_1).f3) ((rd_T33 l0 x12_1).f4) ((rd_T33 l0 x12_1).f5) = some r) ∧ Aside0 (kq ≤ k1) ∧ Aside0 (Kd.R k33 33 wc w.heap.size (fun k_ => k_ ≠ gb193 ∧ k_ ≠ gb201) u5 x5_1) ∧ Aside0 (wc.heap[gb193]? = some (.cells #[.string a1_0, .int .i64 a1_1, .int .i64 a1_2, .int .i64 a1_3, .int .i64 a1_4, .int .i64 a1_5] 33 (0, 0))) ∧ Aside0 (wc.heap[gb201]? = some (.cells #[.string ((rd_T33 l0 x12_1).f0), .int .i64 ((rd_T33 l0 x12_1).f1), .int .i64 ((rd_T33 l0 x12_1).f2), .int .i64 ((rd_T33 l0 x12_1).f3), .int .i64 ((rd_T33 l0 x12_1).f4), .int .i64 ((rd_T33 l0 x12_1).f5)] 33 (0, 0))) ∧ Aside0 (Below w.heap.size w wc))
            case first =>
              have H := HC9.out
              clear HC9
              by_cases c13 : x6_1 = true
              · subst c13
                have H1 : (tarryref08_Set.j1 k1 x5_1 true l0 (l0.length : Int) x12_1 false a1_0 a1_1 a1_2 a1_3 a1_4 a1_5 ((rd_T33 l0 x12_1).f0) ((rd_T33 l0 x12_1).f1) ((rd_T33 l0 x12_1).f2) ((rd_T33 l0 x12_1).f3) ((rd_T33 l0 x12_1).f4) ((rd_T33 l0 x12_1).f5)) = some r := by rw [if_pos rfl] at H; exact H
                clear H
                have H := H1
                clear H1
                have H' := Aside0.mk H
                clear H
                go_wp2
                go_meet
                case rel => exact ⟨_, (false), (by first | rfl | (simp; done) | (simp [*]; done)), H', ⟨by have := HK1.out; first | omega | exact Nat.le_refl _⟩, ⟨by (with_reducible repeat (first | apply Kd.R_alloc | apply Kd.R_drewN | apply Kd.R_drew)); exact Kd.R_mono (Kd.R_far (p := ⟨gb201, 5, none⟩) (Kd.R_far (p := ⟨gb201, 4, none⟩) (Kd.R_far (p := ⟨gb201, 3, none⟩) (Kd.R_far (p := ⟨gb201, 2, none⟩) (Kd.R_far (p := ⟨gb201, 1, none⟩) (Kd.R_far (p := ⟨gb201, 0, none⟩) (Kd.R_mono HO_5.out (fun k_ hk => (⟨hk, hk.2⟩ : _ ∧ k_ ≠ gb201))) (fun _ hk => hk.2) (.string ((rd_T33 l0 x12_1).f0))) (fun _ hk => hk.2) (.int .i64 ((rd_T33 l0 x12_1).f1))) (fun _ hk => hk.2) (.int .i64 ((rd_T33 l0 x12_1).f2))) (fun _ hk => hk.2) (.int .i64 ((rd_T33 l0 x12_1).f3))) (fun _ hk => hk.2) (.int .i64 ((rd_T33 l0 x12_1).f4))) (fun _ hk => hk.2) (.int .i64 ((rd_T33 l0 x12_1).f5))) (fun _ hk => ⟨hk.1.1, hk.1.2⟩)⟩, ⟨by (with_reducible repeat (first | refine blk_drewN ?_ _ | refine blk_drew ?_ | refine blk_alloc ?_ _)); refine blk_far ?_ NB193_201.out _; (with_reducible repeat (first | refine blk_drewN ?_ _ | refine blk_drew ?_ | refine blk_alloc ?_ _)); refine blk_far ?_ NB193_201.out _; (with_reducible repeat (first | refine blk_drewN ?_ _ | refine blk_drew ?_ | refine blk_alloc ?_ _)); refine blk_far ?_ NB193_201.out _; (with_reducible repeat (first | refine blk_drewN ?_ _ | refine blk_drew ?_ | refine blk_alloc ?_ _)); refine blk_far ?_ NB193_201.out _; (with_reducible repeat (first | refine blk_drewN ?_ _ | refine blk_drew ?_ | refine blk_alloc ?_ _)); refine blk_far ?_ NB193_201.out _; (with_reducible repeat (first | refine blk_drewN ?_ _ | refine blk_drew ?_ | refine blk_alloc ?_ _)); refine blk_far ?_ NB193_201.out _; (with_reducible repeat (first | refine blk_drewN ?_ _ | refine blk_drew ?_ | refine blk_alloc ?_ _)); exact BK193.out⟩, ⟨by (with_reducible repeat (first | refine blk_drewN ?_ _ | refine blk_drew ?_ | refine blk_alloc ?_ _)); refine blk_put (cs := #[.string ((rd_T33 l0 x12_1).f0), .int .i64 ((rd_T33 l0 x12_1).f1), .int .i64 ((rd_T33 l0 x12_1).f2), .int .i64 ((rd_T33 l0 x12_1).f3), .int .i64 ((rd_T33 l0 x12_1).f4), .int .i64 0]) ?_ 5 _ rfl; (with_reducible repeat (first | refine blk_drewN ?_ _ | refine blk_drew ?_ | refine blk_alloc ?_ _)); refine blk_put (cs := #[.string ((rd_T33 l0 x12_1).f0), .int .i64 ((rd_T33 l0 x12_1).f1), .int .i64 ((rd_T33 l0 x12_1).f2), .int .i64 ((rd_T33 l0 x12_1).f3), .int .i64 0, .int .i64 0]) ?_ 4 _ rfl; (with_reducible repeat (first | refine blk_drewN ?_ _ | refine blk_drew ?_ | refine blk_alloc ?_ _)); refine blk_put (cs := #[.string ((rd_T33 l0 x12_1).f0), .int .i64 ((rd_T33 l0 x12_1).f1), .int .i64 ((rd_T33 l0 x12_1).f2), .int .i64 0, .int .i64 0, .int .i64 0]) ?_ 3 _ rfl; (with_reducible repeat (first | refine blk_drewN ?_ _ | refine blk_drew ?_ | refine blk_alloc ?_ _)); refine blk_put (cs := #[.string ((rd_T33 l0 x12_1).f0), .int .i64 ((rd_T33 l0 x12_1).f1), .int .i64 0, .int .i64 0, .int .i64 0, .int .i64 0]) ?_ 2 _ rfl; (with_reducible repeat (first | refine blk_drewN ?_ _ | refine blk_drew ?_ | refine blk_alloc ?_ _)); refine blk_put (cs := #[.string ((rd_T33 l0 x12_1).f0), .int .i64 0, .int .i64 0, .int .i64 0, .int .i64 0, .int .i64 0]) ?_ 1 _ rfl; (with_reducible repeat (first | refine blk_drewN ?_ _ | refine blk_drew ?_ | refine blk_alloc ?_ _)); refine blk_put (cs := #[.string (⟨#[]⟩ : ByteArray), .int .i64 0, .int .i64 0, .int .i64 0, .int .i64 0, .int .i64 0]) ?_ 0 _ rfl; (with_reducible repeat (first | refine blk_drewN ?_ _ | refine blk_drew ?_ | refine blk_alloc ?_ _)); exact BK201.out⟩, ⟨by repeat (first | (with_reducible first | exact HB.out | apply below_alloc | apply pw_below_drewN | apply below_drew1 | refine below_set ?_ GE193.out | refine below_set ?_ GE201.out) | exact HB.out)⟩⟩
              · replace c13 := Bool.eq_false_iff.mpr c13
                subst c13
                have H1 : ((tarryref07_Less.f k1 ((rd_T33 l0 x12_1).f0) a1_0).bind fun t202 => (tarryref08_Set.j1 k1 x5_1 false l0 (l0.length : Int) x12_1 (!t202) a1_0 a1_1 a1_2 a1_3 a1_4 a1_5 ((rd_T33 l0 x12_1).f0) ((rd_T33 l0 x12_1).f1) ((rd_T33 l0 x12_1).f2) ((rd_T33 l0 x12_1).f3) ((rd_T33 l0 x12_1).f4) ((rd_T33 l0 x12_1).f5))) = some r := by rw [if_neg (show ¬ (false = true) by decide)] at H; exact H
                clear H
                have H := H1
                clear H1
                replace H := Option.bind_eq_some_iff.mp H
                obtain ⟨t202, A140, H⟩ := H
                replace H : (tarryref08_Set.j1 k1 x5_1 false l0 (l0.length : Int) x12_1 (!t202) a1_0 a1_1 a1_2 a1_3 a1_4 a1_5 ((rd_T33 l0 x12_1).f0) ((rd_T33 l0 x12_1).f1) ((rd_T33 l0 x12_1).f2) ((rd_T33 l0 x12_1).f3) ((rd_T33 l0 x12_1).f4) ((rd_T33 l0 x12_1).f5)) = some r := H
                have A14 := Aside0.mk A140
                clear A140
                have H' := Aside0.mk H
                clear H
                have hnb15 := NB201_193.out
                have hnc15 := NB193_201.out
                have hcz16_0 : w10.cell? ⟨gb201, 0, none⟩ = some (.string (⟨#[]⟩ : ByteArray)) := (blk_cell BK201.out 0).trans rfl
                have hcz16_1 : w10.cell? ⟨gb201, 1, none⟩ = some (.int .i64 0) := (blk_cell BK201.out 1).trans rfl
                have hcz16_2 : w10.cell? ⟨gb201, 2, none⟩ = some (.int .i64 0) := (blk_cell BK201.out 2).trans rfl
                have hcz16_3 : w10.cell? ⟨gb201, 3, none⟩ = some (.int .i64 0) := (blk_cell BK201.out 3).trans rfl
                have hcz16_4 : w10.cell? ⟨gb201, 4, none⟩ = some (.int .i64 0) := (blk_cell BK201.out 4).trans rfl
                have hcz16_5 : w10.cell? ⟨gb201, 5, none⟩ = some (.int .i64 0) := (blk_cell BK201.out 5).trans rfl
                have hfz16_0 := blk_frozen BK201.out 0
                have hfz16_1 := blk_frozen BK201.out 1
                have hfz16_2 := blk_frozen BK201.out 2
                have hfz16_3 := blk_frozen BK201.out 3
                have hfz16_4 := blk_frozen BK201.out 4
                have hfz16_5 := blk_frozen BK201.out 5
                have hcz17_0 : w10.cell? ⟨gb193, 0, none⟩ = some (.string a1_0) := (blk_cell BK193.out 0).trans rfl
                have hcz17_1 : w10.cell? ⟨gb193, 1, none⟩ = some (.int .i64 a1_1) := (blk_cell BK193.out 1).trans rfl
                have hcz17_2 : w10.cell? ⟨gb193, 2, none⟩ = some (.int .i64 a1_2) := (blk_cell BK193.out 2).trans rfl
                have hcz17_3 : w10.cell? ⟨gb193, 3, none⟩ = some (.int .i64 a1_3) := (blk_cell BK193.out 3).trans rfl
                have hcz17_4 : w10.cell? ⟨gb193, 4, none⟩ = some (.int .i64 a1_4) := (blk_cell BK193.out 4).trans rfl
                have hcz17_5 : w10.cell? ⟨gb193, 5, none⟩ = some (.int .i64 a1_5) := (blk_cell BK193.out 5).trans rfl
                have hfz17_0 := blk_frozen BK193.out 0
                have hfz17_1 := blk_frozen BK193.out 1
                have hfz17_2 := blk_frozen BK193.out 2
                have hfz17_3 := blk_frozen BK193.out 3
                have hfz17_4 := blk_frozen BK193.out 4
                have hfz17_5 := blk_frozen BK193.out 5
                go_wp2_with (first | (go_at_call 34; (with_reducible refine (tarryref07_Less.calls k1 ((rd_T33 l0 x12_1).f0) a1_0 t202 _ A14.out).mono ?_); rintro e w' ⟨rfl, ⟨nd, rfl⟩⟩))
                go_meet
                case rel => exact ⟨_, (!t202), (by first | rfl | (simp; done) | (simp [*]; done)), H', ⟨by have := HK1.out; first | omega | exact Nat.le_refl _⟩, ⟨by (with_reducible repeat (first | apply Kd.R_alloc | apply Kd.R_drewN | apply Kd.R_drew)); exact Kd.R_mono (Kd.R_far (p := ⟨gb201, 5, none⟩) (Kd.R_far (p := ⟨gb201, 4, none⟩) (Kd.R_far (p := ⟨gb201, 3, none⟩) (Kd.R_far (p := ⟨gb201, 2, none⟩) (Kd.R_far (p := ⟨gb201, 1, none⟩) (Kd.R_far (p := ⟨gb201, 0, none⟩) (Kd.R_mono HO_5.out (fun k_ hk => (⟨hk, hk.2⟩ : _ ∧ k_ ≠ gb201))) (fun _ hk => hk.2) (.string ((rd_T33 l0 x12_1).f0))) (fun _ hk => hk.2) (.int .i64 ((rd_T33 l0 x12_1).f1))) (fun _ hk => hk.2) (.int .i64 ((rd_T33 l0 x12_1).f2))) (fun _ hk => hk.2) (.int .i64 ((rd_T33 l0 x12_1).f3))) (fun _ hk => hk.2) (.int .i64 ((rd_T33 l0 x12_1).f4))) (fun _ hk => hk.2) (.int .i64 ((rd_T33 l0 x12_1).f5))) (fun _ hk => ⟨hk.1.1, hk.1.2⟩)⟩, ⟨by (with_reducible repeat (first | refine blk_drewN ?_ _ | refine blk_drew ?_ | refine blk_alloc ?_ _)); refine blk_far ?_ NB193_201.out _; (with_reducible repeat (first | refine blk_drewN ?_ _ | refine blk_drew ?_ | refine blk_alloc ?_ _)); refine blk_far ?_ NB193_201.out _; (with_reducible repeat (first | refine blk_drewN ?_ _ | refine blk_drew ?_ | refine blk_alloc ?_ _)); refine blk_far ?_ NB193_201.out _; (with_reducible repeat (first | refine blk_drewN ?_ _ | refine blk_drew ?_ | refine blk_alloc ?_ _)); refine blk_far ?_ NB193_201.out _; (with_reducible repeat (first | refine blk_drewN ?_ _ | refine blk_drew ?_ | refine blk_alloc ?_ _)); refine blk_far ?_ NB193_201.out _; (with_reducible repeat (first | refine blk_drewN ?_ _ | refine blk_drew ?_ | refine blk_alloc ?_ _)); refine blk_far ?_ NB193_201.out _; (with_reducible repeat (first | refine blk_drewN ?_ _ | refine blk_drew ?_ | refine blk_alloc ?_ _)); exact BK193.out⟩, ⟨by (with_reducible repeat (first | refine blk_drewN ?_ _ | refine blk_drew ?_ | refine blk_alloc ?_ _)); refine blk_put (cs := #[.string ((rd_T33 l0 x12_1).f0), .int .i64 ((rd_T33 l0 x12_1).f1), .int .i64 ((rd_T33 l0 x12_1).f2), .int .i64 ((rd_T33 l0 x12_1).f3), .int .i64 ((rd_T33 l0 x12_1).f4), .int .i64 0]) ?_ 5 _ rfl; (with_reducible repeat (first | refine blk_drewN ?_ _ | refine blk_drew ?_ | refine blk_alloc ?_ _)); refine blk_put (cs := #[.string ((rd_T33 l0 x12_1).f0), .int .i64 ((rd_T33 l0 x12_1).f1), .int .i64 ((rd_T33 l0 x12_1).f2), .int .i64 ((rd_T33 l0 x12_1).f3), .int .i64 0, .int .i64 0]) ?_ 4 _ rfl; (with_reducible repeat (first | refine blk_drewN ?_ _ | refine blk_drew ?_ | refine blk_alloc ?_ _)); refine blk_put (cs := #[.string ((rd_T33 l0 x12_1).f0), .int .i64 ((rd_T33 l0 x12_1).f1), .int .i64 ((rd_T33 l0 x12_1).f2), .int .i64 0, .int .i64 0, .int .i64 0]) ?_ 3 _ rfl; (with_reducible repeat (first | refine blk_drewN ?_ _ | refine blk_drew ?_ | refine blk_alloc ?_ _)); refine blk_put (cs := #[.string ((rd_T33 l0 x12_1).f0), .int .i64 ((rd_T33 l0 x12_1).f1), .int .i64 0, .int .i64 0, .int .i64 0, .int .i64 0]) ?_ 2 _ rfl; (with_reducible repeat (first | refine blk_drewN ?_ _ | refine blk_drew ?_ | refine blk_alloc ?_ _)); refine blk_put (cs := #[.string ((rd_T33 l0 x12_1).f0), .int .i64 0, .int .i64 0, .int .i64 0, .int .i64 0, .int .i64 0]) ?_ 1 _ rfl; (with_reducible repeat (first | refine blk_drewN ?_ _ | refine blk_drew ?_ | refine blk_alloc ?_ _)); refine blk_put (cs := #[.string (⟨#[]⟩ : ByteArray), .int .i64 0, .int .i64 0, .int .i64 0, .int .i64 0, .int .i64 0]) ?_ 0 _ rfl; (with_reducible repeat (first | refine blk_drewN ?_ _ | refine blk_drew ?_ | refine blk_alloc ?_ _)); exact BK201.out⟩, ⟨by repeat (first | (with_reducible first | exact HB.out | apply below_alloc | apply pw_below_drewN | apply below_drew1 | refine below_set ?_ GE193.out | refine below_set ?_ GE201.out) | exact HB.out)⟩⟩
            case rest =>
              clear HC9
              try clear c1
              try clear p2
              try clear q2
              try clear hx2
              try clear c3
              try clear c6
              try clear c6b0
              try clear c7
              try clear c7b0
              try clear c8
              try clear c8b0
              try clear c11
              try clear c13
              try clear c15
              try clear hcz12_0
              try clear hcz12_1
              try clear hcz12_2
              try clear hcz12_3
              try clear hcz12_4
              try clear hcz12_5
              try clear hcz16_0
              try clear hcz16_1
              try clear hcz16_2
              try clear hcz16_3
              try clear hcz16_4
              try clear hcz16_5
              try clear hcz17_0
              try clear hcz17_1
              try clear hcz17_2
              try clear hcz17_3
              try clear hcz17_4
              try clear hcz17_5
              try clear hfz12_0
              try clear hfz12_1
              try clear hfz12_2
              try clear hfz12_3
              try clear hfz12_4
              try clear hfz12_5
              try clear hfz16_0
              try clear hfz16_1
              try clear hfz16_2
              try clear hfz16_3
              try clear hfz16_4
              try clear hfz16_5
              try clear hfz17_0
              try clear hfz17_1
              try clear hfz17_2
              try clear hfz17_3
              try clear hfz17_4
              try clear hfz17_5
              try clear hx200_0
              try clear hx200_1
              try clear hx200_2
              try clear hx200_3
              try clear hx200_4
              try clear hx200_5
              try clear p2
              try clear p200
              try clear q200
              obtain ⟨kq, x25_8, rfl, HA, HJ8, HO_5, BK193, BK201, HB⟩ := hcut
              cases kq with
              | zero => exact absurd HA.out (by simp [tarryref08_Set.j1])
              | succ kj8 =>
                have H := HA.out
                clear HA
                simp only [tarryref08_Set.j1] at H
                by_cases c18 : x25_8 = true
                · subst c18
                  have H1 : (if x5_1.length < 2513169434916 then ((some (x5_1 ++ [(⟨a1_0, a1_1, a1_2, a1_3, a1_4, a1_5⟩ : S33)] : List (S33))).bind fun y203 => (if ((rd_T33 l0 x12_1).f0).toList = a1_0.toList then (tarryref08_Set.l0 kj8 y203 true l0 (l0.length : Int) (wrap64 (x12_1 + 1)) a1_0 a1_1 a1_2 a1_3 a1_4 a1_5) else (if y203.length < 2513169434916 then (tarryref08_Set.l0 kj8 (y203 ++ [(⟨((rd_T33 l0 x12_1).f0), ((rd_T33 l0 x12_1).f1), ((rd_T33 l0 x12_1).f2), ((rd_T33 l0 x12_1).f3), ((rd_T33 l0 x12_1).f4), ((rd_T33 l0 x12_1).f5)⟩ : S33)]) true l0 (l0.length : Int) (wrap64 (x12_1 + 1)) a1_0 a1_1 a1_2 a1_3 a1_4 a1_5) else (none)))) else (none)) = some r := by rw [if_pos rfl] at H; exact H
                  clear H
                  have H := H1
                  clear H1
                  by_cases c19 : x5_1.length < 2513169434916
                  · rw [if_pos c19] at H
                    have LMc19 := Aside0.mk c19
                    clear c19
                    obtain ⟨y203, hy203⟩ : ∃ y_ : List (S33), y_ = (x5_1 ++ [(⟨a1_0, a1_1, a1_2, a1_3, a1_4, a1_5⟩ : S33)]) := ⟨_, rfl⟩
                    replace H : (if ((rd_T33 l0 x12_1).f0).toList = a1_0.toList then (tarryref08_Set.l0 kj8 y203 true l0 (l0.length : Int) (wrap64 (x12_1 + 1)) a1_0 a1_1 a1_2 a1_3 a1_4 a1_5) else (if y203.length < 2513169434916 then (tarryref08_Set.l0 kj8 (y203 ++ [(⟨((rd_T33 l0 x12_1).f0), ((rd_T33 l0 x12_1).f1), ((rd_T33 l0 x12_1).f2), ((rd_T33 l0 x12_1).f3), ((rd_T33 l0 x12_1).f4), ((rd_T33 l0 x12_1).f5)⟩ : S33)]) true l0 (l0.length : Int) (wrap64 (x12_1 + 1)) a1_0 a1_1 a1_2 a1_3 a1_4 a1_5) else (none))) = some r := by first | (rw [hy203]; with_reducible exact H) | (have H2_ := (Option.bind_some _ _).symm.trans H; rw [hy203]; with_reducible exact H2_) | (have H2_ := (Option.bind_some _ _).symm.trans H; with_reducible exact H2_) | with_reducible exact H | (rw [hy203]; exact H) | exact H
                    have Ny203 := Aside0.mk hy203
                    clear hy203
                    by_cases c20 : ((rd_T33 l0 x12_1).f0).toList = a1_0.toList
                    · rw [if_pos c20] at H
                      have c20b0 : (((rd_T33 l0 x12_1).f0).toList == a1_0.toList) = true := beq_iff_eq.mpr c20
                      have c20b1 : (((rd_T33 l0 x12_1).f0).toList != a1_0.toList) = false := bne_eq_false_iff_eq.mpr c20
                      clear c20
                      have H' := Aside0.mk H
                      clear H
                      have hnb21 := NB193_201.out
                      have hnc21 := NB201_193.out
                      have hcz22_0 : wc.cell? ⟨gb193, 0, none⟩ = some (.string a1_0) := (blk_cell BK193.out 0).trans rfl
                      have hcz22_1 : wc.cell? ⟨gb193, 1, none⟩ = some (.int .i64 a1_1) := (blk_cell BK193.out 1).trans rfl
                      have hcz22_2 : wc.cell? ⟨gb193, 2, none⟩ = some (.int .i64 a1_2) := (blk_cell BK193.out 2).trans rfl
                      have hcz22_3 : wc.cell? ⟨gb193, 3, none⟩ = some (.int .i64 a1_3) := (blk_cell BK193.out 3).trans rfl
                      have hcz22_4 : wc.cell? ⟨gb193, 4, none⟩ = some (.int .i64 a1_4) := (blk_cell BK193.out 4).trans rfl
                      have hcz22_5 : wc.cell? ⟨gb193, 5, none⟩ = some (.int .i64 a1_5) := (blk_cell BK193.out 5).trans rfl
                      have hfz22_0 := blk_frozen BK193.out 0
                      have hfz22_1 := blk_frozen BK193.out 1
                      have hfz22_2 := blk_frozen BK193.out 2
                      have hfz22_3 := blk_frozen BK193.out 3
                      have hfz22_4 := blk_frozen BK193.out 4
                      have hfz22_5 := blk_frozen BK193.out 5
                      go_wp2_with (first | ((with_reducible refine gate_builtin (b := .append) (xs := #[.tmp 26, .tmp 28]) rfl ?_); at_builtin; refine Kd.R_append k33 (w0 := w) w.heap.size rfl (.tmp 26) (.tmp 28) 22 33 (.agg #[(.string ⟨#[]⟩), (.int .i64 0), (.int .i64 0), (.int .i64 0), (.int .i64 0), (.int .i64 0)]) 56 rfl Try.underlying22 info33 rfl (by decide) (by omega) u5 x5_1 (⟨a1_0, a1_1, a1_2, a1_3, a1_4, a1_5⟩ : S33) [.string a1_0, .int .i64 a1_1, .int .i64 a1_2, .int .i64 a1_3, .int .i64 a1_4, .int .i64 a1_5] (fun k_ => k_ ≠ gb193 ∧ k_ ≠ gb201) (fun _ => False) rfl rfl ?aP (fun _ hk => hk.elim) ?aF ?aO ?aB ?aS ?aL ?_; (case aP => exact k33_mkM _ _ _ (⟨a1_0, a1_1, a1_2, a1_3, a1_4, a1_5⟩ : S33)); (case aB => exact (by repeat (first | (with_reducible first | exact HB.out | apply below_alloc | apply pw_below_drewN | apply below_drew1 | refine below_set ?_ GE193.out | refine below_set ?_ GE201.out) | exact HB.out))); (case aF => exact (fun k_ hk => ⟨Kd.freshB (g := gb193) (o := .cells #[.string a1_0, .int .i64 a1_1, .int .i64 a1_2, .int .i64 a1_3, .int .i64 a1_4, .int .i64 a1_5] 33 (0, 0)) (by (with_reducible repeat (first | refine blk_drewN ?_ _ | refine blk_drew ?_ | refine blk_alloc ?_ _)); exact BK193.out) k_ hk, Kd.freshB (g := gb201) (o := .cells #[.string ((rd_T33 l0 x12_1).f0), .int .i64 ((rd_T33 l0 x12_1).f1), .int .i64 ((rd_T33 l0 x12_1).f2), .int .i64 ((rd_T33 l0 x12_1).f3), .int .i64 ((rd_T33 l0 x12_1).f4), .int .i64 ((rd_T33 l0 x12_1).f5)] 33 (0, 0)) (by (with_reducible repeat (first | refine blk_drewN ?_ _ | refine blk_drew ?_ | refine blk_alloc ?_ _)); exact BK201.out) k_ hk⟩)); (case aO => exact (by (with_reducible repeat (first | apply Kd.R_alloc | apply Kd.R_drewN | apply Kd.R_drew)); exact HO_5.out)); (case aS => exact (below_size (by repeat (first | (with_reducible first | exact HB.out | apply below_alloc | apply pw_below_drewN | apply below_drew1 | refine below_set ?_ GE193.out | refine below_set ?_ GE201.out) | exact HB.out)))); (case aL => have := LMc19.out; omega); intro v204 w23 ho hb hg hat; rw [← Ny203.out] at ho; have n0_ := Aside0.mk (blk_grown (g := gb193) (o := .cells #[.string a1_0, .int .i64 a1_1, .int .i64 a1_2, .int .i64 a1_3, .int .i64 a1_4, .int .i64 a1_5] 33 (0, 0)) (by (with_reducible repeat (first | refine blk_drewN ?_ _ | refine blk_drew ?_ | refine blk_alloc ?_ _)); exact BK193.out) hg (Kd.R_away HO_5.out (fun _ hk => hk.1))); have n1_ := Aside0.mk (blk_grown (g := gb201) (o := .cells #[.string ((rd_T33 l0 x12_1).f0), .int .i64 ((rd_T33 l0 x12_1).f1), .int .i64 ((rd_T33 l0 x12_1).f2), .int .i64 ((rd_T33 l0 x12_1).f3), .int .i64 ((rd_T33 l0 x12_1).f4), .int .i64 ((rd_T33 l0 x12_1).f5)] 33 (0, 0)) (by (with_reducible repeat (first | refine blk_drewN ?_ _ | refine blk_drew ?_ | refine blk_alloc ?_ _)); exact BK201.out) hg (Kd.R_away HO_5.out (fun _ hk => hk.2))); have n2_ := Aside0.mk (hb); have n3_ := Aside0.mk (ho); clear BK193; clear BK201; clear HB; clear HO_5; have BK193 := n0_; have BK201 := n1_; have HB := n2_; have HO205 := n3_; clear n0_ n1_ n2_ n3_; clear ho hb hg hat; have hcz24_0 : w23.cell? ⟨gb201, 0, none⟩ = some (.string ((rd_T33 l0 x12_1).f0)) := (blk_cell BK201.out 0).trans rfl; have hcz24_1 : w23.cell? ⟨gb201, 1, none⟩ = some (.int .i64 ((rd_T33 l0 x12_1).f1)) := (blk_cell BK201.out 1).trans rfl; have hcz24_2 : w23.cell? ⟨gb201, 2, none⟩ = some (.int .i64 ((rd_T33 l0 x12_1).f2)) := (blk_cell BK201.out 2).trans rfl; have hcz24_3 : w23.cell? ⟨gb201, 3, none⟩ = some (.int .i64 ((rd_T33 l0 x12_1).f3)) := (blk_cell BK201.out 3).trans rfl; have hcz24_4 : w23.cell? ⟨gb201, 4, none⟩ = some (.int .i64 ((rd_T33 l0 x12_1).f4)) := (blk_cell BK201.out 4).trans rfl; have hcz24_5 : w23.cell? ⟨gb201, 5, none⟩ = some (.int .i64 ((rd_T33 l0 x12_1).f5)) := (blk_cell BK201.out 5).trans rfl; have hfz24_0 := blk_frozen BK201.out 0; have hfz24_1 := blk_frozen BK201.out 1; have hfz24_2 := blk_frozen BK201.out 2; have hfz24_3 := blk_frozen BK201.out 3; have hfz24_4 := blk_frozen BK201.out 4; have hfz24_5 := blk_frozen BK201.out 5; have hcz25_0 : w23.cell? ⟨gb193, 0, none⟩ = some (.string a1_0) := (blk_cell BK193.out 0).trans rfl; have hcz25_1 : w23.cell? ⟨gb193, 1, none⟩ = some (.int .i64 a1_1) := (blk_cell BK193.out 1).trans rfl; have hcz25_2 : w23.cell? ⟨gb193, 2, none⟩ = some (.int .i64 a1_2) := (blk_cell BK193.out 2).trans rfl; have hcz25_3 : w23.cell? ⟨gb193, 3, none⟩ = some (.int .i64 a1_3) := (blk_cell BK193.out 3).trans rfl; have hcz25_4 : w23.cell? ⟨gb193, 4, none⟩ = some (.int .i64 a1_4) := (blk_cell BK193.out 4).trans rfl; have hcz25_5 : w23.cell? ⟨gb193, 5, none⟩ = some (.int .i64 a1_5) := (blk_cell BK193.out 5).trans rfl; have hfz25_0 := blk_frozen BK193.out 0; have hfz25_1 := blk_frozen BK193.out 1; have hfz25_2 := blk_frozen BK193.out 2; have hfz25_3 := blk_frozen BK193.out 3; have hfz25_4 := blk_frozen BK193.out 4; have hfz25_5 := blk_frozen BK193.out 5))
                      go_roundg kj8
                      case measure => have := HK1.out; have := HJ8.out; omega
                      case rel => exact ⟨(y203), (true), (wrap64 (x12_1 + 1)), (by first | rfl | (simp; done) | (simp [*]; done)), (by first | rfl | (simp; done) | (simp [*]; done)), H', ⟨by have := HK1.out; have := HJ8.out; omega⟩, ⟨by (with_reducible repeat (first | apply Kd.R_alloc | apply Kd.R_drewN | apply Kd.R_drew)); exact Kd.R_mono HO205.out (fun _ hk => hk.1)⟩, ⟨by (with_reducible repeat (first | refine blk_drewN ?_ _ | refine blk_drew ?_ | refine blk_alloc ?_ _)); exact BK193.out⟩, ⟨by repeat (first | (with_reducible first | exact HB.out | apply below_alloc | apply pw_below_drewN | apply below_drew1 | refine below_set ?_ GE193.out | refine below_set ?_ GE201.out) | exact HB.out)⟩⟩
                    · rw [if_neg c20] at H
                      have c20b0 : (((rd_T33 l0 x12_1).f0).toList == a1_0.toList) = false := beq_eq_false_iff_ne.mpr c20
                      have c20b1 : (((rd_T33 l0 x12_1).f0).toList != a1_0.toList) = true := bne_iff_ne.mpr c20
                      by_cases c26 : y203.length < 2513169434916
                      · rw [if_pos c26] at H
                        have LMc26 := Aside0.mk c26
                        clear c26
                        obtain ⟨y206, hy206⟩ : ∃ y_ : List (S33), y_ = (y203 ++ [(⟨((rd_T33 l0 x12_1).f0), ((rd_T33 l0 x12_1).f1), ((rd_T33 l0 x12_1).f2), ((rd_T33 l0 x12_1).f3), ((rd_T33 l0 x12_1).f4), ((rd_T33 l0 x12_1).f5)⟩ : S33)]) := ⟨_, rfl⟩
                        replace H : (tarryref08_Set.l0 kj8 y206 true l0 (l0.length : Int) (wrap64 (x12_1 + 1)) a1_0 a1_1 a1_2 a1_3 a1_4 a1_5) = some r := by first | (rw [hy206]; with_reducible exact H) | (have H2_ := (Option.bind_some _ _).symm.trans H; rw [hy206]; with_reducible exact H2_) | (have H2_ := (Option.bind_some _ _).symm.trans H; with_reducible exact H2_) | with_reducible exact H | (rw [hy206]; exact H) | exact H
                        have Ny206 := Aside0.mk hy206
                        clear hy206
                        have H' := Aside0.mk H
                        clear H
                        have hnb27 := NB193_201.out
                        have hnc27 := NB201_193.out
                        have hcz28_0 : wc.cell? ⟨gb193, 0, none⟩ = some (.string a1_0) := (blk_cell BK193.out 0).trans rfl
                        have hcz28_1 : wc.cell? ⟨gb193, 1, none⟩ = some (.int .i64 a1_1) := (blk_cell BK193.out 1).trans rfl
                        have hcz28_2 : wc.cell? ⟨gb193, 2, none⟩ = some (.int .i64 a1_2) := (blk_cell BK193.out 2).trans rfl
                        have hcz28_3 : wc.cell? ⟨gb193, 3, none⟩ = some (.int .i64 a1_3) := (blk_cell BK193.out 3).trans rfl
                        have hcz28_4 : wc.cell? ⟨gb193, 4, none⟩ = some (.int .i64 a1_4) := (blk_cell BK193.out 4).trans rfl
                        have hcz28_5 : wc.cell? ⟨gb193, 5, none⟩ = some (.int .i64 a1_5) := (blk_cell BK193.out 5).trans rfl
                        have hfz28_0 := blk_frozen BK193.out 0
                        have hfz28_1 := blk_frozen BK193.out 1
                        have hfz28_2 := blk_frozen BK193.out 2
                        have hfz28_3 := blk_frozen BK193.out 3
                        have hfz28_4 := blk_frozen BK193.out 4
                        have hfz28_5 := blk_frozen BK193.out 5
                        go_wp2_with (first | ((with_reducible refine gate_builtin (b := .append) (xs := #[.tmp 26, .tmp 28]) rfl ?_); at_builtin; refine Kd.R_append k33 (w0 := w) w.heap.size rfl (.tmp 26) (.tmp 28) 22 33 (.agg #[(.string ⟨#[]⟩), (.int .i64 0), (.int .i64 0), (.int .i64 0), (.int .i64 0), (.int .i64 0)]) 56 rfl Try.underlying22 info33 rfl (by decide) (by omega) u5 x5_1 (⟨a1_0, a1_1, a1_2, a1_3, a1_4, a1_5⟩ : S33) [.string a1_0, .int .i64 a1_1, .int .i64 a1_2, .int .i64 a1_3, .int .i64 a1_4, .int .i64 a1_5] (fun k_ => k_ ≠ gb193 ∧ k_ ≠ gb201) (fun _ => False) rfl rfl ?aP (fun _ hk => hk.elim) ?aF ?aO ?aB ?aS ?aL ?_; (case aP => exact k33_mkM _ _ _ (⟨a1_0, a1_1, a1_2, a1_3, a1_4, a1_5⟩ : S33)); (case aB => exact (by repeat (first | (with_reducible first | exact HB.out | apply below_alloc | apply pw_below_drewN | apply below_drew1 | refine below_set ?_ GE193.out | refine below_set ?_ GE201.out) | exact HB.out))); (case aF => exact (fun k_ hk => ⟨Kd.freshB (g := gb193) (o := .cells #[.string a1_0, .int .i64 a1_1, .int .i64 a1_2, .int .i64 a1_3, .int .i64 a1_4, .int .i64 a1_5] 33 (0, 0)) (by (with_reducible repeat (first | refine blk_drewN ?_ _ | refine blk_drew ?_ | refine blk_alloc ?_ _)); exact BK193.out) k_ hk, Kd.freshB (g := gb201) (o := .cells #[.string ((rd_T33 l0 x12_1).f0), .int .i64 ((rd_T33 l0 x12_1).f1), .int .i64 ((rd_T33 l0 x12_1).f2), .int .i64 ((rd_T33 l0 x12_1).f3), .int .i64 ((rd_T33 l0 x12_1).f4), .int .i64 ((rd_T33 l0 x12_1).f5)] 33 (0, 0)) (by (with_reducible repeat (first | refine blk_drewN ?_ _ | refine blk_drew ?_ | refine blk_alloc ?_ _)); exact BK201.out) k_ hk⟩)); (case aO => exact (by (with_reducible repeat (first | apply Kd.R_alloc | apply Kd.R_drewN | apply Kd.R_drew)); exact HO_5.out)); (case aS => exact (below_size (by repeat (first | (with_reducible first | exact HB.out | apply below_alloc | apply pw_below_drewN | apply below_drew1 | refine below_set ?_ GE193.out | refine below_set ?_ GE201.out) | exact HB.out)))); (case aL => have := LMc19.out; omega); intro v204 w29 ho hb hg hat; rw [← Ny203.out] at ho; have n0_ := Aside0.mk (blk_grown (g := gb193) (o := .cells #[.string a1_0, .int .i64 a1_1, .int .i64 a1_2, .int .i64 a1_3, .int .i64 a1_4, .int .i64 a1_5] 33 (0, 0)) (by (with_reducible repeat (first | refine blk_drewN ?_ _ | refine blk_drew ?_ | refine blk_alloc ?_ _)); exact BK193.out) hg (Kd.R_away HO_5.out (fun _ hk => hk.1))); have n1_ := Aside0.mk (blk_grown (g := gb201) (o := .cells #[.string ((rd_T33 l0 x12_1).f0), .int .i64 ((rd_T33 l0 x12_1).f1), .int .i64 ((rd_T33 l0 x12_1).f2), .int .i64 ((rd_T33 l0 x12_1).f3), .int .i64 ((rd_T33 l0 x12_1).f4), .int .i64 ((rd_T33 l0 x12_1).f5)] 33 (0, 0)) (by (with_reducible repeat (first | refine blk_drewN ?_ _ | refine blk_drew ?_ | refine blk_alloc ?_ _)); exact BK201.out) hg (Kd.R_away HO_5.out (fun _ hk => hk.2))); have n2_ := Aside0.mk (hb); have n3_ := Aside0.mk (ho); clear BK193; clear BK201; clear HB; clear HO_5; have BK193 := n0_; have BK201 := n1_; have HB := n2_; have HO205 := n3_; clear n0_ n1_ n2_ n3_; clear ho hb hg hat; have hcz30_0 : w29.cell? ⟨gb201, 0, none⟩ = some (.string ((rd_T33 l0 x12_1).f0)) := (blk_cell BK201.out 0).trans rfl; have hcz30_1 : w29.cell? ⟨gb201, 1, none⟩ = some (.int .i64 ((rd_T33 l0 x12_1).f1)) := (blk_cell BK201.out 1).trans rfl; have hcz30_2 : w29.cell? ⟨gb201, 2, none⟩ = some (.int .i64 ((rd_T33 l0 x12_1).f2)) := (blk_cell BK201.out 2).trans rfl; have hcz30_3 : w29.cell? ⟨gb201, 3, none⟩ = some (.int .i64 ((rd_T33 l0 x12_1).f3)) := (blk_cell BK201.out 3).trans rfl; have hcz30_4 : w29.cell? ⟨gb201, 4, none⟩ = some (.int .i64 ((rd_T33 l0 x12_1).f4)) := (blk_cell BK201.out 4).trans rfl; have hcz30_5 : w29.cell? ⟨gb201, 5, none⟩ = some (.int .i64 ((rd_T33 l0 x12_1).f5)) := (blk_cell BK201.out 5).trans rfl; have hfz30_0 := blk_frozen BK201.out 0; have hfz30_1 := blk_frozen BK201.out 1; have hfz30_2 := blk_frozen BK201.out 2; have hfz30_3 := blk_frozen BK201.out 3; have hfz30_4 := blk_frozen BK201.out 4; have hfz30_5 := blk_frozen BK201.out 5; have hcz31_0 : w29.cell? ⟨gb193, 0, none⟩ = some (.string a1_0) := (blk_cell BK193.out 0).trans rfl; have hcz31_1 : w29.cell? ⟨gb193, 1, none⟩ = some (.int .i64 a1_1) := (blk_cell BK193.out 1).trans rfl; have hcz31_2 : w29.cell? ⟨gb193, 2, none⟩ = some (.int .i64 a1_2) := (blk_cell BK193.out 2).trans rfl; have hcz31_3 : w29.cell? ⟨gb193, 3, none⟩ = some (.int .i64 a1_3) := (blk_cell BK193.out 3).trans rfl; have hcz31_4 : w29.cell? ⟨gb193, 4, none⟩ = some (.int .i64 a1_4) := (blk_cell BK193.out 4).trans rfl; have hcz31_5 : w29.cell? ⟨gb193, 5, none⟩ = some (.int .i64 a1_5) := (blk_cell BK193.out 5).trans rfl; have hfz31_0 := blk_frozen BK193.out 0; have hfz31_1 := blk_frozen BK193.out 1; have hfz31_2 := blk_frozen BK193.out 2; have hfz31_3 := blk_frozen BK193.out 3; have hfz31_4 := blk_frozen BK193.out 4; have hfz31_5 := blk_frozen BK193.out 5) | ((with_reducible refine gate_builtin (b := .append) (xs := #[.tmp 35, .tmp 37]) rfl ?_); at_builtin; refine Kd.R_append k33 (w0 := w) w.heap.size rfl (.tmp 35) (.tmp 37) 22 33 (.agg #[(.string ⟨#[]⟩), (.int .i64 0), (.int .i64 0), (.int .i64 0), (.int .i64 0), (.int .i64 0)]) 56 rfl Try.underlying22 info33 rfl (by decide) (by omega) v204 y203 (⟨((rd_T33 l0 x12_1).f0), ((rd_T33 l0 x12_1).f1), ((rd_T33 l0 x12_1).f2), ((rd_T33 l0 x12_1).f3), ((rd_T33 l0 x12_1).f4), ((rd_T33 l0 x12_1).f5)⟩ : S33) [.string ((rd_T33 l0 x12_1).f0), .int .i64 ((rd_T33 l0 x12_1).f1), .int .i64 ((rd_T33 l0 x12_1).f2), .int .i64 ((rd_T33 l0 x12_1).f3), .int .i64 ((rd_T33 l0 x12_1).f4), .int .i64 ((rd_T33 l0 x12_1).f5)] (fun k_ => k_ ≠ gb193 ∧ k_ ≠ gb201) (fun _ => False) rfl rfl ?aP (fun _ hk => hk.elim) ?aF ?aO ?aB ?aS ?aL ?_; (case aP => exact k33_mkM _ _ _ (⟨((rd_T33 l0 x12_1).f0), ((rd_T33 l0 x12_1).f1), ((rd_T33 l0 x12_1).f2), ((rd_T33 l0 x12_1).f3), ((rd_T33 l0 x12_1).f4), ((rd_T33 l0 x12_1).f5)⟩ : S33)); (case aB => exact (by repeat (first | (with_reducible first | exact HB.out | apply below_alloc | apply pw_below_drewN | apply below_drew1 | refine below_set ?_ GE193.out | refine below_set ?_ GE201.out) | exact HB.out))); (case aF => exact (fun k_ hk => ⟨Kd.freshB (g := gb193) (o := .cells #[.string a1_0, .int .i64 a1_1, .int .i64 a1_2, .int .i64 a1_3, .int .i64 a1_4, .int .i64 a1_5] 33 (0, 0)) (by (with_reducible repeat (first | refine blk_drewN ?_ _ | refine blk_drew ?_ | refine blk_alloc ?_ _)); exact BK193.out) k_ hk, Kd.freshB (g := gb201) (o := .cells #[.string ((rd_T33 l0 x12_1).f0), .int .i64 ((rd_T33 l0 x12_1).f1), .int .i64 ((rd_T33 l0 x12_1).f2), .int .i64 ((rd_T33 l0 x12_1).f3), .int .i64 ((rd_T33 l0 x12_1).f4), .int .i64 ((rd_T33 l0 x12_1).f5)] 33 (0, 0)) (by (with_reducible repeat (first | refine blk_drewN ?_ _ | refine blk_drew ?_ | refine blk_alloc ?_ _)); exact BK201.out) k_ hk⟩)); (case aO => exact (by (with_reducible repeat (first | apply Kd.R_alloc | apply Kd.R_drewN | apply Kd.R_drew)); exact HO205.out)); (case aS => exact (below_size (by repeat (first | (with_reducible first | exact HB.out | apply below_alloc | apply pw_below_drewN | apply below_drew1 | refine below_set ?_ GE193.out | refine below_set ?_ GE201.out) | exact HB.out)))); (case aL => have := LMc26.out; omega); intro v207 w32 ho hb hg hat; rw [← Ny206.out] at ho; have n0_ := Aside0.mk (blk_grown (g := gb193) (o := .cells #[.string a1_0, .int .i64 a1_1, .int .i64 a1_2, .int .i64 a1_3, .int .i64 a1_4, .int .i64 a1_5] 33 (0, 0)) (by (with_reducible repeat (first | refine blk_drewN ?_ _ | refine blk_drew ?_ | refine blk_alloc ?_ _)); exact BK193.out) hg (Kd.R_away HO205.out (fun _ hk => hk.1))); have n1_ := Aside0.mk (blk_grown (g := gb201) (o := .cells #[.string ((rd_T33 l0 x12_1).f0), .int .i64 ((rd_T33 l0 x12_1).f1), .int .i64 ((rd_T33 l0 x12_1).f2), .int .i64 ((rd_T33 l0 x12_1).f3), .int .i64 ((rd_T33 l0 x12_1).f4), .int .i64 ((rd_T33 l0 x12_1).f5)] 33 (0, 0)) (by (with_reducible repeat (first | refine blk_drewN ?_ _ | refine blk_drew ?_ | refine blk_alloc ?_ _)); exact BK201.out) hg (Kd.R_away HO205.out (fun _ hk => hk.2))); have n2_ := Aside0.mk (hb); have n3_ := Aside0.mk (ho); clear BK193; clear BK201; clear HB; clear HO205; have BK193 := n0_; have BK201 := n1_; have HB := n2_; have HO208 := n3_; clear n0_ n1_ n2_ n3_; clear ho hb hg hat))
                        go_roundg kj8
                        case measure => have := HK1.out; have := HJ8.out; omega
                        case rel => exact ⟨(y206), (true), (wrap64 (x12_1 + 1)), (by first | rfl | (simp; done) | (simp [*]; done)), (by first | rfl | (simp; done) | (simp [*]; done)), H', ⟨by have := HK1.out; have := HJ8.out; omega⟩, ⟨by (with_reducible repeat (first | apply Kd.R_alloc | apply Kd.R_drewN | apply Kd.R_drew)); exact Kd.R_mono HO208.out (fun _ hk => hk.1)⟩, ⟨by (with_reducible repeat (first | refine blk_drewN ?_ _ | refine blk_drew ?_ | refine blk_alloc ?_ _)); exact BK193.out⟩, ⟨by repeat (first | (with_reducible first | exact HB.out | apply below_alloc | apply pw_below_drewN | apply below_drew1 | refine below_set ?_ GE193.out | refine below_set ?_ GE201.out) | exact HB.out)⟩⟩
                      · rw [if_neg c26] at H
                        exact absurd H (by simp)
                  · rw [if_neg c19] at H
                    exact absurd H (by simp)
                · replace c18 := Bool.eq_false_iff.mpr c18
                  subst c18
                  have H1 : (if ((rd_T33 l0 x12_1).f0).toList = a1_0.toList then (tarryref08_Set.l0 kj8 x5_1 x6_1 l0 (l0.length : Int) (wrap64 (x12_1 + 1)) a1_0 a1_1 a1_2 a1_3 a1_4 a1_5) else (if x5_1.length < 2513169434916 then (tarryref08_Set.l0 kj8 (x5_1 ++ [(⟨((rd_T33 l0 x12_1).f0), ((rd_T33 l0 x12_1).f1), ((rd_T33 l0 x12_1).f2), ((rd_T33 l0 x12_1).f3), ((rd_T33 l0 x12_1).f4), ((rd_T33 l0 x12_1).f5)⟩ : S33)]) x6_1 l0 (l0.length : Int) (wrap64 (x12_1 + 1)) a1_0 a1_1 a1_2 a1_3 a1_4 a1_5) else (none))) = some r := by rw [if_neg (show ¬ (false = true) by decide)] at H; exact H
                  clear H
                  have H := H1
                  clear H1
                  by_cases c33 : ((rd_T33 l0 x12_1).f0).toList = a1_0.toList
                  · rw [if_pos c33] at H
                    have c33b0 : (((rd_T33 l0 x12_1).f0).toList == a1_0.toList) = true := beq_iff_eq.mpr c33
                    have c33b1 : (((rd_T33 l0 x12_1).f0).toList != a1_0.toList) = false := bne_eq_false_iff_eq.mpr c33
                    clear c33
                    have H' := Aside0.mk H
                    clear H
                    have hnb34 := NB201_193.out
                    have hnc34 := NB193_201.out
                    have hcz35_0 : wc.cell? ⟨gb201, 0, none⟩ = some (.string ((rd_T33 l0 x12_1).f0)) := (blk_cell BK201.out 0).trans rfl
                    have hcz35_1 : wc.cell? ⟨gb201, 1, none⟩ = some (.int .i64 ((rd_T33 l0 x12_1).f1)) := (blk_cell BK201.out 1).trans rfl
                    have hcz35_2 : wc.cell? ⟨gb201, 2, none⟩ = some (.int .i64 ((rd_T33 l0 x12_1).f2)) := (blk_cell BK201.out 2).trans rfl
                    have hcz35_3 : wc.cell? ⟨gb201, 3, none⟩ = some (.int .i64 ((rd_T33 l0 x12_1).f3)) := (blk_cell BK201.out 3).trans rfl
                    have hcz35_4 : wc.cell? ⟨gb201, 4, none⟩ = some (.int .i64 ((rd_T33 l0 x12_1).f4)) := (blk_cell BK201.out 4).trans rfl
                    have hcz35_5 : wc.cell? ⟨gb201, 5, none⟩ = some (.int .i64 ((rd_T33 l0 x12_1).f5)) := (blk_cell BK201.out 5).trans rfl
                    have hfz35_0 := blk_frozen BK201.out 0
                    have hfz35_1 := blk_frozen BK201.out 1
                    have hfz35_2 := blk_frozen BK201.out 2
                    have hfz35_3 := blk_frozen BK201.out 3
                    have hfz35_4 := blk_frozen BK201.out 4
                    have hfz35_5 := blk_frozen BK201.out 5
                    have hcz36_0 : wc.cell? ⟨gb193, 0, none⟩ = some (.string a1_0) := (blk_cell BK193.out 0).trans rfl
                    have hcz36_1 : wc.cell? ⟨gb193, 1, none⟩ = some (.int .i64 a1_1) := (blk_cell BK193.out 1).trans rfl
                    have hcz36_2 : wc.cell? ⟨gb193, 2, none⟩ = some (.int .i64 a1_2) := (blk_cell BK193.out 2).trans rfl
                    have hcz36_3 : wc.cell? ⟨gb193, 3, none⟩ = some (.int .i64 a1_3) := (blk_cell BK193.out 3).trans rfl
                    have hcz36_4 : wc.cell? ⟨gb193, 4, none⟩ = some (.int .i64 a1_4) := (blk_cell BK193.out 4).trans rfl
                    have hcz36_5 : wc.cell? ⟨gb193, 5, none⟩ = some (.int .i64 a1_5) := (blk_cell BK193.out 5).trans rfl
                    have hfz36_0 := blk_frozen BK193.out 0
                    have hfz36_1 := blk_frozen BK193.out 1
                    have hfz36_2 := blk_frozen BK193.out 2
                    have hfz36_3 := blk_frozen BK193.out 3
                    have hfz36_4 := blk_frozen BK193.out 4
                    have hfz36_5 := blk_frozen BK193.out 5
                    go_wp2
                    go_roundg kj8
                    case measure => have := HK1.out; have := HJ8.out; omega
                    case rel => exact ⟨(x5_1), (x6_1), (wrap64 (x12_1 + 1)), (by first | rfl | (simp; done) | (simp [*]; done)), (by first | rfl | (simp; done) | (simp [*]; done)), H', ⟨by have := HK1.out; have := HJ8.out; omega⟩, ⟨by (with_reducible repeat (first | apply Kd.R_alloc | apply Kd.R_drewN | apply Kd.R_drew)); exact Kd.R_mono HO_5.out (fun _ hk => hk.1)⟩, ⟨by (with_reducible repeat (first | refine blk_drewN ?_ _ | refine blk_drew ?_ | refine blk_alloc ?_ _)); exact BK193.out⟩, ⟨by repeat (first | (with_reducible first | exact HB.out | apply below_alloc | apply pw_below_drewN | apply below_drew1 | refine below_set ?_ GE193.out | refine below_set ?_ GE201.out) | exact HB.out)⟩⟩
                  · rw [if_neg c33] at H
                    have c33b0 : (((rd_T33 l0 x12_1).f0).toList == a1_0.toList) = false := beq_eq_false_iff_ne.mpr c33
                    have c33b1 : (((rd_T33 l0 x12_1).f0).toList != a1_0.toList) = true := bne_iff_ne.mpr c33
                    by_cases c37 : x5_1.length < 2513169434916
                    · rw [if_pos c37] at H
                      have LMc37 := Aside0.mk c37
                      clear c37
                      obtain ⟨y209, hy209⟩ : ∃ y_ : List (S33), y_ = (x5_1 ++ [(⟨((rd_T33 l0 x12_1).f0), ((rd_T33 l0 x12_1).f1), ((rd_T33 l0 x12_1).f2), ((rd_T33 l0 x12_1).f3), ((rd_T33 l0 x12_1).f4), ((rd_T33 l0 x12_1).f5)⟩ : S33)]) := ⟨_, rfl⟩
                      replace H : (tarryref08_Set.l0 kj8 y209 x6_1 l0 (l0.length : Int) (wrap64 (x12_1 + 1)) a1_0 a1_1 a1_2 a1_3 a1_4 a1_5) = some r := by first | (rw [hy209]; with_reducible exact H) | (have H2_ := (Option.bind_some _ _).symm.trans H; rw [hy209]; with_reducible exact H2_) | (have H2_ := (Option.bind_some _ _).symm.trans H; with_reducible exact H2_) | with_reducible exact H | (rw [hy209]; exact H) | exact H
                      have Ny209 := Aside0.mk hy209
                      clear hy209
                      have H' := Aside0.mk H
                      clear H
                      have hnb38 := NB201_193.out
                      have hnc38 := NB193_201.out
                      have hcz39_0 : wc.cell? ⟨gb201, 0, none⟩ = some (.string ((rd_T33 l0 x12_1).f0)) := (blk_cell BK201.out 0).trans rfl
                      have hcz39_1 : wc.cell? ⟨gb201, 1, none⟩ = some (.int .i64 ((rd_T33 l0 x12_1).f1)) := (blk_cell BK201.out 1).trans rfl
                      have hcz39_2 : wc.cell? ⟨gb201, 2, none⟩ = some (.int .i64 ((rd_T33 l0 x12_1).f2)) := (blk_cell BK201.out 2).trans rfl
                      have hcz39_3 : wc.cell? ⟨gb201, 3, none⟩ = some (.int .i64 ((rd_T33 l0 x12_1).f3)) := (blk_cell BK201.out 3).trans rfl
                      have hcz39_4 : wc.cell? ⟨gb201, 4, none⟩ = some (.int .i64 ((rd_T33 l0 x12_1).f4)) := (blk_cell BK201.out 4).trans rfl
                      have hcz39_5 : wc.cell? ⟨gb201, 5, none⟩ = some (.int .i64 ((rd_T33 l0 x12_1).f5)) := (blk_cell BK201.out 5).trans rfl
                      have hfz39_0 := blk_frozen BK201.out 0
                      have hfz39_1 := blk_frozen BK201.out 1
                      have hfz39_2 := blk_frozen BK201.out 2
                      have hfz39_3 := blk_frozen BK201.out 3
                      have hfz39_4 := blk_frozen BK201.out 4
                      have hfz39_5 := blk_frozen BK201.out 5
                      have hcz40_0 : wc.cell? ⟨gb193, 0, none⟩ = some (.string a1_0) := (blk_cell BK193.out 0).trans rfl
                      have hcz40_1 : wc.cell? ⟨gb193, 1, none⟩ = some (.int .i64 a1_1) := (blk_cell BK193.out 1).trans rfl
                      have hcz40_2 : wc.cell? ⟨gb193, 2, none⟩ = some (.int .i64 a1_2) := (blk_cell BK193.out 2).trans rfl
                      have hcz40_3 : wc.cell? ⟨gb193, 3, none⟩ = some (.int .i64 a1_3) := (blk_cell BK193.out 3).trans rfl
                      have hcz40_4 : wc.cell? ⟨gb193, 4, none⟩ = some (.int .i64 a1_4) := (blk_cell BK193.out 4).trans rfl
                      have hcz40_5 : wc.cell? ⟨gb193, 5, none⟩ = some (.int .i64 a1_5) := (blk_cell BK193.out 5).trans rfl
                      have hfz40_0 := blk_frozen BK193.out 0
                      have hfz40_1 := blk_frozen BK193.out 1
                      have hfz40_2 := blk_frozen BK193.out 2
                      have hfz40_3 := blk_frozen BK193.out 3
                      have hfz40_4 := blk_frozen BK193.out 4
                      have hfz40_5 := blk_frozen BK193.out 5
                      go_wp2_with (first | ((with_reducible refine gate_builtin (b := .append) (xs := #[.tmp 35, .tmp 37]) rfl ?_); at_builtin; refine Kd.R_append k33 (w0 := w) w.heap.size rfl (.tmp 35) (.tmp 37) 22 33 (.agg #[(.string ⟨#[]⟩), (.int .i64 0), (.int .i64 0), (.int .i64 0), (.int .i64 0), (.int .i64 0)]) 56 rfl Try.underlying22 info33 rfl (by decide) (by omega) u5 x5_1 (⟨((rd_T33 l0 x12_1).f0), ((rd_T33 l0 x12_1).f1), ((rd_T33 l0 x12_1).f2), ((rd_T33 l0 x12_1).f3), ((rd_T33 l0 x12_1).f4), ((rd_T33 l0 x12_1).f5)⟩ : S33) [.string ((rd_T33 l0 x12_1).f0), .int .i64 ((rd_T33 l0 x12_1).f1), .int .i64 ((rd_T33 l0 x12_1).f2), .int .i64 ((rd_T33 l0 x12_1).f3), .int .i64 ((rd_T33 l0 x12_1).f4), .int .i64 ((rd_T33 l0 x12_1).f5)] (fun k_ => k_ ≠ gb193 ∧ k_ ≠ gb201) (fun _ => False) rfl rfl ?aP (fun _ hk => hk.elim) ?aF ?aO ?aB ?aS ?aL ?_; (case aP => exact k33_mkM _ _ _ (⟨((rd_T33 l0 x12_1).f0), ((rd_T33 l0 x12_1).f1), ((rd_T33 l0 x12_1).f2), ((rd_T33 l0 x12_1).f3), ((rd_T33 l0 x12_1).f4), ((rd_T33 l0 x12_1).f5)⟩ : S33)); (case aB => exact (by repeat (first | (with_reducible first | exact HB.out | apply below_alloc | apply pw_below_drewN | apply below_drew1 | refine below_set ?_ GE193.out | refine below_set ?_ GE201.out) | exact HB.out))); (case aF => exact (fun k_ hk => ⟨Kd.freshB (g := gb193) (o := .cells #[.string a1_0, .int .i64 a1_1, .int .i64 a1_2, .int .i64 a1_3, .int .i64 a1_4, .int .i64 a1_5] 33 (0, 0)) (by (with_reducible repeat (first | refine blk_drewN ?_ _ | refine blk_drew ?_ | refine blk_alloc ?_ _)); exact BK193.out) k_ hk, Kd.freshB (g := gb201) (o := .cells #[.string ((rd_T33 l0 x12_1).f0), .int .i64 ((rd_T33 l0 x12_1).f1), .int .i64 ((rd_T33 l0 x12_1).f2), .int .i64 ((rd_T33 l0 x12_1).f3), .int .i64 ((rd_T33 l0 x12_1).f4), .int .i64 ((rd_T33 l0 x12_1).f5)] 33 (0, 0)) (by (with_reducible repeat (first | refine blk_drewN ?_ _ | refine blk_drew ?_ | refine blk_alloc ?_ _)); exact BK201.out) k_ hk⟩)); (case aO => exact (by (with_reducible repeat (first | apply Kd.R_alloc | apply Kd.R_drewN | apply Kd.R_drew)); exact HO_5.out)); (case aS => exact (below_size (by repeat (first | (with_reducible first | exact HB.out | apply below_alloc | apply pw_below_drewN | apply below_drew1 | refine below_set ?_ GE193.out | refine below_set ?_ GE201.out) | exact HB.out)))); (case aL => have := LMc37.out; omega); intro v210 w41 ho hb hg hat; rw [← Ny209.out] at ho; have n0_ := Aside0.mk (blk_grown (g := gb193) (o := .cells #[.string a1_0, .int .i64 a1_1, .int .i64 a1_2, .int .i64 a1_3, .int .i64 a1_4, .int .i64 a1_5] 33 (0, 0)) (by (with_reducible repeat (first | refine blk_drewN ?_ _ | refine blk_drew ?_ | refine blk_alloc ?_ _)); exact BK193.out) hg (Kd.R_away HO_5.out (fun _ hk => hk.1))); have n1_ := Aside0.mk (blk_grown (g := gb201) (o := .cells #[.string ((rd_T33 l0 x12_1).f0), .int .i64 ((rd_T33 l0 x12_1).f1), .int .i64 ((rd_T33 l0 x12_1).f2), .int .i64 ((rd_T33 l0 x12_1).f3), .int .i64 ((rd_T33 l0 x12_1).f4), .int .i64 ((rd_T33 l0 x12_1).f5)] 33 (0, 0)) (by (with_reducible repeat (first | refine blk_drewN ?_ _ | refine blk_drew ?_ | refine blk_alloc ?_ _)); exact BK201.out) hg (Kd.R_away HO_5.out (fun _ hk => hk.2))); have n2_ := Aside0.mk (hb); have n3_ := Aside0.mk (ho); clear BK193; clear BK201; clear HB; clear HO_5; have BK193 := n0_; have BK201 := n1_; have HB := n2_; have HO211 := n3_; clear n0_ n1_ n2_ n3_; clear ho hb hg hat))
                      go_roundg kj8
                      case measure => have := HK1.out; have := HJ8.out; omega
                      case rel => exact ⟨(y209), (x6_1), (wrap64 (x12_1 + 1)), (by first | rfl | (simp; done) | (simp [*]; done)), (by first | rfl | (simp; done) | (simp [*]; done)), H', ⟨by have := HK1.out; have := HJ8.out; omega⟩, ⟨by (with_reducible repeat (first | apply Kd.R_alloc | apply Kd.R_drewN | apply Kd.R_drew)); exact Kd.R_mono HO211.out (fun _ hk => hk.1)⟩, ⟨by (with_reducible repeat (first | refine blk_drewN ?_ _ | refine blk_drew ?_ | refine blk_alloc ?_ _)); exact BK193.out⟩, ⟨by repeat (first | (with_reducible first | exact HB.out | apply below_alloc | apply pw_below_drewN | apply below_drew1 | refine below_set ?_ GE193.out | refine below_set ?_ GE201.out) | exact HB.out)⟩⟩
                    · rw [if_neg c37] at H
                      exact absurd H (by simp)
          · rw [if_neg c8] at H
            exact absurd H (by simp)
        · rw [if_neg c7] at H
          exact absurd H (by simp)
      · rw [if_neg c6] at H
        have c6b0 : decide (x12_1 < (l0.length : Int)) = false := decide_eq_false c6
        clear c6
        by_cases c42 : x6_1 = true
        · subst c42
          have H1 : (some x5_1) = some r := by rw [if_pos rfl] at H; exact H
          clear H
          have H := H1
          clear H1
          obtain rfl := Option.some.inj H
          go_wp2
          go_ret
          exact ⟨_, by first | rfl | (simp [errW_none, errW_some] <;> rfl) | (simp [*, errW_none, errW_some] <;> rfl), by (with_reducible repeat (first | apply Kd.R_alloc | apply Kd.R_drewN | apply Kd.R_drew)); exact Kd.R_mono HO_5.out (fun _ hk => trivial), by repeat (first | (with_reducible first | exact HB.out | apply below_alloc | apply pw_below_drewN | apply below_drew1 | refine below_set ?_ GE193.out) | exact HB.out)⟩
        · replace c42 := Bool.eq_false_iff.mpr c42
          subst c42
          have H1 : (if x5_1.length < 2513169434916 then (some (x5_1 ++ [(⟨a1_0, a1_1, a1_2, a1_3, a1_4, a1_5⟩ : S33)])) else (none)) = some r := by rw [if_neg (show ¬ (false = true) by decide)] at H; exact H
          clear H
          have H := H1
          clear H1
          by_cases c43 : x5_1.length < 2513169434916
          · rw [if_pos c43] at H
            have LMc43 := Aside0.mk c43
            clear c43
            obtain ⟨y197, hy197⟩ : ∃ y_ : List (S33), y_ = (x5_1 ++ [(⟨a1_0, a1_1, a1_2, a1_3, a1_4, a1_5⟩ : S33)]) := ⟨_, rfl⟩
            replace H : (some y197) = some r := by first | (rw [hy197]; with_reducible exact H) | (have H2_ := (Option.bind_some _ _).symm.trans H; rw [hy197]; with_reducible exact H2_) | (have H2_ := (Option.bind_some _ _).symm.trans H; with_reducible exact H2_) | with_reducible exact H | (rw [hy197]; exact H) | exact H
            have Ny197 := Aside0.mk hy197
            clear hy197
            obtain rfl := Option.some.inj H
            have hcz44_0 : wr.cell? ⟨gb193, 0, none⟩ = some (.string a1_0) := (blk_cell BK193.out 0).trans rfl
            have hcz44_1 : wr.cell? ⟨gb193, 1, none⟩ = some (.int .i64 a1_1) := (blk_cell BK193.out 1).trans rfl
            have hcz44_2 : wr.cell? ⟨gb193, 2, none⟩ = some (.int .i64 a1_2) := (blk_cell BK193.out 2).trans rfl
            have hcz44_3 : wr.cell? ⟨gb193, 3, none⟩ = some (.int .i64 a1_3) := (blk_cell BK193.out 3).trans rfl
            have hcz44_4 : wr.cell? ⟨gb193, 4, none⟩ = some (.int .i64 a1_4) := (blk_cell BK193.out 4).trans rfl
            have hcz44_5 : wr.cell? ⟨gb193, 5, none⟩ = some (.int .i64 a1_5) := (blk_cell BK193.out 5).trans rfl
            have hfz44_0 := blk_frozen BK193.out 0
            have hfz44_1 := blk_frozen BK193.out 1
            have hfz44_2 := blk_frozen BK193.out 2
            have hfz44_3 := blk_frozen BK193.out 3
            have hfz44_4 := blk_frozen BK193.out 4
            have hfz44_5 := blk_frozen BK193.out 5
            go_wp2_with (first | ((with_reducible refine gate_builtin (b := .append) (xs := #[.tmp 42, .tmp 44]) rfl ?_); at_builtin; refine Kd.R_append k33 (w0 := w) w.heap.size rfl (.tmp 42) (.tmp 44) 22 33 (.agg #[(.string ⟨#[]⟩), (.int .i64 0), (.int .i64 0), (.int .i64 0), (.int .i64 0), (.int .i64 0)]) 56 rfl Try.underlying22 info33 rfl (by decide) (by omega) u5 x5_1 (⟨a1_0, a1_1, a1_2, a1_3, a1_4, a1_5⟩ : S33) [.string a1_0, .int .i64 a1_1, .int .i64 a1_2, .int .i64 a1_3, .int .i64 a1_4, .int .i64 a1_5] (fun k_ => k_ ≠ gb193) (fun _ => False) rfl rfl ?aP (fun _ hk => hk.elim) ?aF ?aO ?aB ?aS ?aL ?_; (case aP => exact k33_mkM _ _ _ (⟨a1_0, a1_1, a1_2, a1_3, a1_4, a1_5⟩ : S33)); (case aB => exact (by repeat (first | (with_reducible first | exact HB.out | apply below_alloc | apply pw_below_drewN | apply below_drew1 | refine below_set ?_ GE193.out) | exact HB.out))); (case aF => exact (fun k_ hk => Kd.freshB (g := gb193) (o := .cells #[.string a1_0, .int .i64 a1_1, .int .i64 a1_2, .int .i64 a1_3, .int .i64 a1_4, .int .i64 a1_5] 33 (0, 0)) (by (with_reducible repeat (first | refine blk_drewN ?_ _ | refine blk_drew ?_ | refine blk_alloc ?_ _)); exact BK193.out) k_ hk)); (case aO => exact (by (with_reducible repeat (first | apply Kd.R_alloc | apply Kd.R_drewN | apply Kd.R_drew)); exact HO_5.out)); (case aS => exact (below_size (by repeat (first | (with_reducible first | exact HB.out | apply below_alloc | apply pw_below_drewN | apply below_drew1 | refine below_set ?_ GE193.out) | exact HB.out)))); (case aL => have := LMc43.out; omega); intro v198 w45 ho hb hg hat; rw [← Ny197.out] at ho; have n0_ := Aside0.mk (blk_grown (g := gb193) (o := .cells #[.string a1_0, .int .i64 a1_1, .int .i64 a1_2, .int .i64 a1_3, .int .i64 a1_4, .int .i64 a1_5] 33 (0, 0)) (by (with_reducible repeat (first | refine blk_drewN ?_ _ | refine blk_drew ?_ | refine blk_alloc ?_ _)); exact BK193.out) hg (Kd.R_away HO_5.out (fun _ hk => hk))); have n1_ := Aside0.mk (hb); have n2_ := Aside0.mk (ho); clear BK193; clear HB; clear HO_5; have BK193 := n0_; have HB := n1_; have HO199 := n2_; clear n0_ n1_ n2_; clear ho hb hg hat))
            go_ret
            exact ⟨_, by first | rfl | (simp [errW_none, errW_some] <;> rfl) | (simp [*, errW_none, errW_some] <;> rfl), by (with_reducible repeat (first | apply Kd.R_alloc | apply Kd.R_drewN | apply Kd.R_drew)); exact Kd.R_mono HO199.out (fun _ hk => trivial), by repeat (first | (with_reducible first | exact HB.out | apply below_alloc | apply pw_below_drewN | apply below_drew1 | refine below_set ?_ GE193.out) | exact HB.out)⟩
          · rw [if_neg c43] at H
            exact absurd H (by simp)

end Go.Proofs.Ytliablhnkoghbaa.PStockMoves
