/- A part of the proof of StockBack: words and walks that it uses. -/
import Derived.Test.YtliablhnkoghbaaZStockBack7
namespace Go.Proofs.Ytliablhnkoghbaa.PStock
open Go.RowKit Go.Proofs.YtliablhnkoghbaaH Go.Proofs.YtliablhnkoghbaaW.PrintWords Go.Proofs.YtliablhnkoghbaaW.PrintLast Go.Proofs.YtliablhnkoghbaaW.PrintMore
attribute [local go_sem] max2_int min2_int max_two min_two max_three min_three max_four min_four
set_option linter.unusedVariables false
set_option linter.unusedSimpArgs false
def stock_Receive.j0 : Nat → List (S33) → ByteArray → Int → Bool → Option ((List (S33)) × Int)
 | 0, _, _, _, _ => none
 | k + 1, x0, x1, x2, x22 => if x22 = true then (some (([] : List (S33)), 1)) else ((stock_at.f x0 x1).bind fun bt137 => ((api_Row_29.f x0).bind fun t139 => (if bt137.2 = true then (if 0 ≤ bt137.1 then (if bt137.1 < (t139.length : Int) then (if ((rd_T33 t139 bt137.1).f1) > (wrap64 (1073741824 - x2)) then (some (([] : List (S33)), 2)) else ((some (t139.set (bt137.1 : Int).toNat (⟨(rd_T33 t139 bt137.1).f0, wrap64 (((rd_T33 t139 bt137.1).f1) + x2), (rd_T33 t139 bt137.1).f2, (rd_T33 t139 bt137.1).f3, (rd_T33 t139 bt137.1).f4, (rd_T33 t139 bt137.1).f5⟩ : S33) : List (S33))).bind fun y144 => (some ((y144.set (bt137.1 : Int).toNat (⟨(rd_T33 y144 bt137.1).f0, (rd_T33 y144 bt137.1).f1, wrap64 (((rd_T33 y144 bt137.1).f2) + x2), (rd_T33 y144 bt137.1).f3, (rd_T33 y144 bt137.1).f4, (rd_T33 y144 bt137.1).f5⟩ : S33)), 0)))) else (none)) else (none)) else (if (t139.length : Int) = 8 then (some (([] : List (S33)), 7)) else ((api_Row_30.f t139 bt137.1 (([(⟨x1, 0, 0, 0, 0, 0⟩ : S33)] : List (S33)))).bind fun t150 => (if 0 ≤ bt137.1 then (if bt137.1 < (t150.length : Int) then (if ((rd_T33 t150 bt137.1).f1) > (wrap64 (1073741824 - x2)) then (some (([] : List (S33)), 2)) else ((some (t150.set (bt137.1 : Int).toNat (⟨(rd_T33 t150 bt137.1).f0, wrap64 (((rd_T33 t150 bt137.1).f1) + x2), (rd_T33 t150 bt137.1).f2, (rd_T33 t150 bt137.1).f3, (rd_T33 t150 bt137.1).f4, (rd_T33 t150 bt137.1).f5⟩ : S33) : List (S33))).bind fun y155 => (some ((y155.set (bt137.1 : Int).toNat (⟨(rd_T33 y155 bt137.1).f0, (rd_T33 y155 bt137.1).f1, wrap64 (((rd_T33 y155 bt137.1).f2) + x2), (rd_T33 y155 bt137.1).f3, (rd_T33 y155 bt137.1).f4, (rd_T33 y155 bt137.1).f5⟩ : S33)), 0)))) else (none)) else (none)))))))
def stock_Receive.f (k : Nat) (l0 : List (S33)) (a1 : ByteArray) (a2 : Int) : Option ((List (S33)) × Int) := (stock_Right.f l0).bind fun t134 => (if t134 = true then ((stock_units.f a2).bind fun t135 => (if t135 = true then ((stock_name.f a1).bind fun t136 => (stock_Receive.j0 k l0 a1 a2 (!t136))) else (stock_Receive.j0 k l0 a1 a2 true))) else (stock_Receive.j0 k l0 a1 a2 true))
theorem stock_Receive.mono_l : ∀ k, (∀ y0 y1 y2 y3, LeO (stock_Receive.j0 k y0 y1 y2 y3) (stock_Receive.j0 (k + 1) y0 y1 y2 y3))
 | 0 => fun _ _ _ _ r h => by simp [stock_Receive.j0] at h
 | k + 1 => by
  have ih0 := stock_Receive.mono_l k
  ·intro y0 y1 y2 y3
   unfold stock_Receive.j0
   repeat' first
   | (with_reducible exact ih0 _ _ _ _)
   | (with_reducible exact LeO.refl _)
   | (with_reducible exact LeO.none _)
   | (with_reducible refine LeO.ite ?_ ?_)
   | (with_reducible refine LeO.bind ?_ (fun _ => ?_))
   | exact ih0 _ _ _ _
   | exact LeO.none _
   | refine LeO.ite ?_ ?_
   | refine LeO.bind ?_ (fun _ => ?_)
theorem stock_Receive.mono : ∀ a0 a1 a2 k, LeO (stock_Receive.f k a0 a1 a2) (stock_Receive.f (k + 1) a0 a1 a2) := by
 intro a0 a1 a2 k
 have ih0 := stock_Receive.mono_l k
 unfold stock_Receive.f
 repeat' first
   | (with_reducible exact ih0 _ _ _ _)
   | (with_reducible exact LeO.refl _)
   | (with_reducible exact LeO.none _)
   | (with_reducible refine LeO.ite ?_ ?_)
   | (with_reducible refine LeO.bind ?_ (fun _ => ?_))
   | exact ih0 _ _ _ _
   | exact LeO.none _
   | refine LeO.ite ?_ ?_
   | refine LeO.bind ?_ (fun _ => ?_)
set_option maxHeartbeats 8000000 in
set_option maxRecDepth 100000 in
theorem stock_Receive.calls (k : Nat) (A0 : Option Addr) (c0 : Nat) (l0 : List (S33)) (a1 : ByteArray) (a2 : Int) (r1 : List (S33)) (r2 : Int) (w : World) (hr0 : Kd.C k33 w A0 l0.length l0) (hc0 : l0.length ≤ c0) (h : stock_Receive.f k l0 a1 a2 = some (r1, r2)) :
  Calls Try.prog 15 #[.slice A0 l0.length c0, .string a1, .int .i64 a2] w fun e w' => ∃ v0_ : Value, e = .returned (.tuple #[v0_, .int .i64 r2]) ∧ Kd.R k33 33 w' w.heap.size (fun _ => True) v0_ r1 ∧ Below w.heap.size w w' := by
 have hu33 := Try.underlying33
 have HR0 := Aside0.mk hr0
 have HC0 := Aside0.mk hc0
 clear hr0 hc0
 have HB := Aside0.mk (Below.refl w.heap.size w)
 have H : ((stock_Right.f l0).bind fun t134 => (if t134 = true then ((stock_units.f a2).bind fun t135 => (if t135 = true then ((stock_name.f a1).bind fun t136 => (stock_Receive.j0 k l0 a1 a2 (!t136))) else (stock_Receive.j0 k l0 a1 a2 true))) else (stock_Receive.j0 k l0 a1 a2 true))) = some (r1, r2) := h
 clear h
 have HC4 := Aside0.mk H
 clear H
 go_enter Try.func15, Try.ntmps15
 go_upto_region 1 with (fail)
 go_cut [22] (fun v22 wc => ∃ (kq : Nat) (x22_3 : Bool), v22 = .bool x22_3 ∧ Aside0 (stock_Receive.j0 kq l0 a1 a2 x22_3 = some (r1, r2)) ∧ Aside0 (kq ≤ k) ∧ Aside0 (Below w.heap.size w wc))
 case first =>
  have H := HC4.out
  clear HC4
  replace H := Option.bind_eq_some_iff.mp H
  obtain ⟨t134, A50, H⟩ := H
  replace H : (if t134 = true then ((stock_units.f a2).bind fun t135 => (if t135 = true then ((stock_name.f a1).bind fun t136 => (stock_Receive.j0 k l0 a1 a2 (!t136))) else (stock_Receive.j0 k l0 a1 a2 true))) else (stock_Receive.j0 k l0 a1 a2 true)) = some (r1, r2) := H
  have A5 := Aside0.mk A50
  clear A50
  by_cases c6 : t134 = true
  ·subst c6
   have H1 : ((stock_units.f a2).bind fun t135 => (if t135 = true then ((stock_name.f a1).bind fun t136 => (stock_Receive.j0 k l0 a1 a2 (!t136))) else (stock_Receive.j0 k l0 a1 a2 true))) = some (r1, r2) := by rw [if_pos rfl] at H; exact H
   clear H
   have H := H1
   clear H1
   replace H := Option.bind_eq_some_iff.mp H
   obtain ⟨t135, A70, H⟩ := H
   replace H : (if t135 = true then ((stock_name.f a1).bind fun t136 => (stock_Receive.j0 k l0 a1 a2 (!t136))) else (stock_Receive.j0 k l0 a1 a2 true)) = some (r1, r2) := H
   have A7 := Aside0.mk A70
   clear A70
   by_cases c8 : t135 = true
   ·subst c8
    have H1 : ((stock_name.f a1).bind fun t136 => (stock_Receive.j0 k l0 a1 a2 (!t136))) = some (r1, r2) := by rw [if_pos rfl] at H; exact H
    clear H
    have H := H1
    clear H1
    replace H := Option.bind_eq_some_iff.mp H
    obtain ⟨t136, A90, H⟩ := H
    replace H : (stock_Receive.j0 k l0 a1 a2 (!t136)) = some (r1, r2) := H
    have A9 := Aside0.mk A90
    clear A90
    have H' := Aside0.mk H
    clear H
    go_wp2_with (first | ((with_reducible refine gate_callee (f := 10) rfl ?_); refine goesL_ (some 11) rfl rfl Try.func10 (by kernel_rfl) rfl #[.slice A0 l0.length c0] rfl (by (try simp only [List.map_toArray, List.map_cons, List.map_nil]); first | done | rfl | (simp only [List.length_drop, List.length_take]; rfl)) ?_; (with_reducible refine (stock_Right.calls _ _ l0 true _ ?side1 ?side2 A5.out).mono ?_); (case side1 => repeat (first | exact (Kd.C_below HR0.out HB.out) | (with_reducible refine Kd.C_alloc ?_ _) | (with_reducible refine Kd.C_drewN ?_ _) | (with_reducible refine Kd.C_drew ?_))); (case side2 => exact HC0.out); rintro e w10 ⟨rfl, hb⟩; refine ⟨_, rfl, ?_⟩; have n0_ := Aside0.mk (below_step (by repeat (first | (with_reducible first | exact HB.out | apply below_alloc | apply pw_below_drewN | apply below_drew1) | exact HB.out)) hb); clear HB; have HB := n0_; clear n0_; (try clear hb); (try clear hb2); (try clear hk); (try clear hi)) | (go_at_call 27; (with_reducible refine (stock_units.calls a2 true _ A7.out).mono ?_); rintro e w' ⟨rfl, ⟨nd, rfl⟩⟩) | (go_at_call 28; (with_reducible refine (stock_name.calls a1 t136 _ A9.out).mono ?_); rintro e w11 ⟨rfl, hb⟩; have n0_ := Aside0.mk (below_step (by repeat (first | (with_reducible first | exact HB.out | apply below_alloc | apply pw_below_drewN | apply below_drew1) | exact HB.out)) hb); clear HB; have HB := n0_; clear n0_; (try clear hb); (try clear hb2); (try clear hk); (try clear hi)))
    go_meet
    case rel => exact ⟨_, (!t136), (by first | rfl | (simp; done) | (simp [*]; done)), H', ⟨by first | omega | exact Nat.le_refl _⟩, ⟨by repeat (first | (with_reducible first | exact HB.out | apply below_alloc | apply pw_below_drewN | apply below_drew1) | exact HB.out)⟩⟩
   ·replace c8 := Bool.eq_false_iff.mpr c8
    subst c8
    have H1 : (stock_Receive.j0 k l0 a1 a2 true) = some (r1, r2) := by rw [if_neg (show ¬ (false = true) by decide)] at H; exact H
    clear H
    have H := H1
    clear H1
    have H' := Aside0.mk H
    clear H
    go_wp2_with (first | ((with_reducible refine gate_callee (f := 10) rfl ?_); refine goesL_ (some 11) rfl rfl Try.func10 (by kernel_rfl) rfl #[.slice A0 l0.length c0] rfl (by (try simp only [List.map_toArray, List.map_cons, List.map_nil]); first | done | rfl | (simp only [List.length_drop, List.length_take]; rfl)) ?_; (with_reducible refine (stock_Right.calls _ _ l0 true _ ?side1 ?side2 A5.out).mono ?_); (case side1 => repeat (first | exact (Kd.C_below HR0.out HB.out) | (with_reducible refine Kd.C_alloc ?_ _) | (with_reducible refine Kd.C_drewN ?_ _) | (with_reducible refine Kd.C_drew ?_))); (case side2 => exact HC0.out); rintro e w12 ⟨rfl, hb⟩; refine ⟨_, rfl, ?_⟩; have n0_ := Aside0.mk (below_step (by repeat (first | (with_reducible first | exact HB.out | apply below_alloc | apply pw_below_drewN | apply below_drew1) | exact HB.out)) hb); clear HB; have HB := n0_; clear n0_; (try clear hb); (try clear hb2); (try clear hk); (try clear hi)) | (go_at_call 27; (with_reducible refine (stock_units.calls a2 false _ A7.out).mono ?_); rintro e w' ⟨rfl, ⟨nd, rfl⟩⟩))
    go_meet
    case rel => exact ⟨_, (true), (by first | rfl | (simp; done) | (simp [*]; done)), H', ⟨by first | omega | exact Nat.le_refl _⟩, ⟨by repeat (first | (with_reducible first | exact HB.out | apply below_alloc | apply pw_below_drewN | apply below_drew1) | exact HB.out)⟩⟩
  ·replace c6 := Bool.eq_false_iff.mpr c6
   subst c6
   have H1 : (stock_Receive.j0 k l0 a1 a2 true) = some (r1, r2) := by rw [if_neg (show ¬ (false = true) by decide)] at H; exact H
   clear H
   have H := H1
   clear H1
   have H' := Aside0.mk H
   clear H
   go_wp2_with (first | ((with_reducible refine gate_callee (f := 10) rfl ?_); refine goesL_ (some 11) rfl rfl Try.func10 (by kernel_rfl) rfl #[.slice A0 l0.length c0] rfl (by (try simp only [List.map_toArray, List.map_cons, List.map_nil]); first | done | rfl | (simp only [List.length_drop, List.length_take]; rfl)) ?_; (with_reducible refine (stock_Right.calls _ _ l0 false _ ?side1 ?side2 A5.out).mono ?_); (case side1 => repeat (first | exact (Kd.C_below HR0.out HB.out) | (with_reducible refine Kd.C_alloc ?_ _) | (with_reducible refine Kd.C_drewN ?_ _) | (with_reducible refine Kd.C_drew ?_))); (case side2 => exact HC0.out); rintro e w13 ⟨rfl, hb⟩; refine ⟨_, rfl, ?_⟩; have n0_ := Aside0.mk (below_step (by repeat (first | (with_reducible first | exact HB.out | apply below_alloc | apply pw_below_drewN | apply below_drew1) | exact HB.out)) hb); clear HB; have HB := n0_; clear n0_; (try clear hb); (try clear hb2); (try clear hk); (try clear hi)))
   go_meet
   case rel => exact ⟨_, (true), (by first | rfl | (simp; done) | (simp [*]; done)), H', ⟨by first | omega | exact Nat.le_refl _⟩, ⟨by repeat (first | (with_reducible first | exact HB.out | apply below_alloc | apply pw_below_drewN | apply below_drew1) | exact HB.out)⟩⟩
 case rest =>
  clear HC4
  try clear c1
  try clear p2
  try clear c6
  try clear c8
  try clear c10
  obtain ⟨kq, x22_3, rfl, HA, HJ3, HB⟩ := hcut
  cases kq with
  | zero => exact absurd HA.out (by simp [stock_Receive.j0])
  | succ kj3 =>
   have H := HA.out
   clear HA
   simp only [stock_Receive.j0] at H
   by_cases c14 : x22_3 = true
   ·subst c14
    have H1 : (some (([] : List (S33)), 1)) = some (r1, r2) := by rw [if_pos rfl] at H; exact H
    clear H
    have H := H1
    clear H1
    simp only [Option.some.injEq, Prod.mk.injEq] at H
    obtain ⟨rfl, rfl⟩ := H
    go_wp2
    go_ret2
    exact ⟨_, by first | rfl | (simp [errW_none, errW_some] <;> rfl) | (simp [*, errW_none, errW_some] <;> rfl), by first | exact Kd.R_nil _ _ _ _ _ | exact Kd.N_nil _ _ _ _ _ | exact Kd.V_nil _ _ _ _ _ | exact Kd.Q_nil _ _ _ _ _ | exact Kd.S_nil _ _ _ _ _, by repeat (first | (with_reducible first | exact HB.out | apply below_alloc | apply pw_below_drewN | apply below_drew1) | exact HB.out)⟩
   ·replace c14 := Bool.eq_false_iff.mpr c14
    subst c14
    have H1 : ((stock_at.f l0 a1).bind fun bt137 => ((api_Row_29.f l0).bind fun t139 => (if bt137.2 = true then (if 0 ≤ bt137.1 then (if bt137.1 < (t139.length : Int) then (if ((rd_T33 t139 bt137.1).f1) > (wrap64 (1073741824 - a2)) then (some (([] : List (S33)), 2)) else ((some (t139.set (bt137.1 : Int).toNat (⟨(rd_T33 t139 bt137.1).f0, wrap64 (((rd_T33 t139 bt137.1).f1) + a2), (rd_T33 t139 bt137.1).f2, (rd_T33 t139 bt137.1).f3, (rd_T33 t139 bt137.1).f4, (rd_T33 t139 bt137.1).f5⟩ : S33) : List (S33))).bind fun y144 => (some ((y144.set (bt137.1 : Int).toNat (⟨(rd_T33 y144 bt137.1).f0, (rd_T33 y144 bt137.1).f1, wrap64 (((rd_T33 y144 bt137.1).f2) + a2), (rd_T33 y144 bt137.1).f3, (rd_T33 y144 bt137.1).f4, (rd_T33 y144 bt137.1).f5⟩ : S33)), 0)))) else (none)) else (none)) else (if (t139.length : Int) = 8 then (some (([] : List (S33)), 7)) else ((api_Row_30.f t139 bt137.1 (([(⟨a1, 0, 0, 0, 0, 0⟩ : S33)] : List (S33)))).bind fun t150 => (if 0 ≤ bt137.1 then (if bt137.1 < (t150.length : Int) then (if ((rd_T33 t150 bt137.1).f1) > (wrap64 (1073741824 - a2)) then (some (([] : List (S33)), 2)) else ((some (t150.set (bt137.1 : Int).toNat (⟨(rd_T33 t150 bt137.1).f0, wrap64 (((rd_T33 t150 bt137.1).f1) + a2), (rd_T33 t150 bt137.1).f2, (rd_T33 t150 bt137.1).f3, (rd_T33 t150 bt137.1).f4, (rd_T33 t150 bt137.1).f5⟩ : S33) : List (S33))).bind fun y155 => (some ((y155.set (bt137.1 : Int).toNat (⟨(rd_T33 y155 bt137.1).f0, (rd_T33 y155 bt137.1).f1, wrap64 (((rd_T33 y155 bt137.1).f2) + a2), (rd_T33 y155 bt137.1).f3, (rd_T33 y155 bt137.1).f4, (rd_T33 y155 bt137.1).f5⟩ : S33)), 0)))) else (none)) else (none))))))) = some (r1, r2) := by rw [if_neg (show ¬ (false = true) by decide)] at H; exact H
    clear H
    have H := H1
    clear H1
    replace H := Option.bind_eq_some_iff.mp H
    obtain ⟨⟨t137, t138⟩, A150, H⟩ := H
    replace H : ((api_Row_29.f l0).bind fun t139 => (if t138 = true then (if 0 ≤ t137 then (if t137 < (t139.length : Int) then (if ((rd_T33 t139 t137).f1) > (wrap64 (1073741824 - a2)) then (some (([] : List (S33)), 2)) else ((some (t139.set (t137 : Int).toNat (⟨(rd_T33 t139 t137).f0, wrap64 (((rd_T33 t139 t137).f1) + a2), (rd_T33 t139 t137).f2, (rd_T33 t139 t137).f3, (rd_T33 t139 t137).f4, (rd_T33 t139 t137).f5⟩ : S33) : List (S33))).bind fun y144 => (some ((y144.set (t137 : Int).toNat (⟨(rd_T33 y144 t137).f0, (rd_T33 y144 t137).f1, wrap64 (((rd_T33 y144 t137).f2) + a2), (rd_T33 y144 t137).f3, (rd_T33 y144 t137).f4, (rd_T33 y144 t137).f5⟩ : S33)), 0)))) else (none)) else (none)) else (if (t139.length : Int) = 8 then (some (([] : List (S33)), 7)) else ((api_Row_30.f t139 t137 (([(⟨a1, 0, 0, 0, 0, 0⟩ : S33)] : List (S33)))).bind fun t150 => (if 0 ≤ t137 then (if t137 < (t150.length : Int) then (if ((rd_T33 t150 t137).f1) > (wrap64 (1073741824 - a2)) then (some (([] : List (S33)), 2)) else ((some (t150.set (t137 : Int).toNat (⟨(rd_T33 t150 t137).f0, wrap64 (((rd_T33 t150 t137).f1) + a2), (rd_T33 t150 t137).f2, (rd_T33 t150 t137).f3, (rd_T33 t150 t137).f4, (rd_T33 t150 t137).f5⟩ : S33) : List (S33))).bind fun y155 => (some ((y155.set (t137 : Int).toNat (⟨(rd_T33 y155 t137).f0, (rd_T33 y155 t137).f1, wrap64 (((rd_T33 y155 t137).f2) + a2), (rd_T33 y155 t137).f3, (rd_T33 y155 t137).f4, (rd_T33 y155 t137).f5⟩ : S33)), 0)))) else (none)) else (none)))))) = some (r1, r2) := H
    have A15 := Aside0.mk A150
    clear A150
    replace H := Option.bind_eq_some_iff.mp H
    obtain ⟨t139, A160, H⟩ := H
    replace H : (if t138 = true then (if 0 ≤ t137 then (if t137 < (t139.length : Int) then (if ((rd_T33 t139 t137).f1) > (wrap64 (1073741824 - a2)) then (some (([] : List (S33)), 2)) else ((some (t139.set (t137 : Int).toNat (⟨(rd_T33 t139 t137).f0, wrap64 (((rd_T33 t139 t137).f1) + a2), (rd_T33 t139 t137).f2, (rd_T33 t139 t137).f3, (rd_T33 t139 t137).f4, (rd_T33 t139 t137).f5⟩ : S33) : List (S33))).bind fun y144 => (some ((y144.set (t137 : Int).toNat (⟨(rd_T33 y144 t137).f0, (rd_T33 y144 t137).f1, wrap64 (((rd_T33 y144 t137).f2) + a2), (rd_T33 y144 t137).f3, (rd_T33 y144 t137).f4, (rd_T33 y144 t137).f5⟩ : S33)), 0)))) else (none)) else (none)) else (if (t139.length : Int) = 8 then (some (([] : List (S33)), 7)) else ((api_Row_30.f t139 t137 (([(⟨a1, 0, 0, 0, 0, 0⟩ : S33)] : List (S33)))).bind fun t150 => (if 0 ≤ t137 then (if t137 < (t150.length : Int) then (if ((rd_T33 t150 t137).f1) > (wrap64 (1073741824 - a2)) then (some (([] : List (S33)), 2)) else ((some (t150.set (t137 : Int).toNat (⟨(rd_T33 t150 t137).f0, wrap64 (((rd_T33 t150 t137).f1) + a2), (rd_T33 t150 t137).f2, (rd_T33 t150 t137).f3, (rd_T33 t150 t137).f4, (rd_T33 t150 t137).f5⟩ : S33) : List (S33))).bind fun y155 => (some ((y155.set (t137 : Int).toNat (⟨(rd_T33 y155 t137).f0, (rd_T33 y155 t137).f1, wrap64 (((rd_T33 y155 t137).f2) + a2), (rd_T33 y155 t137).f3, (rd_T33 y155 t137).f4, (rd_T33 y155 t137).f5⟩ : S33)), 0)))) else (none)) else (none))))) = some (r1, r2) := H
    have A16 := Aside0.mk A160
    clear A160
    by_cases c17 : t138 = true
    ·subst c17
     have H1 : (if 0 ≤ t137 then (if t137 < (t139.length : Int) then (if ((rd_T33 t139 t137).f1) > (wrap64 (1073741824 - a2)) then (some (([] : List (S33)), 2)) else ((some (t139.set (t137 : Int).toNat (⟨(rd_T33 t139 t137).f0, wrap64 (((rd_T33 t139 t137).f1) + a2), (rd_T33 t139 t137).f2, (rd_T33 t139 t137).f3, (rd_T33 t139 t137).f4, (rd_T33 t139 t137).f5⟩ : S33) : List (S33))).bind fun y144 => (some ((y144.set (t137 : Int).toNat (⟨(rd_T33 y144 t137).f0, (rd_T33 y144 t137).f1, wrap64 (((rd_T33 y144 t137).f2) + a2), (rd_T33 y144 t137).f3, (rd_T33 y144 t137).f4, (rd_T33 y144 t137).f5⟩ : S33)), 0)))) else (none)) else (none)) = some (r1, r2) := by rw [if_pos rfl] at H; exact H
     clear H
     have H := H1
     clear H1
     by_cases c18 : 0 ≤ t137
     ·rw [if_pos c18] at H
      have c18b0 : decide (0 ≤ t137) = true := decide_eq_true c18
      clear c18
      by_cases c19 : t137 < (t139.length : Int)
      ·rw [if_pos c19] at H
       have c19b0 : decide (t137 < (t139.length : Int)) = true := decide_eq_true c19
       clear c19
       by_cases c20 : ((rd_T33 t139 t137).f1) > (wrap64 (1073741824 - a2))
       ·rw [if_pos c20] at H
        have c20b0 : decide ((wrap64 (1073741824 - a2)) < ((rd_T33 t139 t137).f1)) = true := decide_eq_true c20
        clear c20
        simp only [Option.some.injEq, Prod.mk.injEq] at H
        obtain ⟨rfl, rfl⟩ := H
        go_wp2_with (first | ((with_reducible refine gate_callee (f := 24) rfl ?_); refine goesL_ (some 26) rfl rfl Try.func24 (by kernel_rfl) rfl #[.slice A0 l0.length c0, .string a1] rfl (by (try simp only [List.map_toArray, List.map_cons, List.map_nil]); first | done | rfl | (simp only [List.length_drop, List.length_take]; rfl)) ?_; (with_reducible refine (stock_at.calls _ _ l0 a1 t137 true _ ?side1 ?side2 A15.out).mono ?_); (case side1 => repeat (first | exact (Kd.C_below HR0.out HB.out) | (with_reducible refine Kd.C_alloc ?_ _) | (with_reducible refine Kd.C_drewN ?_ _) | (with_reducible refine Kd.C_drew ?_))); (case side2 => exact HC0.out); rintro e w21 ⟨rfl, hb⟩; refine ⟨_, rfl, ?_⟩; have n0_ := Aside0.mk (below_step (by repeat (first | (with_reducible first | exact HB.out | apply below_alloc | apply pw_below_drewN | apply below_drew1) | exact HB.out)) hb); clear HB; have HB := n0_; clear n0_; (try clear hb); (try clear hb2); (try clear hk); (try clear hi)) | ((with_reducible refine gate_callee (f := 29) rfl ?_); refine goesL_ (some 30) rfl rfl Try.func29 (by kernel_rfl) rfl #[.slice A0 l0.length c0] rfl (by (try simp only [List.map_toArray, List.map_cons, List.map_nil]); first | done | rfl | (simp only [List.length_drop, List.length_take]; rfl)) ?_; (with_reducible refine (api_Row_29.calls _ _ l0 t139 _ ?side1 ?side2 A16.out).mono ?_); (case side1 => repeat (first | exact (Kd.C_below HR0.out HB.out) | (with_reducible refine Kd.C_alloc ?_ _) | (with_reducible refine Kd.C_drewN ?_ _) | (with_reducible refine Kd.C_drew ?_))); (case side2 => exact HC0.out); rintro e w22 ⟨v140, rfl, ho0, hb⟩; refine ⟨_, rfl, ?_⟩; have n0_ := Aside0.mk (Kd.R_lower ho0 (below_size (by repeat (first | (with_reducible first | exact HB.out | apply below_alloc | apply pw_below_drewN | apply below_drew1) | exact HB.out)))); have n1_ := Aside0.mk (below_step (by repeat (first | (with_reducible first | exact HB.out | apply below_alloc | apply pw_below_drewN | apply below_drew1) | exact HB.out)) hb); clear HB; have HO141 := n0_; have HB := n1_; clear n0_ n1_; (try clear hb); (try clear hb2); (try clear hk); (try clear hi); (try clear ho0); obtain ⟨Ao23, co23, eo23⟩ := Kd.R_slice HO141.out; subst eo23; have p142 : 0 ≤ (t137 : Int) := of_decide_eq_true (by first | (with_reducible assumption) | assumption); have q142 : t137 < (t139.length : Int) := of_decide_eq_true (by first | (with_reducible assumption) | assumption); obtain ⟨ad142, e142, hx142_0, hx142_1, hx142_2, hx142_3, hx142_4, hx142_5⟩ := at_T33 (Kd.R_reads' HO141.out).2.2 t137 p142 q142; cases e142; replace p142 := eq_true p142; replace q142 := eq_true q142))
        go_ret2
        exact ⟨_, by first | rfl | (simp [errW_none, errW_some] <;> rfl) | (simp [*, errW_none, errW_some] <;> rfl), by first | exact Kd.R_nil _ _ _ _ _ | exact Kd.N_nil _ _ _ _ _ | exact Kd.V_nil _ _ _ _ _ | exact Kd.Q_nil _ _ _ _ _ | exact Kd.S_nil _ _ _ _ _, by repeat (first | (with_reducible first | exact HB.out | apply below_alloc | apply pw_below_drewN | apply below_drew1) | exact HB.out)⟩
       ·rw [if_neg c20] at H
        have c20b0 : decide ((wrap64 (1073741824 - a2)) < ((rd_T33 t139 t137).f1)) = false := decide_eq_false c20
        clear c20
        obtain ⟨y144, hy144⟩ : ∃ y_ : List (S33), y_ = (t139.set (t137 : Int).toNat (⟨(rd_T33 t139 t137).f0, wrap64 (((rd_T33 t139 t137).f1) + a2), (rd_T33 t139 t137).f2, (rd_T33 t139 t137).f3, (rd_T33 t139 t137).f4, (rd_T33 t139 t137).f5⟩ : S33)) := ⟨_, rfl⟩
        replace H : (some ((y144.set (t137 : Int).toNat (⟨(rd_T33 y144 t137).f0, (rd_T33 y144 t137).f1, wrap64 (((rd_T33 y144 t137).f2) + a2), (rd_T33 y144 t137).f3, (rd_T33 y144 t137).f4, (rd_T33 y144 t137).f5⟩ : S33)), 0)) = some (r1, r2) := by first | (rw [hy144]; with_reducible exact H) | (have H2_ := (Option.bind_some _ _).symm.trans H; rw [hy144]; with_reducible exact H2_) | (have H2_ := (Option.bind_some _ _).symm.trans H; with_reducible exact H2_) | with_reducible exact H | (rw [hy144]; exact H) | exact H
        have Ny144 := Aside0.mk hy144
        clear hy144
        obtain ⟨y146, hy146⟩ : ∃ y_ : List (S33), y_ = (y144.set (t137 : Int).toNat (⟨(rd_T33 y144 t137).f0, (rd_T33 y144 t137).f1, wrap64 (((rd_T33 y144 t137).f2) + a2), (rd_T33 y144 t137).f3, (rd_T33 y144 t137).f4, (rd_T33 y144 t137).f5⟩ : S33)) := ⟨_, rfl⟩
        replace H : (some (y146, 0)) = some (r1, r2) := by first | (rw [hy146]; with_reducible exact H) | (have H2_ := (Option.bind_some _ _).symm.trans H; rw [hy146]; with_reducible exact H2_) | (have H2_ := (Option.bind_some _ _).symm.trans H; with_reducible exact H2_) | with_reducible exact H | (rw [hy146]; exact H) | exact H
        have Ny146 := Aside0.mk hy146
        clear hy146
        simp only [Option.some.injEq, Prod.mk.injEq] at H
        obtain ⟨rfl, rfl⟩ := H
        go_wp2_with (first | ((with_reducible refine gate_callee (f := 24) rfl ?_); refine goesL_ (some 26) rfl rfl Try.func24 (by kernel_rfl) rfl #[.slice A0 l0.length c0, .string a1] rfl (by (try simp only [List.map_toArray, List.map_cons, List.map_nil]); first | done | rfl | (simp only [List.length_drop, List.length_take]; rfl)) ?_; (with_reducible refine (stock_at.calls _ _ l0 a1 t137 true _ ?side1 ?side2 A15.out).mono ?_); (case side1 => repeat (first | exact (Kd.C_below HR0.out HB.out) | (with_reducible refine Kd.C_alloc ?_ _) | (with_reducible refine Kd.C_drewN ?_ _) | (with_reducible refine Kd.C_drew ?_))); (case side2 => exact HC0.out); rintro e w26 ⟨rfl, hb⟩; refine ⟨_, rfl, ?_⟩; have n0_ := Aside0.mk (below_step (by repeat (first | (with_reducible first | exact HB.out | apply below_alloc | apply pw_below_drewN | apply below_drew1) | exact HB.out)) hb); clear HB; have HB := n0_; clear n0_; (try clear hb); (try clear hb2); (try clear hk); (try clear hi)) | ((with_reducible refine gate_callee (f := 29) rfl ?_); refine goesL_ (some 30) rfl rfl Try.func29 (by kernel_rfl) rfl #[.slice A0 l0.length c0] rfl (by (try simp only [List.map_toArray, List.map_cons, List.map_nil]); first | done | rfl | (simp only [List.length_drop, List.length_take]; rfl)) ?_; (with_reducible refine (api_Row_29.calls _ _ l0 t139 _ ?side1 ?side2 A16.out).mono ?_); (case side1 => repeat (first | exact (Kd.C_below HR0.out HB.out) | (with_reducible refine Kd.C_alloc ?_ _) | (with_reducible refine Kd.C_drewN ?_ _) | (with_reducible refine Kd.C_drew ?_))); (case side2 => exact HC0.out); rintro e w27 ⟨v140, rfl, ho0, hb⟩; refine ⟨_, rfl, ?_⟩; have n0_ := Aside0.mk (Kd.R_lower ho0 (below_size (by repeat (first | (with_reducible first | exact HB.out | apply below_alloc | apply pw_below_drewN | apply below_drew1) | exact HB.out)))); have n1_ := Aside0.mk (below_step (by repeat (first | (with_reducible first | exact HB.out | apply below_alloc | apply pw_below_drewN | apply below_drew1) | exact HB.out)) hb); clear HB; have HO141 := n0_; have HB := n1_; clear n0_ n1_; (try clear hb); (try clear hb2); (try clear hk); (try clear hi); (try clear ho0); obtain ⟨Ao28, co28, eo28⟩ := Kd.R_slice HO141.out; subst eo28; have p142 : 0 ≤ (t137 : Int) := of_decide_eq_true (by first | (with_reducible assumption) | assumption); have q142 : t137 < (t139.length : Int) := of_decide_eq_true (by first | (with_reducible assumption) | assumption); obtain ⟨ad142, e142, hx142_0, hx142_1, hx142_2, hx142_3, hx142_4, hx142_5⟩ := at_T33 (Kd.R_reads' HO141.out).2.2 t137 p142 q142; cases e142; replace p142 := eq_true p142; replace q142 := eq_true q142; have p143 : 0 ≤ (t137 : Int) := of_decide_eq_true (by first | (with_reducible assumption) | assumption); have q143 : t137 < (t139.length : Int) := of_decide_eq_true (by first | (with_reducible assumption) | assumption); obtain ⟨ad143, e143, hx143_0, hx143_1, hx143_2, hx143_3, hx143_4, hx143_5⟩ := at_T33 (Kd.R_reads' HO141.out).2.2 t137 p143 q143; obtain rfl : ad142 = ad143 := (by injection e143); replace p143 := eq_true p143; replace q143 := eq_true q143; have p24 : 0 ≤ (t137 : Int) := of_decide_eq_true (by first | (with_reducible assumption) | assumption); have q24 : (t137 : Int) < ((t139.length : Int) : Int) := of_decide_eq_true (by first | (with_reducible assumption) | assumption); obtain ⟨go24, co24, eo24, gb24, gl24, cl24, HG24⟩ := Kd.R_form HO141.out (by omega); (first | cases eo24 | (injection eo24 with ea_ en_ ec_; (first | subst ea_ | (injection ea_ with ea_; subst ea_)); subst ec_; clear en_)); have GB24 := Aside0.mk gb24; have GG24 := Aside0.mk HG24; clear gb24 gl24 HG24; (first | simp only [add_plain] at hx142_0 | skip); (first | simp only [add_plain] at hx142_1 | skip); (first | simp only [add_plain] at hx142_2 | skip); (first | simp only [add_plain] at hx142_3 | skip); (first | simp only [add_plain] at hx142_4 | skip); (first | simp only [add_plain] at hx142_5 | skip); (first | simp only [add_plain] at hx143_0 | skip); (first | simp only [add_plain] at hx143_1 | skip); (first | simp only [add_plain] at hx143_2 | skip); (first | simp only [add_plain] at hx143_3 | skip); (first | simp only [add_plain] at hx143_4 | skip); (first | simp only [add_plain] at hx143_5 | skip); obtain ⟨ce24, hcl24, hM24, hcc24, hfr24⟩ := Kd.R_elem HO141.out z33 (t137 : Int) p24 q24; obtain rfl := k33_openM hM24; have hx24_0 : w27.cell? ⟨go24, (t137 : Int).toNat * 6, none⟩ = some (.string ((rd_T33 t139 t137).f0)) := hcc24 0 _ rfl; have hx24_1 : w27.cell? ⟨go24, (t137 : Int).toNat * 6 + 1, none⟩ = some (.int .i64 ((rd_T33 t139 t137).f1)) := hcc24 1 _ rfl; have hx24_2 : w27.cell? ⟨go24, (t137 : Int).toNat * 6 + 2, none⟩ = some (.int .i64 ((rd_T33 t139 t137).f2)) := hcc24 2 _ rfl; have hx24_3 : w27.cell? ⟨go24, (t137 : Int).toNat * 6 + 3, none⟩ = some (.int .i64 ((rd_T33 t139 t137).f3)) := hcc24 3 _ rfl; have hx24_4 : w27.cell? ⟨go24, (t137 : Int).toNat * 6 + 4, none⟩ = some (.int .i64 ((rd_T33 t139 t137).f4)) := hcc24 4 _ rfl; have hx24_5 : w27.cell? ⟨go24, (t137 : Int).toNat * 6 + 5, none⟩ = some (.int .i64 ((rd_T33 t139 t137).f5)) := hcc24 5 _ rfl; have hf24_0 : w27.frozen? ⟨go24, (t137 : Int).toNat * 6, none⟩ = false := hfr24 0; have hf24_1 : w27.frozen? ⟨go24, (t137 : Int).toNat * 6 + 1, none⟩ = false := hfr24 1; have hf24_2 : w27.frozen? ⟨go24, (t137 : Int).toNat * 6 + 2, none⟩ = false := hfr24 2; have hf24_3 : w27.frozen? ⟨go24, (t137 : Int).toNat * 6 + 3, none⟩ = false := hfr24 3; have hf24_4 : w27.frozen? ⟨go24, (t137 : Int).toNat * 6 + 4, none⟩ = false := hfr24 4; have hf24_5 : w27.frozen? ⟨go24, (t137 : Int).toNat * 6 + 5, none⟩ = false := hfr24 5; clear hcl24 hcc24 hfr24 hM24; replace p24 := eq_true p24; replace q24 := eq_true q24; have HX29 := Aside0.mk (show Kd.R k33 33 w27 w.heap.size (fun _ => True) (.slice (some ⟨go24, 0, none⟩) t139.length co28) t139 from (by (with_reducible repeat (first | apply Kd.R_alloc | apply Kd.R_drewN | apply Kd.R_drew)); exact HO141.out)); obtain ⟨ce29, hcl29, hM29, hcc29, hfr29⟩ := Kd.R_elem HX29.out z33 (t137 : Int) (of_decide_eq_true (by first | (with_reducible assumption) | assumption)) (by have h_ : (t137 : Int) < ((t139.length : Int) : Int) := of_decide_eq_true (by first | (with_reducible assumption) | assumption); first | exact h_ | (have e_ := (Kd.R_reads' HO141.out).1; omega) | simpa using h_); obtain rfl := k33_openM hM29; have HP29 := Kd.R_seg HX29.out (t137 : Int) (of_decide_eq_true (by first | (with_reducible assumption) | assumption)) (by have h_ : (t137 : Int) < ((t139.length : Int) : Int) := of_decide_eq_true (by first | (with_reducible assumption) | assumption); first | exact h_ | (have e_ := (Kd.R_reads' HO141.out).1; omega) | simpa using h_) (seg := [.int .i64 (wrap64 (((rd_T33 t139 t137).f1) + a2))]) (j := 1) hcl29 hcc29 (show 2 ≤ 6 from by decide) (x' := (⟨(rd_T33 t139 t137).f0, wrap64 (((rd_T33 t139 t137).f1) + a2), (rd_T33 t139 t137).f2, (rd_T33 t139 t137).f3, (rd_T33 t139 t137).f4, (rd_T33 t139 t137).f5⟩ : S33)) (k33_mkM _ _ _ (⟨(rd_T33 t139 t137).f0, wrap64 (((rd_T33 t139 t137).f1) + a2), (rd_T33 t139 t137).f2, (rd_T33 t139 t137).f3, (rd_T33 t139 t137).f4, (rd_T33 t139 t137).f5⟩ : S33) ) (fun _ hk => hk); have hx29_1 := hcc29 1 _ rfl; (try simp only [show (k33).sz = 6 from rfl, Nat.mul_one, Nat.add_zero] at hx29_1); have hf29_1 := hfr29 1; (try simp only [show (k33).sz = 6 from rfl, Nat.mul_one, Nat.add_zero] at hf29_1); clear hcl29 hcc29 hfr29 hM29) | ((with_reducible refine gate_store (t := 3) (p := 58) rfl ?_); refine store_event (t := 3) (p := 58) (v := ?vo_w30) (w1 := (w27.setCell ⟨go24, (t137 : Int).toNat * 6 + 1, none⟩ (.int .i64 (wrap64 (((rd_T33 t139 t137).f1) + a2))))) ?hg ?ho ?hn ?hr ?_; (case ho => rfl); (case hg => rfl); (case hn => rfl); (case hr => first | (go_simp; done) | (go_simp; rfl)); intro w30 hw; have hg : w27.grownBy w30 (some go24) := (by rw [hw]; exact HP29.2); have hp_ : Kd.R k33 33 w30 w.heap.size (fun _ => True) (.slice (some ⟨go24, 0, none⟩) t139.length co28) y144 := (by rw [hw, Ny144.out]; exact HP29.1); clear HP29; have n0_ := Aside0.mk (hp_); have n1_ := Aside0.mk ((by rw [hw]; exact below_set (HB.out) GB24.out : Below w.heap.size w w30)); clear HO141; clear HB; have HO141 := n0_; have HB := n1_; clear n0_ n1_; clear hg hw hp_; have p145 : 0 ≤ (t137 : Int) := of_decide_eq_true (by first | (with_reducible assumption) | assumption); have q145 : t137 < (y144.length : Int) := (by have h_ : (t137 : Int) < ((t139.length : Int) : Int) := of_decide_eq_true (by first | (with_reducible assumption) | assumption); first | (have e_ := (Kd.R_reads' HO141.out).1; omega) | simpa only [Ny144.out, List.length_set] using h_); have ql145 : ((t137 : Int) < ((t139.length : Int) : Int)) = True := eq_true (of_decide_eq_true (by first | (with_reducible assumption) | assumption)); obtain ⟨ad145, e145, hx145_0, hx145_1, hx145_2, hx145_3, hx145_4, hx145_5⟩ := at_T33 (Kd.R_reads' HO141.out).2.2 t137 p145 q145; obtain rfl : (⟨go24, 0, none⟩ : Addr) = ad145 := (by injection e145); (first | simp only [add_plain] at hx145_0 | simp only [add_at] at hx145_0 | simp only [Addr.add, Nat.zero_add] at hx145_0 | skip); (first | simp only [add_plain] at hx145_1 | simp only [add_at] at hx145_1 | simp only [Addr.add, Nat.zero_add] at hx145_1 | skip); (first | simp only [add_plain] at hx145_2 | simp only [add_at] at hx145_2 | simp only [Addr.add, Nat.zero_add] at hx145_2 | skip); (first | simp only [add_plain] at hx145_3 | simp only [add_at] at hx145_3 | simp only [Addr.add, Nat.zero_add] at hx145_3 | skip); (first | simp only [add_plain] at hx145_4 | simp only [add_at] at hx145_4 | simp only [Addr.add, Nat.zero_add] at hx145_4 | skip); (first | simp only [add_plain] at hx145_5 | simp only [add_at] at hx145_5 | simp only [Addr.add, Nat.zero_add] at hx145_5 | skip); replace p145 := eq_true p145; replace q145 := eq_true q145; have p25 : 0 ≤ (t137 : Int) := of_decide_eq_true (by first | (with_reducible assumption) | assumption); have q25 : (t137 : Int) < ((t139.length : Int) : Int) := of_decide_eq_true (by first | (with_reducible assumption) | assumption); obtain ⟨ce25, hcl25, hM25, hcc25, hfr25⟩ := Kd.R_elem HO141.out z33 (t137 : Int) p25 q25; obtain rfl := k33_openM hM25; have hx25_0 : w30.cell? ⟨go24, (t137 : Int).toNat * 6, none⟩ = some (.string ((rd_T33 y144 t137).f0)) := hcc25 0 _ rfl; have hx25_1 : w30.cell? ⟨go24, (t137 : Int).toNat * 6 + 1, none⟩ = some (.int .i64 ((rd_T33 y144 t137).f1)) := hcc25 1 _ rfl; have hx25_2 : w30.cell? ⟨go24, (t137 : Int).toNat * 6 + 2, none⟩ = some (.int .i64 ((rd_T33 y144 t137).f2)) := hcc25 2 _ rfl; have hx25_3 : w30.cell? ⟨go24, (t137 : Int).toNat * 6 + 3, none⟩ = some (.int .i64 ((rd_T33 y144 t137).f3)) := hcc25 3 _ rfl; have hx25_4 : w30.cell? ⟨go24, (t137 : Int).toNat * 6 + 4, none⟩ = some (.int .i64 ((rd_T33 y144 t137).f4)) := hcc25 4 _ rfl; have hx25_5 : w30.cell? ⟨go24, (t137 : Int).toNat * 6 + 5, none⟩ = some (.int .i64 ((rd_T33 y144 t137).f5)) := hcc25 5 _ rfl; have hf25_0 : w30.frozen? ⟨go24, (t137 : Int).toNat * 6, none⟩ = false := hfr25 0; have hf25_1 : w30.frozen? ⟨go24, (t137 : Int).toNat * 6 + 1, none⟩ = false := hfr25 1; have hf25_2 : w30.frozen? ⟨go24, (t137 : Int).toNat * 6 + 2, none⟩ = false := hfr25 2; have hf25_3 : w30.frozen? ⟨go24, (t137 : Int).toNat * 6 + 3, none⟩ = false := hfr25 3; have hf25_4 : w30.frozen? ⟨go24, (t137 : Int).toNat * 6 + 4, none⟩ = false := hfr25 4; have hf25_5 : w30.frozen? ⟨go24, (t137 : Int).toNat * 6 + 5, none⟩ = false := hfr25 5; clear hcl25 hcc25 hfr25 hM25; replace p25 := eq_true p25; replace q25 := eq_true q25; have HX31 := Aside0.mk (show Kd.R k33 33 w30 w.heap.size (fun _ => True) (.slice (some ⟨go24, 0, none⟩) t139.length co28) y144 from (by (with_reducible repeat (first | apply Kd.R_alloc | apply Kd.R_drewN | apply Kd.R_drew)); exact HO141.out)); obtain ⟨ce31, hcl31, hM31, hcc31, hfr31⟩ := Kd.R_elem HX31.out z33 (t137 : Int) (of_decide_eq_true (by first | (with_reducible assumption) | assumption)) (by have h_ : (t137 : Int) < ((t139.length : Int) : Int) := of_decide_eq_true (by first | (with_reducible assumption) | assumption); first | exact h_ | (have e_ := (Kd.R_reads' HO141.out).1; omega) | simpa using h_); obtain rfl := k33_openM hM31; have HP31 := Kd.R_seg HX31.out (t137 : Int) (of_decide_eq_true (by first | (with_reducible assumption) | assumption)) (by have h_ : (t137 : Int) < ((t139.length : Int) : Int) := of_decide_eq_true (by first | (with_reducible assumption) | assumption); first | exact h_ | (have e_ := (Kd.R_reads' HO141.out).1; omega) | simpa using h_) (seg := [.int .i64 (wrap64 (((rd_T33 y144 t137).f2) + a2))]) (j := 2) hcl31 hcc31 (show 3 ≤ 6 from by decide) (x' := (⟨(rd_T33 y144 t137).f0, (rd_T33 y144 t137).f1, wrap64 (((rd_T33 y144 t137).f2) + a2), (rd_T33 y144 t137).f3, (rd_T33 y144 t137).f4, (rd_T33 y144 t137).f5⟩ : S33)) (k33_mkM _ _ _ (⟨(rd_T33 y144 t137).f0, (rd_T33 y144 t137).f1, wrap64 (((rd_T33 y144 t137).f2) + a2), (rd_T33 y144 t137).f3, (rd_T33 y144 t137).f4, (rd_T33 y144 t137).f5⟩ : S33) ) (fun _ hk => hk); have hx31_2 := hcc31 2 _ rfl; (try simp only [show (k33).sz = 6 from rfl, Nat.mul_one, Nat.add_zero] at hx31_2); have hf31_2 := hfr31 2; (try simp only [show (k33).sz = 6 from rfl, Nat.mul_one, Nat.add_zero] at hf31_2); clear hcl31 hcc31 hfr31 hM31) | ((with_reducible refine gate_store (t := 3) (p := 67) rfl ?_); refine store_event (t := 3) (p := 67) (v := ?vo_w32) (w1 := (w30.setCell ⟨go24, (t137 : Int).toNat * 6 + 2, none⟩ (.int .i64 (wrap64 (((rd_T33 y144 t137).f2) + a2))))) ?hg ?ho ?hn ?hr ?_; (case ho => rfl); (case hg => rfl); (case hn => rfl); (case hr => first | (go_simp; done) | (go_simp; rfl)); intro w32 hw; have hg : w30.grownBy w32 (some go24) := (by rw [hw]; exact HP31.2); have hp_ : Kd.R k33 33 w32 w.heap.size (fun _ => True) (.slice (some ⟨go24, 0, none⟩) t139.length co28) y146 := (by rw [hw, Ny146.out]; exact HP31.1); clear HP31; have n0_ := Aside0.mk (hp_); have n1_ := Aside0.mk ((by rw [hw]; exact below_set (HB.out) GB24.out : Below w.heap.size w w32)); clear HO141; clear HB; have HO141 := n0_; have HB := n1_; clear n0_ n1_; clear hg hw hp_))
        go_ret2
        exact ⟨_, by first | rfl | (simp [errW_none, errW_some] <;> rfl) | (simp [*, errW_none, errW_some] <;> rfl), by (with_reducible repeat (first | apply Kd.R_alloc | apply Kd.R_drewN | apply Kd.R_drew)); exact HO141.out, by repeat (first | (with_reducible first | exact HB.out | apply below_alloc | apply pw_below_drewN | apply below_drew1) | exact HB.out)⟩
      ·rw [if_neg c19] at H
       exact absurd H (by simp)
     ·rw [if_neg c18] at H
      exact absurd H (by simp)
    ·replace c17 := Bool.eq_false_iff.mpr c17
     subst c17
     have H1 : (if (t139.length : Int) = 8 then (some (([] : List (S33)), 7)) else ((api_Row_30.f t139 t137 (([(⟨a1, 0, 0, 0, 0, 0⟩ : S33)] : List (S33)))).bind fun t150 => (if 0 ≤ t137 then (if t137 < (t150.length : Int) then (if ((rd_T33 t150 t137).f1) > (wrap64 (1073741824 - a2)) then (some (([] : List (S33)), 2)) else ((some (t150.set (t137 : Int).toNat (⟨(rd_T33 t150 t137).f0, wrap64 (((rd_T33 t150 t137).f1) + a2), (rd_T33 t150 t137).f2, (rd_T33 t150 t137).f3, (rd_T33 t150 t137).f4, (rd_T33 t150 t137).f5⟩ : S33) : List (S33))).bind fun y155 => (some ((y155.set (t137 : Int).toNat (⟨(rd_T33 y155 t137).f0, (rd_T33 y155 t137).f1, wrap64 (((rd_T33 y155 t137).f2) + a2), (rd_T33 y155 t137).f3, (rd_T33 y155 t137).f4, (rd_T33 y155 t137).f5⟩ : S33)), 0)))) else (none)) else (none)))) = some (r1, r2) := by rw [if_neg (show ¬ (false = true) by decide)] at H; exact H
     clear H
     have H := H1
     clear H1
     by_cases c33 : (t139.length : Int) = 8
     ·rw [if_pos c33] at H
      have c33b0 : ((t139.length : Int) == 8) = true := beq_iff_eq.mpr c33
      have c33b1 : ((t139.length : Int) != 8) = false := bne_eq_false_iff_eq.mpr c33
      clear c33
      simp only [Option.some.injEq, Prod.mk.injEq] at H
      obtain ⟨rfl, rfl⟩ := H
      go_wp2_with (first | ((with_reducible refine gate_callee (f := 24) rfl ?_); refine goesL_ (some 26) rfl rfl Try.func24 (by kernel_rfl) rfl #[.slice A0 l0.length c0, .string a1] rfl (by (try simp only [List.map_toArray, List.map_cons, List.map_nil]); first | done | rfl | (simp only [List.length_drop, List.length_take]; rfl)) ?_; (with_reducible refine (stock_at.calls _ _ l0 a1 t137 false _ ?side1 ?side2 A15.out).mono ?_); (case side1 => repeat (first | exact (Kd.C_below HR0.out HB.out) | (with_reducible refine Kd.C_alloc ?_ _) | (with_reducible refine Kd.C_drewN ?_ _) | (with_reducible refine Kd.C_drew ?_))); (case side2 => exact HC0.out); rintro e w34 ⟨rfl, hb⟩; refine ⟨_, rfl, ?_⟩; have n0_ := Aside0.mk (below_step (by repeat (first | (with_reducible first | exact HB.out | apply below_alloc | apply pw_below_drewN | apply below_drew1) | exact HB.out)) hb); clear HB; have HB := n0_; clear n0_; (try clear hb); (try clear hb2); (try clear hk); (try clear hi)) | ((with_reducible refine gate_callee (f := 29) rfl ?_); refine goesL_ (some 30) rfl rfl Try.func29 (by kernel_rfl) rfl #[.slice A0 l0.length c0] rfl (by (try simp only [List.map_toArray, List.map_cons, List.map_nil]); first | done | rfl | (simp only [List.length_drop, List.length_take]; rfl)) ?_; (with_reducible refine (api_Row_29.calls _ _ l0 t139 _ ?side1 ?side2 A16.out).mono ?_); (case side1 => repeat (first | exact (Kd.C_below HR0.out HB.out) | (with_reducible refine Kd.C_alloc ?_ _) | (with_reducible refine Kd.C_drewN ?_ _) | (with_reducible refine Kd.C_drew ?_))); (case side2 => exact HC0.out); rintro e w35 ⟨v140, rfl, ho0, hb⟩; refine ⟨_, rfl, ?_⟩; have n0_ := Aside0.mk (Kd.R_lower ho0 (below_size (by repeat (first | (with_reducible first | exact HB.out | apply below_alloc | apply pw_below_drewN | apply below_drew1) | exact HB.out)))); have n1_ := Aside0.mk (below_step (by repeat (first | (with_reducible first | exact HB.out | apply below_alloc | apply pw_below_drewN | apply below_drew1) | exact HB.out)) hb); clear HB; have HO141 := n0_; have HB := n1_; clear n0_ n1_; (try clear hb); (try clear hb2); (try clear hk); (try clear hi); (try clear ho0); obtain ⟨Ao36, co36, eo36⟩ := Kd.R_slice HO141.out; subst eo36))
      go_ret2
      exact ⟨_, by first | rfl | (simp [errW_none, errW_some] <;> rfl) | (simp [*, errW_none, errW_some] <;> rfl), by first | exact Kd.R_nil _ _ _ _ _ | exact Kd.N_nil _ _ _ _ _ | exact Kd.V_nil _ _ _ _ _ | exact Kd.Q_nil _ _ _ _ _ | exact Kd.S_nil _ _ _ _ _, by repeat (first | (with_reducible first | exact HB.out | apply below_alloc | apply pw_below_drewN | apply below_drew1) | exact HB.out)⟩
     ·rw [if_neg c33] at H
      have c33b0 : ((t139.length : Int) == 8) = false := beq_eq_false_iff_ne.mpr c33
      have c33b1 : ((t139.length : Int) != 8) = true := bne_iff_ne.mpr c33
      obtain ⟨y147, hy147⟩ : ∃ y_ : List (S33), y_ = (([(⟨a1, 0, 0, 0, 0, 0⟩ : S33)] : List (S33))) := ⟨_, rfl⟩
      replace H : ((api_Row_30.f t139 t137 y147).bind fun t150 => (if 0 ≤ t137 then (if t137 < (t150.length : Int) then (if ((rd_T33 t150 t137).f1) > (wrap64 (1073741824 - a2)) then (some (([] : List (S33)), 2)) else ((some (t150.set (t137 : Int).toNat (⟨(rd_T33 t150 t137).f0, wrap64 (((rd_T33 t150 t137).f1) + a2), (rd_T33 t150 t137).f2, (rd_T33 t150 t137).f3, (rd_T33 t150 t137).f4, (rd_T33 t150 t137).f5⟩ : S33) : List (S33))).bind fun y155 => (some ((y155.set (t137 : Int).toNat (⟨(rd_T33 y155 t137).f0, (rd_T33 y155 t137).f1, wrap64 (((rd_T33 y155 t137).f2) + a2), (rd_T33 y155 t137).f3, (rd_T33 y155 t137).f4, (rd_T33 y155 t137).f5⟩ : S33)), 0)))) else (none)) else (none))) = some (r1, r2) := by first | (rw [hy147]; with_reducible exact H) | (have H2_ := (Option.bind_some _ _).symm.trans H; rw [hy147]; with_reducible exact H2_) | (have H2_ := (Option.bind_some _ _).symm.trans H; with_reducible exact H2_) | with_reducible exact H | (rw [hy147]; exact H) | exact H
      have Ny147 := Aside0.mk hy147
      clear hy147
      replace H := Option.bind_eq_some_iff.mp H
      obtain ⟨t150, A370, H⟩ := H
      replace H : (if 0 ≤ t137 then (if t137 < (t150.length : Int) then (if ((rd_T33 t150 t137).f1) > (wrap64 (1073741824 - a2)) then (some (([] : List (S33)), 2)) else ((some (t150.set (t137 : Int).toNat (⟨(rd_T33 t150 t137).f0, wrap64 (((rd_T33 t150 t137).f1) + a2), (rd_T33 t150 t137).f2, (rd_T33 t150 t137).f3, (rd_T33 t150 t137).f4, (rd_T33 t150 t137).f5⟩ : S33) : List (S33))).bind fun y155 => (some ((y155.set (t137 : Int).toNat (⟨(rd_T33 y155 t137).f0, (rd_T33 y155 t137).f1, wrap64 (((rd_T33 y155 t137).f2) + a2), (rd_T33 y155 t137).f3, (rd_T33 y155 t137).f4, (rd_T33 y155 t137).f5⟩ : S33)), 0)))) else (none)) else (none)) = some (r1, r2) := H
      have A37 := Aside0.mk A370
      clear A370
      by_cases c38 : 0 ≤ t137
      ·rw [if_pos c38] at H
       have c38b0 : decide (0 ≤ t137) = true := decide_eq_true c38
       clear c38
       by_cases c39 : t137 < (t150.length : Int)
       ·rw [if_pos c39] at H
        have c39b0 : decide (t137 < (t150.length : Int)) = true := decide_eq_true c39
        clear c39
        by_cases c40 : ((rd_T33 t150 t137).f1) > (wrap64 (1073741824 - a2))
        ·rw [if_pos c40] at H
         have c40b0 : decide ((wrap64 (1073741824 - a2)) < ((rd_T33 t150 t137).f1)) = true := decide_eq_true c40
         clear c40
         simp only [Option.some.injEq, Prod.mk.injEq] at H
         obtain ⟨rfl, rfl⟩ := H
         go_wp2_with (first | ((with_reducible refine gate_callee (f := 24) rfl ?_); refine goesL_ (some 26) rfl rfl Try.func24 (by kernel_rfl) rfl #[.slice A0 l0.length c0, .string a1] rfl (by (try simp only [List.map_toArray, List.map_cons, List.map_nil]); first | done | rfl | (simp only [List.length_drop, List.length_take]; rfl)) ?_; (with_reducible refine (stock_at.calls _ _ l0 a1 t137 false _ ?side1 ?side2 A15.out).mono ?_); (case side1 => repeat (first | exact (Kd.C_below HR0.out HB.out) | (with_reducible refine Kd.C_alloc ?_ _) | (with_reducible refine Kd.C_drewN ?_ _) | (with_reducible refine Kd.C_drew ?_))); (case side2 => exact HC0.out); rintro e w41 ⟨rfl, hb⟩; refine ⟨_, rfl, ?_⟩; have n0_ := Aside0.mk (below_step (by repeat (first | (with_reducible first | exact HB.out | apply below_alloc | apply pw_below_drewN | apply below_drew1) | exact HB.out)) hb); clear HB; have HB := n0_; clear n0_; (try clear hb); (try clear hb2); (try clear hk); (try clear hi)) | ((with_reducible refine gate_callee (f := 29) rfl ?_); refine goesL_ (some 30) rfl rfl Try.func29 (by kernel_rfl) rfl #[.slice A0 l0.length c0] rfl (by (try simp only [List.map_toArray, List.map_cons, List.map_nil]); first | done | rfl | (simp only [List.length_drop, List.length_take]; rfl)) ?_; (with_reducible refine (api_Row_29.calls _ _ l0 t139 _ ?side1 ?side2 A16.out).mono ?_); (case side1 => repeat (first | exact (Kd.C_below HR0.out HB.out) | (with_reducible refine Kd.C_alloc ?_ _) | (with_reducible refine Kd.C_drewN ?_ _) | (with_reducible refine Kd.C_drew ?_))); (case side2 => exact HC0.out); rintro e w42 ⟨v140, rfl, ho0, hb⟩; refine ⟨_, rfl, ?_⟩; have n0_ := Aside0.mk (Kd.R_lower ho0 (below_size (by repeat (first | (with_reducible first | exact HB.out | apply below_alloc | apply pw_below_drewN | apply below_drew1) | exact HB.out)))); have n1_ := Aside0.mk (below_step (by repeat (first | (with_reducible first | exact HB.out | apply below_alloc | apply pw_below_drewN | apply below_drew1) | exact HB.out)) hb); clear HB; have HO141 := n0_; have HB := n1_; clear n0_ n1_; (try clear hb); (try clear hb2); (try clear hk); (try clear hi); (try clear ho0); obtain ⟨Ao43, co43, eo43⟩ := Kd.R_slice HO141.out; subst eo43) | ((with_reducible refine gate_dst (N := 40) rfl ?_); refine Kd.R_lit k33 _ 33 ?hg (N := 40) ?hd (xs := ([(⟨a1, 0, 0, 0, 0, 0⟩ : S33)] : List (S33))) (inner := [.string a1, .int .i64 0, .int .i64 0, .int .i64 0, .int .i64 0, .int .i64 0]) (ok := fun _ => True) (okp := fun _ => True) ?hr ?hp (fun _ hk => hk) trivial (Below.refl _ _) (Nat.le_refl _) (by simp) ?_; (case hd => rfl); (case hg => rfl); (case hr => first | (go_simp; done) | (go_simp; rfl)); (case hp => exact (Reps.c6 (show Kd.M k33 _ _ _ (⟨a1, 0, 0, 0, 0, 0⟩ : S33) [.string a1, .int .i64 0, .int .i64 0, .int .i64 0, .int .i64 0, .int .i64 0] from (k33_mkM _ _ _ (⟨a1, 0, 0, 0, 0, 0⟩ : S33) )) (Reps.none _ _))); intro v148 w44 ho45 hb hg_ hnew_; clear hg_ hnew_; (first | rw [← Ny147.out] at ho45 | (simp only [Int.reduceToNat] at ho45; rw [← Ny147.out] at ho45)); have n0_ := Aside0.mk (Kd.R_elder' (by (with_reducible repeat (first | apply Kd.R_alloc | apply Kd.R_drewN | apply Kd.R_drew)); exact HO141.out) (Kd.R_base ho45) hb); have n1_ := Aside0.mk (Kd.R_lower (Kd.R_new' ho45 (Kd.R_lt (by (with_reducible repeat (first | apply Kd.R_alloc | apply Kd.R_drewN | apply Kd.R_drew)); exact HO141.out))) (below_size (by repeat (first | (with_reducible first | exact HB.out | apply below_alloc | apply pw_below_drewN | apply below_drew1) | exact HB.out)))); have n2_ := Aside0.mk (below_step (by repeat (first | (with_reducible first | exact HB.out | apply below_alloc | apply pw_below_drewN | apply below_drew1) | exact HB.out)) hb); clear HO141; clear HB; have HO141 := n0_; have HO149 := n1_; have HB := n2_; clear n0_ n1_ n2_; clear hb ho45; obtain ⟨Ao46, co46, eo46⟩ := Kd.R_slice HO149.out; subst eo46) | ((with_reducible refine gate_callee (f := 30) rfl ?_); refine goesL_ (some 41) rfl rfl Try.func30 (by kernel_rfl) rfl #[.slice Ao43 t139.length co43, .int .i64 t137, .slice Ao46 y147.length co46] rfl (by (try simp only [List.map_toArray, List.map_cons, List.map_nil]); first | done | rfl | (simp only [List.length_drop, List.length_take]; rfl)) ?_; (with_reducible refine (api_Row_30.calls (fun k_ => some k_ = (.slice Ao43 t139.length co43 : Value).ownBlock) (.slice Ao43 t139.length co43) t139 t137 _ _ y147 t150 w _ ?side1 ?side2 ?side3 ?side4 A37.out).mono ?_); (case side1 => repeat (first | (with_reducible first | exact HB.out | apply below_alloc | apply pw_below_drewN | apply below_drew1) | exact HB.out)); (case side2 => exact Kd.R_tight rfl HO141.out); (case side3 => exact Kd.C_kept_own (HO149.out) (fun k_ hk_ hs_ => (hk_.2) hs_)); (case side4 => exact (Kd.R_reads' HO149.out).2.1); rintro e w47 ⟨v151, rfl, ho0, hb, hkp⟩; refine ⟨_, rfl, ?_⟩; have n0_ := Aside0.mk (Kd.R_mono (ok' := fun k_ => some k_ ≠ (v151 : Value).ownBlock) (Kd.R_keptB (HO149.out) hkp (fun k_ hk_ hs_ => (hk_.2) hs_)) (fun k_ hk_ => fun e_ => Or.elim (ho0.1 k_ e_.symm) (fun hs_ => hk_.2.1 hs_) (fun hn_ => Nat.not_le.2 hk_.2.2 hn_))); have n1_ := Aside0.mk (Kd.R_mono (ok' := fun k_ => some k_ ≠ (.slice Ao46 y147.length co46 : Value).ownBlock) ho0 (fun k_ hk_ => Or.elim hk_ (fun hs_ => fun e_ => (((HO149.out).1 k_ e_.symm).2) hs_) (fun hn_ => (Kd.fresh' (Kd.R_lt (by (with_reducible repeat (first | apply Kd.R_alloc | apply Kd.R_drewN | apply Kd.R_drew)); exact HO149.out)) k_ hn_)))); have n2_ := Aside0.mk (hb); clear HO149; clear HB; clear HO141; have HO149 := n0_; have HO152 := n1_; have HB := n2_; clear n0_ n1_ n2_; (try clear hb); (try clear hkp); (try clear ho0); obtain ⟨Ao48, co48, eo48⟩ := Kd.R_slice HO152.out; subst eo48; have p153 : 0 ≤ (t137 : Int) := of_decide_eq_true (by first | (with_reducible assumption) | assumption); have q153 : t137 < (t150.length : Int) := of_decide_eq_true (by first | (with_reducible assumption) | assumption); obtain ⟨ad153, e153, hx153_0, hx153_1, hx153_2, hx153_3, hx153_4, hx153_5⟩ := at_T33 (Kd.R_reads' HO152.out).2.2 t137 p153 q153; cases e153; replace p153 := eq_true p153; replace q153 := eq_true q153))
         go_ret2
         exact ⟨_, by first | rfl | (simp [errW_none, errW_some] <;> rfl) | (simp [*, errW_none, errW_some] <;> rfl), by first | exact Kd.R_nil _ _ _ _ _ | exact Kd.N_nil _ _ _ _ _ | exact Kd.V_nil _ _ _ _ _ | exact Kd.Q_nil _ _ _ _ _ | exact Kd.S_nil _ _ _ _ _, by repeat (first | (with_reducible first | exact HB.out | apply below_alloc | apply pw_below_drewN | apply below_drew1) | exact HB.out)⟩
        ·rw [if_neg c40] at H
         have c40b0 : decide ((wrap64 (1073741824 - a2)) < ((rd_T33 t150 t137).f1)) = false := decide_eq_false c40
         clear c40
         obtain ⟨y155, hy155⟩ : ∃ y_ : List (S33), y_ = (t150.set (t137 : Int).toNat (⟨(rd_T33 t150 t137).f0, wrap64 (((rd_T33 t150 t137).f1) + a2), (rd_T33 t150 t137).f2, (rd_T33 t150 t137).f3, (rd_T33 t150 t137).f4, (rd_T33 t150 t137).f5⟩ : S33)) := ⟨_, rfl⟩
         replace H : (some ((y155.set (t137 : Int).toNat (⟨(rd_T33 y155 t137).f0, (rd_T33 y155 t137).f1, wrap64 (((rd_T33 y155 t137).f2) + a2), (rd_T33 y155 t137).f3, (rd_T33 y155 t137).f4, (rd_T33 y155 t137).f5⟩ : S33)), 0)) = some (r1, r2) := by first | (rw [hy155]; with_reducible exact H) | (have H2_ := (Option.bind_some _ _).symm.trans H; rw [hy155]; with_reducible exact H2_) | (have H2_ := (Option.bind_some _ _).symm.trans H; with_reducible exact H2_) | with_reducible exact H | (rw [hy155]; exact H) | exact H
         have Ny155 := Aside0.mk hy155
         clear hy155
         obtain ⟨y157, hy157⟩ : ∃ y_ : List (S33), y_ = (y155.set (t137 : Int).toNat (⟨(rd_T33 y155 t137).f0, (rd_T33 y155 t137).f1, wrap64 (((rd_T33 y155 t137).f2) + a2), (rd_T33 y155 t137).f3, (rd_T33 y155 t137).f4, (rd_T33 y155 t137).f5⟩ : S33)) := ⟨_, rfl⟩
         replace H : (some (y157, 0)) = some (r1, r2) := by first | (rw [hy157]; with_reducible exact H) | (have H2_ := (Option.bind_some _ _).symm.trans H; rw [hy157]; with_reducible exact H2_) | (have H2_ := (Option.bind_some _ _).symm.trans H; with_reducible exact H2_) | with_reducible exact H | (rw [hy157]; exact H) | exact H
         have Ny157 := Aside0.mk hy157
         clear hy157
         simp only [Option.some.injEq, Prod.mk.injEq] at H
         obtain ⟨rfl, rfl⟩ := H
         go_wp2_with (first | ((with_reducible refine gate_callee (f := 24) rfl ?_); refine goesL_ (some 26) rfl rfl Try.func24 (by kernel_rfl) rfl #[.slice A0 l0.length c0, .string a1] rfl (by (try simp only [List.map_toArray, List.map_cons, List.map_nil]); first | done | rfl | (simp only [List.length_drop, List.length_take]; rfl)) ?_; (with_reducible refine (stock_at.calls _ _ l0 a1 t137 false _ ?side1 ?side2 A15.out).mono ?_); (case side1 => repeat (first | exact (Kd.C_below HR0.out HB.out) | (with_reducible refine Kd.C_alloc ?_ _) | (with_reducible refine Kd.C_drewN ?_ _) | (with_reducible refine Kd.C_drew ?_))); (case side2 => exact HC0.out); rintro e w51 ⟨rfl, hb⟩; refine ⟨_, rfl, ?_⟩; have n0_ := Aside0.mk (below_step (by repeat (first | (with_reducible first | exact HB.out | apply below_alloc | apply pw_below_drewN | apply below_drew1) | exact HB.out)) hb); clear HB; have HB := n0_; clear n0_; (try clear hb); (try clear hb2); (try clear hk); (try clear hi)) | ((with_reducible refine gate_callee (f := 29) rfl ?_); refine goesL_ (some 30) rfl rfl Try.func29 (by kernel_rfl) rfl #[.slice A0 l0.length c0] rfl (by (try simp only [List.map_toArray, List.map_cons, List.map_nil]); first | done | rfl | (simp only [List.length_drop, List.length_take]; rfl)) ?_; (with_reducible refine (api_Row_29.calls _ _ l0 t139 _ ?side1 ?side2 A16.out).mono ?_); (case side1 => repeat (first | exact (Kd.C_below HR0.out HB.out) | (with_reducible refine Kd.C_alloc ?_ _) | (with_reducible refine Kd.C_drewN ?_ _) | (with_reducible refine Kd.C_drew ?_))); (case side2 => exact HC0.out); rintro e w52 ⟨v140, rfl, ho0, hb⟩; refine ⟨_, rfl, ?_⟩; have n0_ := Aside0.mk (Kd.R_lower ho0 (below_size (by repeat (first | (with_reducible first | exact HB.out | apply below_alloc | apply pw_below_drewN | apply below_drew1) | exact HB.out)))); have n1_ := Aside0.mk (below_step (by repeat (first | (with_reducible first | exact HB.out | apply below_alloc | apply pw_below_drewN | apply below_drew1) | exact HB.out)) hb); clear HB; have HO141 := n0_; have HB := n1_; clear n0_ n1_; (try clear hb); (try clear hb2); (try clear hk); (try clear hi); (try clear ho0); obtain ⟨Ao53, co53, eo53⟩ := Kd.R_slice HO141.out; subst eo53) | ((with_reducible refine gate_dst (N := 40) rfl ?_); refine Kd.R_lit k33 _ 33 ?hg (N := 40) ?hd (xs := ([(⟨a1, 0, 0, 0, 0, 0⟩ : S33)] : List (S33))) (inner := [.string a1, .int .i64 0, .int .i64 0, .int .i64 0, .int .i64 0, .int .i64 0]) (ok := fun _ => True) (okp := fun _ => True) ?hr ?hp (fun _ hk => hk) trivial (Below.refl _ _) (Nat.le_refl _) (by simp) ?_; (case hd => rfl); (case hg => rfl); (case hr => first | (go_simp; done) | (go_simp; rfl)); (case hp => exact (Reps.c6 (show Kd.M k33 _ _ _ (⟨a1, 0, 0, 0, 0, 0⟩ : S33) [.string a1, .int .i64 0, .int .i64 0, .int .i64 0, .int .i64 0, .int .i64 0] from (k33_mkM _ _ _ (⟨a1, 0, 0, 0, 0, 0⟩ : S33) )) (Reps.none _ _))); intro v148 w54 ho55 hb hg_ hnew_; clear hg_ hnew_; (first | rw [← Ny147.out] at ho55 | (simp only [Int.reduceToNat] at ho55; rw [← Ny147.out] at ho55)); have n0_ := Aside0.mk (Kd.R_elder' (by (with_reducible repeat (first | apply Kd.R_alloc | apply Kd.R_drewN | apply Kd.R_drew)); exact HO141.out) (Kd.R_base ho55) hb); have n1_ := Aside0.mk (Kd.R_lower (Kd.R_new' ho55 (Kd.R_lt (by (with_reducible repeat (first | apply Kd.R_alloc | apply Kd.R_drewN | apply Kd.R_drew)); exact HO141.out))) (below_size (by repeat (first | (with_reducible first | exact HB.out | apply below_alloc | apply pw_below_drewN | apply below_drew1) | exact HB.out)))); have n2_ := Aside0.mk (below_step (by repeat (first | (with_reducible first | exact HB.out | apply below_alloc | apply pw_below_drewN | apply below_drew1) | exact HB.out)) hb); clear HO141; clear HB; have HO141 := n0_; have HO149 := n1_; have HB := n2_; clear n0_ n1_ n2_; clear hb ho55; obtain ⟨Ao56, co56, eo56⟩ := Kd.R_slice HO149.out; subst eo56) | ((with_reducible refine gate_callee (f := 30) rfl ?_); refine goesL_ (some 41) rfl rfl Try.func30 (by kernel_rfl) rfl #[.slice Ao53 t139.length co53, .int .i64 t137, .slice Ao56 y147.length co56] rfl (by (try simp only [List.map_toArray, List.map_cons, List.map_nil]); first | done | rfl | (simp only [List.length_drop, List.length_take]; rfl)) ?_; (with_reducible refine (api_Row_30.calls (fun k_ => some k_ = (.slice Ao53 t139.length co53 : Value).ownBlock) (.slice Ao53 t139.length co53) t139 t137 _ _ y147 t150 w _ ?side1 ?side2 ?side3 ?side4 A37.out).mono ?_); (case side1 => repeat (first | (with_reducible first | exact HB.out | apply below_alloc | apply pw_below_drewN | apply below_drew1) | exact HB.out)); (case side2 => exact Kd.R_tight rfl HO141.out); (case side3 => exact Kd.C_kept_own (HO149.out) (fun k_ hk_ hs_ => (hk_.2) hs_)); (case side4 => exact (Kd.R_reads' HO149.out).2.1); rintro e w57 ⟨v151, rfl, ho0, hb, hkp⟩; refine ⟨_, rfl, ?_⟩; have n0_ := Aside0.mk (Kd.R_mono (ok' := fun k_ => some k_ ≠ (v151 : Value).ownBlock) (Kd.R_keptB (HO149.out) hkp (fun k_ hk_ hs_ => (hk_.2) hs_)) (fun k_ hk_ => fun e_ => Or.elim (ho0.1 k_ e_.symm) (fun hs_ => hk_.2.1 hs_) (fun hn_ => Nat.not_le.2 hk_.2.2 hn_))); have n1_ := Aside0.mk (Kd.R_mono (ok' := fun k_ => some k_ ≠ (.slice Ao56 y147.length co56 : Value).ownBlock) ho0 (fun k_ hk_ => Or.elim hk_ (fun hs_ => fun e_ => (((HO149.out).1 k_ e_.symm).2) hs_) (fun hn_ => (Kd.fresh' (Kd.R_lt (by (with_reducible repeat (first | apply Kd.R_alloc | apply Kd.R_drewN | apply Kd.R_drew)); exact HO149.out)) k_ hn_)))); have n2_ := Aside0.mk (hb); clear HO149; clear HB; clear HO141; have HO149 := n0_; have HO152 := n1_; have HB := n2_; clear n0_ n1_ n2_; (try clear hb); (try clear hkp); (try clear ho0); obtain ⟨Ao58, co58, eo58⟩ := Kd.R_slice HO152.out; subst eo58; have p153 : 0 ≤ (t137 : Int) := of_decide_eq_true (by first | (with_reducible assumption) | assumption); have q153 : t137 < (t150.length : Int) := of_decide_eq_true (by first | (with_reducible assumption) | assumption); obtain ⟨ad153, e153, hx153_0, hx153_1, hx153_2, hx153_3, hx153_4, hx153_5⟩ := at_T33 (Kd.R_reads' HO152.out).2.2 t137 p153 q153; cases e153; replace p153 := eq_true p153; replace q153 := eq_true q153; have p154 : 0 ≤ (t137 : Int) := of_decide_eq_true (by first | (with_reducible assumption) | assumption); have q154 : t137 < (t150.length : Int) := of_decide_eq_true (by first | (with_reducible assumption) | assumption); obtain ⟨ad154, e154, hx154_0, hx154_1, hx154_2, hx154_3, hx154_4, hx154_5⟩ := at_T33 (Kd.R_reads' HO152.out).2.2 t137 p154 q154; obtain rfl : ad153 = ad154 := (by injection e154); replace p154 := eq_true p154; replace q154 := eq_true q154; have p49 : 0 ≤ (t137 : Int) := of_decide_eq_true (by first | (with_reducible assumption) | assumption); have q49 : (t137 : Int) < ((t150.length : Int) : Int) := of_decide_eq_true (by first | (with_reducible assumption) | assumption); obtain ⟨go49, co49, eo49, gb49, gl49, cl49, HG49⟩ := Kd.R_form HO152.out (by omega); (first | cases eo49 | (injection eo49 with ea_ en_ ec_; (first | subst ea_ | (injection ea_ with ea_; subst ea_)); subst ec_; clear en_)); have GB49 := Aside0.mk gb49; have GG49 := Aside0.mk HG49; clear gb49 gl49 HG49; (first | simp only [add_plain] at hx153_0 | skip); (first | simp only [add_plain] at hx153_1 | skip); (first | simp only [add_plain] at hx153_2 | skip); (first | simp only [add_plain] at hx153_3 | skip); (first | simp only [add_plain] at hx153_4 | skip); (first | simp only [add_plain] at hx153_5 | skip); (first | simp only [add_plain] at hx154_0 | skip); (first | simp only [add_plain] at hx154_1 | skip); (first | simp only [add_plain] at hx154_2 | skip); (first | simp only [add_plain] at hx154_3 | skip); (first | simp only [add_plain] at hx154_4 | skip); (first | simp only [add_plain] at hx154_5 | skip); obtain ⟨ce49, hcl49, hM49, hcc49, hfr49⟩ := Kd.R_elem HO152.out z33 (t137 : Int) p49 q49; obtain rfl := k33_openM hM49; have hx49_0 : w57.cell? ⟨go49, (t137 : Int).toNat * 6, none⟩ = some (.string ((rd_T33 t150 t137).f0)) := hcc49 0 _ rfl; have hx49_1 : w57.cell? ⟨go49, (t137 : Int).toNat * 6 + 1, none⟩ = some (.int .i64 ((rd_T33 t150 t137).f1)) := hcc49 1 _ rfl; have hx49_2 : w57.cell? ⟨go49, (t137 : Int).toNat * 6 + 2, none⟩ = some (.int .i64 ((rd_T33 t150 t137).f2)) := hcc49 2 _ rfl; have hx49_3 : w57.cell? ⟨go49, (t137 : Int).toNat * 6 + 3, none⟩ = some (.int .i64 ((rd_T33 t150 t137).f3)) := hcc49 3 _ rfl; have hx49_4 : w57.cell? ⟨go49, (t137 : Int).toNat * 6 + 4, none⟩ = some (.int .i64 ((rd_T33 t150 t137).f4)) := hcc49 4 _ rfl; have hx49_5 : w57.cell? ⟨go49, (t137 : Int).toNat * 6 + 5, none⟩ = some (.int .i64 ((rd_T33 t150 t137).f5)) := hcc49 5 _ rfl; have hf49_0 : w57.frozen? ⟨go49, (t137 : Int).toNat * 6, none⟩ = false := hfr49 0; have hf49_1 : w57.frozen? ⟨go49, (t137 : Int).toNat * 6 + 1, none⟩ = false := hfr49 1; have hf49_2 : w57.frozen? ⟨go49, (t137 : Int).toNat * 6 + 2, none⟩ = false := hfr49 2; have hf49_3 : w57.frozen? ⟨go49, (t137 : Int).toNat * 6 + 3, none⟩ = false := hfr49 3; have hf49_4 : w57.frozen? ⟨go49, (t137 : Int).toNat * 6 + 4, none⟩ = false := hfr49 4; have hf49_5 : w57.frozen? ⟨go49, (t137 : Int).toNat * 6 + 5, none⟩ = false := hfr49 5; clear hcl49 hcc49 hfr49 hM49; replace p49 := eq_true p49; replace q49 := eq_true q49; have HX59 := Aside0.mk (show Kd.R k33 33 w57 w.heap.size (fun k_ => some k_ ≠ (.slice Ao56 y147.length co56 : Value).ownBlock) (.slice (some ⟨go49, 0, none⟩) t150.length co58) t150 from (by (with_reducible repeat (first | apply Kd.R_alloc | apply Kd.R_drewN | apply Kd.R_drew)); exact HO152.out)); obtain ⟨ce59, hcl59, hM59, hcc59, hfr59⟩ := Kd.R_elem HX59.out z33 (t137 : Int) (of_decide_eq_true (by first | (with_reducible assumption) | assumption)) (by have h_ : (t137 : Int) < ((t150.length : Int) : Int) := of_decide_eq_true (by first | (with_reducible assumption) | assumption); first | exact h_ | (have e_ := (Kd.R_reads' HO152.out).1; omega) | simpa using h_); obtain rfl := k33_openM hM59; have HP59 := Kd.R_seg HX59.out (t137 : Int) (of_decide_eq_true (by first | (with_reducible assumption) | assumption)) (by have h_ : (t137 : Int) < ((t150.length : Int) : Int) := of_decide_eq_true (by first | (with_reducible assumption) | assumption); first | exact h_ | (have e_ := (Kd.R_reads' HO152.out).1; omega) | simpa using h_) (seg := [.int .i64 (wrap64 (((rd_T33 t150 t137).f1) + a2))]) (j := 1) hcl59 hcc59 (show 2 ≤ 6 from by decide) (x' := (⟨(rd_T33 t150 t137).f0, wrap64 (((rd_T33 t150 t137).f1) + a2), (rd_T33 t150 t137).f2, (rd_T33 t150 t137).f3, (rd_T33 t150 t137).f4, (rd_T33 t150 t137).f5⟩ : S33)) (k33_mkM _ _ _ (⟨(rd_T33 t150 t137).f0, wrap64 (((rd_T33 t150 t137).f1) + a2), (rd_T33 t150 t137).f2, (rd_T33 t150 t137).f3, (rd_T33 t150 t137).f4, (rd_T33 t150 t137).f5⟩ : S33) ) (fun _ hk => hk); have hx59_1 := hcc59 1 _ rfl; (try simp only [show (k33).sz = 6 from rfl, Nat.mul_one, Nat.add_zero] at hx59_1); have hf59_1 := hfr59 1; (try simp only [show (k33).sz = 6 from rfl, Nat.mul_one, Nat.add_zero] at hf59_1); clear hcl59 hcc59 hfr59 hM59) | ((with_reducible refine gate_store (t := 3) (p := 58) rfl ?_); refine store_event (t := 3) (p := 58) (v := ?vo_w60) (w1 := (w57.setCell ⟨go49, (t137 : Int).toNat * 6 + 1, none⟩ (.int .i64 (wrap64 (((rd_T33 t150 t137).f1) + a2))))) ?hg ?ho ?hn ?hr ?_; (case ho => rfl); (case hg => rfl); (case hn => rfl); (case hr => first | (go_simp; done) | (go_simp; rfl)); intro w60 hw; have hg : w57.grownBy w60 (some go49) := (by rw [hw]; exact HP59.2); have hp_ : Kd.R k33 33 w60 w.heap.size (fun k_ => some k_ ≠ (.slice Ao56 y147.length co56 : Value).ownBlock) (.slice (some ⟨go49, 0, none⟩) t150.length co58) y155 := (by rw [hw, Ny155.out]; exact HP59.1); clear HP59; have n0_ := Aside0.mk (Kd.R_after (v := (.slice (some ⟨go49, 0, none⟩) t150.length co58)) (v1 := (.slice (some ⟨go49, 0, none⟩) t150.length co58)) (ok := (fun _ => True)) (by (with_reducible repeat (first | apply Kd.R_alloc | apply Kd.R_drewN | apply Kd.R_drew)); exact Kd.R_mono HO149.out (fun _ hk => ⟨trivial, hk⟩)) hg (.inl rfl)); have n1_ := Aside0.mk (hp_); have n2_ := Aside0.mk ((by rw [hw]; exact below_set (HB.out) GB49.out : Below w.heap.size w w60)); clear HO149; clear HO152; clear HB; have HO149 := n0_; have HO152 := n1_; have HB := n2_; clear n0_ n1_ n2_; clear hg hw hp_; have p156 : 0 ≤ (t137 : Int) := of_decide_eq_true (by first | (with_reducible assumption) | assumption); have q156 : t137 < (y155.length : Int) := (by have h_ : (t137 : Int) < ((t150.length : Int) : Int) := of_decide_eq_true (by first | (with_reducible assumption) | assumption); first | (have e_ := (Kd.R_reads' HO152.out).1; omega) | simpa only [Ny155.out, List.length_set] using h_); have ql156 : ((t137 : Int) < ((t150.length : Int) : Int)) = True := eq_true (of_decide_eq_true (by first | (with_reducible assumption) | assumption)); obtain ⟨ad156, e156, hx156_0, hx156_1, hx156_2, hx156_3, hx156_4, hx156_5⟩ := at_T33 (Kd.R_reads' HO152.out).2.2 t137 p156 q156; obtain rfl : (⟨go49, 0, none⟩ : Addr) = ad156 := (by injection e156); (first | simp only [add_plain] at hx156_0 | simp only [add_at] at hx156_0 | simp only [Addr.add, Nat.zero_add] at hx156_0 | skip); (first | simp only [add_plain] at hx156_1 | simp only [add_at] at hx156_1 | simp only [Addr.add, Nat.zero_add] at hx156_1 | skip); (first | simp only [add_plain] at hx156_2 | simp only [add_at] at hx156_2 | simp only [Addr.add, Nat.zero_add] at hx156_2 | skip); (first | simp only [add_plain] at hx156_3 | simp only [add_at] at hx156_3 | simp only [Addr.add, Nat.zero_add] at hx156_3 | skip); (first | simp only [add_plain] at hx156_4 | simp only [add_at] at hx156_4 | simp only [Addr.add, Nat.zero_add] at hx156_4 | skip); (first | simp only [add_plain] at hx156_5 | simp only [add_at] at hx156_5 | simp only [Addr.add, Nat.zero_add] at hx156_5 | skip); replace p156 := eq_true p156; replace q156 := eq_true q156; have p50 : 0 ≤ (t137 : Int) := of_decide_eq_true (by first | (with_reducible assumption) | assumption); have q50 : (t137 : Int) < ((t150.length : Int) : Int) := of_decide_eq_true (by first | (with_reducible assumption) | assumption); obtain ⟨ce50, hcl50, hM50, hcc50, hfr50⟩ := Kd.R_elem HO152.out z33 (t137 : Int) p50 q50; obtain rfl := k33_openM hM50; have hx50_0 : w60.cell? ⟨go49, (t137 : Int).toNat * 6, none⟩ = some (.string ((rd_T33 y155 t137).f0)) := hcc50 0 _ rfl; have hx50_1 : w60.cell? ⟨go49, (t137 : Int).toNat * 6 + 1, none⟩ = some (.int .i64 ((rd_T33 y155 t137).f1)) := hcc50 1 _ rfl; have hx50_2 : w60.cell? ⟨go49, (t137 : Int).toNat * 6 + 2, none⟩ = some (.int .i64 ((rd_T33 y155 t137).f2)) := hcc50 2 _ rfl; have hx50_3 : w60.cell? ⟨go49, (t137 : Int).toNat * 6 + 3, none⟩ = some (.int .i64 ((rd_T33 y155 t137).f3)) := hcc50 3 _ rfl; have hx50_4 : w60.cell? ⟨go49, (t137 : Int).toNat * 6 + 4, none⟩ = some (.int .i64 ((rd_T33 y155 t137).f4)) := hcc50 4 _ rfl; have hx50_5 : w60.cell? ⟨go49, (t137 : Int).toNat * 6 + 5, none⟩ = some (.int .i64 ((rd_T33 y155 t137).f5)) := hcc50 5 _ rfl; have hf50_0 : w60.frozen? ⟨go49, (t137 : Int).toNat * 6, none⟩ = false := hfr50 0; have hf50_1 : w60.frozen? ⟨go49, (t137 : Int).toNat * 6 + 1, none⟩ = false := hfr50 1; have hf50_2 : w60.frozen? ⟨go49, (t137 : Int).toNat * 6 + 2, none⟩ = false := hfr50 2; have hf50_3 : w60.frozen? ⟨go49, (t137 : Int).toNat * 6 + 3, none⟩ = false := hfr50 3; have hf50_4 : w60.frozen? ⟨go49, (t137 : Int).toNat * 6 + 4, none⟩ = false := hfr50 4; have hf50_5 : w60.frozen? ⟨go49, (t137 : Int).toNat * 6 + 5, none⟩ = false := hfr50 5; clear hcl50 hcc50 hfr50 hM50; replace p50 := eq_true p50; replace q50 := eq_true q50; have HX61 := Aside0.mk (show Kd.R k33 33 w60 w.heap.size (fun k_ => some k_ ≠ (.slice Ao56 y147.length co56 : Value).ownBlock) (.slice (some ⟨go49, 0, none⟩) t150.length co58) y155 from (by (with_reducible repeat (first | apply Kd.R_alloc | apply Kd.R_drewN | apply Kd.R_drew)); exact HO152.out)); obtain ⟨ce61, hcl61, hM61, hcc61, hfr61⟩ := Kd.R_elem HX61.out z33 (t137 : Int) (of_decide_eq_true (by first | (with_reducible assumption) | assumption)) (by have h_ : (t137 : Int) < ((t150.length : Int) : Int) := of_decide_eq_true (by first | (with_reducible assumption) | assumption); first | exact h_ | (have e_ := (Kd.R_reads' HO152.out).1; omega) | simpa using h_); obtain rfl := k33_openM hM61; have HP61 := Kd.R_seg HX61.out (t137 : Int) (of_decide_eq_true (by first | (with_reducible assumption) | assumption)) (by have h_ : (t137 : Int) < ((t150.length : Int) : Int) := of_decide_eq_true (by first | (with_reducible assumption) | assumption); first | exact h_ | (have e_ := (Kd.R_reads' HO152.out).1; omega) | simpa using h_) (seg := [.int .i64 (wrap64 (((rd_T33 y155 t137).f2) + a2))]) (j := 2) hcl61 hcc61 (show 3 ≤ 6 from by decide) (x' := (⟨(rd_T33 y155 t137).f0, (rd_T33 y155 t137).f1, wrap64 (((rd_T33 y155 t137).f2) + a2), (rd_T33 y155 t137).f3, (rd_T33 y155 t137).f4, (rd_T33 y155 t137).f5⟩ : S33)) (k33_mkM _ _ _ (⟨(rd_T33 y155 t137).f0, (rd_T33 y155 t137).f1, wrap64 (((rd_T33 y155 t137).f2) + a2), (rd_T33 y155 t137).f3, (rd_T33 y155 t137).f4, (rd_T33 y155 t137).f5⟩ : S33) ) (fun _ hk => hk); have hx61_2 := hcc61 2 _ rfl; (try simp only [show (k33).sz = 6 from rfl, Nat.mul_one, Nat.add_zero] at hx61_2); have hf61_2 := hfr61 2; (try simp only [show (k33).sz = 6 from rfl, Nat.mul_one, Nat.add_zero] at hf61_2); clear hcl61 hcc61 hfr61 hM61) | ((with_reducible refine gate_store (t := 3) (p := 67) rfl ?_); refine store_event (t := 3) (p := 67) (v := ?vo_w62) (w1 := (w60.setCell ⟨go49, (t137 : Int).toNat * 6 + 2, none⟩ (.int .i64 (wrap64 (((rd_T33 y155 t137).f2) + a2))))) ?hg ?ho ?hn ?hr ?_; (case ho => rfl); (case hg => rfl); (case hn => rfl); (case hr => first | (go_simp; done) | (go_simp; rfl)); intro w62 hw; have hg : w60.grownBy w62 (some go49) := (by rw [hw]; exact HP61.2); have hp_ : Kd.R k33 33 w62 w.heap.size (fun k_ => some k_ ≠ (.slice Ao56 y147.length co56 : Value).ownBlock) (.slice (some ⟨go49, 0, none⟩) t150.length co58) y157 := (by rw [hw, Ny157.out]; exact HP61.1); clear HP61; have n0_ := Aside0.mk (Kd.R_after (v := (.slice (some ⟨go49, 0, none⟩) t150.length co58)) (v1 := (.slice (some ⟨go49, 0, none⟩) t150.length co58)) (ok := (fun _ => True)) (by (with_reducible repeat (first | apply Kd.R_alloc | apply Kd.R_drewN | apply Kd.R_drew)); exact HO149.out) hg (.inl rfl)); have n1_ := Aside0.mk (hp_); have n2_ := Aside0.mk ((by rw [hw]; exact below_set (HB.out) GB49.out : Below w.heap.size w w62)); clear HO149; clear HO152; clear HB; have HO149 := n0_; have HO152 := n1_; have HB := n2_; clear n0_ n1_ n2_; clear hg hw hp_))
         go_ret2
         exact ⟨_, by first | rfl | (simp [errW_none, errW_some] <;> rfl) | (simp [*, errW_none, errW_some] <;> rfl), by (with_reducible repeat (first | apply Kd.R_alloc | apply Kd.R_drewN | apply Kd.R_drew)); exact Kd.R_mono HO152.out (fun _ hk => trivial), by repeat (first | (with_reducible first | exact HB.out | apply below_alloc | apply pw_below_drewN | apply below_drew1) | exact HB.out)⟩
       ·rw [if_neg c39] at H
        exact absurd H (by simp)
      ·rw [if_neg c38] at H
       exact absurd H (by simp)
end Go.Proofs.Ytliablhnkoghbaa.PStock
namespace Go.Proofs.Ytliablhnkoghbaa.PStock
open Go.RowKit Go.Proofs.YtliablhnkoghbaaH Go.Proofs.YtliablhnkoghbaaW.PrintWords Go.Proofs.YtliablhnkoghbaaW.PrintLast Go.Proofs.YtliablhnkoghbaaW.PrintMore
attribute [local go_sem] max2_int min2_int max_two min_two max_three min_three max_four min_four
set_option linter.unusedVariables false
set_option linter.unusedSimpArgs false
def rowGet (x : S33) : Nat → Int
 | 1 => x.f1
 | 2 => x.f2
 | 3 => x.f3
 | 4 => x.f4
 | _ => x.f5
def rowSet (x : S33) (v : Int) : Nat → S33
 | 1 => ⟨x.f0, v, x.f2, x.f3, x.f4, x.f5⟩
 | 2 => ⟨x.f0, x.f1, v, x.f3, x.f4, x.f5⟩
 | 3 => ⟨x.f0, x.f1, x.f2, v, x.f4, x.f5⟩
 | 4 => ⟨x.f0, x.f1, x.f2, x.f3, v, x.f5⟩
 | _ => ⟨x.f0, x.f1, x.f2, x.f3, x.f4, v⟩
def unitsB (n : Int) : Bool := decide (1 ≤ n) && decide (n ≤ 1073741824)
theorem stock_units_eq (n : Int) : stock_units.f n = some (unitsB n) := by
 unfold stock_units.f unitsB
 by_cases h : n ≥ 1
 ·have : 1 ≤ n := h
  simp [h, this]
 ·have : ¬ 1 ≤ n := h
  simp [h, this]
def moveF (fr tt : Nat) (l : List S33) (sku : ByteArray) (n : Int) : List S33 × Int :=
 if (!(rightB l && unitsB n)) = true then ([], 1) else if rowIs l sku = false then ([], 8) else
  if rowGet (l.getD (rowAt l sku) z33) fr < n then ([], 11) else
   (l.set (rowAt l sku) (rowSet (rowSet (l.getD (rowAt l sku) z33) (rowGet (l.getD (rowAt l sku) z33) fr - n) fr) (rowGet (l.getD (rowAt l sku) z33) tt + n) tt), 0)
theorem stock_Hold_1.calls (g o : Nat) (w : World) : Calls Try.prog 23 #[.pointer (some ⟨g, o, none⟩)] w fun e w' => e = .returned (.tuple #[.pointer (some ⟨g, o + 2, none⟩), .pointer (some ⟨g, o + 3, none⟩)]) ∧ Below w.heap.size w w' := by
 have hu33 := Try.underlying33
 go_enter Try.func23, Try.ntmps23
 go_wp2
 go_quiet (fail)
 go_wp2
 go_ret2
 exact ⟨rfl, pw_below_drewN (Below.refl _ _) _⟩
def stock_Hold.f (l0 : List S33) (a1 : ByteArray) (a2 : Int) : Option (List S33 × Int) := some (moveF 2 3 l0 a1 a2)
set_option maxHeartbeats 8000000 in
set_option maxRecDepth 100000 in
theorem stock_Hold_move.calls (A0 : Option Addr) (c0 : Nat) (l0 : List S33) (a1 : ByteArray) (a2 : Int) (r1 : List S33) (r2 : Int) (w : World) (hr0 : Kd.C k33 w A0 l0.length l0) (hc0 : l0.length ≤ c0) (h : moveF 2 3 l0 a1 a2 = (r1, r2)) :
  Calls Try.prog 22 #[.slice A0 l0.length c0, .string a1, .int .i64 a2, .func (.func 23) #[] #[]] w fun e w' => ∃ v0_ : Value, e = .returned (.tuple #[v0_, .int .i64 r2]) ∧ Kd.R k33 33 w' w.heap.size (fun _ => True) v0_ r1 ∧ Below w.heap.size w w' := by
 have hu33 := Try.underlying33
 have HR := Aside0.mk hr0
 have HC := Aside0.mk hc0
 have H := Aside0.mk h
 have h1 := Aside0.mk (stock_Right.calls A0 c0 l0 _ w hr0 hc0 rfl)
 have RI := Aside0.mk (show rightB l0 = true → l0.length ≤ 8 ∧ ∀ i, i < l0.length → rowUp l0 i = true from fun h => ⟨rightB_len l0 h, rightB_row l0 h⟩)
 have UI := Aside0.mk (show unitsB a2 = true → 1 ≤ a2 ∧ a2 ≤ 1073741824 by simp only [unitsB, Bool.and_eq_true, decide_eq_true_eq]; exact id)
 have h2 := Aside0.mk (fun W => stock_units.calls a2 _ W (stock_units_eq a2))
 clear hr0 hc0 h
 unfold moveF at H
 generalize rightB l0 = qr at h1 H RI
 generalize unitsB a2 = qu at h2 H UI
 go_enter Try.func22, Try.ntmps22
 go_wp2_with fail
 refine h1.out.mono ?_
 rintro e w2 ⟨rfl, hb2⟩
 have B2 := Aside0.mk hb2
 clear hb2 h1
 cases qr with
 | false =>
  go_wp2
  go_ret2
  have H2 := H.out
  simp at H2
  obtain ⟨rfl, rfl⟩ := H2
  exact ⟨_, rfl, Kd.R_nil _ _ _ _ _, B2.out⟩
 | true =>
  go_wp2_with fail
  refine (h2.out _).mono ?_
  rintro e w3 ⟨rfl, hd3⟩
  have B3 := Aside0.mk (below_step B2.out hd3.below)
  clear hd3 h2 B2
  cases qu with
  | false =>
   go_wp2
   go_ret2
   have H2 := H.out
   simp at H2
   obtain ⟨rfl, rfl⟩ := H2
   exact ⟨_, rfl, Kd.R_nil _ _ _ _ _, B3.out⟩
  | true =>
   obtain ⟨hlen, hup⟩ := RI.out (by first | rfl | trivial)
   obtain ⟨hn1, hn2⟩ := UI.out (by first | rfl | trivial)
   have UP := Aside0.mk hup
   clear hup RI UI
   have hat : stock_at.f l0 a1 = some ((rowAt l0 a1 : Int), rowIs l0 a1) := by unfold stock_at.f; rw [if_pos (by omega)]
   have IS := Aside0.mk (show rowIs l0 a1 = true → rowAt l0 a1 < l0.length by
    unfold rowIs bsIs rowAt
    intro h
    rw [Bool.and_eq_true, decide_eq_true_eq] at h
    exact h.1)
   have h4 := Aside0.mk (stock_at.calls A0 c0 l0 a1 _ _ w3 (Kd.C_below HR.out B3.out) HC.out hat)
   clear hat
   generalize rowAt l0 a1 = p at h4 H IS
   generalize rowIs l0 a1 = qi at h4 H IS
   go_wp2_with fail
   refine h4.out.mono ?_
   rintro e w4 ⟨rfl, hb4⟩
   have B4 := Aside0.mk (below_step B3.out hb4)
   clear hb4 h4 B3
   cases qi with
   | false =>
    go_wp2
    go_ret2
    have H2 := H.out
    simp at H2
    obtain ⟨rfl, rfl⟩ := H2
    exact ⟨_, rfl, Kd.R_nil _ _ _ _ _, B4.out⟩
   | true =>
    have hp : p < l0.length := IS.out (by first | rfl | trivial)
    clear IS
    go_wp2_with fail
    refine (api_Row_29.calls A0 c0 l0 l0 w4 (Kd.C_below HR.out B4.out) HC.out (by unfold api_Row_29.f; rw [if_pos (by omega)])).mono ?_
    rintro e w5 ⟨v5, rfl, ho5, hb5⟩
    obtain ⟨g, cap, rfl, hgb, hgl, _⟩ := Kd.R_form ho5 (by omega)
    obtain ⟨cs, hcl, hcm, hcc, hcf⟩ := Kd.R_elem ho5 z33 (p : Int) (by omega) (by omega)
    have B5 := Aside0.mk (below_step B4.out hb5)
    have O5 := Aside0.mk ho5
    rw [show l0.getD (p : Int).toNat z33 = l0.getD p z33 from rfl] at hcm
    have U := UP.out p hp
    unfold rowUp at U
    rw [Bool.and_eq_true] at U
    have MI := rowMay_in U.1
    clear U UP
    obtain ⟨x, hx⟩ : ∃ x, x = l0.getD p z33 := ⟨_, rfl⟩
    have HX := Aside0.mk hx
    rw [← hx] at hcm MI
    have H3 := H.out
    simp only [Bool.true_and, Bool.not_true, Bool.and_self, Bool.false_eq_true, if_false, ← hx] at H3
    have H4 := Aside0.mk H3
    have SZ : Aside0 (w.heap.size ≤ g) := ⟨Nat.le_trans B4.out.size hgb⟩
    have SZ2 : Aside0 (w.heap.size ≤ w4.heap.size) := ⟨B4.out.size⟩
    clear H3 H B4 hb5 ho5 hx
    obtain rfl := k33_openM hcm
    have c0_ : w5.cell? ⟨g, p * 6 + 2, none⟩ = some (.int .i64 x.f2) := hcc 2 _ rfl
    have c1_ : w5.cell? ⟨g, p * 6 + 3, none⟩ = some (.int .i64 x.f3) := hcc 3 _ rfl
    clear hcc hcf hcm hcl
    have hpz : (p : Int) < (l0.length : Int) := by omega
    have HG := Aside0.mk hgb
    have hc1 := stock_Hold_1.calls g (p * 6) w5
    go_wp2_with fail
    refine hc1.mono ?_
    rintro e w6 ⟨rfl, hb6⟩
    have f0_ : w6.frozen? ⟨g, p * 6 + 2, none⟩ = false := (hb6.frozen (p := ⟨g, p * 6 + 2, none⟩) hgl).trans (by
     obtain ⟨_, _, _, _, hf⟩ := Kd.R_elem O5.out z33 (p : Int) (by omega) (by omega)
     exact hf 2)
    have f1_ : w6.frozen? ⟨g, p * 6 + 3, none⟩ = false := (hb6.frozen (p := ⟨g, p * 6 + 3, none⟩) hgl).trans (by
     obtain ⟨_, _, _, _, hf⟩ := Kd.R_elem O5.out z33 (p : Int) (by omega) (by omega)
     exact hf 3)
    replace c0_ := pw_cell_below hb6 c0_
    replace c1_ := pw_cell_below hb6 c1_
    have O6 := Aside0.mk (Kd.R_below O5.out hb6)
    have B6 := Aside0.mk (below_step B5.out hb6)
    have HGL := Aside0.mk (show g < w6.heap.size by have := hb6.size; omega)
    clear hb6 hc1 O5 B5 hgl hgb
    obtain ⟨m1, m2, m3, m4, m5, m6, m7, m8, m9, m10, m11⟩ := MI
    by_cases hlt : x.f2 < a2
    ·go_wp2
     go_ret2
     have H5 := H4.out
     simp only [rowGet, hlt, if_true, Prod.mk.injEq] at H5
     obtain ⟨rfl, rfl⟩ := H5
     exact ⟨_, rfl, Kd.R_nil _ _ _ _ _, B6.out⟩
    ·have H5 := H4.out
     simp only [rowGet, rowSet, hlt, if_false, Prod.mk.injEq] at H5
     have H6 := Aside0.mk H5
     clear H5 H4
     have s0 : IntKind.i64.wrap (x.f2 - a2) = x.f2 - a2 := IntWalk.i64_in _ (by omega)
     have s1 : IntKind.i64.wrap (x.f3 + a2) = x.f3 + a2 := IntWalk.i64_in _ (by omega)
     have hltb : decide (x.f2 < a2) = false := by simpa using hlt
     go_wp2
     go_ret2
     obtain ⟨rfl, rfl⟩ := H6.out
     obtain ⟨cs6, l6, m6_, cc6, _⟩ := Kd.R_elem O6.out z33 (p : Int) (by omega) hpz
     rw [show l0.getD (p : Int).toNat z33 = x from HX.out.symm] at m6_
     obtain rfl := k33_openM m6_
     have O7 := (Kd.R_seg O6.out (p : Int) (by omega) hpz (seg := [.int .i64 (x.f2 - a2)]) (j := 2) (x' := rowSet x (x.f2 - a2) 2) (okp := fun _ => False) l6 cc6 (show 2 + 1 ≤ 6 by omega) (k33_mkM _ _ _ (rowSet x (x.f2 - a2) 2)) (fun _ h => h.elim)).1
     obtain ⟨cs7, l7, m7_, cc7, _⟩ := Kd.R_elem O7 z33 (p : Int) (by omega) hpz
     rw [show (l0.set (p : Int).toNat (rowSet x (x.f2 - a2) 2)).getD (p : Int).toNat z33 = rowSet x (x.f2 - a2) 2 by simp [List.getD_eq_getElem?_getD, hp]] at m7_
     obtain rfl := k33_openM m7_
     have O8 := (Kd.R_seg O7 (p : Int) (by omega) hpz (seg := [.int .i64 (x.f3 + a2)]) (j := 3) (x' := rowSet (rowSet x (x.f2 - a2) 2) (x.f3 + a2) 3) (okp := fun _ => False) l7 cc7 (show 3 + 1 ≤ 6 by omega) (k33_mkM _ _ _ (rowSet (rowSet x (x.f2 - a2) 2) (x.f3 + a2) 3)) (fun _ h => h.elim)).1
     rw [List.set_set] at O8
     refine ⟨_, rfl, Kd.R_lower (Kd.R_mono O8 (fun _ _ => trivial)) ?_, ?_⟩
     ·exact SZ2.out
     ·exact below_set (below_set B6.out SZ.out) SZ.out
theorem stock_Hold.calls (A0 : Option Addr) (c0 : Nat) (l0 : List S33) (a1 : ByteArray) (a2 : Int) (r1 : List S33) (r2 : Int) (w : World) (hr0 : Kd.C k33 w A0 l0.length l0) (hc0 : l0.length ≤ c0) (h : stock_Hold.f l0 a1 a2 = some (r1, r2)) :
  Calls Try.prog 11 #[.slice A0 l0.length c0, .string a1, .int .i64 a2] w fun e w' => ∃ v0_ : Value, e = .returned (.tuple #[v0_, .int .i64 r2]) ∧ Kd.R k33 33 w' w.heap.size (fun _ => True) v0_ r1 ∧ Below w.heap.size w w' := by
 have H := Aside0.mk (stock_Hold_move.calls A0 c0 l0 a1 a2 r1 r2 w hr0 hc0 (Option.some.inj h))
 clear hr0 hc0 h
 go_enter Try.func11, Try.ntmps11
 go_wp2_with (go_at_call 22; refine H.out.mono ?_; rintro e w' ⟨v, rfl, ho, hb⟩; have HO := Aside0.mk ho; have HB := Aside0.mk hb; clear ho hb)
 go_ret2
 exact ⟨_, rfl, HO.out, HB.out⟩
end Go.Proofs.Ytliablhnkoghbaa.PStock
namespace Go.Proofs.Ytliablhnkoghbaa.PStock
open Go.RowKit Go.Proofs.YtliablhnkoghbaaH Go.Proofs.YtliablhnkoghbaaW.PrintWords Go.Proofs.YtliablhnkoghbaaW.PrintLast Go.Proofs.YtliablhnkoghbaaW.PrintMore
attribute [local go_sem] max2_int min2_int max_two min_two max_three min_three max_four min_four
set_option linter.unusedVariables false
set_option linter.unusedSimpArgs false
theorem stock_Release_1.calls (g o : Nat) (w : World) : Calls Try.prog 25 #[.pointer (some ⟨g, o, none⟩)] w fun e w' => e = .returned (.tuple #[.pointer (some ⟨g, o + 3, none⟩), .pointer (some ⟨g, o + 2, none⟩)]) ∧ Below w.heap.size w w' := by
 have hu33 := Try.underlying33
 go_enter Try.func25, Try.ntmps25
 go_wp2
 go_quiet (fail)
 go_wp2
 go_ret2
 exact ⟨rfl, pw_below_drewN (Below.refl _ _) _⟩
def stock_Release.f (l0 : List S33) (a1 : ByteArray) (a2 : Int) : Option (List S33 × Int) := some (moveF 3 2 l0 a1 a2)
set_option maxHeartbeats 8000000 in
set_option maxRecDepth 100000 in
theorem stock_Release_move.calls (A0 : Option Addr) (c0 : Nat) (l0 : List S33) (a1 : ByteArray) (a2 : Int) (r1 : List S33) (r2 : Int) (w : World) (hr0 : Kd.C k33 w A0 l0.length l0) (hc0 : l0.length ≤ c0) (h : moveF 3 2 l0 a1 a2 = (r1, r2)) :
  Calls Try.prog 22 #[.slice A0 l0.length c0, .string a1, .int .i64 a2, .func (.func 25) #[] #[]] w fun e w' => ∃ v0_ : Value, e = .returned (.tuple #[v0_, .int .i64 r2]) ∧ Kd.R k33 33 w' w.heap.size (fun _ => True) v0_ r1 ∧ Below w.heap.size w w' := by
 have hu33 := Try.underlying33
 have HR := Aside0.mk hr0
 have HC := Aside0.mk hc0
 have H := Aside0.mk h
 have h1 := Aside0.mk (stock_Right.calls A0 c0 l0 _ w hr0 hc0 rfl)
 have RI := Aside0.mk (show rightB l0 = true → l0.length ≤ 8 ∧ ∀ i, i < l0.length → rowUp l0 i = true from fun h => ⟨rightB_len l0 h, rightB_row l0 h⟩)
 have UI := Aside0.mk (show unitsB a2 = true → 1 ≤ a2 ∧ a2 ≤ 1073741824 by simp only [unitsB, Bool.and_eq_true, decide_eq_true_eq]; exact id)
 have h2 := Aside0.mk (fun W => stock_units.calls a2 _ W (stock_units_eq a2))
 clear hr0 hc0 h
 unfold moveF at H
 generalize rightB l0 = qr at h1 H RI
 generalize unitsB a2 = qu at h2 H UI
 go_enter Try.func22, Try.ntmps22
 go_wp2_with fail
 refine h1.out.mono ?_
 rintro e w2 ⟨rfl, hb2⟩
 have B2 := Aside0.mk hb2
 clear hb2 h1
 cases qr with
 | false =>
  go_wp2
  go_ret2
  have H2 := H.out
  simp at H2
  obtain ⟨rfl, rfl⟩ := H2
  exact ⟨_, rfl, Kd.R_nil _ _ _ _ _, B2.out⟩
 | true =>
  go_wp2_with fail
  refine (h2.out _).mono ?_
  rintro e w3 ⟨rfl, hd3⟩
  have B3 := Aside0.mk (below_step B2.out hd3.below)
  clear hd3 h2 B2
  cases qu with
  | false =>
   go_wp2
   go_ret2
   have H2 := H.out
   simp at H2
   obtain ⟨rfl, rfl⟩ := H2
   exact ⟨_, rfl, Kd.R_nil _ _ _ _ _, B3.out⟩
  | true =>
   obtain ⟨hlen, hup⟩ := RI.out (by first | rfl | trivial)
   obtain ⟨hn1, hn2⟩ := UI.out (by first | rfl | trivial)
   have UP := Aside0.mk hup
   clear hup RI UI
   have hat : stock_at.f l0 a1 = some ((rowAt l0 a1 : Int), rowIs l0 a1) := by unfold stock_at.f; rw [if_pos (by omega)]
   have IS := Aside0.mk (show rowIs l0 a1 = true → rowAt l0 a1 < l0.length by
    unfold rowIs bsIs rowAt
    intro h
    rw [Bool.and_eq_true, decide_eq_true_eq] at h
    exact h.1)
   have h4 := Aside0.mk (stock_at.calls A0 c0 l0 a1 _ _ w3 (Kd.C_below HR.out B3.out) HC.out hat)
   clear hat
   generalize rowAt l0 a1 = p at h4 H IS
   generalize rowIs l0 a1 = qi at h4 H IS
   go_wp2_with fail
   refine h4.out.mono ?_
   rintro e w4 ⟨rfl, hb4⟩
   have B4 := Aside0.mk (below_step B3.out hb4)
   clear hb4 h4 B3
   cases qi with
   | false =>
    go_wp2
    go_ret2
    have H2 := H.out
    simp at H2
    obtain ⟨rfl, rfl⟩ := H2
    exact ⟨_, rfl, Kd.R_nil _ _ _ _ _, B4.out⟩
   | true =>
    have hp : p < l0.length := IS.out (by first | rfl | trivial)
    clear IS
    go_wp2_with fail
    refine (api_Row_29.calls A0 c0 l0 l0 w4 (Kd.C_below HR.out B4.out) HC.out (by unfold api_Row_29.f; rw [if_pos (by omega)])).mono ?_
    rintro e w5 ⟨v5, rfl, ho5, hb5⟩
    obtain ⟨g, cap, rfl, hgb, hgl, _⟩ := Kd.R_form ho5 (by omega)
    obtain ⟨cs, hcl, hcm, hcc, hcf⟩ := Kd.R_elem ho5 z33 (p : Int) (by omega) (by omega)
    have B5 := Aside0.mk (below_step B4.out hb5)
    have O5 := Aside0.mk ho5
    rw [show l0.getD (p : Int).toNat z33 = l0.getD p z33 from rfl] at hcm
    have U := UP.out p hp
    unfold rowUp at U
    rw [Bool.and_eq_true] at U
    have MI := rowMay_in U.1
    clear U UP
    obtain ⟨x, hx⟩ : ∃ x, x = l0.getD p z33 := ⟨_, rfl⟩
    have HX := Aside0.mk hx
    rw [← hx] at hcm MI
    have H3 := H.out
    simp only [Bool.true_and, Bool.not_true, Bool.and_self, Bool.false_eq_true, if_false, ← hx] at H3
    have H4 := Aside0.mk H3
    have SZ : Aside0 (w.heap.size ≤ g) := ⟨Nat.le_trans B4.out.size hgb⟩
    have SZ2 : Aside0 (w.heap.size ≤ w4.heap.size) := ⟨B4.out.size⟩
    clear H3 H B4 hb5 ho5 hx
    obtain rfl := k33_openM hcm
    have c0_ : w5.cell? ⟨g, p * 6 + 3, none⟩ = some (.int .i64 x.f3) := hcc 3 _ rfl
    have c1_ : w5.cell? ⟨g, p * 6 + 2, none⟩ = some (.int .i64 x.f2) := hcc 2 _ rfl
    clear hcc hcf hcm hcl
    have hpz : (p : Int) < (l0.length : Int) := by omega
    have HG := Aside0.mk hgb
    have hc1 := stock_Release_1.calls g (p * 6) w5
    go_wp2_with fail
    refine hc1.mono ?_
    rintro e w6 ⟨rfl, hb6⟩
    have f0_ : w6.frozen? ⟨g, p * 6 + 3, none⟩ = false := (hb6.frozen (p := ⟨g, p * 6 + 3, none⟩) hgl).trans (by
     obtain ⟨_, _, _, _, hf⟩ := Kd.R_elem O5.out z33 (p : Int) (by omega) (by omega)
     exact hf 3)
    have f1_ : w6.frozen? ⟨g, p * 6 + 2, none⟩ = false := (hb6.frozen (p := ⟨g, p * 6 + 2, none⟩) hgl).trans (by
     obtain ⟨_, _, _, _, hf⟩ := Kd.R_elem O5.out z33 (p : Int) (by omega) (by omega)
     exact hf 2)
    replace c0_ := pw_cell_below hb6 c0_
    replace c1_ := pw_cell_below hb6 c1_
    have O6 := Aside0.mk (Kd.R_below O5.out hb6)
    have B6 := Aside0.mk (below_step B5.out hb6)
    have HGL := Aside0.mk (show g < w6.heap.size by have := hb6.size; omega)
    clear hb6 hc1 O5 B5 hgl hgb
    obtain ⟨m1, m2, m3, m4, m5, m6, m7, m8, m9, m10, m11⟩ := MI
    by_cases hlt : x.f3 < a2
    ·go_wp2
     go_ret2
     have H5 := H4.out
     simp only [rowGet, hlt, if_true, Prod.mk.injEq] at H5
     obtain ⟨rfl, rfl⟩ := H5
     exact ⟨_, rfl, Kd.R_nil _ _ _ _ _, B6.out⟩
    ·have H5 := H4.out
     simp only [rowGet, rowSet, hlt, if_false, Prod.mk.injEq] at H5
     have H6 := Aside0.mk H5
     clear H5 H4
     have s0 : IntKind.i64.wrap (x.f3 - a2) = x.f3 - a2 := IntWalk.i64_in _ (by omega)
     have s1 : IntKind.i64.wrap (x.f2 + a2) = x.f2 + a2 := IntWalk.i64_in _ (by omega)
     have hltb : decide (x.f3 < a2) = false := by simpa using hlt
     go_wp2
     go_ret2
     obtain ⟨rfl, rfl⟩ := H6.out
     obtain ⟨cs6, l6, m6_, cc6, _⟩ := Kd.R_elem O6.out z33 (p : Int) (by omega) hpz
     rw [show l0.getD (p : Int).toNat z33 = x from HX.out.symm] at m6_
     obtain rfl := k33_openM m6_
     have O7 := (Kd.R_seg O6.out (p : Int) (by omega) hpz (seg := [.int .i64 (x.f3 - a2)]) (j := 3) (x' := rowSet x (x.f3 - a2) 3) (okp := fun _ => False) l6 cc6 (show 3 + 1 ≤ 6 by omega) (k33_mkM _ _ _ (rowSet x (x.f3 - a2) 3)) (fun _ h => h.elim)).1
     obtain ⟨cs7, l7, m7_, cc7, _⟩ := Kd.R_elem O7 z33 (p : Int) (by omega) hpz
     rw [show (l0.set (p : Int).toNat (rowSet x (x.f3 - a2) 3)).getD (p : Int).toNat z33 = rowSet x (x.f3 - a2) 3 by simp [List.getD_eq_getElem?_getD, hp]] at m7_
     obtain rfl := k33_openM m7_
     have O8 := (Kd.R_seg O7 (p : Int) (by omega) hpz (seg := [.int .i64 (x.f2 + a2)]) (j := 2) (x' := rowSet (rowSet x (x.f3 - a2) 3) (x.f2 + a2) 2) (okp := fun _ => False) l7 cc7 (show 2 + 1 ≤ 6 by omega) (k33_mkM _ _ _ (rowSet (rowSet x (x.f3 - a2) 3) (x.f2 + a2) 2)) (fun _ h => h.elim)).1
     rw [List.set_set] at O8
     refine ⟨_, rfl, Kd.R_lower (Kd.R_mono O8 (fun _ _ => trivial)) ?_, ?_⟩
     ·exact SZ2.out
     ·exact below_set (below_set B6.out SZ.out) SZ.out
theorem stock_Release.calls (A0 : Option Addr) (c0 : Nat) (l0 : List S33) (a1 : ByteArray) (a2 : Int) (r1 : List S33) (r2 : Int) (w : World) (hr0 : Kd.C k33 w A0 l0.length l0) (hc0 : l0.length ≤ c0) (h : stock_Release.f l0 a1 a2 = some (r1, r2)) :
  Calls Try.prog 13 #[.slice A0 l0.length c0, .string a1, .int .i64 a2] w fun e w' => ∃ v0_ : Value, e = .returned (.tuple #[v0_, .int .i64 r2]) ∧ Kd.R k33 33 w' w.heap.size (fun _ => True) v0_ r1 ∧ Below w.heap.size w w' := by
 have H := Aside0.mk (stock_Release_move.calls A0 c0 l0 a1 a2 r1 r2 w hr0 hc0 (Option.some.inj h))
 clear hr0 hc0 h
 go_enter Try.func13, Try.ntmps13
 go_wp2_with (go_at_call 22; refine H.out.mono ?_; rintro e w' ⟨v, rfl, ho, hb⟩; have HO := Aside0.mk ho; have HB := Aside0.mk hb; clear ho hb)
 go_ret2
 exact ⟨_, rfl, HO.out, HB.out⟩
end Go.Proofs.Ytliablhnkoghbaa.PStock
namespace Go.Proofs.Ytliablhnkoghbaa.PStock
open Go.RowKit Go.Proofs.YtliablhnkoghbaaH Go.Proofs.YtliablhnkoghbaaW.PrintWords Go.Proofs.YtliablhnkoghbaaW.PrintLast Go.Proofs.YtliablhnkoghbaaW.PrintMore
attribute [local go_sem] max2_int min2_int max_two min_two max_three min_three max_four min_four
set_option linter.unusedVariables false
set_option linter.unusedSimpArgs false
theorem stock_Ship_1.calls (g o : Nat) (w : World) : Calls Try.prog 26 #[.pointer (some ⟨g, o, none⟩)] w fun e w' => e = .returned (.tuple #[.pointer (some ⟨g, o + 3, none⟩), .pointer (some ⟨g, o + 4, none⟩)]) ∧ Below w.heap.size w w' := by
 have hu33 := Try.underlying33
 go_enter Try.func26, Try.ntmps26
 go_wp2
 go_quiet (fail)
 go_wp2
 go_ret2
 exact ⟨rfl, pw_below_drewN (Below.refl _ _) _⟩
def stock_Ship.f (l0 : List S33) (a1 : ByteArray) (a2 : Int) : Option (List S33 × Int) := some (moveF 3 4 l0 a1 a2)
set_option maxHeartbeats 8000000 in
set_option maxRecDepth 100000 in
theorem stock_Ship_move.calls (A0 : Option Addr) (c0 : Nat) (l0 : List S33) (a1 : ByteArray) (a2 : Int) (r1 : List S33) (r2 : Int) (w : World) (hr0 : Kd.C k33 w A0 l0.length l0) (hc0 : l0.length ≤ c0) (h : moveF 3 4 l0 a1 a2 = (r1, r2)) :
  Calls Try.prog 22 #[.slice A0 l0.length c0, .string a1, .int .i64 a2, .func (.func 26) #[] #[]] w fun e w' => ∃ v0_ : Value, e = .returned (.tuple #[v0_, .int .i64 r2]) ∧ Kd.R k33 33 w' w.heap.size (fun _ => True) v0_ r1 ∧ Below w.heap.size w w' := by
 have hu33 := Try.underlying33
 have HR := Aside0.mk hr0
 have HC := Aside0.mk hc0
 have H := Aside0.mk h
 have h1 := Aside0.mk (stock_Right.calls A0 c0 l0 _ w hr0 hc0 rfl)
 have RI := Aside0.mk (show rightB l0 = true → l0.length ≤ 8 ∧ ∀ i, i < l0.length → rowUp l0 i = true from fun h => ⟨rightB_len l0 h, rightB_row l0 h⟩)
 have UI := Aside0.mk (show unitsB a2 = true → 1 ≤ a2 ∧ a2 ≤ 1073741824 by simp only [unitsB, Bool.and_eq_true, decide_eq_true_eq]; exact id)
 have h2 := Aside0.mk (fun W => stock_units.calls a2 _ W (stock_units_eq a2))
 clear hr0 hc0 h
 unfold moveF at H
 generalize rightB l0 = qr at h1 H RI
 generalize unitsB a2 = qu at h2 H UI
 go_enter Try.func22, Try.ntmps22
 go_wp2_with fail
 refine h1.out.mono ?_
 rintro e w2 ⟨rfl, hb2⟩
 have B2 := Aside0.mk hb2
 clear hb2 h1
 cases qr with
 | false =>
  go_wp2
  go_ret2
  have H2 := H.out
  simp at H2
  obtain ⟨rfl, rfl⟩ := H2
  exact ⟨_, rfl, Kd.R_nil _ _ _ _ _, B2.out⟩
 | true =>
  go_wp2_with fail
  refine (h2.out _).mono ?_
  rintro e w3 ⟨rfl, hd3⟩
  have B3 := Aside0.mk (below_step B2.out hd3.below)
  clear hd3 h2 B2
  cases qu with
  | false =>
   go_wp2
   go_ret2
   have H2 := H.out
   simp at H2
   obtain ⟨rfl, rfl⟩ := H2
   exact ⟨_, rfl, Kd.R_nil _ _ _ _ _, B3.out⟩
  | true =>
   obtain ⟨hlen, hup⟩ := RI.out (by first | rfl | trivial)
   obtain ⟨hn1, hn2⟩ := UI.out (by first | rfl | trivial)
   have UP := Aside0.mk hup
   clear hup RI UI
   have hat : stock_at.f l0 a1 = some ((rowAt l0 a1 : Int), rowIs l0 a1) := by unfold stock_at.f; rw [if_pos (by omega)]
   have IS := Aside0.mk (show rowIs l0 a1 = true → rowAt l0 a1 < l0.length by
    unfold rowIs bsIs rowAt
    intro h
    rw [Bool.and_eq_true, decide_eq_true_eq] at h
    exact h.1)
   have h4 := Aside0.mk (stock_at.calls A0 c0 l0 a1 _ _ w3 (Kd.C_below HR.out B3.out) HC.out hat)
   clear hat
   generalize rowAt l0 a1 = p at h4 H IS
   generalize rowIs l0 a1 = qi at h4 H IS
   go_wp2_with fail
   refine h4.out.mono ?_
   rintro e w4 ⟨rfl, hb4⟩
   have B4 := Aside0.mk (below_step B3.out hb4)
   clear hb4 h4 B3
   cases qi with
   | false =>
    go_wp2
    go_ret2
    have H2 := H.out
    simp at H2
    obtain ⟨rfl, rfl⟩ := H2
    exact ⟨_, rfl, Kd.R_nil _ _ _ _ _, B4.out⟩
   | true =>
    have hp : p < l0.length := IS.out (by first | rfl | trivial)
    clear IS
    go_wp2_with fail
    refine (api_Row_29.calls A0 c0 l0 l0 w4 (Kd.C_below HR.out B4.out) HC.out (by unfold api_Row_29.f; rw [if_pos (by omega)])).mono ?_
    rintro e w5 ⟨v5, rfl, ho5, hb5⟩
    obtain ⟨g, cap, rfl, hgb, hgl, _⟩ := Kd.R_form ho5 (by omega)
    obtain ⟨cs, hcl, hcm, hcc, hcf⟩ := Kd.R_elem ho5 z33 (p : Int) (by omega) (by omega)
    have B5 := Aside0.mk (below_step B4.out hb5)
    have O5 := Aside0.mk ho5
    rw [show l0.getD (p : Int).toNat z33 = l0.getD p z33 from rfl] at hcm
    have U := UP.out p hp
    unfold rowUp at U
    rw [Bool.and_eq_true] at U
    have MI := rowMay_in U.1
    clear U UP
    obtain ⟨x, hx⟩ : ∃ x, x = l0.getD p z33 := ⟨_, rfl⟩
    have HX := Aside0.mk hx
    rw [← hx] at hcm MI
    have H3 := H.out
    simp only [Bool.true_and, Bool.not_true, Bool.and_self, Bool.false_eq_true, if_false, ← hx] at H3
    have H4 := Aside0.mk H3
    have SZ : Aside0 (w.heap.size ≤ g) := ⟨Nat.le_trans B4.out.size hgb⟩
    have SZ2 : Aside0 (w.heap.size ≤ w4.heap.size) := ⟨B4.out.size⟩
    clear H3 H B4 hb5 ho5 hx
    obtain rfl := k33_openM hcm
    have c0_ : w5.cell? ⟨g, p * 6 + 3, none⟩ = some (.int .i64 x.f3) := hcc 3 _ rfl
    have c1_ : w5.cell? ⟨g, p * 6 + 4, none⟩ = some (.int .i64 x.f4) := hcc 4 _ rfl
    clear hcc hcf hcm hcl
    have hpz : (p : Int) < (l0.length : Int) := by omega
    have HG := Aside0.mk hgb
    have hc1 := stock_Ship_1.calls g (p * 6) w5
    go_wp2_with fail
    refine hc1.mono ?_
    rintro e w6 ⟨rfl, hb6⟩
    have f0_ : w6.frozen? ⟨g, p * 6 + 3, none⟩ = false := (hb6.frozen (p := ⟨g, p * 6 + 3, none⟩) hgl).trans (by
     obtain ⟨_, _, _, _, hf⟩ := Kd.R_elem O5.out z33 (p : Int) (by omega) (by omega)
     exact hf 3)
    have f1_ : w6.frozen? ⟨g, p * 6 + 4, none⟩ = false := (hb6.frozen (p := ⟨g, p * 6 + 4, none⟩) hgl).trans (by
     obtain ⟨_, _, _, _, hf⟩ := Kd.R_elem O5.out z33 (p : Int) (by omega) (by omega)
     exact hf 4)
    replace c0_ := pw_cell_below hb6 c0_
    replace c1_ := pw_cell_below hb6 c1_
    have O6 := Aside0.mk (Kd.R_below O5.out hb6)
    have B6 := Aside0.mk (below_step B5.out hb6)
    have HGL := Aside0.mk (show g < w6.heap.size by have := hb6.size; omega)
    clear hb6 hc1 O5 B5 hgl hgb
    obtain ⟨m1, m2, m3, m4, m5, m6, m7, m8, m9, m10, m11⟩ := MI
    by_cases hlt : x.f3 < a2
    ·go_wp2
     go_ret2
     have H5 := H4.out
     simp only [rowGet, hlt, if_true, Prod.mk.injEq] at H5
     obtain ⟨rfl, rfl⟩ := H5
     exact ⟨_, rfl, Kd.R_nil _ _ _ _ _, B6.out⟩
    ·have H5 := H4.out
     simp only [rowGet, rowSet, hlt, if_false, Prod.mk.injEq] at H5
     have H6 := Aside0.mk H5
     clear H5 H4
     have s0 : IntKind.i64.wrap (x.f3 - a2) = x.f3 - a2 := IntWalk.i64_in _ (by omega)
     have s1 : IntKind.i64.wrap (x.f4 + a2) = x.f4 + a2 := IntWalk.i64_in _ (by omega)
     have hltb : decide (x.f3 < a2) = false := by simpa using hlt
     go_wp2
     go_ret2
     obtain ⟨rfl, rfl⟩ := H6.out
     obtain ⟨cs6, l6, m6_, cc6, _⟩ := Kd.R_elem O6.out z33 (p : Int) (by omega) hpz
     rw [show l0.getD (p : Int).toNat z33 = x from HX.out.symm] at m6_
     obtain rfl := k33_openM m6_
     have O7 := (Kd.R_seg O6.out (p : Int) (by omega) hpz (seg := [.int .i64 (x.f3 - a2)]) (j := 3) (x' := rowSet x (x.f3 - a2) 3) (okp := fun _ => False) l6 cc6 (show 3 + 1 ≤ 6 by omega) (k33_mkM _ _ _ (rowSet x (x.f3 - a2) 3)) (fun _ h => h.elim)).1
     obtain ⟨cs7, l7, m7_, cc7, _⟩ := Kd.R_elem O7 z33 (p : Int) (by omega) hpz
     rw [show (l0.set (p : Int).toNat (rowSet x (x.f3 - a2) 3)).getD (p : Int).toNat z33 = rowSet x (x.f3 - a2) 3 by simp [List.getD_eq_getElem?_getD, hp]] at m7_
     obtain rfl := k33_openM m7_
     have O8 := (Kd.R_seg O7 (p : Int) (by omega) hpz (seg := [.int .i64 (x.f4 + a2)]) (j := 4) (x' := rowSet (rowSet x (x.f3 - a2) 3) (x.f4 + a2) 4) (okp := fun _ => False) l7 cc7 (show 4 + 1 ≤ 6 by omega) (k33_mkM _ _ _ (rowSet (rowSet x (x.f3 - a2) 3) (x.f4 + a2) 4)) (fun _ h => h.elim)).1
     rw [List.set_set] at O8
     refine ⟨_, rfl, Kd.R_lower (Kd.R_mono O8 (fun _ _ => trivial)) ?_, ?_⟩
     ·exact SZ2.out
     ·exact below_set (below_set B6.out SZ.out) SZ.out
theorem stock_Ship.calls (A0 : Option Addr) (c0 : Nat) (l0 : List S33) (a1 : ByteArray) (a2 : Int) (r1 : List S33) (r2 : Int) (w : World) (hr0 : Kd.C k33 w A0 l0.length l0) (hc0 : l0.length ≤ c0) (h : stock_Ship.f l0 a1 a2 = some (r1, r2)) :
  Calls Try.prog 14 #[.slice A0 l0.length c0, .string a1, .int .i64 a2] w fun e w' => ∃ v0_ : Value, e = .returned (.tuple #[v0_, .int .i64 r2]) ∧ Kd.R k33 33 w' w.heap.size (fun _ => True) v0_ r1 ∧ Below w.heap.size w w' := by
 have H := Aside0.mk (stock_Ship_move.calls A0 c0 l0 a1 a2 r1 r2 w hr0 hc0 (Option.some.inj h))
 clear hr0 hc0 h
 go_enter Try.func14, Try.ntmps14
 go_wp2_with (go_at_call 22; refine H.out.mono ?_; rintro e w' ⟨v, rfl, ho, hb⟩; have HO := Aside0.mk ho; have HB := Aside0.mk hb; clear ho hb)
 go_ret2
 exact ⟨_, rfl, HO.out, HB.out⟩
end Go.Proofs.Ytliablhnkoghbaa.PStock
namespace Go.Proofs.Ytliablhnkoghbaa.PStock
open Go.RowKit Go.Proofs.YtliablhnkoghbaaH Go.Proofs.YtliablhnkoghbaaW.PrintWords Go.Proofs.YtliablhnkoghbaaW.PrintLast Go.Proofs.YtliablhnkoghbaaW.PrintMore
attribute [local go_sem] max2_int min2_int max_two min_two max_three min_three max_four min_four
set_option linter.unusedVariables false
set_option linter.unusedSimpArgs false
theorem stock_Lose_1.calls (g o : Nat) (w : World) : Calls Try.prog 36 #[.pointer (some ⟨g, o, none⟩)] w fun e w' => e = .returned (.tuple #[.pointer (some ⟨g, o + 2, none⟩), .pointer (some ⟨g, o + 5, none⟩)]) ∧ Below w.heap.size w w' := by
 have hu33 := Try.underlying33
 go_enter Try.func36, Try.ntmps36
 go_wp2
 go_quiet (fail)
 go_wp2
 go_ret2
 exact ⟨rfl, pw_below_drewN (Below.refl _ _) _⟩
def stock_Lose.f (l0 : List S33) (a1 : ByteArray) (a2 : Int) : Option (List S33 × Int) := some (moveF 2 5 l0 a1 a2)
set_option maxHeartbeats 8000000 in
set_option maxRecDepth 100000 in
theorem stock_Lose_move.calls (A0 : Option Addr) (c0 : Nat) (l0 : List S33) (a1 : ByteArray) (a2 : Int) (r1 : List S33) (r2 : Int) (w : World) (hr0 : Kd.C k33 w A0 l0.length l0) (hc0 : l0.length ≤ c0) (h : moveF 2 5 l0 a1 a2 = (r1, r2)) :
  Calls Try.prog 22 #[.slice A0 l0.length c0, .string a1, .int .i64 a2, .func (.func 36) #[] #[]] w fun e w' => ∃ v0_ : Value, e = .returned (.tuple #[v0_, .int .i64 r2]) ∧ Kd.R k33 33 w' w.heap.size (fun _ => True) v0_ r1 ∧ Below w.heap.size w w' := by
 have hu33 := Try.underlying33
 have HR := Aside0.mk hr0
 have HC := Aside0.mk hc0
 have H := Aside0.mk h
 have h1 := Aside0.mk (stock_Right.calls A0 c0 l0 _ w hr0 hc0 rfl)
 have RI := Aside0.mk (show rightB l0 = true → l0.length ≤ 8 ∧ ∀ i, i < l0.length → rowUp l0 i = true from fun h => ⟨rightB_len l0 h, rightB_row l0 h⟩)
 have UI := Aside0.mk (show unitsB a2 = true → 1 ≤ a2 ∧ a2 ≤ 1073741824 by simp only [unitsB, Bool.and_eq_true, decide_eq_true_eq]; exact id)
 have h2 := Aside0.mk (fun W => stock_units.calls a2 _ W (stock_units_eq a2))
 clear hr0 hc0 h
 unfold moveF at H
 generalize rightB l0 = qr at h1 H RI
 generalize unitsB a2 = qu at h2 H UI
 go_enter Try.func22, Try.ntmps22
 go_wp2_with fail
 refine h1.out.mono ?_
 rintro e w2 ⟨rfl, hb2⟩
 have B2 := Aside0.mk hb2
 clear hb2 h1
 cases qr with
 | false =>
  go_wp2
  go_ret2
  have H2 := H.out
  simp at H2
  obtain ⟨rfl, rfl⟩ := H2
  exact ⟨_, rfl, Kd.R_nil _ _ _ _ _, B2.out⟩
 | true =>
  go_wp2_with fail
  refine (h2.out _).mono ?_
  rintro e w3 ⟨rfl, hd3⟩
  have B3 := Aside0.mk (below_step B2.out hd3.below)
  clear hd3 h2 B2
  cases qu with
  | false =>
   go_wp2
   go_ret2
   have H2 := H.out
   simp at H2
   obtain ⟨rfl, rfl⟩ := H2
   exact ⟨_, rfl, Kd.R_nil _ _ _ _ _, B3.out⟩
  | true =>
   obtain ⟨hlen, hup⟩ := RI.out (by first | rfl | trivial)
   obtain ⟨hn1, hn2⟩ := UI.out (by first | rfl | trivial)
   have UP := Aside0.mk hup
   clear hup RI UI
   have hat : stock_at.f l0 a1 = some ((rowAt l0 a1 : Int), rowIs l0 a1) := by unfold stock_at.f; rw [if_pos (by omega)]
   have IS := Aside0.mk (show rowIs l0 a1 = true → rowAt l0 a1 < l0.length by
    unfold rowIs bsIs rowAt
    intro h
    rw [Bool.and_eq_true, decide_eq_true_eq] at h
    exact h.1)
   have h4 := Aside0.mk (stock_at.calls A0 c0 l0 a1 _ _ w3 (Kd.C_below HR.out B3.out) HC.out hat)
   clear hat
   generalize rowAt l0 a1 = p at h4 H IS
   generalize rowIs l0 a1 = qi at h4 H IS
   go_wp2_with fail
   refine h4.out.mono ?_
   rintro e w4 ⟨rfl, hb4⟩
   have B4 := Aside0.mk (below_step B3.out hb4)
   clear hb4 h4 B3
   cases qi with
   | false =>
    go_wp2
    go_ret2
    have H2 := H.out
    simp at H2
    obtain ⟨rfl, rfl⟩ := H2
    exact ⟨_, rfl, Kd.R_nil _ _ _ _ _, B4.out⟩
   | true =>
    have hp : p < l0.length := IS.out (by first | rfl | trivial)
    clear IS
    go_wp2_with fail
    refine (api_Row_29.calls A0 c0 l0 l0 w4 (Kd.C_below HR.out B4.out) HC.out (by unfold api_Row_29.f; rw [if_pos (by omega)])).mono ?_
    rintro e w5 ⟨v5, rfl, ho5, hb5⟩
    obtain ⟨g, cap, rfl, hgb, hgl, _⟩ := Kd.R_form ho5 (by omega)
    obtain ⟨cs, hcl, hcm, hcc, hcf⟩ := Kd.R_elem ho5 z33 (p : Int) (by omega) (by omega)
    have B5 := Aside0.mk (below_step B4.out hb5)
    have O5 := Aside0.mk ho5
    rw [show l0.getD (p : Int).toNat z33 = l0.getD p z33 from rfl] at hcm
    have U := UP.out p hp
    unfold rowUp at U
    rw [Bool.and_eq_true] at U
    have MI := rowMay_in U.1
    clear U UP
    obtain ⟨x, hx⟩ : ∃ x, x = l0.getD p z33 := ⟨_, rfl⟩
    have HX := Aside0.mk hx
    rw [← hx] at hcm MI
    have H3 := H.out
    simp only [Bool.true_and, Bool.not_true, Bool.and_self, Bool.false_eq_true, if_false, ← hx] at H3
    have H4 := Aside0.mk H3
    have SZ : Aside0 (w.heap.size ≤ g) := ⟨Nat.le_trans B4.out.size hgb⟩
    have SZ2 : Aside0 (w.heap.size ≤ w4.heap.size) := ⟨B4.out.size⟩
    clear H3 H B4 hb5 ho5 hx
    obtain rfl := k33_openM hcm
    have c0_ : w5.cell? ⟨g, p * 6 + 2, none⟩ = some (.int .i64 x.f2) := hcc 2 _ rfl
    have c1_ : w5.cell? ⟨g, p * 6 + 5, none⟩ = some (.int .i64 x.f5) := hcc 5 _ rfl
    clear hcc hcf hcm hcl
    have hpz : (p : Int) < (l0.length : Int) := by omega
    have HG := Aside0.mk hgb
    have hc1 := stock_Lose_1.calls g (p * 6) w5
    go_wp2_with fail
    refine hc1.mono ?_
    rintro e w6 ⟨rfl, hb6⟩
    have f0_ : w6.frozen? ⟨g, p * 6 + 2, none⟩ = false := (hb6.frozen (p := ⟨g, p * 6 + 2, none⟩) hgl).trans (by
     obtain ⟨_, _, _, _, hf⟩ := Kd.R_elem O5.out z33 (p : Int) (by omega) (by omega)
     exact hf 2)
    have f1_ : w6.frozen? ⟨g, p * 6 + 5, none⟩ = false := (hb6.frozen (p := ⟨g, p * 6 + 5, none⟩) hgl).trans (by
     obtain ⟨_, _, _, _, hf⟩ := Kd.R_elem O5.out z33 (p : Int) (by omega) (by omega)
     exact hf 5)
    replace c0_ := pw_cell_below hb6 c0_
    replace c1_ := pw_cell_below hb6 c1_
    have O6 := Aside0.mk (Kd.R_below O5.out hb6)
    have B6 := Aside0.mk (below_step B5.out hb6)
    have HGL := Aside0.mk (show g < w6.heap.size by have := hb6.size; omega)
    clear hb6 hc1 O5 B5 hgl hgb
    obtain ⟨m1, m2, m3, m4, m5, m6, m7, m8, m9, m10, m11⟩ := MI
    by_cases hlt : x.f2 < a2
    ·go_wp2
     go_ret2
     have H5 := H4.out
     simp only [rowGet, hlt, if_true, Prod.mk.injEq] at H5
     obtain ⟨rfl, rfl⟩ := H5
     exact ⟨_, rfl, Kd.R_nil _ _ _ _ _, B6.out⟩
    ·have H5 := H4.out
     simp only [rowGet, rowSet, hlt, if_false, Prod.mk.injEq] at H5
     have H6 := Aside0.mk H5
     clear H5 H4
     have s0 : IntKind.i64.wrap (x.f2 - a2) = x.f2 - a2 := IntWalk.i64_in _ (by omega)
     have s1 : IntKind.i64.wrap (x.f5 + a2) = x.f5 + a2 := IntWalk.i64_in _ (by omega)
     have hltb : decide (x.f2 < a2) = false := by simpa using hlt
     go_wp2
     go_ret2
     obtain ⟨rfl, rfl⟩ := H6.out
     obtain ⟨cs6, l6, m6_, cc6, _⟩ := Kd.R_elem O6.out z33 (p : Int) (by omega) hpz
     rw [show l0.getD (p : Int).toNat z33 = x from HX.out.symm] at m6_
     obtain rfl := k33_openM m6_
     have O7 := (Kd.R_seg O6.out (p : Int) (by omega) hpz (seg := [.int .i64 (x.f2 - a2)]) (j := 2) (x' := rowSet x (x.f2 - a2) 2) (okp := fun _ => False) l6 cc6 (show 2 + 1 ≤ 6 by omega) (k33_mkM _ _ _ (rowSet x (x.f2 - a2) 2)) (fun _ h => h.elim)).1
     obtain ⟨cs7, l7, m7_, cc7, _⟩ := Kd.R_elem O7 z33 (p : Int) (by omega) hpz
     rw [show (l0.set (p : Int).toNat (rowSet x (x.f2 - a2) 2)).getD (p : Int).toNat z33 = rowSet x (x.f2 - a2) 2 by simp [List.getD_eq_getElem?_getD, hp]] at m7_
     obtain rfl := k33_openM m7_
     have O8 := (Kd.R_seg O7 (p : Int) (by omega) hpz (seg := [.int .i64 (x.f5 + a2)]) (j := 5) (x' := rowSet (rowSet x (x.f2 - a2) 2) (x.f5 + a2) 5) (okp := fun _ => False) l7 cc7 (show 5 + 1 ≤ 6 by omega) (k33_mkM _ _ _ (rowSet (rowSet x (x.f2 - a2) 2) (x.f5 + a2) 5)) (fun _ h => h.elim)).1
     rw [List.set_set] at O8
     refine ⟨_, rfl, Kd.R_lower (Kd.R_mono O8 (fun _ _ => trivial)) ?_, ?_⟩
     ·exact SZ2.out
     ·exact below_set (below_set B6.out SZ.out) SZ.out
theorem stock_Lose.calls (A0 : Option Addr) (c0 : Nat) (l0 : List S33) (a1 : ByteArray) (a2 : Int) (r1 : List S33) (r2 : Int) (w : World) (hr0 : Kd.C k33 w A0 l0.length l0) (hc0 : l0.length ≤ c0) (h : stock_Lose.f l0 a1 a2 = some (r1, r2)) :
  Calls Try.prog 20 #[.slice A0 l0.length c0, .string a1, .int .i64 a2] w fun e w' => ∃ v0_ : Value, e = .returned (.tuple #[v0_, .int .i64 r2]) ∧ Kd.R k33 33 w' w.heap.size (fun _ => True) v0_ r1 ∧ Below w.heap.size w w' := by
 have H := Aside0.mk (stock_Lose_move.calls A0 c0 l0 a1 a2 r1 r2 w hr0 hc0 (Option.some.inj h))
 clear hr0 hc0 h
 go_enter Try.func20, Try.ntmps20
 go_wp2_with (go_at_call 22; refine H.out.mono ?_; rintro e w' ⟨v, rfl, ho, hb⟩; have HO := Aside0.mk ho; have HB := Aside0.mk hb; clear ho hb)
 go_ret2
 exact ⟨_, rfl, HO.out, HB.out⟩
end Go.Proofs.Ytliablhnkoghbaa.PStock
namespace Go.Proofs.Ytliablhnkoghbaa.PStock
open Go.RowKit Go.Proofs.YtliablhnkoghbaaH Go.Proofs.YtliablhnkoghbaaW.PrintWords Go.Proofs.YtliablhnkoghbaaW.PrintLast Go.Proofs.YtliablhnkoghbaaW.PrintMore
attribute [local go_sem] max2_int min2_int max_two min_two max_three min_three max_four min_four
set_option linter.unusedVariables false
set_option linter.unusedSimpArgs false
def tarrylaw08_does.f (l0 : List (S33)) (a1 : ByteArray) (a2 : Int) (a3 : Int) : Option ((List (S33)) × Int) := if a3 = 1 then ((stock_Hold.f l0 a1 a2).bind fun bt167 => (some (bt167.1, bt167.2))) else (if a3 = 2 then ((stock_Release.f l0 a1 a2).bind fun bt171 => (some (bt171.1, bt171.2))) else (if a3 = 3 then ((stock_Ship.f l0 a1 a2).bind fun bt175 => (some (bt175.1, bt175.2))) else ((stock_Lose.f l0 a1 a2).bind fun bt179 => (some (bt179.1, bt179.2)))))
set_option maxHeartbeats 8000000 in
set_option maxRecDepth 100000 in
theorem tarrylaw08_does.calls (A0 : Option Addr) (c0 : Nat) (l0 : List (S33)) (a1 : ByteArray) (a2 : Int) (a3 : Int) (r1 : List (S33)) (r2 : Int) (w : World) (hr0 : Kd.C k33 w A0 l0.length l0) (hc0 : l0.length ≤ c0) (h : tarrylaw08_does.f l0 a1 a2 a3 = some (r1, r2)) :
  Calls Try.prog 8 #[.slice A0 l0.length c0, .string a1, .int .i64 a2, .int .i64 a3] w fun e w' => ∃ v0_ : Value, e = .returned (.tuple #[v0_, .int .i64 r2]) ∧ Kd.R k33 33 w' w.heap.size (fun _ => True) v0_ r1 ∧ Below w.heap.size w w' := by
 have HR0 := Aside0.mk hr0
 have HC0 := Aside0.mk hc0
 clear hr0 hc0
 have HB := Aside0.mk (Below.refl w.heap.size w)
 have H : (if a3 = 1 then ((stock_Hold.f l0 a1 a2).bind fun bt167 => (some (bt167.1, bt167.2))) else (if a3 = 2 then ((stock_Release.f l0 a1 a2).bind fun bt171 => (some (bt171.1, bt171.2))) else (if a3 = 3 then ((stock_Ship.f l0 a1 a2).bind fun bt175 => (some (bt175.1, bt175.2))) else ((stock_Lose.f l0 a1 a2).bind fun bt179 => (some (bt179.1, bt179.2)))))) = some (r1, r2) := h
 clear h
 by_cases c5 : a3 = 1
 ·rw [if_pos c5] at H
  have c5b0 : (a3 == 1) = true := beq_iff_eq.mpr c5
  have c5b1 : (a3 != 1) = false := bne_eq_false_iff_eq.mpr c5
  clear c5
  replace H := Option.bind_eq_some_iff.mp H
  obtain ⟨⟨t167, t168⟩, A60, H⟩ := H
  replace H : (some (t167, t168)) = some (r1, r2) := H
  have A6 := Aside0.mk A60
  clear A60
  simp only [Option.some.injEq, Prod.mk.injEq] at H
  obtain ⟨rfl, rfl⟩ := H
  go_enter Try.func8, Try.ntmps8
  go_wp2_with (first | ((with_reducible refine gate_callee (f := 11) rfl ?_); refine goesL_ (some 16) rfl rfl Try.func11 (by kernel_rfl) rfl #[.slice A0 l0.length c0, .string a1, .int .i64 a2] rfl (by (try simp only [List.map_toArray, List.map_cons, List.map_nil]); first | done | rfl | (simp only [List.length_drop, List.length_take]; rfl)) ?_; (with_reducible refine (stock_Hold.calls _ _ l0 a1 a2 t167 t168 _ ?side1 ?side2 A6.out).mono ?_); (case side1 => repeat (first | exact HR0.out | (with_reducible refine Kd.C_alloc ?_ _) | (with_reducible refine Kd.C_drewN ?_ _) | (with_reducible refine Kd.C_drew ?_))); (case side2 => exact HC0.out); rintro e w7 ⟨v169, rfl, ho0, hb⟩; refine ⟨_, rfl, ?_⟩; have n0_ := Aside0.mk (Kd.R_lower ho0 (below_size (by repeat (first | (with_reducible first | exact HB.out | apply below_alloc | apply pw_below_drewN | apply below_drew1) | exact HB.out)))); have n1_ := Aside0.mk (below_step (by repeat (first | (with_reducible first | exact HB.out | apply below_alloc | apply pw_below_drewN | apply below_drew1) | exact HB.out)) hb); clear HB; have HO170 := n0_; have HB := n1_; clear n0_ n1_; (try clear hb); (try clear hb2); (try clear hk); (try clear hi); (try clear ho0)))
  go_ret2
  exact ⟨_, by first | rfl | (simp [errW_none, errW_some] <;> rfl) | (simp [*, errW_none, errW_some] <;> rfl), by (with_reducible repeat (first | apply Kd.R_alloc | apply Kd.R_drewN | apply Kd.R_drew)); exact HO170.out, by repeat (first | (with_reducible first | exact HB.out | apply below_alloc | apply pw_below_drewN | apply below_drew1) | exact HB.out)⟩
 ·rw [if_neg c5] at H
  have c5b0 : (a3 == 1) = false := beq_eq_false_iff_ne.mpr c5
  have c5b1 : (a3 != 1) = true := bne_iff_ne.mpr c5
  by_cases c8 : a3 = 2
  ·rw [if_pos c8] at H
   have c8b0 : (a3 == 2) = true := beq_iff_eq.mpr c8
   have c8b1 : (a3 != 2) = false := bne_eq_false_iff_eq.mpr c8
   clear c8
   replace H := Option.bind_eq_some_iff.mp H
   obtain ⟨⟨t171, t172⟩, A90, H⟩ := H
   replace H : (some (t171, t172)) = some (r1, r2) := H
   have A9 := Aside0.mk A90
   clear A90
   simp only [Option.some.injEq, Prod.mk.injEq] at H
   obtain ⟨rfl, rfl⟩ := H
   go_enter Try.func8, Try.ntmps8
   go_wp2_with (first | ((with_reducible refine gate_callee (f := 13) rfl ?_); refine goesL_ (some 24) rfl rfl Try.func13 (by kernel_rfl) rfl #[.slice A0 l0.length c0, .string a1, .int .i64 a2] rfl (by (try simp only [List.map_toArray, List.map_cons, List.map_nil]); first | done | rfl | (simp only [List.length_drop, List.length_take]; rfl)) ?_; (with_reducible refine (stock_Release.calls _ _ l0 a1 a2 t171 t172 _ ?side1 ?side2 A9.out).mono ?_); (case side1 => repeat (first | exact HR0.out | (with_reducible refine Kd.C_alloc ?_ _) | (with_reducible refine Kd.C_drewN ?_ _) | (with_reducible refine Kd.C_drew ?_))); (case side2 => exact HC0.out); rintro e w10 ⟨v173, rfl, ho0, hb⟩; refine ⟨_, rfl, ?_⟩; have n0_ := Aside0.mk (Kd.R_lower ho0 (below_size (by repeat (first | (with_reducible first | exact HB.out | apply below_alloc | apply pw_below_drewN | apply below_drew1) | exact HB.out)))); have n1_ := Aside0.mk (below_step (by repeat (first | (with_reducible first | exact HB.out | apply below_alloc | apply pw_below_drewN | apply below_drew1) | exact HB.out)) hb); clear HB; have HO174 := n0_; have HB := n1_; clear n0_ n1_; (try clear hb); (try clear hb2); (try clear hk); (try clear hi); (try clear ho0)))
   go_ret2
   exact ⟨_, by first | rfl | (simp [errW_none, errW_some] <;> rfl) | (simp [*, errW_none, errW_some] <;> rfl), by (with_reducible repeat (first | apply Kd.R_alloc | apply Kd.R_drewN | apply Kd.R_drew)); exact HO174.out, by repeat (first | (with_reducible first | exact HB.out | apply below_alloc | apply pw_below_drewN | apply below_drew1) | exact HB.out)⟩
  ·rw [if_neg c8] at H
   have c8b0 : (a3 == 2) = false := beq_eq_false_iff_ne.mpr c8
   have c8b1 : (a3 != 2) = true := bne_iff_ne.mpr c8
   by_cases c11 : a3 = 3
   ·rw [if_pos c11] at H
    have c11b0 : (a3 == 3) = true := beq_iff_eq.mpr c11
    have c11b1 : (a3 != 3) = false := bne_eq_false_iff_eq.mpr c11
    clear c11
    replace H := Option.bind_eq_some_iff.mp H
    obtain ⟨⟨t175, t176⟩, A120, H⟩ := H
    replace H : (some (t175, t176)) = some (r1, r2) := H
    have A12 := Aside0.mk A120
    clear A120
    simp only [Option.some.injEq, Prod.mk.injEq] at H
    obtain ⟨rfl, rfl⟩ := H
    go_enter Try.func8, Try.ntmps8
    go_wp2_with (first | ((with_reducible refine gate_callee (f := 14) rfl ?_); refine goesL_ (some 32) rfl rfl Try.func14 (by kernel_rfl) rfl #[.slice A0 l0.length c0, .string a1, .int .i64 a2] rfl (by (try simp only [List.map_toArray, List.map_cons, List.map_nil]); first | done | rfl | (simp only [List.length_drop, List.length_take]; rfl)) ?_; (with_reducible refine (stock_Ship.calls _ _ l0 a1 a2 t175 t176 _ ?side1 ?side2 A12.out).mono ?_); (case side1 => repeat (first | exact HR0.out | (with_reducible refine Kd.C_alloc ?_ _) | (with_reducible refine Kd.C_drewN ?_ _) | (with_reducible refine Kd.C_drew ?_))); (case side2 => exact HC0.out); rintro e w13 ⟨v177, rfl, ho0, hb⟩; refine ⟨_, rfl, ?_⟩; have n0_ := Aside0.mk (Kd.R_lower ho0 (below_size (by repeat (first | (with_reducible first | exact HB.out | apply below_alloc | apply pw_below_drewN | apply below_drew1) | exact HB.out)))); have n1_ := Aside0.mk (below_step (by repeat (first | (with_reducible first | exact HB.out | apply below_alloc | apply pw_below_drewN | apply below_drew1) | exact HB.out)) hb); clear HB; have HO178 := n0_; have HB := n1_; clear n0_ n1_; (try clear hb); (try clear hb2); (try clear hk); (try clear hi); (try clear ho0)))
    go_ret2
    exact ⟨_, by first | rfl | (simp [errW_none, errW_some] <;> rfl) | (simp [*, errW_none, errW_some] <;> rfl), by (with_reducible repeat (first | apply Kd.R_alloc | apply Kd.R_drewN | apply Kd.R_drew)); exact HO178.out, by repeat (first | (with_reducible first | exact HB.out | apply below_alloc | apply pw_below_drewN | apply below_drew1) | exact HB.out)⟩
   ·rw [if_neg c11] at H
    have c11b0 : (a3 == 3) = false := beq_eq_false_iff_ne.mpr c11
    have c11b1 : (a3 != 3) = true := bne_iff_ne.mpr c11
    replace H := Option.bind_eq_some_iff.mp H
    obtain ⟨⟨t179, t180⟩, A140, H⟩ := H
    replace H : (some (t179, t180)) = some (r1, r2) := H
    have A14 := Aside0.mk A140
    clear A140
    simp only [Option.some.injEq, Prod.mk.injEq] at H
    obtain ⟨rfl, rfl⟩ := H
    go_enter Try.func8, Try.ntmps8
    go_wp2_with (first | ((with_reducible refine gate_callee (f := 20) rfl ?_); refine goesL_ (some 38) rfl rfl Try.func20 (by kernel_rfl) rfl #[.slice A0 l0.length c0, .string a1, .int .i64 a2] rfl (by (try simp only [List.map_toArray, List.map_cons, List.map_nil]); first | done | rfl | (simp only [List.length_drop, List.length_take]; rfl)) ?_; (with_reducible refine (stock_Lose.calls _ _ l0 a1 a2 t179 t180 _ ?side1 ?side2 A14.out).mono ?_); (case side1 => repeat (first | exact HR0.out | (with_reducible refine Kd.C_alloc ?_ _) | (with_reducible refine Kd.C_drewN ?_ _) | (with_reducible refine Kd.C_drew ?_))); (case side2 => exact HC0.out); rintro e w15 ⟨v181, rfl, ho0, hb⟩; refine ⟨_, rfl, ?_⟩; have n0_ := Aside0.mk (Kd.R_lower ho0 (below_size (by repeat (first | (with_reducible first | exact HB.out | apply below_alloc | apply pw_below_drewN | apply below_drew1) | exact HB.out)))); have n1_ := Aside0.mk (below_step (by repeat (first | (with_reducible first | exact HB.out | apply below_alloc | apply pw_below_drewN | apply below_drew1) | exact HB.out)) hb); clear HB; have HO182 := n0_; have HB := n1_; clear n0_ n1_; (try clear hb); (try clear hb2); (try clear hk); (try clear hi); (try clear ho0)))
    go_ret2
    exact ⟨_, by first | rfl | (simp [errW_none, errW_some] <;> rfl) | (simp [*, errW_none, errW_some] <;> rfl), by (with_reducible repeat (first | apply Kd.R_alloc | apply Kd.R_drewN | apply Kd.R_drew)); exact HO182.out, by repeat (first | (with_reducible first | exact HB.out | apply below_alloc | apply pw_below_drewN | apply below_drew1) | exact HB.out)⟩
end Go.Proofs.Ytliablhnkoghbaa.PStock
namespace Go.Proofs.Ytliablhnkoghbaa.PStock
open Go.RowKit Go.Proofs.YtliablhnkoghbaaH Go.Proofs.YtliablhnkoghbaaW.PrintWords Go.Proofs.YtliablhnkoghbaaW.PrintLast Go.Proofs.YtliablhnkoghbaaW.PrintMore
attribute [local go_sem] max2_int min2_int max_two min_two max_three min_three max_four min_four
set_option linter.unusedVariables false
set_option linter.unusedSimpArgs false
def tarrylaw08_few.l0 : Nat → List (S33) → List (S33) → Int → Int → Option ((List (S33)))
 | 0, _, _, _, _ => none
 | k + 1, x3, x10, x11, x12 => if x12 < x11 then (if 0 ≤ x12 then (if x12 < (x10.length : Int) then (if 0 ≤ (mn (((rd_T33 x10 x12).f0).size : Int) 18) then (if (mn (((rd_T33 x10 x12).f0).size : Int) 18) ≤ (((rd_T33 x10 x12).f0).size : Int) then (if x3.length < 2513169434916 then (tarrylaw08_few.l0 k (x3 ++ [(⟨((rd_T33 x10 x12).f0).extract 0 ((mn (((rd_T33 x10 x12).f0).size : Int) 18) : Int).toNat, (rd_T33 x10 x12).f1, (rd_T33 x10 x12).f2, (rd_T33 x10 x12).f3, (rd_T33 x10 x12).f4, (rd_T33 x10 x12).f5⟩ : S33)]) x10 x11 (wrap64 (x12 + 1))) else (none)) else (none)) else (none)) else (none)) else (none)) else (some x3)
def tarrylaw08_few.f (k : Nat) (l0 : List (S33)) : Option ((List (S33))) := if 0 ≤ (mn (l0.length : Int) 10) then (if (mn (l0.length : Int) 10) ≤ (l0.length : Int) then ((some (l0.take ((mn (l0.length : Int) 10) : Int).toNat : List (S33))).bind fun y101 => (tarrylaw08_few.l0 k ([] : List (S33)) y101 (y101.length : Int) 0)) else (none)) else (none)
theorem tarrylaw08_few.mono_l : ∀ k, (∀ y0 y1 y2 y3, LeO (tarrylaw08_few.l0 k y0 y1 y2 y3) (tarrylaw08_few.l0 (k + 1) y0 y1 y2 y3))
 | 0 => fun _ _ _ _ r h => by simp [tarrylaw08_few.l0] at h
 | k + 1 => by
  have ih0 := tarrylaw08_few.mono_l k
  ·intro y0 y1 y2 y3
   unfold tarrylaw08_few.l0
   repeat' first
   | (with_reducible exact ih0 _ _ _ _)
   | (with_reducible exact LeO.refl _)
   | (with_reducible exact LeO.none _)
   | (with_reducible refine LeO.ite ?_ ?_)
   | (with_reducible refine LeO.bind ?_ (fun _ => ?_))
   | exact ih0 _ _ _ _
   | exact LeO.none _
   | refine LeO.ite ?_ ?_
   | refine LeO.bind ?_ (fun _ => ?_)
theorem tarrylaw08_few.mono : ∀ a0 k, LeO (tarrylaw08_few.f k a0) (tarrylaw08_few.f (k + 1) a0) := by
 intro a0 k
 have ih0 := tarrylaw08_few.mono_l k
 unfold tarrylaw08_few.f
 repeat' first
   | (with_reducible exact ih0 _ _ _ _)
   | (with_reducible exact LeO.refl _)
   | (with_reducible exact LeO.none _)
   | (with_reducible refine LeO.ite ?_ ?_)
   | (with_reducible refine LeO.bind ?_ (fun _ => ?_))
   | exact ih0 _ _ _ _
   | exact LeO.none _
   | refine LeO.ite ?_ ?_
   | refine LeO.bind ?_ (fun _ => ?_)
set_option maxHeartbeats 8000000 in
set_option maxRecDepth 100000 in
theorem tarrylaw08_few.calls (k : Nat) (A0 : Option Addr) (c0 : Nat) (l0 : List (S33)) (r : List (S33)) (w : World) (hr0 : Kd.C k33 w A0 l0.length l0) (hc0 : l0.length ≤ c0) (h : tarrylaw08_few.f k l0 = some r) :
  Calls Try.prog 6 #[.slice A0 l0.length c0] w fun e w' => ∃ v0_ : Value, e = .returned (v0_) ∧ Kd.R k33 33 w' w.heap.size (fun _ => True) v0_ r ∧ Below w.heap.size w w' := by
 have hu33 := Try.underlying33
 have HR0 := Aside0.mk hr0
 have HC0 := Aside0.mk hc0
 clear hr0 hc0
 have HB := Aside0.mk (Below.refl w.heap.size w)
 have H : (if 0 ≤ (mn (l0.length : Int) 10) then (if (mn (l0.length : Int) 10) ≤ (l0.length : Int) then ((some (l0.take ((mn (l0.length : Int) 10) : Int).toNat : List (S33))).bind fun y101 => (tarrylaw08_few.l0 k ([] : List (S33)) y101 (y101.length : Int) 0)) else (none)) else (none)) = some r := h
 clear h
 obtain ⟨ji2, hji2⟩ : ∃ j_ : Int, (mn (l0.length : Int) 10) = j_ := ⟨_, rfl⟩
 replace H : (if 0 ≤ (ji2) then (if (ji2) ≤ (l0.length : Int) then ((some (l0.take ((ji2) : Int).toNat : List (S33))).bind fun y101 => (tarrylaw08_few.l0 k ([] : List (S33)) y101 (y101.length : Int) 0)) else (none)) else (none)) = some r := by first | (rw [hji2] at H; exact H) | (simp only [hji2] at H ⊢; exact H)
 (try (have hji2h : ji2 ≤ 10 := by (rw [← hji2]; unfold mn; (repeat' split) <;> omega)))
 (try (have hji2g : ji2 ≤ 64 := by omega))
 (try (have hji2l : 0 ≤ ji2 := by (rw [← hji2]; unfold mn; (repeat' split) <;> omega)))
 (try (have hji2m : 0 ≤ ji2 := by omega))
 have hji2_ : (if 10 < (l0.length : Int) then 10 else (l0.length : Int)) = ji2 := hji2
 by_cases c3 : 0 ≤ (ji2)
 ·rw [if_pos c3] at H
  have c3b0 := eq_true c3
  have c3b1 : decide (0 ≤ (ji2)) = true := decide_eq_true c3
  clear c3
  by_cases c4 : (ji2) ≤ (l0.length : Int)
  ·rw [if_pos c4] at H
   have c4b0 := eq_true c4
   have c4b1 : decide ((ji2) ≤ (l0.length : Int)) = true := decide_eq_true c4
   clear c4
   obtain ⟨y101, hy101⟩ : ∃ y_ : List (S33), y_ = (l0.take ((ji2) : Int).toNat) := ⟨_, rfl⟩
   replace H : (tarrylaw08_few.l0 k ([] : List (S33)) y101 (y101.length : Int) 0) = some r := by first | (rw [hy101]; with_reducible exact H) | (have H2_ := (Option.bind_some _ _).symm.trans H; rw [hy101]; with_reducible exact H2_) | (have H2_ := (Option.bind_some _ _).symm.trans H; with_reducible exact H2_) | with_reducible exact H | (rw [hy101]; exact H) | exact H
   have Ny101 := Aside0.mk hy101
   clear hy101
   have H' := Aside0.mk H
   clear H
   have q5 : ((ji2) : Int) ≤ ((l0.length : Int) : Int) := of_decide_eq_true (by first | (with_reducible assumption) | assumption)
   obtain ⟨i05, hi05, _, hsz5, _⟩ := info_parts info33
   have hroom5 : l0.length ≤ c0 := HC0.out
   have hC5 : Kd.C k33 _ A0 l0.length l0 := HR0.out
   have hcut5 := cut_to (P := Try.prog) 22 33 .i64 Try.underlying22 hi05 A0 l0.length c0 (ji2) (of_decide_eq_true (by first | (with_reducible assumption) | assumption)) q5 hroom5
   have hr5 := Kd.C_take (m := ((ji2) : Int).toNat) hC5 (by omega)
   have hy5 : y101.length = ((ji2) : Int).toNat := (by rw [Ny101.out, List.length_take]; omega)
   rw [← Ny101.out] at hr5
   rw [← hy5] at hcut5
   have HR104 := Aside0.mk hr5
   have HC104 := Aside0.mk (show y101.length ≤ c0 from by omega)
   clear hr5 hC5 hroom5 hi05 hsz5
   have KY5 := Aside0.mk hy5
   clear hy5
   replace q5 := eq_true q5
   go_enter Try.func6, Try.ntmps6
   go_wp2
   go_loopg [3, 12] k (fun kq v3 v12 w' => ∃ (x3_1 : List (S33)) (x12_1 : Int), v12 = .int .i64 x12_1 ∧ Aside0 (tarrylaw08_few.l0 kq x3_1 y101 (y101.length : Int) x12_1 = some r) ∧ Aside0 (kq ≤ k) ∧ Aside0 (Kd.R k33 33 w' w.heap.size (fun _ => True) v3 x3_1) ∧ Aside0 (Below w.heap.size w w'))
   case atStart => exact ⟨(([] : List (S33))), (0), (by first | rfl | (simp; done) | (simp [*]; done)), H', ⟨Nat.le_refl _⟩, ⟨by first | exact Kd.R_nil _ _ _ _ _ | exact Kd.N_nil _ _ _ _ _ | exact Kd.V_nil _ _ _ _ _ | exact Kd.Q_nil _ _ _ _ _ | exact Kd.S_nil _ _ _ _ _⟩, ⟨by repeat (first | (with_reducible first | exact HB.out | apply below_alloc | apply pw_below_drewN | apply below_drew1) | exact HB.out)⟩⟩
   case round =>
    clear H'
    try clear p2
    try clear c3
    try clear c3b0
    try clear c3b1
    try clear c4
    try clear c4b0
    try clear c4b1
    try clear q5
    try clear q5
    obtain ⟨x3_1, x12_1, rfl, HA, HK1, HO_3, HB⟩ := hrel
    cases gk with
    | zero => exact absurd HA.out (by simp [tarrylaw08_few.l0])
    | succ k1 =>
     have H := HA.out
     clear HA
     simp only [tarrylaw08_few.l0] at H
     by_cases c6 : x12_1 < (y101.length : Int)
     ·rw [if_pos c6] at H
      have c6b0 : decide (x12_1 < (y101.length : Int)) = true := decide_eq_true c6
      clear c6
      by_cases c7 : 0 ≤ x12_1
      ·rw [if_pos c7] at H
       have c7b0 : decide (0 ≤ x12_1) = true := decide_eq_true c7
       clear c7
       by_cases c8 : x12_1 < (y101.length : Int)
       ·rw [if_pos c8] at H
        have c8b0 : decide (x12_1 < (y101.length : Int)) = true := decide_eq_true c8
        clear c8
        obtain ⟨ji9, hji9⟩ : ∃ j_ : Int, (mn (((rd_T33 y101 x12_1).f0).size : Int) 18) = j_ := ⟨_, rfl⟩
        replace H : (if 0 ≤ (ji9) then (if (ji9) ≤ (((rd_T33 y101 x12_1).f0).size : Int) then (if x3_1.length < 2513169434916 then (tarrylaw08_few.l0 k1 (x3_1 ++ [(⟨((rd_T33 y101 x12_1).f0).extract 0 ((ji9) : Int).toNat, (rd_T33 y101 x12_1).f1, (rd_T33 y101 x12_1).f2, (rd_T33 y101 x12_1).f3, (rd_T33 y101 x12_1).f4, (rd_T33 y101 x12_1).f5⟩ : S33)]) y101 (y101.length : Int) (wrap64 (x12_1 + 1))) else (none)) else (none)) else (none)) = some r := by first | (rw [hji9] at H; exact H) | (simp only [hji9] at H ⊢; exact H)
        have hji9_ : (if 18 < (((rd_T33 y101 x12_1).f0).size : Int) then 18 else (((rd_T33 y101 x12_1).f0).size : Int)) = ji9 := hji9
        by_cases c10 : 0 ≤ (ji9)
        ·rw [if_pos c10] at H
         have c10b0 := eq_true c10
         have c10b1 : decide (0 ≤ (ji9)) = true := decide_eq_true c10
         clear c10
         by_cases c11 : (ji9) ≤ (((rd_T33 y101 x12_1).f0).size : Int)
         ·rw [if_pos c11] at H
          have c11b0 := eq_true c11
          have c11b1 : decide ((ji9) ≤ (((rd_T33 y101 x12_1).f0).size : Int)) = true := decide_eq_true c11
          clear c11
          by_cases c12 : x3_1.length < 2513169434916
          ·rw [if_pos c12] at H
           have LMc12 := Aside0.mk c12
           clear c12
           obtain ⟨y107, hy107⟩ : ∃ y_ : List (S33), y_ = (x3_1 ++ [(⟨((rd_T33 y101 x12_1).f0).extract 0 ((ji9) : Int).toNat, (rd_T33 y101 x12_1).f1, (rd_T33 y101 x12_1).f2, (rd_T33 y101 x12_1).f3, (rd_T33 y101 x12_1).f4, (rd_T33 y101 x12_1).f5⟩ : S33)]) := ⟨_, rfl⟩
           replace H : (tarrylaw08_few.l0 k1 y107 y101 (y101.length : Int) (wrap64 (x12_1 + 1))) = some r := by first | (rw [hy107]; with_reducible exact H) | (have H2_ := (Option.bind_some _ _).symm.trans H; rw [hy107]; with_reducible exact H2_) | (have H2_ := (Option.bind_some _ _).symm.trans H; with_reducible exact H2_) | with_reducible exact H | (rw [hy107]; exact H) | exact H
           have Ny107 := Aside0.mk hy107
           clear hy107
           have H' := Aside0.mk H
           clear H
           have p105 : 0 ≤ (x12_1 : Int) := of_decide_eq_true (by first | (with_reducible assumption) | assumption)
           have q105 : x12_1 < (y101.length : Int) := of_decide_eq_true (by first | (with_reducible assumption) | assumption)
           obtain ⟨ad105, e105, hx105_0, hx105_1, hx105_2, hx105_3, hx105_4, hx105_5⟩ := at_T33 HR104.out x12_1 p105 q105
           cases e105
           replace hx105_0 := (HB.out.cell (World.block_lt_of_cell? w _ hx105_0)).trans hx105_0
           replace hx105_1 := (HB.out.cell (World.block_lt_of_cell? w _ hx105_1)).trans hx105_1
           replace hx105_2 := (HB.out.cell (World.block_lt_of_cell? w _ hx105_2)).trans hx105_2
           replace hx105_3 := (HB.out.cell (World.block_lt_of_cell? w _ hx105_3)).trans hx105_3
           replace hx105_4 := (HB.out.cell (World.block_lt_of_cell? w _ hx105_4)).trans hx105_4
           replace hx105_5 := (HB.out.cell (World.block_lt_of_cell? w _ hx105_5)).trans hx105_5
           replace p105 := eq_true p105
           replace q105 := eq_true q105
           go_wp2_with (first | ((with_reducible refine gate_dst (N := 5) rfl ?_); refine box_event ?hg (N := 5) ?hd (cs := #[.string (⟨#[]⟩ : ByteArray), .int .i64 0, .int .i64 0, .int .i64 0, .int .i64 0, .int .i64 0]) (t := 33) ?hr ?_; (case hd => rfl); (case hg => rfl); (case hr => first | (go_simp; done) | (go_simp; rfl)); intro gb106 hg w13 hbox hb; have n0_ := Aside0.mk (Kd.R_below (Kd.R_elderB (by (with_reducible repeat (first | apply Kd.R_alloc | apply Kd.R_drewN | apply Kd.R_drew)); exact HO_3.out) gb106 (Nat.le_of_eq hg.symm)) hb); have n1_ := Aside0.mk (below_step (by repeat (first | (with_reducible first | exact HB.out | apply below_alloc | apply pw_below_drewN | apply below_drew1) | exact HB.out)) hb); have n2_ := Aside0.mk (hbox); have n3_ := Aside0.mk ((by rw [hg]; exact (below_size (by repeat (first | (with_reducible first | exact HB.out | apply below_alloc | apply pw_below_drewN | apply below_drew1) | exact HB.out))) : w.heap.size ≤ gb106)); have n4_ := Aside0.mk ((by rw [hg]; exact (below_size (by repeat (first | (with_reducible first | exact HB.out | apply below_alloc | apply pw_below_drewN | apply below_drew1) | exact HB.out))) : w.heap.size ≤ gb106)); clear HO_3; clear HB; have HO_3 := n0_; have HB := n1_; have BK106 := n2_; have GW106 := n3_; have GE106 := n4_; clear n0_ n1_ n2_ n3_ n4_; clear hb hbox hg; have hcz14_0 : w13.cell? ⟨gb106, 0, none⟩ = some (.string (⟨#[]⟩ : ByteArray)) := (blk_cell BK106.out 0).trans rfl; have hcz14_1 : w13.cell? ⟨gb106, 1, none⟩ = some (.int .i64 0) := (blk_cell BK106.out 1).trans rfl; have hcz14_2 : w13.cell? ⟨gb106, 2, none⟩ = some (.int .i64 0) := (blk_cell BK106.out 2).trans rfl; have hcz14_3 : w13.cell? ⟨gb106, 3, none⟩ = some (.int .i64 0) := (blk_cell BK106.out 3).trans rfl; have hcz14_4 : w13.cell? ⟨gb106, 4, none⟩ = some (.int .i64 0) := (blk_cell BK106.out 4).trans rfl; have hcz14_5 : w13.cell? ⟨gb106, 5, none⟩ = some (.int .i64 0) := (blk_cell BK106.out 5).trans rfl; have hfz14_0 := blk_frozen BK106.out 0; have hfz14_1 := blk_frozen BK106.out 1; have hfz14_2 := blk_frozen BK106.out 2; have hfz14_3 := blk_frozen BK106.out 3; have hfz14_4 := blk_frozen BK106.out 4; have hfz14_5 := blk_frozen BK106.out 5) | ((with_reducible refine gate_builtin (b := .append) (xs := #[.tmp 24, .tmp 26]) rfl ?_); at_builtin; refine Kd.R_append k33 (w0 := w) w.heap.size rfl (.tmp 24) (.tmp 26) 22 33 (.agg #[(.string ⟨#[]⟩), (.int .i64 0), (.int .i64 0), (.int .i64 0), (.int .i64 0), (.int .i64 0)]) 56 rfl Try.underlying22 info33 rfl (by decide) (by omega) u3 x3_1 (⟨((rd_T33 y101 x12_1).f0).extract 0 ((ji9) : Int).toNat, (rd_T33 y101 x12_1).f1, (rd_T33 y101 x12_1).f2, (rd_T33 y101 x12_1).f3, (rd_T33 y101 x12_1).f4, (rd_T33 y101 x12_1).f5⟩ : S33) [.string (((rd_T33 y101 x12_1).f0).extract 0 ((ji9) : Int).toNat), .int .i64 ((rd_T33 y101 x12_1).f1), .int .i64 ((rd_T33 y101 x12_1).f2), .int .i64 ((rd_T33 y101 x12_1).f3), .int .i64 ((rd_T33 y101 x12_1).f4), .int .i64 ((rd_T33 y101 x12_1).f5)] (fun k_ => k_ ≠ gb106) (fun _ => False) rfl (by first | (go_simp; done) | (go_simp; rfl)) ?aP (fun _ hk => hk.elim) ?aF ?aO ?aB ?aS ?aL ?_; (case aP => exact k33_mkM _ _ _ (⟨((rd_T33 y101 x12_1).f0).extract 0 ((ji9) : Int).toNat, (rd_T33 y101 x12_1).f1, (rd_T33 y101 x12_1).f2, (rd_T33 y101 x12_1).f3, (rd_T33 y101 x12_1).f4, (rd_T33 y101 x12_1).f5⟩ : S33)); (case aB => exact (by repeat (first | (with_reducible first | exact HB.out | apply below_alloc | apply pw_below_drewN | apply below_drew1 | refine below_set ?_ GE106.out) | exact HB.out))); (case aF => exact (fun k_ hk => Kd.freshB (g := gb106) (o := .cells #[.string (((rd_T33 y101 x12_1).f0).extract 0 ((ji9) : Int).toNat), .int .i64 ((rd_T33 y101 x12_1).f1), .int .i64 ((rd_T33 y101 x12_1).f2), .int .i64 ((rd_T33 y101 x12_1).f3), .int .i64 ((rd_T33 y101 x12_1).f4), .int .i64 ((rd_T33 y101 x12_1).f5)] 33 (0, 0)) (by (with_reducible repeat (first | refine blk_drewN ?_ _ | refine blk_drew ?_ | refine blk_alloc ?_ _)); refine blk_put (cs := #[.string ((rd_T33 y101 x12_1).f0), .int .i64 ((rd_T33 y101 x12_1).f1), .int .i64 ((rd_T33 y101 x12_1).f2), .int .i64 ((rd_T33 y101 x12_1).f3), .int .i64 ((rd_T33 y101 x12_1).f4), .int .i64 ((rd_T33 y101 x12_1).f5)]) ?_ 0 _ rfl; (with_reducible repeat (first | refine blk_drewN ?_ _ | refine blk_drew ?_ | refine blk_alloc ?_ _)); refine blk_put (cs := #[.string ((rd_T33 y101 x12_1).f0), .int .i64 ((rd_T33 y101 x12_1).f1), .int .i64 ((rd_T33 y101 x12_1).f2), .int .i64 ((rd_T33 y101 x12_1).f3), .int .i64 ((rd_T33 y101 x12_1).f4), .int .i64 0]) ?_ 5 _ rfl; (with_reducible repeat (first | refine blk_drewN ?_ _ | refine blk_drew ?_ | refine blk_alloc ?_ _)); refine blk_put (cs := #[.string ((rd_T33 y101 x12_1).f0), .int .i64 ((rd_T33 y101 x12_1).f1), .int .i64 ((rd_T33 y101 x12_1).f2), .int .i64 ((rd_T33 y101 x12_1).f3), .int .i64 0, .int .i64 0]) ?_ 4 _ rfl; (with_reducible repeat (first | refine blk_drewN ?_ _ | refine blk_drew ?_ | refine blk_alloc ?_ _)); refine blk_put (cs := #[.string ((rd_T33 y101 x12_1).f0), .int .i64 ((rd_T33 y101 x12_1).f1), .int .i64 ((rd_T33 y101 x12_1).f2), .int .i64 0, .int .i64 0, .int .i64 0]) ?_ 3 _ rfl; (with_reducible repeat (first | refine blk_drewN ?_ _ | refine blk_drew ?_ | refine blk_alloc ?_ _)); refine blk_put (cs := #[.string ((rd_T33 y101 x12_1).f0), .int .i64 ((rd_T33 y101 x12_1).f1), .int .i64 0, .int .i64 0, .int .i64 0, .int .i64 0]) ?_ 2 _ rfl; (with_reducible repeat (first | refine blk_drewN ?_ _ | refine blk_drew ?_ | refine blk_alloc ?_ _)); refine blk_put (cs := #[.string ((rd_T33 y101 x12_1).f0), .int .i64 0, .int .i64 0, .int .i64 0, .int .i64 0, .int .i64 0]) ?_ 1 _ rfl; (with_reducible repeat (first | refine blk_drewN ?_ _ | refine blk_drew ?_ | refine blk_alloc ?_ _)); refine blk_put (cs := #[.string (⟨#[]⟩ : ByteArray), .int .i64 0, .int .i64 0, .int .i64 0, .int .i64 0, .int .i64 0]) ?_ 0 _ rfl; (with_reducible repeat (first | refine blk_drewN ?_ _ | refine blk_drew ?_ | refine blk_alloc ?_ _)); exact BK106.out) k_ hk)); (case aO => exact (by (with_reducible repeat (first | apply Kd.R_alloc | apply Kd.R_drewN | apply Kd.R_drew)); exact Kd.R_mono (Kd.R_far (p := ⟨gb106, 0, none⟩) (Kd.R_far (p := ⟨gb106, 5, none⟩) (Kd.R_far (p := ⟨gb106, 4, none⟩) (Kd.R_far (p := ⟨gb106, 3, none⟩) (Kd.R_far (p := ⟨gb106, 2, none⟩) (Kd.R_far (p := ⟨gb106, 1, none⟩) (Kd.R_far (p := ⟨gb106, 0, none⟩) (Kd.R_mono HO_3.out (fun k_ hk => (⟨hk, hk.2⟩ : _ ∧ k_ ≠ gb106))) (fun _ hk => hk.2) (.string ((rd_T33 y101 x12_1).f0))) (fun _ hk => hk.2) (.int .i64 ((rd_T33 y101 x12_1).f1))) (fun _ hk => hk.2) (.int .i64 ((rd_T33 y101 x12_1).f2))) (fun _ hk => hk.2) (.int .i64 ((rd_T33 y101 x12_1).f3))) (fun _ hk => hk.2) (.int .i64 ((rd_T33 y101 x12_1).f4))) (fun _ hk => hk.2) (.int .i64 ((rd_T33 y101 x12_1).f5))) (fun _ hk => hk.2) (.string (((rd_T33 y101 x12_1).f0).extract 0 ((ji9) : Int).toNat))) (fun _ hk => hk.1.2))); (case aS => exact (below_size (by repeat (first | (with_reducible first | exact HB.out | apply below_alloc | apply pw_below_drewN | apply below_drew1 | refine below_set ?_ GE106.out) | exact HB.out)))); (case aL => have := LMc12.out; omega); intro v108 w15 ho hb hg hat; rw [← Ny107.out] at ho; have n0_ := Aside0.mk (blk_grown (g := gb106) (o := .cells #[.string (((rd_T33 y101 x12_1).f0).extract 0 ((ji9) : Int).toNat), .int .i64 ((rd_T33 y101 x12_1).f1), .int .i64 ((rd_T33 y101 x12_1).f2), .int .i64 ((rd_T33 y101 x12_1).f3), .int .i64 ((rd_T33 y101 x12_1).f4), .int .i64 ((rd_T33 y101 x12_1).f5)] 33 (0, 0)) (by (with_reducible repeat (first | refine blk_drewN ?_ _ | refine blk_drew ?_ | refine blk_alloc ?_ _)); refine blk_put (cs := #[.string ((rd_T33 y101 x12_1).f0), .int .i64 ((rd_T33 y101 x12_1).f1), .int .i64 ((rd_T33 y101 x12_1).f2), .int .i64 ((rd_T33 y101 x12_1).f3), .int .i64 ((rd_T33 y101 x12_1).f4), .int .i64 ((rd_T33 y101 x12_1).f5)]) ?_ 0 _ rfl; (with_reducible repeat (first | refine blk_drewN ?_ _ | refine blk_drew ?_ | refine blk_alloc ?_ _)); refine blk_put (cs := #[.string ((rd_T33 y101 x12_1).f0), .int .i64 ((rd_T33 y101 x12_1).f1), .int .i64 ((rd_T33 y101 x12_1).f2), .int .i64 ((rd_T33 y101 x12_1).f3), .int .i64 ((rd_T33 y101 x12_1).f4), .int .i64 0]) ?_ 5 _ rfl; (with_reducible repeat (first | refine blk_drewN ?_ _ | refine blk_drew ?_ | refine blk_alloc ?_ _)); refine blk_put (cs := #[.string ((rd_T33 y101 x12_1).f0), .int .i64 ((rd_T33 y101 x12_1).f1), .int .i64 ((rd_T33 y101 x12_1).f2), .int .i64 ((rd_T33 y101 x12_1).f3), .int .i64 0, .int .i64 0]) ?_ 4 _ rfl; (with_reducible repeat (first | refine blk_drewN ?_ _ | refine blk_drew ?_ | refine blk_alloc ?_ _)); refine blk_put (cs := #[.string ((rd_T33 y101 x12_1).f0), .int .i64 ((rd_T33 y101 x12_1).f1), .int .i64 ((rd_T33 y101 x12_1).f2), .int .i64 0, .int .i64 0, .int .i64 0]) ?_ 3 _ rfl; (with_reducible repeat (first | refine blk_drewN ?_ _ | refine blk_drew ?_ | refine blk_alloc ?_ _)); refine blk_put (cs := #[.string ((rd_T33 y101 x12_1).f0), .int .i64 ((rd_T33 y101 x12_1).f1), .int .i64 0, .int .i64 0, .int .i64 0, .int .i64 0]) ?_ 2 _ rfl; (with_reducible repeat (first | refine blk_drewN ?_ _ | refine blk_drew ?_ | refine blk_alloc ?_ _)); refine blk_put (cs := #[.string ((rd_T33 y101 x12_1).f0), .int .i64 0, .int .i64 0, .int .i64 0, .int .i64 0, .int .i64 0]) ?_ 1 _ rfl; (with_reducible repeat (first | refine blk_drewN ?_ _ | refine blk_drew ?_ | refine blk_alloc ?_ _)); refine blk_put (cs := #[.string (⟨#[]⟩ : ByteArray), .int .i64 0, .int .i64 0, .int .i64 0, .int .i64 0, .int .i64 0]) ?_ 0 _ rfl; (with_reducible repeat (first | refine blk_drewN ?_ _ | refine blk_drew ?_ | refine blk_alloc ?_ _)); exact BK106.out) hg (Kd.R_away HO_3.out (fun _ hk => hk.2))); have n1_ := Aside0.mk (hb); have n2_ := Aside0.mk (ho); clear BK106; clear HB; clear HO_3; have BK106 := n0_; have HB := n1_; have HO109 := n2_; clear n0_ n1_ n2_; clear ho hb hg hat))
           go_roundg k1
           case measure => have := HK1.out; omega
           case rel => exact ⟨(y107), (wrap64 (x12_1 + 1)), (by first | rfl | (simp; done) | (simp [*]; done)), H', ⟨by have := HK1.out; omega⟩, ⟨by (with_reducible repeat (first | apply Kd.R_alloc | apply Kd.R_drewN | apply Kd.R_drew)); exact Kd.R_mono HO109.out (fun _ hk => trivial)⟩, ⟨by repeat (first | (with_reducible first | exact HB.out | apply below_alloc | apply pw_below_drewN | apply below_drew1 | refine below_set ?_ GE106.out) | exact HB.out)⟩⟩
          ·rw [if_neg c12] at H
           exact absurd H (by simp)
         ·rw [if_neg c11] at H
          exact absurd H (by simp)
        ·rw [if_neg c10] at H
         exact absurd H (by simp)
       ·rw [if_neg c8] at H
        exact absurd H (by simp)
      ·rw [if_neg c7] at H
       exact absurd H (by simp)
     ·rw [if_neg c6] at H
      have c6b0 : decide (x12_1 < (y101.length : Int)) = false := decide_eq_false c6
      clear c6
      obtain rfl := Option.some.inj H
      go_wp2
      go_ret
      exact ⟨_, by first | rfl | (simp [errW_none, errW_some] <;> rfl) | (simp only [← hji2]; first | rfl | (simp [errW_none, errW_some] <;> rfl)) | (simp [*, errW_none, errW_some] <;> rfl), by (with_reducible repeat (first | apply Kd.R_alloc | apply Kd.R_drewN | apply Kd.R_drew)); exact HO_3.out, by repeat (first | (with_reducible first | exact HB.out | apply below_alloc | apply pw_below_drewN | apply below_drew1) | exact HB.out)⟩
  ·rw [if_neg c4] at H
   exact absurd H (by simp)
 ·rw [if_neg c3] at H
  exact absurd H (by simp)
end Go.Proofs.Ytliablhnkoghbaa.PStock
namespace Go.Proofs.Ytliablhnkoghbaa.PStock
open Go.RowKit Go.Proofs.YtliablhnkoghbaaH Go.Proofs.YtliablhnkoghbaaW.PrintWords Go.Proofs.YtliablhnkoghbaaW.PrintLast Go.Proofs.YtliablhnkoghbaaW.PrintMore
attribute [local go_sem] max2_int min2_int max_two min_two max_three min_three max_four min_four
set_option linter.unusedVariables false
set_option linter.unusedSimpArgs false
theorem eqA33 (d : Nat) (w : World) (x0 y0 : ByteArray) (x1 y1 : Int) (x2 y2 : Int) (x3 y3 : Int) (x4 y4 : Int) (x5 y5 : Int) :
  (Op.equalIn (d + 2) 33 (.agg #[.string x0, .int .i64 x1, .int .i64 x2, .int .i64 x3, .int .i64 x4, .int .i64 x5]) (.agg #[.string y0, .int .i64 y1, .int .i64 y2, .int .i64 y3, .int .i64 y4, .int .i64 y5])).run Try.prog w = .ok (x0.toList == y0.toList && (x1 == y1 && (x2 == y2 && (x3 == y3 && (x4 == y4 && (x5 == y5)))))) w := by
 refine eqA_of Try.underlying33 (by kernel_rfl) ?_
 refine eqf_cons (by rfl) (by go_simp; rfl) (by go_simp; rfl) (by go_simp) ?_
 refine eqf_cons (by rfl) (by go_simp; rfl) (by go_simp; rfl) (by go_simp) ?_
 refine eqf_cons (by rfl) (by go_simp; rfl) (by go_simp; rfl) (by go_simp) ?_
 refine eqf_cons (by rfl) (by go_simp; rfl) (by go_simp; rfl) (by go_simp) ?_
 refine eqf_cons (by rfl) (by go_simp; rfl) (by go_simp; rfl) (by go_simp) ?_
 exact eqf_last (by rfl) (by go_simp; rfl) (by go_simp; rfl) (by go_simp)
end Go.Proofs.Ytliablhnkoghbaa.PStock
namespace Go.Proofs.Ytliablhnkoghbaa.PStock
open Go.RowKit Go.Proofs.YtliablhnkoghbaaH Go.Proofs.YtliablhnkoghbaaW.PrintWords Go.Proofs.YtliablhnkoghbaaW.PrintLast Go.Proofs.YtliablhnkoghbaaW.PrintMore
attribute [local go_sem] max2_int min2_int max_two min_two max_three min_three max_four min_four
set_option linter.unusedVariables false
set_option linter.unusedSimpArgs false
attribute [local go_sem high] eqA33
def tarrylaw08_alive.f (k : Nat)  : Option (Bool) := (stock_Receive.f k ([] : List (S33)) (⟨#[99, 117, 112]⟩ : ByteArray) 5).bind fun bt158 => ((stock_Hold.f bt158.1 (⟨#[99, 117, 112]⟩ : ByteArray) 2).bind fun bt162 => (if bt158.2 = 0 then (if bt162.2 = 0 then (if (bt162.1.length : Int) = 1 then (if 0 < (bt162.1.length : Int) then (some ((((rd_T33 bt162.1 0).f0).toList) == ([99, 117, 112] : List UInt8) && (((rd_T33 bt162.1 0).f1) == 5 && (((rd_T33 bt162.1 0).f2) == 3 && (((rd_T33 bt162.1 0).f3) == 2 && (((rd_T33 bt162.1 0).f4) == 0 && (((rd_T33 bt162.1 0).f5) == 0))))))) else (none)) else (some false)) else (some false)) else (some false)))
theorem tarrylaw08_alive.mono : ∀ k, LeO (tarrylaw08_alive.f k ) (tarrylaw08_alive.f (k + 1) ) := by
 intro  k
 unfold tarrylaw08_alive.f
 repeat' first
   | (with_reducible exact stock_Receive.mono _ _ _ _)
   | (with_reducible exact LeO.refl _)
   | (with_reducible exact LeO.none _)
   | (with_reducible refine LeO.ite ?_ ?_)
   | (with_reducible refine LeO.bind ?_ (fun _ => ?_))
   | exact stock_Receive.mono _ _ _ _
   | exact LeO.none _
   | refine LeO.ite ?_ ?_
   | refine LeO.bind ?_ (fun _ => ?_)
set_option maxHeartbeats 8000000 in
set_option maxRecDepth 100000 in
theorem tarrylaw08_alive.calls (k : Nat)  (r : Bool) (w : World) (h : tarrylaw08_alive.f k  = some r) :
  Calls Try.prog 7 #[] w fun e w' => e = .returned (.bool r) ∧ Below w.heap.size w w' := by
 have hu33 := Try.underlying33
 have HB := Aside0.mk (Below.refl w.heap.size w)
 have H : ((stock_Receive.f k ([] : List (S33)) (⟨#[99, 117, 112]⟩ : ByteArray) 5).bind fun bt158 => ((stock_Hold.f bt158.1 (⟨#[99, 117, 112]⟩ : ByteArray) 2).bind fun bt162 => (if bt158.2 = 0 then (if bt162.2 = 0 then (if (bt162.1.length : Int) = 1 then (if 0 < (bt162.1.length : Int) then (some ((((rd_T33 bt162.1 0).f0).toList) == ([99, 117, 112] : List UInt8) && (((rd_T33 bt162.1 0).f1) == 5 && (((rd_T33 bt162.1 0).f2) == 3 && (((rd_T33 bt162.1 0).f3) == 2 && (((rd_T33 bt162.1 0).f4) == 0 && (((rd_T33 bt162.1 0).f5) == 0))))))) else (none)) else (some false)) else (some false)) else (some false)))) = some r := h
 clear h
 replace H := Option.bind_eq_some_iff.mp H
 obtain ⟨⟨t158, t159⟩, A10, H⟩ := H
 replace H : ((stock_Hold.f t158 (⟨#[99, 117, 112]⟩ : ByteArray) 2).bind fun bt162 => (if t159 = 0 then (if bt162.2 = 0 then (if (bt162.1.length : Int) = 1 then (if 0 < (bt162.1.length : Int) then (some ((((rd_T33 bt162.1 0).f0).toList) == ([99, 117, 112] : List UInt8) && (((rd_T33 bt162.1 0).f1) == 5 && (((rd_T33 bt162.1 0).f2) == 3 && (((rd_T33 bt162.1 0).f3) == 2 && (((rd_T33 bt162.1 0).f4) == 0 && (((rd_T33 bt162.1 0).f5) == 0))))))) else (none)) else (some false)) else (some false)) else (some false))) = some r := H
 have A1 := Aside0.mk A10
 clear A10
 replace H := Option.bind_eq_some_iff.mp H
 obtain ⟨⟨t162, t163⟩, A20, H⟩ := H
 replace H : (if t159 = 0 then (if t163 = 0 then (if (t162.length : Int) = 1 then (if 0 < (t162.length : Int) then (some ((((rd_T33 t162 0).f0).toList) == ([99, 117, 112] : List UInt8) && (((rd_T33 t162 0).f1) == 5 && (((rd_T33 t162 0).f2) == 3 && (((rd_T33 t162 0).f3) == 2 && (((rd_T33 t162 0).f4) == 0 && (((rd_T33 t162 0).f5) == 0))))))) else (none)) else (some false)) else (some false)) else (some false)) = some r := H
 have A2 := Aside0.mk A20
 clear A20
 by_cases c3 : t159 = 0
 ·rw [if_pos c3] at H
  have c3b0 : (t159 == 0) = true := beq_iff_eq.mpr c3
  have c3b1 : (t159 != 0) = false := bne_eq_false_iff_eq.mpr c3
  clear c3
  by_cases c4 : t163 = 0
  ·rw [if_pos c4] at H
   have c4b0 : (t163 == 0) = true := beq_iff_eq.mpr c4
   have c4b1 : (t163 != 0) = false := bne_eq_false_iff_eq.mpr c4
   clear c4
   by_cases c5 : (t162.length : Int) = 1
   ·rw [if_pos c5] at H
    have c5b0 : ((t162.length : Int) == 1) = true := beq_iff_eq.mpr c5
    have c5b1 : ((t162.length : Int) != 1) = false := bne_eq_false_iff_eq.mpr c5
    clear c5
    by_cases c6 : 0 < (t162.length : Int)
    ·rw [if_pos c6] at H
     have c6b0 : decide (0 < (t162.length : Int)) = true := decide_eq_true c6
     have c6b1 : decide (0 < t162.length) = true := decide_eq_true (by omega)
     clear c6
     obtain rfl := Option.some.inj H
     go_enter Try.func7, Try.ntmps7
     go_wp2_with (first | ((with_reducible refine gate_callee (f := 15) rfl ?_); refine goesL_ (some 5) rfl rfl Try.func15 (by kernel_rfl) rfl #[.slice none 0 0, .string (⟨#[99, 117, 112]⟩ : ByteArray), .int .i64 5] rfl (by (try simp only [List.map_toArray, List.map_cons, List.map_nil]); first | done | rfl | (simp only [List.length_drop, List.length_take]; rfl)) ?_; (refine (stock_Receive.calls k _ _ ([] : List (S33)) (⟨#[99, 117, 112]⟩ : ByteArray) 5 t158 t159 _ ?side1 ?side2 A1.out).mono ?_); (case side1 => exact Kd.C_nil _ _); (case side2 => exact Nat.le_refl _); rintro e w7 ⟨v160, rfl, ho0, hb⟩; refine ⟨_, rfl, ?_⟩; have n0_ := Aside0.mk (Kd.R_lower ho0 (below_size (by repeat (first | (with_reducible first | exact HB.out | apply below_alloc | apply pw_below_drewN | apply below_drew1) | exact HB.out)))); have n1_ := Aside0.mk (below_step (by repeat (first | (with_reducible first | exact HB.out | apply below_alloc | apply pw_below_drewN | apply below_drew1) | exact HB.out)) hb); clear HB; have HO161 := n0_; have HB := n1_; clear n0_ n1_; (try clear hb); (try clear hb2); (try clear hk); (try clear hi); (try clear ho0); obtain ⟨Ao8, co8, eo8⟩ := Kd.R_slice HO161.out; subst eo8) | ((with_reducible refine gate_callee (f := 11) rfl ?_); refine goesL_ (some 10) rfl rfl Try.func11 (by kernel_rfl) rfl #[.slice Ao8 t158.length co8, .string (⟨#[99, 117, 112]⟩ : ByteArray), .int .i64 2] rfl (by (try simp only [List.map_toArray, List.map_cons, List.map_nil]); first | done | rfl | (simp only [List.length_drop, List.length_take]; rfl)) ?_; (with_reducible refine (stock_Hold.calls _ _ t158 (⟨#[99, 117, 112]⟩ : ByteArray) 2 t162 t163 _ ?side1 ?side2 A2.out).mono ?_); (case side1 => repeat (first | exact (Kd.R_reads' HO161.out).2.2 | (with_reducible refine Kd.C_alloc ?_ _) | (with_reducible refine Kd.C_drewN ?_ _) | (with_reducible refine Kd.C_drew ?_))); (case side2 => exact (Kd.R_reads' HO161.out).2.1); rintro e w9 ⟨v164, rfl, ho0, hb⟩; refine ⟨_, rfl, ?_⟩; have n0_ := Aside0.mk (Kd.R_elder' (by (with_reducible repeat (first | apply Kd.R_alloc | apply Kd.R_drewN | apply Kd.R_drew)); exact HO161.out) (Kd.R_base ho0) hb); have n1_ := Aside0.mk (Kd.R_lower (Kd.R_new' ho0 (Kd.R_lt (by (with_reducible repeat (first | apply Kd.R_alloc | apply Kd.R_drewN | apply Kd.R_drew)); exact HO161.out))) (below_size (by repeat (first | (with_reducible first | exact HB.out | apply below_alloc | apply pw_below_drewN | apply below_drew1) | exact HB.out)))); have n2_ := Aside0.mk (below_step (by repeat (first | (with_reducible first | exact HB.out | apply below_alloc | apply pw_below_drewN | apply below_drew1) | exact HB.out)) hb); clear HO161; clear HB; have HO161 := n0_; have HO165 := n1_; have HB := n2_; clear n0_ n1_ n2_; (try clear hb); (try clear hb2); (try clear hk); (try clear hi); (try clear ho0); obtain ⟨Ao10, co10, eo10⟩ := Kd.R_slice HO165.out; subst eo10; have p166 : 0 ≤ (0 : Int) := (by omega); have q166 : 0 < (t162.length : Int) := of_decide_eq_true (by first | (with_reducible assumption) | assumption); obtain ⟨ad166, e166, hx166_0, hx166_1, hx166_2, hx166_3, hx166_4, hx166_5⟩ := at_T33 (Kd.R_reads' HO165.out).2.2 0 p166 q166; cases e166; have qi166 : (0 < t162.length) = True := eq_true (by omega); (try rw [show ((0 : Int)).toNat = 0 from rfl] at hx166_0); (try rw [show 0 * 6 = 0 from rfl] at hx166_0); (try rw [Addr.add_zero'] at hx166_0); (try rw [show ((0 : Int)).toNat = 0 from rfl] at hx166_1); (try rw [show 0 * 6 = 0 from rfl] at hx166_1); (try rw [Addr.add_zero'] at hx166_1); (try rw [show ((0 : Int)).toNat = 0 from rfl] at hx166_2); (try rw [show 0 * 6 = 0 from rfl] at hx166_2); (try rw [Addr.add_zero'] at hx166_2); (try rw [show ((0 : Int)).toNat = 0 from rfl] at hx166_3); (try rw [show 0 * 6 = 0 from rfl] at hx166_3); (try rw [Addr.add_zero'] at hx166_3); (try rw [show ((0 : Int)).toNat = 0 from rfl] at hx166_4); (try rw [show 0 * 6 = 0 from rfl] at hx166_4); (try rw [Addr.add_zero'] at hx166_4); (try rw [show ((0 : Int)).toNat = 0 from rfl] at hx166_5); (try rw [show 0 * 6 = 0 from rfl] at hx166_5); (try rw [Addr.add_zero'] at hx166_5); replace p166 := eq_true p166; replace q166 := eq_true q166))
     go_ret
     exact ⟨by first | rfl | (simp [errW_none, errW_some] <;> rfl) | (simp [*, errW_none, errW_some] <;> rfl), by repeat (first | (with_reducible first | exact HB.out | apply below_alloc | apply pw_below_drewN | apply below_drew1) | exact HB.out)⟩
    ·rw [if_neg c6] at H
     exact absurd H (by simp)
   ·rw [if_neg c5] at H
    have c5b0 : ((t162.length : Int) == 1) = false := beq_eq_false_iff_ne.mpr c5
    have c5b1 : ((t162.length : Int) != 1) = true := bne_iff_ne.mpr c5
    obtain rfl := Option.some.inj H
    go_enter Try.func7, Try.ntmps7
    go_wp2_with (first | ((with_reducible refine gate_callee (f := 15) rfl ?_); refine goesL_ (some 5) rfl rfl Try.func15 (by kernel_rfl) rfl #[.slice none 0 0, .string (⟨#[99, 117, 112]⟩ : ByteArray), .int .i64 5] rfl (by (try simp only [List.map_toArray, List.map_cons, List.map_nil]); first | done | rfl | (simp only [List.length_drop, List.length_take]; rfl)) ?_; (refine (stock_Receive.calls k _ _ ([] : List (S33)) (⟨#[99, 117, 112]⟩ : ByteArray) 5 t158 t159 _ ?side1 ?side2 A1.out).mono ?_); (case side1 => exact Kd.C_nil _ _); (case side2 => exact Nat.le_refl _); rintro e w11 ⟨v160, rfl, ho0, hb⟩; refine ⟨_, rfl, ?_⟩; have n0_ := Aside0.mk (Kd.R_lower ho0 (below_size (by repeat (first | (with_reducible first | exact HB.out | apply below_alloc | apply pw_below_drewN | apply below_drew1) | exact HB.out)))); have n1_ := Aside0.mk (below_step (by repeat (first | (with_reducible first | exact HB.out | apply below_alloc | apply pw_below_drewN | apply below_drew1) | exact HB.out)) hb); clear HB; have HO161 := n0_; have HB := n1_; clear n0_ n1_; (try clear hb); (try clear hb2); (try clear hk); (try clear hi); (try clear ho0); obtain ⟨Ao12, co12, eo12⟩ := Kd.R_slice HO161.out; subst eo12) | ((with_reducible refine gate_callee (f := 11) rfl ?_); refine goesL_ (some 10) rfl rfl Try.func11 (by kernel_rfl) rfl #[.slice Ao12 t158.length co12, .string (⟨#[99, 117, 112]⟩ : ByteArray), .int .i64 2] rfl (by (try simp only [List.map_toArray, List.map_cons, List.map_nil]); first | done | rfl | (simp only [List.length_drop, List.length_take]; rfl)) ?_; (with_reducible refine (stock_Hold.calls _ _ t158 (⟨#[99, 117, 112]⟩ : ByteArray) 2 t162 t163 _ ?side1 ?side2 A2.out).mono ?_); (case side1 => repeat (first | exact (Kd.R_reads' HO161.out).2.2 | (with_reducible refine Kd.C_alloc ?_ _) | (with_reducible refine Kd.C_drewN ?_ _) | (with_reducible refine Kd.C_drew ?_))); (case side2 => exact (Kd.R_reads' HO161.out).2.1); rintro e w13 ⟨v164, rfl, ho0, hb⟩; refine ⟨_, rfl, ?_⟩; have n0_ := Aside0.mk (Kd.R_elder' (by (with_reducible repeat (first | apply Kd.R_alloc | apply Kd.R_drewN | apply Kd.R_drew)); exact HO161.out) (Kd.R_base ho0) hb); have n1_ := Aside0.mk (Kd.R_lower (Kd.R_new' ho0 (Kd.R_lt (by (with_reducible repeat (first | apply Kd.R_alloc | apply Kd.R_drewN | apply Kd.R_drew)); exact HO161.out))) (below_size (by repeat (first | (with_reducible first | exact HB.out | apply below_alloc | apply pw_below_drewN | apply below_drew1) | exact HB.out)))); have n2_ := Aside0.mk (below_step (by repeat (first | (with_reducible first | exact HB.out | apply below_alloc | apply pw_below_drewN | apply below_drew1) | exact HB.out)) hb); clear HO161; clear HB; have HO161 := n0_; have HO165 := n1_; have HB := n2_; clear n0_ n1_ n2_; (try clear hb); (try clear hb2); (try clear hk); (try clear hi); (try clear ho0); obtain ⟨Ao14, co14, eo14⟩ := Kd.R_slice HO165.out; subst eo14))
    go_ret
    exact ⟨by first | rfl | (simp [errW_none, errW_some] <;> rfl) | (simp [*, errW_none, errW_some] <;> rfl), by repeat (first | (with_reducible first | exact HB.out | apply below_alloc | apply pw_below_drewN | apply below_drew1) | exact HB.out)⟩
  ·rw [if_neg c4] at H
   have c4b0 : (t163 == 0) = false := beq_eq_false_iff_ne.mpr c4
   have c4b1 : (t163 != 0) = true := bne_iff_ne.mpr c4
   obtain rfl := Option.some.inj H
   go_enter Try.func7, Try.ntmps7
   go_wp2_with (first | ((with_reducible refine gate_callee (f := 15) rfl ?_); refine goesL_ (some 5) rfl rfl Try.func15 (by kernel_rfl) rfl #[.slice none 0 0, .string (⟨#[99, 117, 112]⟩ : ByteArray), .int .i64 5] rfl (by (try simp only [List.map_toArray, List.map_cons, List.map_nil]); first | done | rfl | (simp only [List.length_drop, List.length_take]; rfl)) ?_; (refine (stock_Receive.calls k _ _ ([] : List (S33)) (⟨#[99, 117, 112]⟩ : ByteArray) 5 t158 t159 _ ?side1 ?side2 A1.out).mono ?_); (case side1 => exact Kd.C_nil _ _); (case side2 => exact Nat.le_refl _); rintro e w15 ⟨v160, rfl, ho0, hb⟩; refine ⟨_, rfl, ?_⟩; have n0_ := Aside0.mk (Kd.R_lower ho0 (below_size (by repeat (first | (with_reducible first | exact HB.out | apply below_alloc | apply pw_below_drewN | apply below_drew1) | exact HB.out)))); have n1_ := Aside0.mk (below_step (by repeat (first | (with_reducible first | exact HB.out | apply below_alloc | apply pw_below_drewN | apply below_drew1) | exact HB.out)) hb); clear HB; have HO161 := n0_; have HB := n1_; clear n0_ n1_; (try clear hb); (try clear hb2); (try clear hk); (try clear hi); (try clear ho0); obtain ⟨Ao16, co16, eo16⟩ := Kd.R_slice HO161.out; subst eo16) | ((with_reducible refine gate_callee (f := 11) rfl ?_); refine goesL_ (some 10) rfl rfl Try.func11 (by kernel_rfl) rfl #[.slice Ao16 t158.length co16, .string (⟨#[99, 117, 112]⟩ : ByteArray), .int .i64 2] rfl (by (try simp only [List.map_toArray, List.map_cons, List.map_nil]); first | done | rfl | (simp only [List.length_drop, List.length_take]; rfl)) ?_; (with_reducible refine (stock_Hold.calls _ _ t158 (⟨#[99, 117, 112]⟩ : ByteArray) 2 t162 t163 _ ?side1 ?side2 A2.out).mono ?_); (case side1 => repeat (first | exact (Kd.R_reads' HO161.out).2.2 | (with_reducible refine Kd.C_alloc ?_ _) | (with_reducible refine Kd.C_drewN ?_ _) | (with_reducible refine Kd.C_drew ?_))); (case side2 => exact (Kd.R_reads' HO161.out).2.1); rintro e w17 ⟨v164, rfl, ho0, hb⟩; refine ⟨_, rfl, ?_⟩; have n0_ := Aside0.mk (Kd.R_elder' (by (with_reducible repeat (first | apply Kd.R_alloc | apply Kd.R_drewN | apply Kd.R_drew)); exact HO161.out) (Kd.R_base ho0) hb); have n1_ := Aside0.mk (Kd.R_lower (Kd.R_new' ho0 (Kd.R_lt (by (with_reducible repeat (first | apply Kd.R_alloc | apply Kd.R_drewN | apply Kd.R_drew)); exact HO161.out))) (below_size (by repeat (first | (with_reducible first | exact HB.out | apply below_alloc | apply pw_below_drewN | apply below_drew1) | exact HB.out)))); have n2_ := Aside0.mk (below_step (by repeat (first | (with_reducible first | exact HB.out | apply below_alloc | apply pw_below_drewN | apply below_drew1) | exact HB.out)) hb); clear HO161; clear HB; have HO161 := n0_; have HO165 := n1_; have HB := n2_; clear n0_ n1_ n2_; (try clear hb); (try clear hb2); (try clear hk); (try clear hi); (try clear ho0)))
   go_ret
   exact ⟨by first | rfl | (simp [errW_none, errW_some] <;> rfl) | (simp [*, errW_none, errW_some] <;> rfl), by repeat (first | (with_reducible first | exact HB.out | apply below_alloc | apply pw_below_drewN | apply below_drew1) | exact HB.out)⟩
 ·rw [if_neg c3] at H
  have c3b0 : (t159 == 0) = false := beq_eq_false_iff_ne.mpr c3
  have c3b1 : (t159 != 0) = true := bne_iff_ne.mpr c3
  obtain rfl := Option.some.inj H
  go_enter Try.func7, Try.ntmps7
  go_wp2_with (first | ((with_reducible refine gate_callee (f := 15) rfl ?_); refine goesL_ (some 5) rfl rfl Try.func15 (by kernel_rfl) rfl #[.slice none 0 0, .string (⟨#[99, 117, 112]⟩ : ByteArray), .int .i64 5] rfl (by (try simp only [List.map_toArray, List.map_cons, List.map_nil]); first | done | rfl | (simp only [List.length_drop, List.length_take]; rfl)) ?_; (refine (stock_Receive.calls k _ _ ([] : List (S33)) (⟨#[99, 117, 112]⟩ : ByteArray) 5 t158 t159 _ ?side1 ?side2 A1.out).mono ?_); (case side1 => exact Kd.C_nil _ _); (case side2 => exact Nat.le_refl _); rintro e w18 ⟨v160, rfl, ho0, hb⟩; refine ⟨_, rfl, ?_⟩; have n0_ := Aside0.mk (Kd.R_lower ho0 (below_size (by repeat (first | (with_reducible first | exact HB.out | apply below_alloc | apply pw_below_drewN | apply below_drew1) | exact HB.out)))); have n1_ := Aside0.mk (below_step (by repeat (first | (with_reducible first | exact HB.out | apply below_alloc | apply pw_below_drewN | apply below_drew1) | exact HB.out)) hb); clear HB; have HO161 := n0_; have HB := n1_; clear n0_ n1_; (try clear hb); (try clear hb2); (try clear hk); (try clear hi); (try clear ho0); obtain ⟨Ao19, co19, eo19⟩ := Kd.R_slice HO161.out; subst eo19) | ((with_reducible refine gate_callee (f := 11) rfl ?_); refine goesL_ (some 10) rfl rfl Try.func11 (by kernel_rfl) rfl #[.slice Ao19 t158.length co19, .string (⟨#[99, 117, 112]⟩ : ByteArray), .int .i64 2] rfl (by (try simp only [List.map_toArray, List.map_cons, List.map_nil]); first | done | rfl | (simp only [List.length_drop, List.length_take]; rfl)) ?_; (with_reducible refine (stock_Hold.calls _ _ t158 (⟨#[99, 117, 112]⟩ : ByteArray) 2 t162 t163 _ ?side1 ?side2 A2.out).mono ?_); (case side1 => repeat (first | exact (Kd.R_reads' HO161.out).2.2 | (with_reducible refine Kd.C_alloc ?_ _) | (with_reducible refine Kd.C_drewN ?_ _) | (with_reducible refine Kd.C_drew ?_))); (case side2 => exact (Kd.R_reads' HO161.out).2.1); rintro e w20 ⟨v164, rfl, ho0, hb⟩; refine ⟨_, rfl, ?_⟩; have n0_ := Aside0.mk (Kd.R_elder' (by (with_reducible repeat (first | apply Kd.R_alloc | apply Kd.R_drewN | apply Kd.R_drew)); exact HO161.out) (Kd.R_base ho0) hb); have n1_ := Aside0.mk (Kd.R_lower (Kd.R_new' ho0 (Kd.R_lt (by (with_reducible repeat (first | apply Kd.R_alloc | apply Kd.R_drewN | apply Kd.R_drew)); exact HO161.out))) (below_size (by repeat (first | (with_reducible first | exact HB.out | apply below_alloc | apply pw_below_drewN | apply below_drew1) | exact HB.out)))); have n2_ := Aside0.mk (below_step (by repeat (first | (with_reducible first | exact HB.out | apply below_alloc | apply pw_below_drewN | apply below_drew1) | exact HB.out)) hb); clear HO161; clear HB; have HO161 := n0_; have HO165 := n1_; have HB := n2_; clear n0_ n1_ n2_; (try clear hb); (try clear hb2); (try clear hk); (try clear hi); (try clear ho0)))
  go_ret
  exact ⟨by first | rfl | (simp [errW_none, errW_some] <;> rfl) | (simp [*, errW_none, errW_some] <;> rfl), by repeat (first | (with_reducible first | exact HB.out | apply below_alloc | apply pw_below_drewN | apply below_drew1) | exact HB.out)⟩
end Go.Proofs.Ytliablhnkoghbaa.PStock
namespace Go.Proofs.Ytliablhnkoghbaa.PStock
open Go.RowKit Go.Proofs.YtliablhnkoghbaaH Go.Proofs.YtliablhnkoghbaaW.PrintWords Go.Proofs.YtliablhnkoghbaaW.PrintLast Go.Proofs.YtliablhnkoghbaaW.PrintMore
attribute [local go_sem] max2_int min2_int max_two min_two max_three min_three max_four min_four
set_option linter.unusedVariables false
set_option linter.unusedSimpArgs false
attribute [local go_sem high] eqA33
def tarryref08_Same.l0 : Nat → List (S33) → List (S33) → Int → Int → Option (Bool)
 | 0, _, _, _, _ => none
 | k + 1, x0, x1, x12, x13 => if x13 < x12 then (if 0 ≤ x13 then (if x13 < (x0.length : Int) then (if x13 < (x1.length : Int) then (if (!((((rd_T33 x0 x13).f0).toList) == (((rd_T33 x1 x13).f0).toList)) || (!(((rd_T33 x0 x13).f1) == ((rd_T33 x1 x13).f1)) || (!(((rd_T33 x0 x13).f2) == ((rd_T33 x1 x13).f2)) || (!(((rd_T33 x0 x13).f3) == ((rd_T33 x1 x13).f3)) || (!(((rd_T33 x0 x13).f4) == ((rd_T33 x1 x13).f4)) || (!(((rd_T33 x0 x13).f5) == ((rd_T33 x1 x13).f5)))))))) = true then (some false) else (tarryref08_Same.l0 k x0 x1 x12 (wrap64 (x13 + 1)))) else (none)) else (none)) else (none)) else (some true)
def tarryref08_Same.f (k : Nat) (l0 : List (S33)) (l1 : List (S33)) : Option (Bool) := if (l0.length : Int) = (l1.length : Int) then (tarryref08_Same.l0 k l0 l1 (l0.length : Int) 0) else (some false)
theorem tarryref08_Same.mono_l : ∀ k, (∀ y0 y1 y2 y3, LeO (tarryref08_Same.l0 k y0 y1 y2 y3) (tarryref08_Same.l0 (k + 1) y0 y1 y2 y3))
 | 0 => fun _ _ _ _ r h => by simp [tarryref08_Same.l0] at h
 | k + 1 => by
  have ih0 := tarryref08_Same.mono_l k
  ·intro y0 y1 y2 y3
   unfold tarryref08_Same.l0
   repeat' first
   | (with_reducible exact ih0 _ _ _ _)
   | (with_reducible exact LeO.refl _)
   | (with_reducible exact LeO.none _)
   | (with_reducible refine LeO.ite ?_ ?_)
   | (with_reducible refine LeO.bind ?_ (fun _ => ?_))
   | exact ih0 _ _ _ _
   | exact LeO.none _
   | refine LeO.ite ?_ ?_
   | refine LeO.bind ?_ (fun _ => ?_)
theorem tarryref08_Same.mono : ∀ a0 a1 k, LeO (tarryref08_Same.f k a0 a1) (tarryref08_Same.f (k + 1) a0 a1) := by
 intro a0 a1 k
 have ih0 := tarryref08_Same.mono_l k
 unfold tarryref08_Same.f
 repeat' first
   | (with_reducible exact ih0 _ _ _ _)
   | (with_reducible exact LeO.refl _)
   | (with_reducible exact LeO.none _)
   | (with_reducible refine LeO.ite ?_ ?_)
   | (with_reducible refine LeO.bind ?_ (fun _ => ?_))
   | exact ih0 _ _ _ _
   | exact LeO.none _
   | refine LeO.ite ?_ ?_
   | refine LeO.bind ?_ (fun _ => ?_)
set_option maxHeartbeats 8000000 in
set_option maxRecDepth 100000 in
theorem tarryref08_Same.calls (k : Nat) (A0 : Option Addr) (c0 : Nat) (l0 : List (S33)) (A1 : Option Addr) (c1 : Nat) (l1 : List (S33)) (r : Bool) (w : World) (hr0 : Kd.C k33 w A0 l0.length l0) (hc0 : l0.length ≤ c0) (hr1 : Kd.C k33 w A1 l1.length l1) (hc1 : l1.length ≤ c1) (h : tarryref08_Same.f k l0 l1 = some r) :
  Calls Try.prog 9 #[.slice A0 l0.length c0, .slice A1 l1.length c1] w fun e w' => e = .returned (.bool r) ∧ Drawn0 w w' := by
 have hu33 := Try.underlying33
 have HR0 := Aside0.mk hr0
 have HC0 := Aside0.mk hc0
 clear hr0 hc0
 have HR1 := Aside0.mk hr1
 have HC1 := Aside0.mk hc1
 clear hr1 hc1
 have H : (if (l0.length : Int) = (l1.length : Int) then (tarryref08_Same.l0 k l0 l1 (l0.length : Int) 0) else (some false)) = some r := h
 clear h
 by_cases c3 : (l0.length : Int) = (l1.length : Int)
 ·rw [if_pos c3] at H
  have c3b0 : ((l0.length : Int) == (l1.length : Int)) = true := beq_iff_eq.mpr c3
  have c3b1 : ((l0.length : Int) != (l1.length : Int)) = false := bne_eq_false_iff_eq.mpr c3
  have c3b2 : (l0.length == l1.length) = true := by first | simpa using c3 | (simp at c3 ⊢; omega)
  clear c3
  have H' := Aside0.mk H
  clear H
  go_enter Try.func9, Try.ntmps9
  go_wp2
  repeat (go_quiet (fail); try go_wp2)
  go_loopg [13] k (fun kq v13 w' => ∃ (x13_1 : Int), v13 = .int .i64 x13_1 ∧ Aside0 (tarryref08_Same.l0 kq l0 l1 (l0.length : Int) x13_1 = some r) ∧ Aside0 (kq ≤ k) ∧ Drawn0 w w')
  case atStart => exact ⟨(0), (by first | rfl | (simp; done) | (simp [*]; done)), H', ⟨Nat.le_refl _⟩, by repeat (first | exact Drawn0.refl _ | apply Drawn0.step)⟩
  case round =>
   clear H'
   try clear c1
   try clear p2
   try clear c3
   try clear c3b0
   try clear c3b1
   try clear c3b2
   obtain ⟨x13_1, rfl, HA, HK1, ⟨m1, rfl⟩⟩ := hrel
   cases gk with
   | zero => exact absurd HA.out (by simp [tarryref08_Same.l0])
   | succ k1 =>
    have H := HA.out
    clear HA
    simp only [tarryref08_Same.l0] at H
    by_cases c4 : x13_1 < (l0.length : Int)
    ·rw [if_pos c4] at H
     have c4b0 : decide (x13_1 < (l0.length : Int)) = true := decide_eq_true c4
     clear c4
     by_cases c5 : 0 ≤ x13_1
     ·rw [if_pos c5] at H
      have c5b0 : decide (0 ≤ x13_1) = true := decide_eq_true c5
      clear c5
      by_cases c6 : x13_1 < (l0.length : Int)
      ·rw [if_pos c6] at H
       have c6b0 : decide (x13_1 < (l0.length : Int)) = true := decide_eq_true c6
       clear c6
       by_cases c7 : x13_1 < (l1.length : Int)
       ·rw [if_pos c7] at H
        have c7b0 : decide (x13_1 < (l1.length : Int)) = true := decide_eq_true c7
        clear c7
        by_cases c8 : (!((((rd_T33 l0 x13_1).f0).toList) == (((rd_T33 l1 x13_1).f0).toList)) || (!(((rd_T33 l0 x13_1).f1) == ((rd_T33 l1 x13_1).f1)) || (!(((rd_T33 l0 x13_1).f2) == ((rd_T33 l1 x13_1).f2)) || (!(((rd_T33 l0 x13_1).f3) == ((rd_T33 l1 x13_1).f3)) || (!(((rd_T33 l0 x13_1).f4) == ((rd_T33 l1 x13_1).f4)) || (!(((rd_T33 l0 x13_1).f5) == ((rd_T33 l1 x13_1).f5)))))))) = true
        ·rw [if_pos c8] at H
         have c8b0 : (!((((rd_T33 l0 x13_1).f0).toList) == (((rd_T33 l1 x13_1).f0).toList)) || (!(((rd_T33 l0 x13_1).f1) == ((rd_T33 l1 x13_1).f1)) || (!(((rd_T33 l0 x13_1).f2) == ((rd_T33 l1 x13_1).f2)) || (!(((rd_T33 l0 x13_1).f3) == ((rd_T33 l1 x13_1).f3)) || (!(((rd_T33 l0 x13_1).f4) == ((rd_T33 l1 x13_1).f4)) || (!(((rd_T33 l0 x13_1).f5) == ((rd_T33 l1 x13_1).f5)))))))) = true := c8
         clear c8
         obtain rfl := Option.some.inj H
         have p183 : 0 ≤ (x13_1 : Int) := of_decide_eq_true (by first | (with_reducible assumption) | assumption)
         have q183 : x13_1 < (l0.length : Int) := of_decide_eq_true (by first | (with_reducible assumption) | assumption)
         obtain ⟨ad183, e183, hx183_0, hx183_1, hx183_2, hx183_3, hx183_4, hx183_5⟩ := at_T33 HR0.out x13_1 p183 q183
         cases e183
         replace p183 := eq_true p183
         replace q183 := eq_true q183
         have p184 : 0 ≤ (x13_1 : Int) := of_decide_eq_true (by first | (with_reducible assumption) | assumption)
         have q184 : x13_1 < (l1.length : Int) := of_decide_eq_true (by first | (with_reducible assumption) | assumption)
         obtain ⟨ad184, e184, hx184_0, hx184_1, hx184_2, hx184_3, hx184_4, hx184_5⟩ := at_T33 HR1.out x13_1 p184 q184
         cases e184
         replace p184 := eq_true p184
         replace q184 := eq_true q184
         go_wp2
         repeat (go_quiet (fail); try go_wp2)
         go_ret
         exact ⟨by first | rfl | (simp; done) | (simp [*]; done), by repeat (first | exact Drawn0.refl _ | apply Drawn0.step)⟩
        ·rw [if_neg c8] at H
         have c8b0 : (!((((rd_T33 l0 x13_1).f0).toList) == (((rd_T33 l1 x13_1).f0).toList)) || (!(((rd_T33 l0 x13_1).f1) == ((rd_T33 l1 x13_1).f1)) || (!(((rd_T33 l0 x13_1).f2) == ((rd_T33 l1 x13_1).f2)) || (!(((rd_T33 l0 x13_1).f3) == ((rd_T33 l1 x13_1).f3)) || (!(((rd_T33 l0 x13_1).f4) == ((rd_T33 l1 x13_1).f4)) || (!(((rd_T33 l0 x13_1).f5) == ((rd_T33 l1 x13_1).f5)))))))) = false := by simpa using c8
         clear c8
         have H' := Aside0.mk H
         clear H
         have p183 : 0 ≤ (x13_1 : Int) := of_decide_eq_true (by first | (with_reducible assumption) | assumption)
         have q183 : x13_1 < (l0.length : Int) := of_decide_eq_true (by first | (with_reducible assumption) | assumption)
         obtain ⟨ad183, e183, hx183_0, hx183_1, hx183_2, hx183_3, hx183_4, hx183_5⟩ := at_T33 HR0.out x13_1 p183 q183
         cases e183
         replace p183 := eq_true p183
         replace q183 := eq_true q183
         have p184 : 0 ≤ (x13_1 : Int) := of_decide_eq_true (by first | (with_reducible assumption) | assumption)
         have q184 : x13_1 < (l1.length : Int) := of_decide_eq_true (by first | (with_reducible assumption) | assumption)
         obtain ⟨ad184, e184, hx184_0, hx184_1, hx184_2, hx184_3, hx184_4, hx184_5⟩ := at_T33 HR1.out x13_1 p184 q184
         cases e184
         replace p184 := eq_true p184
         replace q184 := eq_true q184
         go_wp2
         repeat (go_quiet (fail); try go_wp2)
         go_roundg k1
         case measure => have := HK1.out; omega
         case rel => exact ⟨(wrap64 (x13_1 + 1)), (by first | rfl | (simp; done) | (simp [*]; done)), H', ⟨by have := HK1.out; omega⟩, by repeat (first | exact Drawn0.refl _ | apply Drawn0.step)⟩
       ·rw [if_neg c7] at H
        exact absurd H (by simp)
      ·rw [if_neg c6] at H
       exact absurd H (by simp)
     ·rw [if_neg c5] at H
      exact absurd H (by simp)
    ·rw [if_neg c4] at H
     have c4b0 : decide (x13_1 < (l0.length : Int)) = false := decide_eq_false c4
     clear c4
     obtain rfl := Option.some.inj H
     go_wp2
     repeat (go_quiet (fail); try go_wp2)
     go_ret
     exact ⟨by first | rfl | (simp; done) | (simp [*]; done), by repeat (first | exact Drawn0.refl _ | apply Drawn0.step)⟩
 ·rw [if_neg c3] at H
  have c3b0 : ((l0.length : Int) == (l1.length : Int)) = false := beq_eq_false_iff_ne.mpr c3
  have c3b1 : ((l0.length : Int) != (l1.length : Int)) = true := bne_iff_ne.mpr c3
  have c3b2 : (l0.length == l1.length) = false := by first | simpa using c3 | (simp at c3 ⊢; omega)
  obtain rfl := Option.some.inj H
  go_enter Try.func9, Try.ntmps9
  go_wp2
  repeat (go_quiet (fail); try go_wp2)
  go_ret
  exact ⟨by first | rfl | (simp; done) | (simp [*]; done), by repeat (first | exact Drawn0.refl _ | apply Drawn0.step)⟩
end Go.Proofs.Ytliablhnkoghbaa.PStock
namespace Go.Proofs.Ytliablhnkoghbaa.PStock
open Go.RowKit Go.Proofs.YtliablhnkoghbaaH Go.Proofs.YtliablhnkoghbaaW.PrintWords Go.Proofs.YtliablhnkoghbaaW.PrintLast Go.Proofs.YtliablhnkoghbaaW.PrintMore
attribute [local go_sem] max2_int min2_int max_two min_two max_three min_three max_four min_four
set_option linter.unusedVariables false
set_option linter.unusedSimpArgs false
def tarrylaw08_StockApart.j0 : Nat → ByteArray → ByteArray → Int → Int → Int → Int → List (S33) → List (S33) → Bool → Option (Bool)
 | 0, _, _, _, _, _, _, _, _, _ => none
 | k + 1, x1, x2, x3, x4, x5, x6, x15, x17, x70 => if x70 = true then ((tarrylaw08_alive.f k).bind fun t305 => (if t305 = true then (some ((wrap64 ((x15.length : Int) * (x17.length : Int))) == 0)) else (some false))) else ((tarrylaw08_does.f x15 x2 x4 x6).bind fun bt306 => ((tarrylaw08_does.f x17 x1 x3 x5).bind fun bt310 => ((tarrylaw08_alive.f k).bind fun t314 => (if t314 = true then (if bt306.2 = 0 then (if bt310.2 = 0 then ((tarryref08_Same.f k bt306.1 bt310.1).bind fun t315 => (if t315 = true then ((stock_Right.f bt306.1).bind fun t316 => (some t316)) else (some false))) else (some false)) else (some false)) else (some false)))))
def tarrylaw08_StockApart.f (k : Nat) (l0 : List (S33)) (a1 : ByteArray) (a2 : ByteArray) (a3 : Int) (a4 : Int) (a5 : Int) (a6 : Int) : Option (Bool) := (tarrylaw08_few.f k l0).bind fun t293 => (if 0 ≤ (mn (a1.size : Int) 18) then (if (mn (a1.size : Int) 18) ≤ (a1.size : Int) then (if 0 ≤ (mn (a2.size : Int) 18) then (if (mn (a2.size : Int) 18) ≤ (a2.size : Int) then (if (a1.extract 0 ((mn (a1.size : Int) 18) : Int).toNat).toList = (a2.extract 0 ((mn (a2.size : Int) 18) : Int).toNat).toList then ((tarrylaw08_alive.f k).bind fun t296 => (some t296)) else ((tarrylaw08_does.f t293 (a1.extract 0 ((mn (a1.size : Int) 18) : Int).toNat) a3 (wrap64 (1 + (Int.tmod (wrap64 ((Int.tmod a5 4) + 4)) 4)))).bind fun bt297 => ((tarrylaw08_does.f t293 (a2.extract 0 ((mn (a2.size : Int) 18) : Int).toNat) a4 (wrap64 (1 + (Int.tmod (wrap64 ((Int.tmod a6 4) + 4)) 4)))).bind fun bt301 => (if bt297.2 = 0 then (tarrylaw08_StockApart.j0 k (a1.extract 0 ((mn (a1.size : Int) 18) : Int).toNat) (a2.extract 0 ((mn (a2.size : Int) 18) : Int).toNat) a3 a4 (wrap64 (1 + (Int.tmod (wrap64 ((Int.tmod a5 4) + 4)) 4))) (wrap64 (1 + (Int.tmod (wrap64 ((Int.tmod a6 4) + 4)) 4))) bt297.1 bt301.1 (bt301.2 != 0)) else (tarrylaw08_StockApart.j0 k (a1.extract 0 ((mn (a1.size : Int) 18) : Int).toNat) (a2.extract 0 ((mn (a2.size : Int) 18) : Int).toNat) a3 a4 (wrap64 (1 + (Int.tmod (wrap64 ((Int.tmod a5 4) + 4)) 4))) (wrap64 (1 + (Int.tmod (wrap64 ((Int.tmod a6 4) + 4)) 4))) bt297.1 bt301.1 true))))) else (none)) else (none)) else (none)) else (none))
theorem tarrylaw08_StockApart.mono_l : ∀ k, (∀ y0 y1 y2 y3 y4 y5 y6 y7 y8, LeO (tarrylaw08_StockApart.j0 k y0 y1 y2 y3 y4 y5 y6 y7 y8) (tarrylaw08_StockApart.j0 (k + 1) y0 y1 y2 y3 y4 y5 y6 y7 y8))
 | 0 => fun _ _ _ _ _ _ _ _ _ r h => by simp [tarrylaw08_StockApart.j0] at h
 | k + 1 => by
  have ih0 := tarrylaw08_StockApart.mono_l k
  ·intro y0 y1 y2 y3 y4 y5 y6 y7 y8
   unfold tarrylaw08_StockApart.j0
   repeat' first
   | (with_reducible exact ih0 _ _ _ _ _ _ _ _ _)
   | (with_reducible exact tarrylaw08_alive.mono _)
   | (with_reducible exact tarrylaw08_few.mono _ _)
   | (with_reducible exact tarryref08_Same.mono _ _ _)
   | (with_reducible exact LeO.refl _)
   | (with_reducible exact LeO.none _)
   | (with_reducible refine LeO.ite ?_ ?_)
   | (with_reducible refine LeO.bind ?_ (fun _ => ?_))
   | exact ih0 _ _ _ _ _ _ _ _ _
   | exact tarrylaw08_alive.mono _
   | exact tarrylaw08_few.mono _ _
   | exact tarryref08_Same.mono _ _ _
   | exact LeO.none _
   | refine LeO.ite ?_ ?_
   | refine LeO.bind ?_ (fun _ => ?_)
theorem tarrylaw08_StockApart.mono : ∀ a0 a1 a2 a3 a4 a5 a6 k, LeO (tarrylaw08_StockApart.f k a0 a1 a2 a3 a4 a5 a6) (tarrylaw08_StockApart.f (k + 1) a0 a1 a2 a3 a4 a5 a6) := by
 intro a0 a1 a2 a3 a4 a5 a6 k
 have ih0 := tarrylaw08_StockApart.mono_l k
 unfold tarrylaw08_StockApart.f
 repeat' first
   | (with_reducible exact ih0 _ _ _ _ _ _ _ _ _)
   | (with_reducible exact tarrylaw08_alive.mono _)
   | (with_reducible exact tarrylaw08_few.mono _ _)
   | (with_reducible exact tarryref08_Same.mono _ _ _)
   | (with_reducible exact LeO.refl _)
   | (with_reducible exact LeO.none _)
   | (with_reducible refine LeO.ite ?_ ?_)
   | (with_reducible refine LeO.bind ?_ (fun _ => ?_))
   | exact ih0 _ _ _ _ _ _ _ _ _
   | exact tarrylaw08_alive.mono _
   | exact tarrylaw08_few.mono _ _
   | exact tarryref08_Same.mono _ _ _
   | exact LeO.none _
   | refine LeO.ite ?_ ?_
   | refine LeO.bind ?_ (fun _ => ?_)
def tarrylaw08_StockApart.T1 : Bool × List (List Nat × List Nat) := (true, [([], []), ([0], [0]), ([], []), ([], []), ([3], [3]), ([4], [4]), ([2, 5], [2, 5]), ([], []), ([], []), ([8], [8]), ([9], [9]), ([7, 10], [7, 10]), ([1, 1, 0, 1], [0, 1]), ([6, 12, 0, 1, 2, 3, 4, 5, 6, 12], [2, 3, 6]), ([11, 13, 0, 1, 2, 3, 4, 5, 6, 7, 8, 9, 10, 11, 12, 13], [7, 8, 11])])
def tarrylaw08_StockApart.B1 : List Nat := [0, 1, 0, 0, 8, 24, 60, 0, 0, 256, 768, 1920, 3, 4223, 16383]
theorem tarrylaw08_StockApart.tab1 : rtab .any (opsOf Try.f3 1) = tarrylaw08_StockApart.T1 := by kernel_rfl
theorem tarrylaw08_StockApart.bits1 : waitsOk tarrylaw08_StockApart.T1.2 tarrylaw08_StockApart.B1 = true := by kernel_rfl
set_option maxHeartbeats 8000000 in
set_option maxRecDepth 100000 in
theorem tarrylaw08_StockApart.calls (k : Nat) (A0 : Option Addr) (c0 : Nat) (l0 : List (S33)) (a1 : ByteArray) (a2 : ByteArray) (a3 : Int) (a4 : Int) (a5 : Int) (a6 : Int) (r : Bool) (w : World) (hr0 : Kd.C k33 w A0 l0.length l0) (hc0 : l0.length ≤ c0) (h : tarrylaw08_StockApart.f k l0 a1 a2 a3 a4 a5 a6 = some r) :
  Calls Try.prog 3 #[.slice A0 l0.length c0, .string a1, .string a2, .int .i64 a3, .int .i64 a4, .int .i64 a5, .int .i64 a6] w fun e w' => e = .returned (.bool r) ∧ Below w.heap.size w w' := by
 have HR0 := Aside0.mk hr0
 have HC0 := Aside0.mk hc0
 clear hr0 hc0
 have HB := Aside0.mk (Below.refl w.heap.size w)
 have H : ((tarrylaw08_few.f k l0).bind fun t293 => (if 0 ≤ (mn (a1.size : Int) 18) then (if (mn (a1.size : Int) 18) ≤ (a1.size : Int) then (if 0 ≤ (mn (a2.size : Int) 18) then (if (mn (a2.size : Int) 18) ≤ (a2.size : Int) then (if (a1.extract 0 ((mn (a1.size : Int) 18) : Int).toNat).toList = (a2.extract 0 ((mn (a2.size : Int) 18) : Int).toNat).toList then ((tarrylaw08_alive.f k).bind fun t296 => (some t296)) else ((tarrylaw08_does.f t293 (a1.extract 0 ((mn (a1.size : Int) 18) : Int).toNat) a3 (wrap64 (1 + (Int.tmod (wrap64 ((Int.tmod a5 4) + 4)) 4)))).bind fun bt297 => ((tarrylaw08_does.f t293 (a2.extract 0 ((mn (a2.size : Int) 18) : Int).toNat) a4 (wrap64 (1 + (Int.tmod (wrap64 ((Int.tmod a6 4) + 4)) 4)))).bind fun bt301 => (if bt297.2 = 0 then (tarrylaw08_StockApart.j0 k (a1.extract 0 ((mn (a1.size : Int) 18) : Int).toNat) (a2.extract 0 ((mn (a2.size : Int) 18) : Int).toNat) a3 a4 (wrap64 (1 + (Int.tmod (wrap64 ((Int.tmod a5 4) + 4)) 4))) (wrap64 (1 + (Int.tmod (wrap64 ((Int.tmod a6 4) + 4)) 4))) bt297.1 bt301.1 (bt301.2 != 0)) else (tarrylaw08_StockApart.j0 k (a1.extract 0 ((mn (a1.size : Int) 18) : Int).toNat) (a2.extract 0 ((mn (a2.size : Int) 18) : Int).toNat) a3 a4 (wrap64 (1 + (Int.tmod (wrap64 ((Int.tmod a5 4) + 4)) 4))) (wrap64 (1 + (Int.tmod (wrap64 ((Int.tmod a6 4) + 4)) 4))) bt297.1 bt301.1 true))))) else (none)) else (none)) else (none)) else (none))) = some r := h
 clear h
 replace H := Option.bind_eq_some_iff.mp H
 obtain ⟨t293, A80, H⟩ := H
 replace H : (if 0 ≤ (mn (a1.size : Int) 18) then (if (mn (a1.size : Int) 18) ≤ (a1.size : Int) then (if 0 ≤ (mn (a2.size : Int) 18) then (if (mn (a2.size : Int) 18) ≤ (a2.size : Int) then (if (a1.extract 0 ((mn (a1.size : Int) 18) : Int).toNat).toList = (a2.extract 0 ((mn (a2.size : Int) 18) : Int).toNat).toList then ((tarrylaw08_alive.f k).bind fun t296 => (some t296)) else ((tarrylaw08_does.f t293 (a1.extract 0 ((mn (a1.size : Int) 18) : Int).toNat) a3 (wrap64 (1 + (Int.tmod (wrap64 ((Int.tmod a5 4) + 4)) 4)))).bind fun bt297 => ((tarrylaw08_does.f t293 (a2.extract 0 ((mn (a2.size : Int) 18) : Int).toNat) a4 (wrap64 (1 + (Int.tmod (wrap64 ((Int.tmod a6 4) + 4)) 4)))).bind fun bt301 => (if bt297.2 = 0 then (tarrylaw08_StockApart.j0 k (a1.extract 0 ((mn (a1.size : Int) 18) : Int).toNat) (a2.extract 0 ((mn (a2.size : Int) 18) : Int).toNat) a3 a4 (wrap64 (1 + (Int.tmod (wrap64 ((Int.tmod a5 4) + 4)) 4))) (wrap64 (1 + (Int.tmod (wrap64 ((Int.tmod a6 4) + 4)) 4))) bt297.1 bt301.1 (bt301.2 != 0)) else (tarrylaw08_StockApart.j0 k (a1.extract 0 ((mn (a1.size : Int) 18) : Int).toNat) (a2.extract 0 ((mn (a2.size : Int) 18) : Int).toNat) a3 a4 (wrap64 (1 + (Int.tmod (wrap64 ((Int.tmod a5 4) + 4)) 4))) (wrap64 (1 + (Int.tmod (wrap64 ((Int.tmod a6 4) + 4)) 4))) bt297.1 bt301.1 true))))) else (none)) else (none)) else (none)) else (none)) = some r := H
 have A8 := Aside0.mk A80
 clear A80
 obtain ⟨ji9, hji9⟩ : ∃ j_ : Int, (mn (a1.size : Int) 18) = j_ := ⟨_, rfl⟩
 replace H : (if 0 ≤ (ji9) then (if (ji9) ≤ (a1.size : Int) then (if 0 ≤ (mn (a2.size : Int) 18) then (if (mn (a2.size : Int) 18) ≤ (a2.size : Int) then (if (a1.extract 0 ((ji9) : Int).toNat).toList = (a2.extract 0 ((mn (a2.size : Int) 18) : Int).toNat).toList then ((tarrylaw08_alive.f k).bind fun t296 => (some t296)) else ((tarrylaw08_does.f t293 (a1.extract 0 ((ji9) : Int).toNat) a3 (wrap64 (1 + (Int.tmod (wrap64 ((Int.tmod a5 4) + 4)) 4)))).bind fun bt297 => ((tarrylaw08_does.f t293 (a2.extract 0 ((mn (a2.size : Int) 18) : Int).toNat) a4 (wrap64 (1 + (Int.tmod (wrap64 ((Int.tmod a6 4) + 4)) 4)))).bind fun bt301 => (if bt297.2 = 0 then (tarrylaw08_StockApart.j0 k (a1.extract 0 ((ji9) : Int).toNat) (a2.extract 0 ((mn (a2.size : Int) 18) : Int).toNat) a3 a4 (wrap64 (1 + (Int.tmod (wrap64 ((Int.tmod a5 4) + 4)) 4))) (wrap64 (1 + (Int.tmod (wrap64 ((Int.tmod a6 4) + 4)) 4))) bt297.1 bt301.1 (bt301.2 != 0)) else (tarrylaw08_StockApart.j0 k (a1.extract 0 ((ji9) : Int).toNat) (a2.extract 0 ((mn (a2.size : Int) 18) : Int).toNat) a3 a4 (wrap64 (1 + (Int.tmod (wrap64 ((Int.tmod a5 4) + 4)) 4))) (wrap64 (1 + (Int.tmod (wrap64 ((Int.tmod a6 4) + 4)) 4))) bt297.1 bt301.1 true))))) else (none)) else (none)) else (none)) else (none)) = some r := by first | (rw [hji9] at H; exact H) | (simp only [hji9] at H ⊢; exact H)
 (try rw [hji9] at A8)
 (try (have hji9h : ji9 ≤ 18 := by (rw [← hji9]; unfold mn; (repeat' split) <;> omega)))
 (try (have hji9g : ji9 ≤ 64 := by omega))
 (try (have hji9l : 0 ≤ ji9 := by (rw [← hji9]; unfold mn; (repeat' split) <;> omega)))
 (try (have hji9m : 0 ≤ ji9 := by omega))
 have hji9_ : (if 18 < (a1.size : Int) then 18 else (a1.size : Int)) = ji9 := hji9
 by_cases c10 : 0 ≤ (ji9)
 ·rw [if_pos c10] at H
  have c10b0 := eq_true c10
  have c10b1 : decide (0 ≤ (ji9)) = true := decide_eq_true c10
  clear c10
  by_cases c11 : (ji9) ≤ (a1.size : Int)
  ·rw [if_pos c11] at H
   have c11b0 := eq_true c11
   have c11b1 : decide ((ji9) ≤ (a1.size : Int)) = true := decide_eq_true c11
   clear c11
   obtain ⟨ji12, hji12⟩ : ∃ j_ : Int, (mn (a2.size : Int) 18) = j_ := ⟨_, rfl⟩
   replace H : (if 0 ≤ (ji12) then (if (ji12) ≤ (a2.size : Int) then (if (a1.extract 0 ((ji9) : Int).toNat).toList = (a2.extract 0 ((ji12) : Int).toNat).toList then ((tarrylaw08_alive.f k).bind fun t296 => (some t296)) else ((tarrylaw08_does.f t293 (a1.extract 0 ((ji9) : Int).toNat) a3 (wrap64 (1 + (Int.tmod (wrap64 ((Int.tmod a5 4) + 4)) 4)))).bind fun bt297 => ((tarrylaw08_does.f t293 (a2.extract 0 ((ji12) : Int).toNat) a4 (wrap64 (1 + (Int.tmod (wrap64 ((Int.tmod a6 4) + 4)) 4)))).bind fun bt301 => (if bt297.2 = 0 then (tarrylaw08_StockApart.j0 k (a1.extract 0 ((ji9) : Int).toNat) (a2.extract 0 ((ji12) : Int).toNat) a3 a4 (wrap64 (1 + (Int.tmod (wrap64 ((Int.tmod a5 4) + 4)) 4))) (wrap64 (1 + (Int.tmod (wrap64 ((Int.tmod a6 4) + 4)) 4))) bt297.1 bt301.1 (bt301.2 != 0)) else (tarrylaw08_StockApart.j0 k (a1.extract 0 ((ji9) : Int).toNat) (a2.extract 0 ((ji12) : Int).toNat) a3 a4 (wrap64 (1 + (Int.tmod (wrap64 ((Int.tmod a5 4) + 4)) 4))) (wrap64 (1 + (Int.tmod (wrap64 ((Int.tmod a6 4) + 4)) 4))) bt297.1 bt301.1 true))))) else (none)) else (none)) = some r := by first | (rw [hji12] at H; exact H) | (simp only [hji12] at H ⊢; exact H)
   (try rw [hji12] at A8)
   (try (have hji12h : ji12 ≤ 18 := by (rw [← hji12]; unfold mn; (repeat' split) <;> omega)))
   (try (have hji12g : ji12 ≤ 64 := by omega))
   (try (have hji12l : 0 ≤ ji12 := by (rw [← hji12]; unfold mn; (repeat' split) <;> omega)))
   (try (have hji12m : 0 ≤ ji12 := by omega))
   have hji12_ : (if 18 < (a2.size : Int) then 18 else (a2.size : Int)) = ji12 := hji12
   by_cases c13 : 0 ≤ (ji12)
   ·rw [if_pos c13] at H
    have c13b0 := eq_true c13
    have c13b1 : decide (0 ≤ (ji12)) = true := decide_eq_true c13
    clear c13
    by_cases c14 : (ji12) ≤ (a2.size : Int)
    ·rw [if_pos c14] at H
     have c14b0 := eq_true c14
     have c14b1 : decide ((ji12) ≤ (a2.size : Int)) = true := decide_eq_true c14
     clear c14
     by_cases c15 : (a1.extract 0 ((ji9) : Int).toNat).toList = (a2.extract 0 ((ji12) : Int).toNat).toList
     ·rw [if_pos c15] at H
      have c15b0 : ((a1.extract 0 ((ji9) : Int).toNat).toList == (a2.extract 0 ((ji12) : Int).toNat).toList) = true := beq_iff_eq.mpr c15
      have c15b1 : ((a1.extract 0 ((ji9) : Int).toNat).toList != (a2.extract 0 ((ji12) : Int).toNat).toList) = false := bne_eq_false_iff_eq.mpr c15
      clear c15
      replace H := Option.bind_eq_some_iff.mp H
      obtain ⟨t296, A160, H⟩ := H
      replace H : (some t296) = some r := H
      have A16 := Aside0.mk A160
      clear A160
      obtain rfl := Option.some.inj H
      go_enter Try.func3, Try.ntmps3
      try go_wp2
      have n0_ := Aside0.mk (below_drew1 HB.out)
      clear HB
      have HB := n0_
      clear n0_
      refine start_ (n := 15) (S := fun w' => True) (ds := []) #[false, false, false, false, false, false, false, false, false, false, false, false, false, false, false] (by kernel_rfl) rfl rfl trivial (fun hHeld => ?_); refine with_tabW tarrylaw08_StockApart.tab1 tarrylaw08_StockApart.bits1 (fun HT_ HW_ => ?_)
      generalize w.drew = w17 at HB hHeld ⊢
      refine pure_ (i := 0) (N := some 23) (v := ?_) (a' := ?_) #[true, false, false, false, false, false, false, false, false, false, false, false, false, false, false] rfl rfl (any_of HT_.out (by kernel_rfl)) (fun _ _ _ h => h) (Or.inl ⟨by rfl, ?_⟩) ?_ ?_
      rotate_left
      ·intro w'
       go_simp
       with_reducible rfl
      rotate_left
      ·simp only [Act.put, List.setIfInBounds_toArray, List.set_cons_zero, List.set_cons_succ, i64_w, i32_w]
       rfl
      refine pure_ (i := 2) (N := some 25) (v := ?_) (a' := ?_) #[true, false, true, false, false, false, false, false, false, false, false, false, false, false, false] rfl rfl (any_of HT_.out (by kernel_rfl)) (fun _ _ _ h => h) (Or.inl ⟨by rfl, ?_⟩) ?_ ?_
      rotate_left
      ·intro w'
       go_simp
       with_reducible rfl
      rotate_left
      ·simp only [Act.put, List.setIfInBounds_toArray, List.set_cons_zero, List.set_cons_succ, i64_w, i32_w]
       rfl
      refine pure_ (i := 3) (N := some 26) (v := ?_) (a' := ?_) #[true, false, true, true, false, false, false, false, false, false, false, false, false, false, false] rfl rfl (any_of HT_.out (by kernel_rfl)) (fun _ _ _ h => h) (Or.inl ⟨by rfl, ?_⟩) ?_ ?_
      rotate_left
      ·intro w'
       go_simp
       with_reducible rfl
      rotate_left
      ·simp only [Act.put, List.setIfInBounds_toArray, List.set_cons_zero, List.set_cons_succ, i64_w, i32_w]
       rfl
      refine pure_ (i := 4) (N := some 27) (v := ?_) (a' := ?_) #[true, false, true, true, true, false, false, false, false, false, false, false, false, false, false] rfl rfl (any_of HT_.out (by kernel_rfl)) (fun _ _ _ h => h) (Or.inl ⟨by rfl, ?_⟩) ?_ ?_
      rotate_left
      ·intro w'
       go_simp
       with_reducible rfl
      rotate_left
      ·simp only [Act.put, List.setIfInBounds_toArray, List.set_cons_zero, List.set_cons_succ, i64_w, i32_w]
       rfl
      refine pure_ (i := 5) (N := some 28) (v := ?_) (a' := ?_) #[true, false, true, true, true, true, false, false, false, false, false, false, false, false, false] rfl rfl (any_of HT_.out (by kernel_rfl)) (fun _ _ _ h => h) (Or.inl ⟨by rfl, ?_⟩) ?_ ?_
      rotate_left
      ·intro w'
       go_simp
       with_reducible rfl
      rotate_left
      ·simp only [Act.put, List.setIfInBounds_toArray, List.set_cons_zero, List.set_cons_succ, i64_w, i32_w]
       rfl
      refine pure_ (i := 6) (N := some 29) (v := ?_) (a' := ?_) #[true, false, true, true, true, true, true, false, false, false, false, false, false, false, false] rfl rfl (any_of HT_.out (by kernel_rfl)) (fun _ _ _ h => h) (Or.inl ⟨by rfl, ?_⟩) ?_ ?_
      rotate_left
      ·intro w'
       go_simp
       with_reducible rfl
      rotate_left
      ·simp only [Act.put, List.setIfInBounds_toArray, List.set_cons_zero, List.set_cons_succ, i64_w, i32_w]
       rfl
      refine pure_ (i := 7) (N := some 30) (v := ?_) (a' := ?_) #[true, false, true, true, true, true, true, true, false, false, false, false, false, false, false] rfl rfl (any_of HT_.out (by kernel_rfl)) (fun _ _ _ h => h) (Or.inl ⟨by rfl, ?_⟩) ?_ ?_
      rotate_left
      ·intro w'
       go_simp
       with_reducible rfl
      rotate_left
      ·simp only [Act.put, List.setIfInBounds_toArray, List.set_cons_zero, List.set_cons_succ, i64_w, i32_w]
       rfl
      refine pure_ (i := 8) (N := some 31) (v := ?_) (a' := ?_) #[true, false, true, true, true, true, true, true, true, false, false, false, false, false, false] rfl rfl (any_of HT_.out (by kernel_rfl)) (fun _ _ _ h => h) (Or.inl ⟨by rfl, ?_⟩) ?_ ?_
      rotate_left
      ·intro w'
       go_simp
       with_reducible rfl
      rotate_left
      ·simp only [Act.put, List.setIfInBounds_toArray, List.set_cons_zero, List.set_cons_succ, i64_w, i32_w]
       rfl
      refine pure_ (i := 9) (N := some 32) (v := ?_) (a' := ?_) #[true, false, true, true, true, true, true, true, true, true, false, false, false, false, false] rfl rfl (any_of HT_.out (by kernel_rfl)) (fun _ _ _ h => h) (Or.inl ⟨by rfl, ?_⟩) ?_ ?_
      rotate_left
      ·intro w'
       go_simp
       with_reducible rfl
      rotate_left
      ·simp only [Act.put, List.setIfInBounds_toArray, List.set_cons_zero, List.set_cons_succ, i64_w, i32_w]
       rfl
      refine pure_ (i := 10) (N := some 33) (v := ?_) (a' := ?_) #[true, false, true, true, true, true, true, true, true, true, true, false, false, false, false] rfl rfl (any_of HT_.out (by kernel_rfl)) (fun _ _ _ h => h) (Or.inl ⟨by rfl, ?_⟩) ?_ ?_
      rotate_left
      ·intro w'
       go_simp
       with_reducible rfl
      rotate_left
      ·simp only [Act.put, List.setIfInBounds_toArray, List.set_cons_zero, List.set_cons_succ, i64_w, i32_w]
       rfl
      refine pure_ (i := 11) (N := some 34) (v := ?_) (a' := ?_) #[true, false, true, true, true, true, true, true, true, true, true, true, false, false, false] rfl rfl (any_of HT_.out (by kernel_rfl)) (fun _ _ _ h => h) (Or.inl ⟨by rfl, ?_⟩) ?_ ?_
      rotate_left
      ·intro w'
       go_simp
       with_reducible rfl
      rotate_left
      ·simp only [Act.put, List.setIfInBounds_toArray, List.set_cons_zero, List.set_cons_succ, i64_w, i32_w]
       rfl
      refine one_ (i := 1) (N := some 24) #[true, true, true, true, true, true, true, true, true, true, true, true, false, false, false] rfl rfl (one_of HT_.out (by kernel_rfl)) (by decide) (fun K hK => ?_)
      refine goes_ Try.func6 (by kernel_rfl) rfl #[.slice A0 l0.length c0] (by rfl) rfl rfl (by (try simp only [List.map_toArray, List.map_cons, List.map_nil]); first | done | rfl | (simp only [List.length_drop, List.length_take]; rfl)) ?_
      with_reducible refine (tarrylaw08_few.calls k _ _ l0 t293 _ ?side1 ?side2 A8.out).mono ?_
      (case side1 => repeat (first | exact (Kd.C_below HR0.out HB.out) | (with_reducible refine Kd.C_alloc ?_ _) | (with_reducible refine Kd.C_drewN ?_ _) | (with_reducible refine Kd.C_drew ?_)))
      (case side2 => exact HC0.out)
      rintro e w18 ⟨v294, rfl, ho0, hb⟩
      refine ⟨_, rfl, ?_⟩
      have n0_ := Aside0.mk (Kd.R_lower ho0 (below_size (by repeat (first | (with_reducible first | exact HB.out | apply below_alloc | apply pw_below_drewN | apply below_drew1) | exact HB.out))))
      have n1_ := Aside0.mk (below_step (by repeat (first | (with_reducible first | exact HB.out | apply below_alloc | apply pw_below_drewN | apply below_drew1) | exact HB.out)) hb)
      clear HB
      have HO295 := n0_
      have HB := n1_
      clear n0_ n1_
      (try clear hb)
      (try clear hb2)
      (try clear hk)
      (try clear hi)
      (try clear ho0)
      refine hK.out _ _ trivial (fun hHeld => ?_)
      clear hK K
      refine norm_ (a' := ?_) ?_ ?_
      rotate_left
      ·show Act.put _ (some 24) _ = _
       simp only [Act.put, List.setIfInBounds_toArray, List.set_cons_zero, List.set_cons_succ, i64_w, i32_w]
       rfl
      refine pure_ (i := 12) (N := some 0) (v := ?_) (a' := ?_) #[true, true, true, true, true, true, true, true, true, true, true, true, true, false, false] rfl rfl (any_of HT_.out (by kernel_rfl)) (fun _ _ _ h => h) (Or.inl ⟨by rfl, ?_⟩) ?_ ?_
      rotate_left
      ·intro w'
       go_simp
       with_reducible rfl
      rotate_left
      ·simp only [Act.put, List.setIfInBounds_toArray, List.set_cons_zero, List.set_cons_succ, i64_w, i32_w]
       rfl
      refine pure_ (i := 13) (N := some 1) (v := ?_) (a' := ?_) #[true, true, true, true, true, true, true, true, true, true, true, true, true, true, false] rfl rfl (any_of HT_.out (by kernel_rfl)) (fun _ _ _ h => h) (Or.inl ⟨by rfl, ?_⟩) ?_ ?_
      rotate_left
      ·intro w'
       go_simp
       with_reducible rfl
      rotate_left
      ·simp only [Act.put, List.setIfInBounds_toArray, List.set_cons_zero, List.set_cons_succ, i64_w, i32_w]
       rfl
      refine pure_ (i := 14) (N := some 2) (v := ?_) (a' := ?_) #[true, true, true, true, true, true, true, true, true, true, true, true, true, true, true] rfl rfl (any_of HT_.out (by kernel_rfl)) (fun _ _ _ h => h) (Or.inl ⟨by rfl, ?_⟩) ?_ ?_
      rotate_left
      ·intro w'
       go_simp
       with_reducible rfl
      rotate_left
      ·simp only [Act.put, List.setIfInBounds_toArray, List.set_cons_zero, List.set_cons_succ, i64_w, i32_w]
       rfl
      refine done_ (done_of HT_.out (by kernel_rfl)) ?_
      try go_wp2_with (first | ((with_reducible refine gate_callee (f := 7) rfl ?_); refine goesL_ (some 48) rfl rfl Try.func7 (by kernel_rfl) rfl #[] rfl (by (try simp only [List.map_toArray, List.map_cons, List.map_nil]); first | done | rfl | (simp only [List.length_drop, List.length_take]; rfl)) ?_; (with_reducible refine (tarrylaw08_alive.calls k  t296 _ A16.out).mono ?_); rintro e w19 ⟨rfl, hb⟩; refine ⟨_, rfl, ?_⟩; have n0_ := Aside0.mk (Kd.R_below (by (with_reducible repeat (first | apply Kd.R_alloc | apply Kd.R_drewN | apply Kd.R_drew)); exact HO295.out) hb); have n1_ := Aside0.mk (below_step (by repeat (first | (with_reducible first | exact HB.out | apply below_alloc | apply pw_below_drewN | apply below_drew1) | exact HB.out)) hb); clear HO295; clear HB; have HO295 := n0_; have HB := n1_; clear n0_ n1_; (try clear hb); (try clear hb2); (try clear hk); (try clear hi)))
      go_ret
      exact ⟨by first | rfl | (simp [errW_none, errW_some] <;> rfl) | (simp only [← hji9, ← hji12]; first | rfl | (simp [errW_none, errW_some] <;> rfl)) | (simp [*, errW_none, errW_some] <;> rfl), by repeat (first | (with_reducible first | exact HB.out | apply below_alloc | apply pw_below_drewN | apply below_drew1) | exact HB.out)⟩
     ·rw [if_neg c15] at H
      have c15b0 : ((a1.extract 0 ((ji9) : Int).toNat).toList == (a2.extract 0 ((ji12) : Int).toNat).toList) = false := beq_eq_false_iff_ne.mpr c15
      have c15b1 : ((a1.extract 0 ((ji9) : Int).toNat).toList != (a2.extract 0 ((ji12) : Int).toNat).toList) = true := bne_iff_ne.mpr c15
      replace H := Option.bind_eq_some_iff.mp H
      obtain ⟨⟨t297, t298⟩, A200, H⟩ := H
      replace H : ((tarrylaw08_does.f t293 (a2.extract 0 ((ji12) : Int).toNat) a4 (wrap64 (1 + (Int.tmod (wrap64 ((Int.tmod a6 4) + 4)) 4)))).bind fun bt301 => (if t298 = 0 then (tarrylaw08_StockApart.j0 k (a1.extract 0 ((ji9) : Int).toNat) (a2.extract 0 ((ji12) : Int).toNat) a3 a4 (wrap64 (1 + (Int.tmod (wrap64 ((Int.tmod a5 4) + 4)) 4))) (wrap64 (1 + (Int.tmod (wrap64 ((Int.tmod a6 4) + 4)) 4))) t297 bt301.1 (bt301.2 != 0)) else (tarrylaw08_StockApart.j0 k (a1.extract 0 ((ji9) : Int).toNat) (a2.extract 0 ((ji12) : Int).toNat) a3 a4 (wrap64 (1 + (Int.tmod (wrap64 ((Int.tmod a5 4) + 4)) 4))) (wrap64 (1 + (Int.tmod (wrap64 ((Int.tmod a6 4) + 4)) 4))) t297 bt301.1 true))) = some r := H
      have A20 := Aside0.mk A200
      clear A200
      replace H := Option.bind_eq_some_iff.mp H
      obtain ⟨⟨t301, t302⟩, A210, H⟩ := H
      replace H : (if t298 = 0 then (tarrylaw08_StockApart.j0 k (a1.extract 0 ((ji9) : Int).toNat) (a2.extract 0 ((ji12) : Int).toNat) a3 a4 (wrap64 (1 + (Int.tmod (wrap64 ((Int.tmod a5 4) + 4)) 4))) (wrap64 (1 + (Int.tmod (wrap64 ((Int.tmod a6 4) + 4)) 4))) t297 t301 (t302 != 0)) else (tarrylaw08_StockApart.j0 k (a1.extract 0 ((ji9) : Int).toNat) (a2.extract 0 ((ji12) : Int).toNat) a3 a4 (wrap64 (1 + (Int.tmod (wrap64 ((Int.tmod a5 4) + 4)) 4))) (wrap64 (1 + (Int.tmod (wrap64 ((Int.tmod a6 4) + 4)) 4))) t297 t301 true)) = some r := H
      have A21 := Aside0.mk A210
      clear A210
      have HC22 := Aside0.mk H
      clear H
      go_enter Try.func3, Try.ntmps3
      try go_wp2
      have n0_ := Aside0.mk (below_drew1 HB.out)
      clear HB
      have HB := n0_
      clear n0_
      refine start_ (n := 15) (S := fun w' => True) (ds := []) #[false, false, false, false, false, false, false, false, false, false, false, false, false, false, false] (by kernel_rfl) rfl rfl trivial (fun hHeld => ?_); refine with_tabW tarrylaw08_StockApart.tab1 tarrylaw08_StockApart.bits1 (fun HT_ HW_ => ?_)
      generalize w.drew = w23 at HB hHeld ⊢
      refine pure_ (i := 0) (N := some 23) (v := ?_) (a' := ?_) #[true, false, false, false, false, false, false, false, false, false, false, false, false, false, false] rfl rfl (any_of HT_.out (by kernel_rfl)) (fun _ _ _ h => h) (Or.inl ⟨by rfl, ?_⟩) ?_ ?_
      rotate_left
      ·intro w'
       go_simp
       with_reducible rfl
      rotate_left
      ·simp only [Act.put, List.setIfInBounds_toArray, List.set_cons_zero, List.set_cons_succ, i64_w, i32_w]
       rfl
      refine pure_ (i := 2) (N := some 25) (v := ?_) (a' := ?_) #[true, false, true, false, false, false, false, false, false, false, false, false, false, false, false] rfl rfl (any_of HT_.out (by kernel_rfl)) (fun _ _ _ h => h) (Or.inl ⟨by rfl, ?_⟩) ?_ ?_
      rotate_left
      ·intro w'
       go_simp
       with_reducible rfl
      rotate_left
      ·simp only [Act.put, List.setIfInBounds_toArray, List.set_cons_zero, List.set_cons_succ, i64_w, i32_w]
       rfl
      refine pure_ (i := 3) (N := some 26) (v := ?_) (a' := ?_) #[true, false, true, true, false, false, false, false, false, false, false, false, false, false, false] rfl rfl (any_of HT_.out (by kernel_rfl)) (fun _ _ _ h => h) (Or.inl ⟨by rfl, ?_⟩) ?_ ?_
      rotate_left
      ·intro w'
       go_simp
       with_reducible rfl
      rotate_left
      ·simp only [Act.put, List.setIfInBounds_toArray, List.set_cons_zero, List.set_cons_succ, i64_w, i32_w]
       rfl
      refine pure_ (i := 4) (N := some 27) (v := ?_) (a' := ?_) #[true, false, true, true, true, false, false, false, false, false, false, false, false, false, false] rfl rfl (any_of HT_.out (by kernel_rfl)) (fun _ _ _ h => h) (Or.inl ⟨by rfl, ?_⟩) ?_ ?_
      rotate_left
      ·intro w'
       go_simp
       with_reducible rfl
      rotate_left
      ·simp only [Act.put, List.setIfInBounds_toArray, List.set_cons_zero, List.set_cons_succ, i64_w, i32_w]
       rfl
      refine pure_ (i := 5) (N := some 28) (v := ?_) (a' := ?_) #[true, false, true, true, true, true, false, false, false, false, false, false, false, false, false] rfl rfl (any_of HT_.out (by kernel_rfl)) (fun _ _ _ h => h) (Or.inl ⟨by rfl, ?_⟩) ?_ ?_
      rotate_left
      ·intro w'
       go_simp
       with_reducible rfl
      rotate_left
      ·simp only [Act.put, List.setIfInBounds_toArray, List.set_cons_zero, List.set_cons_succ, i64_w, i32_w]
       rfl
      refine pure_ (i := 6) (N := some 29) (v := ?_) (a' := ?_) #[true, false, true, true, true, true, true, false, false, false, false, false, false, false, false] rfl rfl (any_of HT_.out (by kernel_rfl)) (fun _ _ _ h => h) (Or.inl ⟨by rfl, ?_⟩) ?_ ?_
      rotate_left
      ·intro w'
       go_simp
       with_reducible rfl
      rotate_left
      ·simp only [Act.put, List.setIfInBounds_toArray, List.set_cons_zero, List.set_cons_succ, i64_w, i32_w]
       rfl
      refine pure_ (i := 7) (N := some 30) (v := ?_) (a' := ?_) #[true, false, true, true, true, true, true, true, false, false, false, false, false, false, false] rfl rfl (any_of HT_.out (by kernel_rfl)) (fun _ _ _ h => h) (Or.inl ⟨by rfl, ?_⟩) ?_ ?_
      rotate_left
      ·intro w'
       go_simp
       with_reducible rfl
      rotate_left
      ·simp only [Act.put, List.setIfInBounds_toArray, List.set_cons_zero, List.set_cons_succ, i64_w, i32_w]
       rfl
      refine pure_ (i := 8) (N := some 31) (v := ?_) (a' := ?_) #[true, false, true, true, true, true, true, true, true, false, false, false, false, false, false] rfl rfl (any_of HT_.out (by kernel_rfl)) (fun _ _ _ h => h) (Or.inl ⟨by rfl, ?_⟩) ?_ ?_
      rotate_left
      ·intro w'
       go_simp
       with_reducible rfl
      rotate_left
      ·simp only [Act.put, List.setIfInBounds_toArray, List.set_cons_zero, List.set_cons_succ, i64_w, i32_w]
       rfl
      refine pure_ (i := 9) (N := some 32) (v := ?_) (a' := ?_) #[true, false, true, true, true, true, true, true, true, true, false, false, false, false, false] rfl rfl (any_of HT_.out (by kernel_rfl)) (fun _ _ _ h => h) (Or.inl ⟨by rfl, ?_⟩) ?_ ?_
      rotate_left
      ·intro w'
       go_simp
       with_reducible rfl
      rotate_left
      ·simp only [Act.put, List.setIfInBounds_toArray, List.set_cons_zero, List.set_cons_succ, i64_w, i32_w]
       rfl
      refine pure_ (i := 10) (N := some 33) (v := ?_) (a' := ?_) #[true, false, true, true, true, true, true, true, true, true, true, false, false, false, false] rfl rfl (any_of HT_.out (by kernel_rfl)) (fun _ _ _ h => h) (Or.inl ⟨by rfl, ?_⟩) ?_ ?_
      rotate_left
      ·intro w'
       go_simp
       with_reducible rfl
      rotate_left
      ·simp only [Act.put, List.setIfInBounds_toArray, List.set_cons_zero, List.set_cons_succ, i64_w, i32_w]
       rfl
      refine pure_ (i := 11) (N := some 34) (v := ?_) (a' := ?_) #[true, false, true, true, true, true, true, true, true, true, true, true, false, false, false] rfl rfl (any_of HT_.out (by kernel_rfl)) (fun _ _ _ h => h) (Or.inl ⟨by rfl, ?_⟩) ?_ ?_
      rotate_left
      ·intro w'
       go_simp
       with_reducible rfl
      rotate_left
      ·simp only [Act.put, List.setIfInBounds_toArray, List.set_cons_zero, List.set_cons_succ, i64_w, i32_w]
       rfl
      refine one_ (i := 1) (N := some 24) #[true, true, true, true, true, true, true, true, true, true, true, true, false, false, false] rfl rfl (one_of HT_.out (by kernel_rfl)) (by decide) (fun K hK => ?_)
      refine goes_ Try.func6 (by kernel_rfl) rfl #[.slice A0 l0.length c0] (by rfl) rfl rfl (by (try simp only [List.map_toArray, List.map_cons, List.map_nil]); first | done | rfl | (simp only [List.length_drop, List.length_take]; rfl)) ?_
      with_reducible refine (tarrylaw08_few.calls k _ _ l0 t293 _ ?side1 ?side2 A8.out).mono ?_
      (case side1 => repeat (first | exact (Kd.C_below HR0.out HB.out) | (with_reducible refine Kd.C_alloc ?_ _) | (with_reducible refine Kd.C_drewN ?_ _) | (with_reducible refine Kd.C_drew ?_)))
      (case side2 => exact HC0.out)
      rintro e w24 ⟨v294, rfl, ho0, hb⟩
      refine ⟨_, rfl, ?_⟩
      have n0_ := Aside0.mk (Kd.R_lower ho0 (below_size (by repeat (first | (with_reducible first | exact HB.out | apply below_alloc | apply pw_below_drewN | apply below_drew1) | exact HB.out))))
      have n1_ := Aside0.mk (below_step (by repeat (first | (with_reducible first | exact HB.out | apply below_alloc | apply pw_below_drewN | apply below_drew1) | exact HB.out)) hb)
      clear HB
      have HO295 := n0_
      have HB := n1_
      clear n0_ n1_
      (try clear hb)
      (try clear hb2)
      (try clear hk)
      (try clear hi)
      (try clear ho0)
      refine hK.out _ _ trivial (fun hHeld => ?_)
      clear hK K
      refine norm_ (a' := ?_) ?_ ?_
      rotate_left
      ·show Act.put _ (some 24) _ = _
       simp only [Act.put, List.setIfInBounds_toArray, List.set_cons_zero, List.set_cons_succ, i64_w, i32_w]
       rfl
      refine pure_ (i := 12) (N := some 0) (v := ?_) (a' := ?_) #[true, true, true, true, true, true, true, true, true, true, true, true, true, false, false] rfl rfl (any_of HT_.out (by kernel_rfl)) (fun _ _ _ h => h) (Or.inl ⟨by rfl, ?_⟩) ?_ ?_
      rotate_left
      ·intro w'
       go_simp
       with_reducible rfl
      rotate_left
      ·simp only [Act.put, List.setIfInBounds_toArray, List.set_cons_zero, List.set_cons_succ, i64_w, i32_w]
       rfl
      refine pure_ (i := 13) (N := some 1) (v := ?_) (a' := ?_) #[true, true, true, true, true, true, true, true, true, true, true, true, true, true, false] rfl rfl (any_of HT_.out (by kernel_rfl)) (fun _ _ _ h => h) (Or.inl ⟨by rfl, ?_⟩) ?_ ?_
      rotate_left
      ·intro w'
       go_simp
       with_reducible rfl
      rotate_left
      ·simp only [Act.put, List.setIfInBounds_toArray, List.set_cons_zero, List.set_cons_succ, i64_w, i32_w]
       rfl
      refine pure_ (i := 14) (N := some 2) (v := ?_) (a' := ?_) #[true, true, true, true, true, true, true, true, true, true, true, true, true, true, true] rfl rfl (any_of HT_.out (by kernel_rfl)) (fun _ _ _ h => h) (Or.inl ⟨by rfl, ?_⟩) ?_ ?_
      rotate_left
      ·intro w'
       go_simp
       with_reducible rfl
      rotate_left
      ·simp only [Act.put, List.setIfInBounds_toArray, List.set_cons_zero, List.set_cons_succ, i64_w, i32_w]
       rfl
      refine done_ (done_of HT_.out (by kernel_rfl)) ?_
      obtain ⟨Ao25, co25, eo25⟩ := Kd.R_slice HO295.out
      subst eo25
      go_upto_region 7 with (first | ((with_reducible refine gate_callee (f := 8) rfl ?_); refine goesL_ (some 54) rfl rfl Try.func8 (by kernel_rfl) rfl #[.slice Ao25 t293.length co25, .string (a1.extract 0 ((ji9) : Int).toNat), .int .i64 a3, .int .i64 (wrap64 (1 + (Int.tmod (wrap64 ((Int.tmod a5 4) + 4)) 4)))] rfl (by (try simp only [List.map_toArray, List.map_cons, List.map_nil]); first | done | (simp only [hji9]; rfl) | rfl | (simp only [List.length_drop, List.length_take]; rfl)) ?_; (with_reducible refine (tarrylaw08_does.calls _ _ t293 (a1.extract 0 ((ji9) : Int).toNat) a3 (wrap64 (1 + (Int.tmod (wrap64 ((Int.tmod a5 4) + 4)) 4))) t297 t298 _ ?side1 ?side2 A20.out).mono ?_); (case side1 => repeat (first | exact (Kd.R_reads' HO295.out).2.2 | (with_reducible refine Kd.C_alloc ?_ _) | (with_reducible refine Kd.C_drewN ?_ _) | (with_reducible refine Kd.C_drew ?_))); (case side2 => exact (Kd.R_reads' HO295.out).2.1); rintro e w26 ⟨v299, rfl, ho0, hb⟩; refine ⟨_, rfl, ?_⟩; have n0_ := Aside0.mk (Kd.R_elder' (by (with_reducible repeat (first | apply Kd.R_alloc | apply Kd.R_drewN | apply Kd.R_drew)); exact HO295.out) (Kd.R_base ho0) hb); have n1_ := Aside0.mk (Kd.R_lower (Kd.R_new' ho0 (Kd.R_lt (by (with_reducible repeat (first | apply Kd.R_alloc | apply Kd.R_drewN | apply Kd.R_drew)); exact HO295.out))) (below_size (by repeat (first | (with_reducible first | exact HB.out | apply below_alloc | apply pw_below_drewN | apply below_drew1) | exact HB.out)))); have n2_ := Aside0.mk (below_step (by repeat (first | (with_reducible first | exact HB.out | apply below_alloc | apply pw_below_drewN | apply below_drew1) | exact HB.out)) hb); clear HO295; clear HB; have HO295 := n0_; have HO300 := n1_; have HB := n2_; clear n0_ n1_ n2_; (try clear hb); (try clear hb2); (try clear hk); (try clear hi); (try clear ho0)) | ((with_reducible refine gate_callee (f := 8) rfl ?_); refine goesL_ (some 62) rfl rfl Try.func8 (by kernel_rfl) rfl #[.slice Ao25 t293.length co25, .string (a2.extract 0 ((ji12) : Int).toNat), .int .i64 a4, .int .i64 (wrap64 (1 + (Int.tmod (wrap64 ((Int.tmod a6 4) + 4)) 4)))] rfl (by (try simp only [List.map_toArray, List.map_cons, List.map_nil]); first | done | (simp only [hji12]; rfl) | rfl | (simp only [List.length_drop, List.length_take]; rfl)) ?_; (with_reducible refine (tarrylaw08_does.calls _ _ t293 (a2.extract 0 ((ji12) : Int).toNat) a4 (wrap64 (1 + (Int.tmod (wrap64 ((Int.tmod a6 4) + 4)) 4))) t301 t302 _ ?side1 ?side2 A21.out).mono ?_); (case side1 => repeat (first | exact (Kd.R_reads' HO295.out).2.2 | (with_reducible refine Kd.C_alloc ?_ _) | (with_reducible refine Kd.C_drewN ?_ _) | (with_reducible refine Kd.C_drew ?_))); (case side2 => exact (Kd.R_reads' HO295.out).2.1); rintro e w27 ⟨v303, rfl, ho0, hb⟩; refine ⟨_, rfl, ?_⟩; have n0_ := Aside0.mk (Kd.R_elder' (by (with_reducible repeat (first | apply Kd.R_alloc | apply Kd.R_drewN | apply Kd.R_drew)); exact HO295.out) (Kd.R_base ho0) hb); have n1_ := Aside0.mk (Kd.R_elder' (by (with_reducible repeat (first | apply Kd.R_alloc | apply Kd.R_drewN | apply Kd.R_drew)); exact HO300.out) (Kd.R_base ho0) hb); have n2_ := Aside0.mk (Kd.R_lower (Kd.R_new' (Kd.R_new' ho0 (Kd.R_lt (by (with_reducible repeat (first | apply Kd.R_alloc | apply Kd.R_drewN | apply Kd.R_drew)); exact HO295.out))) (Kd.R_lt (by (with_reducible repeat (first | apply Kd.R_alloc | apply Kd.R_drewN | apply Kd.R_drew)); exact HO300.out))) (below_size (by repeat (first | (with_reducible first | exact HB.out | apply below_alloc | apply pw_below_drewN | apply below_drew1) | exact HB.out)))); have n3_ := Aside0.mk (below_step (by repeat (first | (with_reducible first | exact HB.out | apply below_alloc | apply pw_below_drewN | apply below_drew1) | exact HB.out)) hb); clear HO295; clear HO300; clear HB; have HO295 := n0_; have HO300 := n1_; have HO304 := n2_; have HB := n3_; clear n0_ n1_ n2_ n3_; (try clear hb); (try clear hb2); (try clear hk); (try clear hi); (try clear ho0)))
      (try simp only [Act.put, List.setIfInBounds_toArray, List.set_cons_zero, List.set_cons_succ])
      go_cut [70] (fun v70 wc => ∃ (kq : Nat) (x70_21 : Bool), v70 = .bool x70_21 ∧ Aside0 (tarrylaw08_StockApart.j0 kq (a1.extract 0 ((ji9) : Int).toNat) (a2.extract 0 ((ji12) : Int).toNat) a3 a4 (wrap64 (1 + (Int.tmod (wrap64 ((Int.tmod a5 4) + 4)) 4))) (wrap64 (1 + (Int.tmod (wrap64 ((Int.tmod a6 4) + 4)) 4))) t297 t301 x70_21 = some r) ∧ Aside0 (kq ≤ k) ∧ Aside0 (Kd.R k33 33 wc w.heap.size (fun k_ => some k_ ≠ (v303 : Value).ownBlock) v299 t297) ∧ Aside0 (Kd.R k33 33 wc w.heap.size (fun k_ => some k_ ≠ (v299 : Value).ownBlock) v303 t301) ∧ Aside0 (Below w.heap.size w wc))
      case first =>
       have H := HC22.out
       clear HC22
       by_cases c28 : t298 = 0
       ·rw [if_pos c28] at H
        have c28b0 : (t298 == 0) = true := beq_iff_eq.mpr c28
        have c28b1 : (t298 != 0) = false := bne_eq_false_iff_eq.mpr c28
        clear c28
        (first | rw [c28b0] | (simp only [i64_w, i32_w]; rw [c28b0]) | skip)
        have H' := Aside0.mk H
        clear H
        go_wp2
        go_meet
        case rel => exact ⟨_, ((t302 != 0)), (by first | rfl | (simp; done) | (simp [*]; done)), H', ⟨by first | omega | exact Nat.le_refl _⟩, ⟨by (with_reducible repeat (first | apply Kd.R_alloc | apply Kd.R_drewN | apply Kd.R_drew)); exact Kd.R_mono HO300.out (fun _ hk => hk.2)⟩, ⟨by (with_reducible repeat (first | apply Kd.R_alloc | apply Kd.R_drewN | apply Kd.R_drew)); exact Kd.R_mono HO304.out (fun _ hk => hk.2)⟩, ⟨by repeat (first | (with_reducible first | exact HB.out | apply below_alloc | apply pw_below_drewN | apply below_drew1) | exact HB.out)⟩⟩
       ·rw [if_neg c28] at H
        have c28b0 : (t298 == 0) = false := beq_eq_false_iff_ne.mpr c28
        have c28b1 : (t298 != 0) = true := bne_iff_ne.mpr c28
        (first | rw [c28b0] | (simp only [i64_w, i32_w]; rw [c28b0]) | skip)
        have H' := Aside0.mk H
        clear H
        go_wp2
        go_meet
        case rel => exact ⟨_, (true), (by first | rfl | (simp; done) | (simp [*]; done)), H', ⟨by first | omega | exact Nat.le_refl _⟩, ⟨by (with_reducible repeat (first | apply Kd.R_alloc | apply Kd.R_drewN | apply Kd.R_drew)); exact Kd.R_mono HO300.out (fun _ hk => hk.2)⟩, ⟨by (with_reducible repeat (first | apply Kd.R_alloc | apply Kd.R_drewN | apply Kd.R_drew)); exact Kd.R_mono HO304.out (fun _ hk => hk.2)⟩, ⟨by repeat (first | (with_reducible first | exact HB.out | apply below_alloc | apply pw_below_drewN | apply below_drew1) | exact HB.out)⟩⟩
      case rest =>
       clear HC22
       try clear c1
       try clear c2
       try clear p2
       try clear c3
       try clear c6
       try clear p6
       try clear c7
       try clear c8
       try clear c10
       try clear c10b0
       try clear c10b1
       try clear c11
       try clear c11b0
       try clear c11b1
       try clear c13
       try clear c13b0
       try clear c13b1
       try clear c14
       try clear c14b0
       try clear c14b1
       try clear c15
       try clear c15b0
       try clear c15b1
       try clear c28
       try clear c28b0
       try clear c28b1
       obtain ⟨kq, x70_21, rfl, HA, HJ21, HO_15, HO_17, HB⟩ := hcut
       cases kq with
       | zero => exact absurd HA.out (by simp [tarrylaw08_StockApart.j0])
       | succ kj21 =>
        have H := HA.out
        clear HA
        simp only [tarrylaw08_StockApart.j0] at H
        by_cases c29 : x70_21 = true
        ·subst c29
         have H1 : ((tarrylaw08_alive.f kj21).bind fun t305 => (if t305 = true then (some ((wrap64 ((t297.length : Int) * (t301.length : Int))) == 0)) else (some false))) = some r := by rw [if_pos rfl] at H; exact H
         clear H
         have H := H1
         clear H1
         replace H := Option.bind_eq_some_iff.mp H
         obtain ⟨t305, A300, H⟩ := H
         replace H : (if t305 = true then (some ((wrap64 ((t297.length : Int) * (t301.length : Int))) == 0)) else (some false)) = some r := H
         have A30 := Aside0.mk A300
         clear A300
         by_cases c31 : t305 = true
         ·subst c31
          have H1 : (some ((wrap64 ((t297.length : Int) * (t301.length : Int))) == 0)) = some r := by rw [if_pos rfl] at H; exact H
          clear H
          have H := H1
          clear H1
          obtain rfl := Option.some.inj H
          go_wp2_with (first | ((with_reducible refine gate_callee (f := 7) rfl ?_); refine goesL_ (some 71) rfl rfl Try.func7 (by kernel_rfl) rfl #[] rfl (by (try simp only [List.map_toArray, List.map_cons, List.map_nil]); first | done | rfl | (simp only [List.length_drop, List.length_take]; rfl)) ?_; (with_reducible refine (tarrylaw08_alive.calls kj21  true _ A30.out).mono ?_); rintro e w32 ⟨rfl, hb⟩; refine ⟨_, rfl, ?_⟩; have n0_ := Aside0.mk (Kd.R_below (by (with_reducible repeat (first | apply Kd.R_alloc | apply Kd.R_drewN | apply Kd.R_drew)); exact HO_15.out) hb); have n1_ := Aside0.mk (Kd.R_below (by (with_reducible repeat (first | apply Kd.R_alloc | apply Kd.R_drewN | apply Kd.R_drew)); exact HO_17.out) hb); have n2_ := Aside0.mk (below_step (by repeat (first | (with_reducible first | exact HB.out | apply below_alloc | apply pw_below_drewN | apply below_drew1) | exact HB.out)) hb); clear HO_15; clear HO_17; clear HB; have HO_15 := n0_; have HO_17 := n1_; have HB := n2_; clear n0_ n1_ n2_; (try clear hb); (try clear hb2); (try clear hk); (try clear hi); obtain ⟨Ao33, co33, eo33⟩ := Kd.R_slice HO_15.out; subst eo33; obtain ⟨Ao34, co34, eo34⟩ := Kd.R_slice HO_17.out; subst eo34))
          go_ret
          exact ⟨by first | rfl | (simp [errW_none, errW_some] <;> rfl) | (simp only [← hji9, ← hji12]; first | rfl | (simp [errW_none, errW_some] <;> rfl)) | (simp [*, errW_none, errW_some] <;> rfl), by repeat (first | (with_reducible first | exact HB.out | apply below_alloc | apply pw_below_drewN | apply below_drew1) | exact HB.out)⟩
         ·replace c31 := Bool.eq_false_iff.mpr c31
          subst c31
          have H1 : (some false) = some r := by rw [if_neg (show ¬ (false = true) by decide)] at H; exact H
          clear H
          have H := H1
          clear H1
          obtain rfl := Option.some.inj H
          go_wp2_with (first | ((with_reducible refine gate_callee (f := 7) rfl ?_); refine goesL_ (some 71) rfl rfl Try.func7 (by kernel_rfl) rfl #[] rfl (by (try simp only [List.map_toArray, List.map_cons, List.map_nil]); first | done | rfl | (simp only [List.length_drop, List.length_take]; rfl)) ?_; (with_reducible refine (tarrylaw08_alive.calls kj21  false _ A30.out).mono ?_); rintro e w35 ⟨rfl, hb⟩; refine ⟨_, rfl, ?_⟩; have n0_ := Aside0.mk (Kd.R_below (by (with_reducible repeat (first | apply Kd.R_alloc | apply Kd.R_drewN | apply Kd.R_drew)); exact HO_15.out) hb); have n1_ := Aside0.mk (Kd.R_below (by (with_reducible repeat (first | apply Kd.R_alloc | apply Kd.R_drewN | apply Kd.R_drew)); exact HO_17.out) hb); have n2_ := Aside0.mk (below_step (by repeat (first | (with_reducible first | exact HB.out | apply below_alloc | apply pw_below_drewN | apply below_drew1) | exact HB.out)) hb); clear HO_15; clear HO_17; clear HB; have HO_15 := n0_; have HO_17 := n1_; have HB := n2_; clear n0_ n1_ n2_; (try clear hb); (try clear hb2); (try clear hk); (try clear hi)))
          go_ret
          exact ⟨by first | rfl | (simp [errW_none, errW_some] <;> rfl) | (simp only [← hji9, ← hji12]; first | rfl | (simp [errW_none, errW_some] <;> rfl)) | (simp [*, errW_none, errW_some] <;> rfl), by repeat (first | (with_reducible first | exact HB.out | apply below_alloc | apply pw_below_drewN | apply below_drew1) | exact HB.out)⟩
        ·replace c29 := Bool.eq_false_iff.mpr c29
         subst c29
         have H1 : ((tarrylaw08_does.f t297 (a2.extract 0 ((ji12) : Int).toNat) a4 (wrap64 (1 + (Int.tmod (wrap64 ((Int.tmod a6 4) + 4)) 4)))).bind fun bt306 => ((tarrylaw08_does.f t301 (a1.extract 0 ((ji9) : Int).toNat) a3 (wrap64 (1 + (Int.tmod (wrap64 ((Int.tmod a5 4) + 4)) 4)))).bind fun bt310 => ((tarrylaw08_alive.f kj21).bind fun t314 => (if t314 = true then (if bt306.2 = 0 then (if bt310.2 = 0 then ((tarryref08_Same.f kj21 bt306.1 bt310.1).bind fun t315 => (if t315 = true then ((stock_Right.f bt306.1).bind fun t316 => (some t316)) else (some false))) else (some false)) else (some false)) else (some false))))) = some r := by rw [if_neg (show ¬ (false = true) by decide)] at H; exact H
         clear H
         have H := H1
         clear H1
         replace H := Option.bind_eq_some_iff.mp H
         obtain ⟨⟨t306, t307⟩, A360, H⟩ := H
         replace H : ((tarrylaw08_does.f t301 (a1.extract 0 ((ji9) : Int).toNat) a3 (wrap64 (1 + (Int.tmod (wrap64 ((Int.tmod a5 4) + 4)) 4)))).bind fun bt310 => ((tarrylaw08_alive.f kj21).bind fun t314 => (if t314 = true then (if t307 = 0 then (if bt310.2 = 0 then ((tarryref08_Same.f kj21 t306 bt310.1).bind fun t315 => (if t315 = true then ((stock_Right.f t306).bind fun t316 => (some t316)) else (some false))) else (some false)) else (some false)) else (some false)))) = some r := H
         have A36 := Aside0.mk A360
         clear A360
         replace H := Option.bind_eq_some_iff.mp H
         obtain ⟨⟨t310, t311⟩, A370, H⟩ := H
         replace H : ((tarrylaw08_alive.f kj21).bind fun t314 => (if t314 = true then (if t307 = 0 then (if t311 = 0 then ((tarryref08_Same.f kj21 t306 t310).bind fun t315 => (if t315 = true then ((stock_Right.f t306).bind fun t316 => (some t316)) else (some false))) else (some false)) else (some false)) else (some false))) = some r := H
         have A37 := Aside0.mk A370
         clear A370
         replace H := Option.bind_eq_some_iff.mp H
         obtain ⟨t314, A380, H⟩ := H
         replace H : (if t314 = true then (if t307 = 0 then (if t311 = 0 then ((tarryref08_Same.f kj21 t306 t310).bind fun t315 => (if t315 = true then ((stock_Right.f t306).bind fun t316 => (some t316)) else (some false))) else (some false)) else (some false)) else (some false)) = some r := H
         have A38 := Aside0.mk A380
         clear A380
         by_cases c39 : t314 = true
         ·subst c39
          have H1 : (if t307 = 0 then (if t311 = 0 then ((tarryref08_Same.f kj21 t306 t310).bind fun t315 => (if t315 = true then ((stock_Right.f t306).bind fun t316 => (some t316)) else (some false))) else (some false)) else (some false)) = some r := by rw [if_pos rfl] at H; exact H
          clear H
          have H := H1
          clear H1
          by_cases c40 : t307 = 0
          ·rw [if_pos c40] at H
           have c40b0 : (t307 == 0) = true := beq_iff_eq.mpr c40
           have c40b1 : (t307 != 0) = false := bne_eq_false_iff_eq.mpr c40
           clear c40
           by_cases c41 : t311 = 0
           ·rw [if_pos c41] at H
            have c41b0 : (t311 == 0) = true := beq_iff_eq.mpr c41
            have c41b1 : (t311 != 0) = false := bne_eq_false_iff_eq.mpr c41
            clear c41
            replace H := Option.bind_eq_some_iff.mp H
            obtain ⟨t315, A420, H⟩ := H
            replace H : (if t315 = true then ((stock_Right.f t306).bind fun t316 => (some t316)) else (some false)) = some r := H
            have A42 := Aside0.mk A420
            clear A420
            by_cases c43 : t315 = true
            ·subst c43
             have H1 : ((stock_Right.f t306).bind fun t316 => (some t316)) = some r := by rw [if_pos rfl] at H; exact H
             clear H
             have H := H1
             clear H1
             replace H := Option.bind_eq_some_iff.mp H
             obtain ⟨t316, A440, H⟩ := H
             replace H : (some t316) = some r := H
             have A44 := Aside0.mk A440
             clear A440
             obtain rfl := Option.some.inj H
             obtain ⟨Ao45, co45, eo45⟩ := Kd.R_slice HO_15.out
             subst eo45
             go_wp2_with (first | ((with_reducible refine gate_callee (f := 8) rfl ?_); refine goesL_ (some 85) rfl rfl Try.func8 (by kernel_rfl) rfl #[.slice Ao45 t297.length co45, .string (a2.extract 0 ((ji12) : Int).toNat), .int .i64 a4, .int .i64 (wrap64 (1 + (Int.tmod (wrap64 ((Int.tmod a6 4) + 4)) 4)))] rfl (by (try simp only [List.map_toArray, List.map_cons, List.map_nil]); first | done | (simp only [hji12]; rfl) | rfl | (simp only [List.length_drop, List.length_take]; rfl)) ?_; (with_reducible refine (tarrylaw08_does.calls _ _ t297 (a2.extract 0 ((ji12) : Int).toNat) a4 (wrap64 (1 + (Int.tmod (wrap64 ((Int.tmod a6 4) + 4)) 4))) t306 t307 _ ?side1 ?side2 A36.out).mono ?_); (case side1 => repeat (first | exact (Kd.R_reads' HO_15.out).2.2 | (with_reducible refine Kd.C_alloc ?_ _) | (with_reducible refine Kd.C_drewN ?_ _) | (with_reducible refine Kd.C_drew ?_))); (case side2 => exact (Kd.R_reads' HO_15.out).2.1); rintro e w46 ⟨v308, rfl, ho0, hb⟩; refine ⟨_, rfl, ?_⟩; have n0_ := Aside0.mk (Kd.R_elder' (by (with_reducible repeat (first | apply Kd.R_alloc | apply Kd.R_drewN | apply Kd.R_drew)); exact HO_15.out) (Kd.R_base ho0) hb); have n1_ := Aside0.mk (Kd.R_elder' (by (with_reducible repeat (first | apply Kd.R_alloc | apply Kd.R_drewN | apply Kd.R_drew)); exact HO_17.out) (Kd.R_base ho0) hb); have n2_ := Aside0.mk (Kd.R_lower (Kd.R_new' (Kd.R_new' ho0 (Kd.R_lt (by (with_reducible repeat (first | apply Kd.R_alloc | apply Kd.R_drewN | apply Kd.R_drew)); exact HO_15.out))) (Kd.R_lt (by (with_reducible repeat (first | apply Kd.R_alloc | apply Kd.R_drewN | apply Kd.R_drew)); exact HO_17.out))) (below_size (by repeat (first | (with_reducible first | exact HB.out | apply below_alloc | apply pw_below_drewN | apply below_drew1) | exact HB.out)))); have n3_ := Aside0.mk (below_step (by repeat (first | (with_reducible first | exact HB.out | apply below_alloc | apply pw_below_drewN | apply below_drew1) | exact HB.out)) hb); clear HO_15; clear HO_17; clear HB; have HO_15 := n0_; have HO_17 := n1_; have HO309 := n2_; have HB := n3_; clear n0_ n1_ n2_ n3_; (try clear hb); (try clear hb2); (try clear hk); (try clear hi); (try clear ho0); obtain ⟨Ao47, co47, eo47⟩ := Kd.R_slice HO_17.out; subst eo47) | ((with_reducible refine gate_callee (f := 8) rfl ?_); refine goesL_ (some 93) rfl rfl Try.func8 (by kernel_rfl) rfl #[.slice Ao47 t301.length co47, .string (a1.extract 0 ((ji9) : Int).toNat), .int .i64 a3, .int .i64 (wrap64 (1 + (Int.tmod (wrap64 ((Int.tmod a5 4) + 4)) 4)))] rfl (by (try simp only [List.map_toArray, List.map_cons, List.map_nil]); first | done | (simp only [hji9]; rfl) | rfl | (simp only [List.length_drop, List.length_take]; rfl)) ?_; (with_reducible refine (tarrylaw08_does.calls _ _ t301 (a1.extract 0 ((ji9) : Int).toNat) a3 (wrap64 (1 + (Int.tmod (wrap64 ((Int.tmod a5 4) + 4)) 4))) t310 t311 _ ?side1 ?side2 A37.out).mono ?_); (case side1 => repeat (first | exact (Kd.R_reads' HO_17.out).2.2 | (with_reducible refine Kd.C_alloc ?_ _) | (with_reducible refine Kd.C_drewN ?_ _) | (with_reducible refine Kd.C_drew ?_))); (case side2 => exact (Kd.R_reads' HO_17.out).2.1); rintro e w48 ⟨v312, rfl, ho0, hb⟩; refine ⟨_, rfl, ?_⟩; have n0_ := Aside0.mk (Kd.R_elder' (by (with_reducible repeat (first | apply Kd.R_alloc | apply Kd.R_drewN | apply Kd.R_drew)); exact HO_15.out) (Kd.R_base ho0) hb); have n1_ := Aside0.mk (Kd.R_elder' (by (with_reducible repeat (first | apply Kd.R_alloc | apply Kd.R_drewN | apply Kd.R_drew)); exact HO_17.out) (Kd.R_base ho0) hb); have n2_ := Aside0.mk (Kd.R_elder' (by (with_reducible repeat (first | apply Kd.R_alloc | apply Kd.R_drewN | apply Kd.R_drew)); exact HO309.out) (Kd.R_base ho0) hb); have n3_ := Aside0.mk (Kd.R_lower (Kd.R_new' (Kd.R_new' (Kd.R_new' ho0 (Kd.R_lt (by (with_reducible repeat (first | apply Kd.R_alloc | apply Kd.R_drewN | apply Kd.R_drew)); exact HO_15.out))) (Kd.R_lt (by (with_reducible repeat (first | apply Kd.R_alloc | apply Kd.R_drewN | apply Kd.R_drew)); exact HO_17.out))) (Kd.R_lt (by (with_reducible repeat (first | apply Kd.R_alloc | apply Kd.R_drewN | apply Kd.R_drew)); exact HO309.out))) (below_size (by repeat (first | (with_reducible first | exact HB.out | apply below_alloc | apply pw_below_drewN | apply below_drew1) | exact HB.out)))); have n4_ := Aside0.mk (below_step (by repeat (first | (with_reducible first | exact HB.out | apply below_alloc | apply pw_below_drewN | apply below_drew1) | exact HB.out)) hb); clear HO_15; clear HO_17; clear HO309; clear HB; have HO_15 := n0_; have HO_17 := n1_; have HO309 := n2_; have HO313 := n3_; have HB := n4_; clear n0_ n1_ n2_ n3_ n4_; (try clear hb); (try clear hb2); (try clear hk); (try clear hi); (try clear ho0)) | ((with_reducible refine gate_callee (f := 7) rfl ?_); refine goesL_ (some 96) rfl rfl Try.func7 (by kernel_rfl) rfl #[] rfl (by (try simp only [List.map_toArray, List.map_cons, List.map_nil]); first | done | rfl | (simp only [List.length_drop, List.length_take]; rfl)) ?_; (with_reducible refine (tarrylaw08_alive.calls kj21  true _ A38.out).mono ?_); rintro e w49 ⟨rfl, hb⟩; refine ⟨_, rfl, ?_⟩; have n0_ := Aside0.mk (Kd.R_below (by (with_reducible repeat (first | apply Kd.R_alloc | apply Kd.R_drewN | apply Kd.R_drew)); exact HO_15.out) hb); have n1_ := Aside0.mk (Kd.R_below (by (with_reducible repeat (first | apply Kd.R_alloc | apply Kd.R_drewN | apply Kd.R_drew)); exact HO_17.out) hb); have n2_ := Aside0.mk (Kd.R_below (by (with_reducible repeat (first | apply Kd.R_alloc | apply Kd.R_drewN | apply Kd.R_drew)); exact HO309.out) hb); have n3_ := Aside0.mk (Kd.R_below (by (with_reducible repeat (first | apply Kd.R_alloc | apply Kd.R_drewN | apply Kd.R_drew)); exact HO313.out) hb); have n4_ := Aside0.mk (below_step (by repeat (first | (with_reducible first | exact HB.out | apply below_alloc | apply pw_below_drewN | apply below_drew1) | exact HB.out)) hb); clear HO_15; clear HO_17; clear HO309; clear HO313; clear HB; have HO_15 := n0_; have HO_17 := n1_; have HO309 := n2_; have HO313 := n3_; have HB := n4_; clear n0_ n1_ n2_ n3_ n4_; (try clear hb); (try clear hb2); (try clear hk); (try clear hi); obtain ⟨Ao50, co50, eo50⟩ := Kd.R_slice HO309.out; subst eo50; obtain ⟨Ao51, co51, eo51⟩ := Kd.R_slice HO313.out; subst eo51) | (go_at_call 9; (with_reducible refine (tarryref08_Same.calls kj21 _ _ t306 _ _ t310 true _ ?side1 ?side2 ?side3 ?side4 A42.out).mono ?_); (case side1 => repeat (first | exact (Kd.R_reads' HO309.out).2.2 | (with_reducible refine Kd.C_alloc ?_ _) | (with_reducible refine Kd.C_drewN ?_ _) | (with_reducible refine Kd.C_drew ?_))); (case side2 => exact (Kd.R_reads' HO309.out).2.1); (case side3 => repeat (first | exact (Kd.R_reads' HO313.out).2.2 | (with_reducible refine Kd.C_alloc ?_ _) | (with_reducible refine Kd.C_drewN ?_ _) | (with_reducible refine Kd.C_drew ?_))); (case side4 => exact (Kd.R_reads' HO313.out).2.1); rintro e w' ⟨rfl, ⟨nd, rfl⟩⟩) | (go_at_call 10; (with_reducible refine (stock_Right.calls _ _ t306 t316 _ ?side1 ?side2 A44.out).mono ?_); (case side1 => repeat (first | exact (Kd.R_reads' HO309.out).2.2 | (with_reducible refine Kd.C_alloc ?_ _) | (with_reducible refine Kd.C_drewN ?_ _) | (with_reducible refine Kd.C_drew ?_))); (case side2 => exact (Kd.R_reads' HO309.out).2.1); rintro e w52 ⟨rfl, hb⟩; have n0_ := Aside0.mk (Kd.R_below (by (with_reducible repeat (first | apply Kd.R_alloc | apply Kd.R_drewN | apply Kd.R_drew)); exact HO_15.out) hb); have n1_ := Aside0.mk (Kd.R_below (by (with_reducible repeat (first | apply Kd.R_alloc | apply Kd.R_drewN | apply Kd.R_drew)); exact HO_17.out) hb); have n2_ := Aside0.mk (Kd.R_below (by (with_reducible repeat (first | apply Kd.R_alloc | apply Kd.R_drewN | apply Kd.R_drew)); exact HO309.out) hb); have n3_ := Aside0.mk (Kd.R_below (by (with_reducible repeat (first | apply Kd.R_alloc | apply Kd.R_drewN | apply Kd.R_drew)); exact HO313.out) hb); have n4_ := Aside0.mk (below_step (by repeat (first | (with_reducible first | exact HB.out | apply below_alloc | apply pw_below_drewN | apply below_drew1) | exact HB.out)) hb); clear HO_15; clear HO_17; clear HO309; clear HO313; clear HB; have HO_15 := n0_; have HO_17 := n1_; have HO309 := n2_; have HO313 := n3_; have HB := n4_; clear n0_ n1_ n2_ n3_ n4_; (try clear hb); (try clear hb2); (try clear hk); (try clear hi)))
             go_ret
             exact ⟨by first | rfl | (simp [errW_none, errW_some] <;> rfl) | (simp only [← hji9, ← hji12]; first | rfl | (simp [errW_none, errW_some] <;> rfl)) | (simp [*, errW_none, errW_some] <;> rfl), by repeat (first | (with_reducible first | exact HB.out | apply below_alloc | apply pw_below_drewN | apply below_drew1) | exact HB.out)⟩
            ·replace c43 := Bool.eq_false_iff.mpr c43
             subst c43
             have H1 : (some false) = some r := by rw [if_neg (show ¬ (false = true) by decide)] at H; exact H
             clear H
             have H := H1
             clear H1
             obtain rfl := Option.some.inj H
             obtain ⟨Ao53, co53, eo53⟩ := Kd.R_slice HO_15.out
             subst eo53
             go_wp2_with (first | ((with_reducible refine gate_callee (f := 8) rfl ?_); refine goesL_ (some 85) rfl rfl Try.func8 (by kernel_rfl) rfl #[.slice Ao53 t297.length co53, .string (a2.extract 0 ((ji12) : Int).toNat), .int .i64 a4, .int .i64 (wrap64 (1 + (Int.tmod (wrap64 ((Int.tmod a6 4) + 4)) 4)))] rfl (by (try simp only [List.map_toArray, List.map_cons, List.map_nil]); first | done | (simp only [hji12]; rfl) | rfl | (simp only [List.length_drop, List.length_take]; rfl)) ?_; (with_reducible refine (tarrylaw08_does.calls _ _ t297 (a2.extract 0 ((ji12) : Int).toNat) a4 (wrap64 (1 + (Int.tmod (wrap64 ((Int.tmod a6 4) + 4)) 4))) t306 t307 _ ?side1 ?side2 A36.out).mono ?_); (case side1 => repeat (first | exact (Kd.R_reads' HO_15.out).2.2 | (with_reducible refine Kd.C_alloc ?_ _) | (with_reducible refine Kd.C_drewN ?_ _) | (with_reducible refine Kd.C_drew ?_))); (case side2 => exact (Kd.R_reads' HO_15.out).2.1); rintro e w54 ⟨v308, rfl, ho0, hb⟩; refine ⟨_, rfl, ?_⟩; have n0_ := Aside0.mk (Kd.R_elder' (by (with_reducible repeat (first | apply Kd.R_alloc | apply Kd.R_drewN | apply Kd.R_drew)); exact HO_15.out) (Kd.R_base ho0) hb); have n1_ := Aside0.mk (Kd.R_elder' (by (with_reducible repeat (first | apply Kd.R_alloc | apply Kd.R_drewN | apply Kd.R_drew)); exact HO_17.out) (Kd.R_base ho0) hb); have n2_ := Aside0.mk (Kd.R_lower (Kd.R_new' (Kd.R_new' ho0 (Kd.R_lt (by (with_reducible repeat (first | apply Kd.R_alloc | apply Kd.R_drewN | apply Kd.R_drew)); exact HO_15.out))) (Kd.R_lt (by (with_reducible repeat (first | apply Kd.R_alloc | apply Kd.R_drewN | apply Kd.R_drew)); exact HO_17.out))) (below_size (by repeat (first | (with_reducible first | exact HB.out | apply below_alloc | apply pw_below_drewN | apply below_drew1) | exact HB.out)))); have n3_ := Aside0.mk (below_step (by repeat (first | (with_reducible first | exact HB.out | apply below_alloc | apply pw_below_drewN | apply below_drew1) | exact HB.out)) hb); clear HO_15; clear HO_17; clear HB; have HO_15 := n0_; have HO_17 := n1_; have HO309 := n2_; have HB := n3_; clear n0_ n1_ n2_ n3_; (try clear hb); (try clear hb2); (try clear hk); (try clear hi); (try clear ho0); obtain ⟨Ao55, co55, eo55⟩ := Kd.R_slice HO_17.out; subst eo55) | ((with_reducible refine gate_callee (f := 8) rfl ?_); refine goesL_ (some 93) rfl rfl Try.func8 (by kernel_rfl) rfl #[.slice Ao55 t301.length co55, .string (a1.extract 0 ((ji9) : Int).toNat), .int .i64 a3, .int .i64 (wrap64 (1 + (Int.tmod (wrap64 ((Int.tmod a5 4) + 4)) 4)))] rfl (by (try simp only [List.map_toArray, List.map_cons, List.map_nil]); first | done | (simp only [hji9]; rfl) | rfl | (simp only [List.length_drop, List.length_take]; rfl)) ?_; (with_reducible refine (tarrylaw08_does.calls _ _ t301 (a1.extract 0 ((ji9) : Int).toNat) a3 (wrap64 (1 + (Int.tmod (wrap64 ((Int.tmod a5 4) + 4)) 4))) t310 t311 _ ?side1 ?side2 A37.out).mono ?_); (case side1 => repeat (first | exact (Kd.R_reads' HO_17.out).2.2 | (with_reducible refine Kd.C_alloc ?_ _) | (with_reducible refine Kd.C_drewN ?_ _) | (with_reducible refine Kd.C_drew ?_))); (case side2 => exact (Kd.R_reads' HO_17.out).2.1); rintro e w56 ⟨v312, rfl, ho0, hb⟩; refine ⟨_, rfl, ?_⟩; have n0_ := Aside0.mk (Kd.R_elder' (by (with_reducible repeat (first | apply Kd.R_alloc | apply Kd.R_drewN | apply Kd.R_drew)); exact HO_15.out) (Kd.R_base ho0) hb); have n1_ := Aside0.mk (Kd.R_elder' (by (with_reducible repeat (first | apply Kd.R_alloc | apply Kd.R_drewN | apply Kd.R_drew)); exact HO_17.out) (Kd.R_base ho0) hb); have n2_ := Aside0.mk (Kd.R_elder' (by (with_reducible repeat (first | apply Kd.R_alloc | apply Kd.R_drewN | apply Kd.R_drew)); exact HO309.out) (Kd.R_base ho0) hb); have n3_ := Aside0.mk (Kd.R_lower (Kd.R_new' (Kd.R_new' (Kd.R_new' ho0 (Kd.R_lt (by (with_reducible repeat (first | apply Kd.R_alloc | apply Kd.R_drewN | apply Kd.R_drew)); exact HO_15.out))) (Kd.R_lt (by (with_reducible repeat (first | apply Kd.R_alloc | apply Kd.R_drewN | apply Kd.R_drew)); exact HO_17.out))) (Kd.R_lt (by (with_reducible repeat (first | apply Kd.R_alloc | apply Kd.R_drewN | apply Kd.R_drew)); exact HO309.out))) (below_size (by repeat (first | (with_reducible first | exact HB.out | apply below_alloc | apply pw_below_drewN | apply below_drew1) | exact HB.out)))); have n4_ := Aside0.mk (below_step (by repeat (first | (with_reducible first | exact HB.out | apply below_alloc | apply pw_below_drewN | apply below_drew1) | exact HB.out)) hb); clear HO_15; clear HO_17; clear HO309; clear HB; have HO_15 := n0_; have HO_17 := n1_; have HO309 := n2_; have HO313 := n3_; have HB := n4_; clear n0_ n1_ n2_ n3_ n4_; (try clear hb); (try clear hb2); (try clear hk); (try clear hi); (try clear ho0)) | ((with_reducible refine gate_callee (f := 7) rfl ?_); refine goesL_ (some 96) rfl rfl Try.func7 (by kernel_rfl) rfl #[] rfl (by (try simp only [List.map_toArray, List.map_cons, List.map_nil]); first | done | rfl | (simp only [List.length_drop, List.length_take]; rfl)) ?_; (with_reducible refine (tarrylaw08_alive.calls kj21  true _ A38.out).mono ?_); rintro e w57 ⟨rfl, hb⟩; refine ⟨_, rfl, ?_⟩; have n0_ := Aside0.mk (Kd.R_below (by (with_reducible repeat (first | apply Kd.R_alloc | apply Kd.R_drewN | apply Kd.R_drew)); exact HO_15.out) hb); have n1_ := Aside0.mk (Kd.R_below (by (with_reducible repeat (first | apply Kd.R_alloc | apply Kd.R_drewN | apply Kd.R_drew)); exact HO_17.out) hb); have n2_ := Aside0.mk (Kd.R_below (by (with_reducible repeat (first | apply Kd.R_alloc | apply Kd.R_drewN | apply Kd.R_drew)); exact HO309.out) hb); have n3_ := Aside0.mk (Kd.R_below (by (with_reducible repeat (first | apply Kd.R_alloc | apply Kd.R_drewN | apply Kd.R_drew)); exact HO313.out) hb); have n4_ := Aside0.mk (below_step (by repeat (first | (with_reducible first | exact HB.out | apply below_alloc | apply pw_below_drewN | apply below_drew1) | exact HB.out)) hb); clear HO_15; clear HO_17; clear HO309; clear HO313; clear HB; have HO_15 := n0_; have HO_17 := n1_; have HO309 := n2_; have HO313 := n3_; have HB := n4_; clear n0_ n1_ n2_ n3_ n4_; (try clear hb); (try clear hb2); (try clear hk); (try clear hi); obtain ⟨Ao58, co58, eo58⟩ := Kd.R_slice HO309.out; subst eo58; obtain ⟨Ao59, co59, eo59⟩ := Kd.R_slice HO313.out; subst eo59) | (go_at_call 9; (with_reducible refine (tarryref08_Same.calls kj21 _ _ t306 _ _ t310 false _ ?side1 ?side2 ?side3 ?side4 A42.out).mono ?_); (case side1 => repeat (first | exact (Kd.R_reads' HO309.out).2.2 | (with_reducible refine Kd.C_alloc ?_ _) | (with_reducible refine Kd.C_drewN ?_ _) | (with_reducible refine Kd.C_drew ?_))); (case side2 => exact (Kd.R_reads' HO309.out).2.1); (case side3 => repeat (first | exact (Kd.R_reads' HO313.out).2.2 | (with_reducible refine Kd.C_alloc ?_ _) | (with_reducible refine Kd.C_drewN ?_ _) | (with_reducible refine Kd.C_drew ?_))); (case side4 => exact (Kd.R_reads' HO313.out).2.1); rintro e w' ⟨rfl, ⟨nd, rfl⟩⟩))
             go_ret
             exact ⟨by first | rfl | (simp [errW_none, errW_some] <;> rfl) | (simp only [← hji9, ← hji12]; first | rfl | (simp [errW_none, errW_some] <;> rfl)) | (simp [*, errW_none, errW_some] <;> rfl), by repeat (first | (with_reducible first | exact HB.out | apply below_alloc | apply pw_below_drewN | apply below_drew1) | exact HB.out)⟩
           ·rw [if_neg c41] at H
            have c41b0 : (t311 == 0) = false := beq_eq_false_iff_ne.mpr c41
            have c41b1 : (t311 != 0) = true := bne_iff_ne.mpr c41
            obtain rfl := Option.some.inj H
            obtain ⟨Ao60, co60, eo60⟩ := Kd.R_slice HO_15.out
            subst eo60
            go_wp2_with (first | ((with_reducible refine gate_callee (f := 8) rfl ?_); refine goesL_ (some 85) rfl rfl Try.func8 (by kernel_rfl) rfl #[.slice Ao60 t297.length co60, .string (a2.extract 0 ((ji12) : Int).toNat), .int .i64 a4, .int .i64 (wrap64 (1 + (Int.tmod (wrap64 ((Int.tmod a6 4) + 4)) 4)))] rfl (by (try simp only [List.map_toArray, List.map_cons, List.map_nil]); first | done | (simp only [hji12]; rfl) | rfl | (simp only [List.length_drop, List.length_take]; rfl)) ?_; (with_reducible refine (tarrylaw08_does.calls _ _ t297 (a2.extract 0 ((ji12) : Int).toNat) a4 (wrap64 (1 + (Int.tmod (wrap64 ((Int.tmod a6 4) + 4)) 4))) t306 t307 _ ?side1 ?side2 A36.out).mono ?_); (case side1 => repeat (first | exact (Kd.R_reads' HO_15.out).2.2 | (with_reducible refine Kd.C_alloc ?_ _) | (with_reducible refine Kd.C_drewN ?_ _) | (with_reducible refine Kd.C_drew ?_))); (case side2 => exact (Kd.R_reads' HO_15.out).2.1); rintro e w61 ⟨v308, rfl, ho0, hb⟩; refine ⟨_, rfl, ?_⟩; have n0_ := Aside0.mk (Kd.R_elder' (by (with_reducible repeat (first | apply Kd.R_alloc | apply Kd.R_drewN | apply Kd.R_drew)); exact HO_15.out) (Kd.R_base ho0) hb); have n1_ := Aside0.mk (Kd.R_elder' (by (with_reducible repeat (first | apply Kd.R_alloc | apply Kd.R_drewN | apply Kd.R_drew)); exact HO_17.out) (Kd.R_base ho0) hb); have n2_ := Aside0.mk (Kd.R_lower (Kd.R_new' (Kd.R_new' ho0 (Kd.R_lt (by (with_reducible repeat (first | apply Kd.R_alloc | apply Kd.R_drewN | apply Kd.R_drew)); exact HO_15.out))) (Kd.R_lt (by (with_reducible repeat (first | apply Kd.R_alloc | apply Kd.R_drewN | apply Kd.R_drew)); exact HO_17.out))) (below_size (by repeat (first | (with_reducible first | exact HB.out | apply below_alloc | apply pw_below_drewN | apply below_drew1) | exact HB.out)))); have n3_ := Aside0.mk (below_step (by repeat (first | (with_reducible first | exact HB.out | apply below_alloc | apply pw_below_drewN | apply below_drew1) | exact HB.out)) hb); clear HO_15; clear HO_17; clear HB; have HO_15 := n0_; have HO_17 := n1_; have HO309 := n2_; have HB := n3_; clear n0_ n1_ n2_ n3_; (try clear hb); (try clear hb2); (try clear hk); (try clear hi); (try clear ho0); obtain ⟨Ao62, co62, eo62⟩ := Kd.R_slice HO_17.out; subst eo62) | ((with_reducible refine gate_callee (f := 8) rfl ?_); refine goesL_ (some 93) rfl rfl Try.func8 (by kernel_rfl) rfl #[.slice Ao62 t301.length co62, .string (a1.extract 0 ((ji9) : Int).toNat), .int .i64 a3, .int .i64 (wrap64 (1 + (Int.tmod (wrap64 ((Int.tmod a5 4) + 4)) 4)))] rfl (by (try simp only [List.map_toArray, List.map_cons, List.map_nil]); first | done | (simp only [hji9]; rfl) | rfl | (simp only [List.length_drop, List.length_take]; rfl)) ?_; (with_reducible refine (tarrylaw08_does.calls _ _ t301 (a1.extract 0 ((ji9) : Int).toNat) a3 (wrap64 (1 + (Int.tmod (wrap64 ((Int.tmod a5 4) + 4)) 4))) t310 t311 _ ?side1 ?side2 A37.out).mono ?_); (case side1 => repeat (first | exact (Kd.R_reads' HO_17.out).2.2 | (with_reducible refine Kd.C_alloc ?_ _) | (with_reducible refine Kd.C_drewN ?_ _) | (with_reducible refine Kd.C_drew ?_))); (case side2 => exact (Kd.R_reads' HO_17.out).2.1); rintro e w63 ⟨v312, rfl, ho0, hb⟩; refine ⟨_, rfl, ?_⟩; have n0_ := Aside0.mk (Kd.R_elder' (by (with_reducible repeat (first | apply Kd.R_alloc | apply Kd.R_drewN | apply Kd.R_drew)); exact HO_15.out) (Kd.R_base ho0) hb); have n1_ := Aside0.mk (Kd.R_elder' (by (with_reducible repeat (first | apply Kd.R_alloc | apply Kd.R_drewN | apply Kd.R_drew)); exact HO_17.out) (Kd.R_base ho0) hb); have n2_ := Aside0.mk (Kd.R_elder' (by (with_reducible repeat (first | apply Kd.R_alloc | apply Kd.R_drewN | apply Kd.R_drew)); exact HO309.out) (Kd.R_base ho0) hb); have n3_ := Aside0.mk (Kd.R_lower (Kd.R_new' (Kd.R_new' (Kd.R_new' ho0 (Kd.R_lt (by (with_reducible repeat (first | apply Kd.R_alloc | apply Kd.R_drewN | apply Kd.R_drew)); exact HO_15.out))) (Kd.R_lt (by (with_reducible repeat (first | apply Kd.R_alloc | apply Kd.R_drewN | apply Kd.R_drew)); exact HO_17.out))) (Kd.R_lt (by (with_reducible repeat (first | apply Kd.R_alloc | apply Kd.R_drewN | apply Kd.R_drew)); exact HO309.out))) (below_size (by repeat (first | (with_reducible first | exact HB.out | apply below_alloc | apply pw_below_drewN | apply below_drew1) | exact HB.out)))); have n4_ := Aside0.mk (below_step (by repeat (first | (with_reducible first | exact HB.out | apply below_alloc | apply pw_below_drewN | apply below_drew1) | exact HB.out)) hb); clear HO_15; clear HO_17; clear HO309; clear HB; have HO_15 := n0_; have HO_17 := n1_; have HO309 := n2_; have HO313 := n3_; have HB := n4_; clear n0_ n1_ n2_ n3_ n4_; (try clear hb); (try clear hb2); (try clear hk); (try clear hi); (try clear ho0)) | ((with_reducible refine gate_callee (f := 7) rfl ?_); refine goesL_ (some 96) rfl rfl Try.func7 (by kernel_rfl) rfl #[] rfl (by (try simp only [List.map_toArray, List.map_cons, List.map_nil]); first | done | rfl | (simp only [List.length_drop, List.length_take]; rfl)) ?_; (with_reducible refine (tarrylaw08_alive.calls kj21  true _ A38.out).mono ?_); rintro e w64 ⟨rfl, hb⟩; refine ⟨_, rfl, ?_⟩; have n0_ := Aside0.mk (Kd.R_below (by (with_reducible repeat (first | apply Kd.R_alloc | apply Kd.R_drewN | apply Kd.R_drew)); exact HO_15.out) hb); have n1_ := Aside0.mk (Kd.R_below (by (with_reducible repeat (first | apply Kd.R_alloc | apply Kd.R_drewN | apply Kd.R_drew)); exact HO_17.out) hb); have n2_ := Aside0.mk (Kd.R_below (by (with_reducible repeat (first | apply Kd.R_alloc | apply Kd.R_drewN | apply Kd.R_drew)); exact HO309.out) hb); have n3_ := Aside0.mk (Kd.R_below (by (with_reducible repeat (first | apply Kd.R_alloc | apply Kd.R_drewN | apply Kd.R_drew)); exact HO313.out) hb); have n4_ := Aside0.mk (below_step (by repeat (first | (with_reducible first | exact HB.out | apply below_alloc | apply pw_below_drewN | apply below_drew1) | exact HB.out)) hb); clear HO_15; clear HO_17; clear HO309; clear HO313; clear HB; have HO_15 := n0_; have HO_17 := n1_; have HO309 := n2_; have HO313 := n3_; have HB := n4_; clear n0_ n1_ n2_ n3_ n4_; (try clear hb); (try clear hb2); (try clear hk); (try clear hi)))
            go_ret
            exact ⟨by first | rfl | (simp [errW_none, errW_some] <;> rfl) | (simp only [← hji9, ← hji12]; first | rfl | (simp [errW_none, errW_some] <;> rfl)) | (simp [*, errW_none, errW_some] <;> rfl), by repeat (first | (with_reducible first | exact HB.out | apply below_alloc | apply pw_below_drewN | apply below_drew1) | exact HB.out)⟩
          ·rw [if_neg c40] at H
           have c40b0 : (t307 == 0) = false := beq_eq_false_iff_ne.mpr c40
           have c40b1 : (t307 != 0) = true := bne_iff_ne.mpr c40
           obtain rfl := Option.some.inj H
           obtain ⟨Ao65, co65, eo65⟩ := Kd.R_slice HO_15.out
           subst eo65
           go_wp2_with (first | ((with_reducible refine gate_callee (f := 8) rfl ?_); refine goesL_ (some 85) rfl rfl Try.func8 (by kernel_rfl) rfl #[.slice Ao65 t297.length co65, .string (a2.extract 0 ((ji12) : Int).toNat), .int .i64 a4, .int .i64 (wrap64 (1 + (Int.tmod (wrap64 ((Int.tmod a6 4) + 4)) 4)))] rfl (by (try simp only [List.map_toArray, List.map_cons, List.map_nil]); first | done | (simp only [hji12]; rfl) | rfl | (simp only [List.length_drop, List.length_take]; rfl)) ?_; (with_reducible refine (tarrylaw08_does.calls _ _ t297 (a2.extract 0 ((ji12) : Int).toNat) a4 (wrap64 (1 + (Int.tmod (wrap64 ((Int.tmod a6 4) + 4)) 4))) t306 t307 _ ?side1 ?side2 A36.out).mono ?_); (case side1 => repeat (first | exact (Kd.R_reads' HO_15.out).2.2 | (with_reducible refine Kd.C_alloc ?_ _) | (with_reducible refine Kd.C_drewN ?_ _) | (with_reducible refine Kd.C_drew ?_))); (case side2 => exact (Kd.R_reads' HO_15.out).2.1); rintro e w66 ⟨v308, rfl, ho0, hb⟩; refine ⟨_, rfl, ?_⟩; have n0_ := Aside0.mk (Kd.R_elder' (by (with_reducible repeat (first | apply Kd.R_alloc | apply Kd.R_drewN | apply Kd.R_drew)); exact HO_15.out) (Kd.R_base ho0) hb); have n1_ := Aside0.mk (Kd.R_elder' (by (with_reducible repeat (first | apply Kd.R_alloc | apply Kd.R_drewN | apply Kd.R_drew)); exact HO_17.out) (Kd.R_base ho0) hb); have n2_ := Aside0.mk (Kd.R_lower (Kd.R_new' (Kd.R_new' ho0 (Kd.R_lt (by (with_reducible repeat (first | apply Kd.R_alloc | apply Kd.R_drewN | apply Kd.R_drew)); exact HO_15.out))) (Kd.R_lt (by (with_reducible repeat (first | apply Kd.R_alloc | apply Kd.R_drewN | apply Kd.R_drew)); exact HO_17.out))) (below_size (by repeat (first | (with_reducible first | exact HB.out | apply below_alloc | apply pw_below_drewN | apply below_drew1) | exact HB.out)))); have n3_ := Aside0.mk (below_step (by repeat (first | (with_reducible first | exact HB.out | apply below_alloc | apply pw_below_drewN | apply below_drew1) | exact HB.out)) hb); clear HO_15; clear HO_17; clear HB; have HO_15 := n0_; have HO_17 := n1_; have HO309 := n2_; have HB := n3_; clear n0_ n1_ n2_ n3_; (try clear hb); (try clear hb2); (try clear hk); (try clear hi); (try clear ho0); obtain ⟨Ao67, co67, eo67⟩ := Kd.R_slice HO_17.out; subst eo67) | ((with_reducible refine gate_callee (f := 8) rfl ?_); refine goesL_ (some 93) rfl rfl Try.func8 (by kernel_rfl) rfl #[.slice Ao67 t301.length co67, .string (a1.extract 0 ((ji9) : Int).toNat), .int .i64 a3, .int .i64 (wrap64 (1 + (Int.tmod (wrap64 ((Int.tmod a5 4) + 4)) 4)))] rfl (by (try simp only [List.map_toArray, List.map_cons, List.map_nil]); first | done | (simp only [hji9]; rfl) | rfl | (simp only [List.length_drop, List.length_take]; rfl)) ?_; (with_reducible refine (tarrylaw08_does.calls _ _ t301 (a1.extract 0 ((ji9) : Int).toNat) a3 (wrap64 (1 + (Int.tmod (wrap64 ((Int.tmod a5 4) + 4)) 4))) t310 t311 _ ?side1 ?side2 A37.out).mono ?_); (case side1 => repeat (first | exact (Kd.R_reads' HO_17.out).2.2 | (with_reducible refine Kd.C_alloc ?_ _) | (with_reducible refine Kd.C_drewN ?_ _) | (with_reducible refine Kd.C_drew ?_))); (case side2 => exact (Kd.R_reads' HO_17.out).2.1); rintro e w68 ⟨v312, rfl, ho0, hb⟩; refine ⟨_, rfl, ?_⟩; have n0_ := Aside0.mk (Kd.R_elder' (by (with_reducible repeat (first | apply Kd.R_alloc | apply Kd.R_drewN | apply Kd.R_drew)); exact HO_15.out) (Kd.R_base ho0) hb); have n1_ := Aside0.mk (Kd.R_elder' (by (with_reducible repeat (first | apply Kd.R_alloc | apply Kd.R_drewN | apply Kd.R_drew)); exact HO_17.out) (Kd.R_base ho0) hb); have n2_ := Aside0.mk (Kd.R_elder' (by (with_reducible repeat (first | apply Kd.R_alloc | apply Kd.R_drewN | apply Kd.R_drew)); exact HO309.out) (Kd.R_base ho0) hb); have n3_ := Aside0.mk (Kd.R_lower (Kd.R_new' (Kd.R_new' (Kd.R_new' ho0 (Kd.R_lt (by (with_reducible repeat (first | apply Kd.R_alloc | apply Kd.R_drewN | apply Kd.R_drew)); exact HO_15.out))) (Kd.R_lt (by (with_reducible repeat (first | apply Kd.R_alloc | apply Kd.R_drewN | apply Kd.R_drew)); exact HO_17.out))) (Kd.R_lt (by (with_reducible repeat (first | apply Kd.R_alloc | apply Kd.R_drewN | apply Kd.R_drew)); exact HO309.out))) (below_size (by repeat (first | (with_reducible first | exact HB.out | apply below_alloc | apply pw_below_drewN | apply below_drew1) | exact HB.out)))); have n4_ := Aside0.mk (below_step (by repeat (first | (with_reducible first | exact HB.out | apply below_alloc | apply pw_below_drewN | apply below_drew1) | exact HB.out)) hb); clear HO_15; clear HO_17; clear HO309; clear HB; have HO_15 := n0_; have HO_17 := n1_; have HO309 := n2_; have HO313 := n3_; have HB := n4_; clear n0_ n1_ n2_ n3_ n4_; (try clear hb); (try clear hb2); (try clear hk); (try clear hi); (try clear ho0)) | ((with_reducible refine gate_callee (f := 7) rfl ?_); refine goesL_ (some 96) rfl rfl Try.func7 (by kernel_rfl) rfl #[] rfl (by (try simp only [List.map_toArray, List.map_cons, List.map_nil]); first | done | rfl | (simp only [List.length_drop, List.length_take]; rfl)) ?_; (with_reducible refine (tarrylaw08_alive.calls kj21  true _ A38.out).mono ?_); rintro e w69 ⟨rfl, hb⟩; refine ⟨_, rfl, ?_⟩; have n0_ := Aside0.mk (Kd.R_below (by (with_reducible repeat (first | apply Kd.R_alloc | apply Kd.R_drewN | apply Kd.R_drew)); exact HO_15.out) hb); have n1_ := Aside0.mk (Kd.R_below (by (with_reducible repeat (first | apply Kd.R_alloc | apply Kd.R_drewN | apply Kd.R_drew)); exact HO_17.out) hb); have n2_ := Aside0.mk (Kd.R_below (by (with_reducible repeat (first | apply Kd.R_alloc | apply Kd.R_drewN | apply Kd.R_drew)); exact HO309.out) hb); have n3_ := Aside0.mk (Kd.R_below (by (with_reducible repeat (first | apply Kd.R_alloc | apply Kd.R_drewN | apply Kd.R_drew)); exact HO313.out) hb); have n4_ := Aside0.mk (below_step (by repeat (first | (with_reducible first | exact HB.out | apply below_alloc | apply pw_below_drewN | apply below_drew1) | exact HB.out)) hb); clear HO_15; clear HO_17; clear HO309; clear HO313; clear HB; have HO_15 := n0_; have HO_17 := n1_; have HO309 := n2_; have HO313 := n3_; have HB := n4_; clear n0_ n1_ n2_ n3_ n4_; (try clear hb); (try clear hb2); (try clear hk); (try clear hi)))
           go_ret
           exact ⟨by first | rfl | (simp [errW_none, errW_some] <;> rfl) | (simp only [← hji9, ← hji12]; first | rfl | (simp [errW_none, errW_some] <;> rfl)) | (simp [*, errW_none, errW_some] <;> rfl), by repeat (first | (with_reducible first | exact HB.out | apply below_alloc | apply pw_below_drewN | apply below_drew1) | exact HB.out)⟩
         ·replace c39 := Bool.eq_false_iff.mpr c39
          subst c39
          have H1 : (some false) = some r := by rw [if_neg (show ¬ (false = true) by decide)] at H; exact H
          clear H
          have H := H1
          clear H1
          obtain rfl := Option.some.inj H
          obtain ⟨Ao70, co70, eo70⟩ := Kd.R_slice HO_15.out
          subst eo70
          go_wp2_with (first | ((with_reducible refine gate_callee (f := 8) rfl ?_); refine goesL_ (some 85) rfl rfl Try.func8 (by kernel_rfl) rfl #[.slice Ao70 t297.length co70, .string (a2.extract 0 ((ji12) : Int).toNat), .int .i64 a4, .int .i64 (wrap64 (1 + (Int.tmod (wrap64 ((Int.tmod a6 4) + 4)) 4)))] rfl (by (try simp only [List.map_toArray, List.map_cons, List.map_nil]); first | done | (simp only [hji12]; rfl) | rfl | (simp only [List.length_drop, List.length_take]; rfl)) ?_; (with_reducible refine (tarrylaw08_does.calls _ _ t297 (a2.extract 0 ((ji12) : Int).toNat) a4 (wrap64 (1 + (Int.tmod (wrap64 ((Int.tmod a6 4) + 4)) 4))) t306 t307 _ ?side1 ?side2 A36.out).mono ?_); (case side1 => repeat (first | exact (Kd.R_reads' HO_15.out).2.2 | (with_reducible refine Kd.C_alloc ?_ _) | (with_reducible refine Kd.C_drewN ?_ _) | (with_reducible refine Kd.C_drew ?_))); (case side2 => exact (Kd.R_reads' HO_15.out).2.1); rintro e w71 ⟨v308, rfl, ho0, hb⟩; refine ⟨_, rfl, ?_⟩; have n0_ := Aside0.mk (Kd.R_elder' (by (with_reducible repeat (first | apply Kd.R_alloc | apply Kd.R_drewN | apply Kd.R_drew)); exact HO_15.out) (Kd.R_base ho0) hb); have n1_ := Aside0.mk (Kd.R_elder' (by (with_reducible repeat (first | apply Kd.R_alloc | apply Kd.R_drewN | apply Kd.R_drew)); exact HO_17.out) (Kd.R_base ho0) hb); have n2_ := Aside0.mk (Kd.R_lower (Kd.R_new' (Kd.R_new' ho0 (Kd.R_lt (by (with_reducible repeat (first | apply Kd.R_alloc | apply Kd.R_drewN | apply Kd.R_drew)); exact HO_15.out))) (Kd.R_lt (by (with_reducible repeat (first | apply Kd.R_alloc | apply Kd.R_drewN | apply Kd.R_drew)); exact HO_17.out))) (below_size (by repeat (first | (with_reducible first | exact HB.out | apply below_alloc | apply pw_below_drewN | apply below_drew1) | exact HB.out)))); have n3_ := Aside0.mk (below_step (by repeat (first | (with_reducible first | exact HB.out | apply below_alloc | apply pw_below_drewN | apply below_drew1) | exact HB.out)) hb); clear HO_15; clear HO_17; clear HB; have HO_15 := n0_; have HO_17 := n1_; have HO309 := n2_; have HB := n3_; clear n0_ n1_ n2_ n3_; (try clear hb); (try clear hb2); (try clear hk); (try clear hi); (try clear ho0); obtain ⟨Ao72, co72, eo72⟩ := Kd.R_slice HO_17.out; subst eo72) | ((with_reducible refine gate_callee (f := 8) rfl ?_); refine goesL_ (some 93) rfl rfl Try.func8 (by kernel_rfl) rfl #[.slice Ao72 t301.length co72, .string (a1.extract 0 ((ji9) : Int).toNat), .int .i64 a3, .int .i64 (wrap64 (1 + (Int.tmod (wrap64 ((Int.tmod a5 4) + 4)) 4)))] rfl (by (try simp only [List.map_toArray, List.map_cons, List.map_nil]); first | done | (simp only [hji9]; rfl) | rfl | (simp only [List.length_drop, List.length_take]; rfl)) ?_; (with_reducible refine (tarrylaw08_does.calls _ _ t301 (a1.extract 0 ((ji9) : Int).toNat) a3 (wrap64 (1 + (Int.tmod (wrap64 ((Int.tmod a5 4) + 4)) 4))) t310 t311 _ ?side1 ?side2 A37.out).mono ?_); (case side1 => repeat (first | exact (Kd.R_reads' HO_17.out).2.2 | (with_reducible refine Kd.C_alloc ?_ _) | (with_reducible refine Kd.C_drewN ?_ _) | (with_reducible refine Kd.C_drew ?_))); (case side2 => exact (Kd.R_reads' HO_17.out).2.1); rintro e w73 ⟨v312, rfl, ho0, hb⟩; refine ⟨_, rfl, ?_⟩; have n0_ := Aside0.mk (Kd.R_elder' (by (with_reducible repeat (first | apply Kd.R_alloc | apply Kd.R_drewN | apply Kd.R_drew)); exact HO_15.out) (Kd.R_base ho0) hb); have n1_ := Aside0.mk (Kd.R_elder' (by (with_reducible repeat (first | apply Kd.R_alloc | apply Kd.R_drewN | apply Kd.R_drew)); exact HO_17.out) (Kd.R_base ho0) hb); have n2_ := Aside0.mk (Kd.R_elder' (by (with_reducible repeat (first | apply Kd.R_alloc | apply Kd.R_drewN | apply Kd.R_drew)); exact HO309.out) (Kd.R_base ho0) hb); have n3_ := Aside0.mk (Kd.R_lower (Kd.R_new' (Kd.R_new' (Kd.R_new' ho0 (Kd.R_lt (by (with_reducible repeat (first | apply Kd.R_alloc | apply Kd.R_drewN | apply Kd.R_drew)); exact HO_15.out))) (Kd.R_lt (by (with_reducible repeat (first | apply Kd.R_alloc | apply Kd.R_drewN | apply Kd.R_drew)); exact HO_17.out))) (Kd.R_lt (by (with_reducible repeat (first | apply Kd.R_alloc | apply Kd.R_drewN | apply Kd.R_drew)); exact HO309.out))) (below_size (by repeat (first | (with_reducible first | exact HB.out | apply below_alloc | apply pw_below_drewN | apply below_drew1) | exact HB.out)))); have n4_ := Aside0.mk (below_step (by repeat (first | (with_reducible first | exact HB.out | apply below_alloc | apply pw_below_drewN | apply below_drew1) | exact HB.out)) hb); clear HO_15; clear HO_17; clear HO309; clear HB; have HO_15 := n0_; have HO_17 := n1_; have HO309 := n2_; have HO313 := n3_; have HB := n4_; clear n0_ n1_ n2_ n3_ n4_; (try clear hb); (try clear hb2); (try clear hk); (try clear hi); (try clear ho0)) | ((with_reducible refine gate_callee (f := 7) rfl ?_); refine goesL_ (some 96) rfl rfl Try.func7 (by kernel_rfl) rfl #[] rfl (by (try simp only [List.map_toArray, List.map_cons, List.map_nil]); first | done | rfl | (simp only [List.length_drop, List.length_take]; rfl)) ?_; (with_reducible refine (tarrylaw08_alive.calls kj21  false _ A38.out).mono ?_); rintro e w74 ⟨rfl, hb⟩; refine ⟨_, rfl, ?_⟩; have n0_ := Aside0.mk (Kd.R_below (by (with_reducible repeat (first | apply Kd.R_alloc | apply Kd.R_drewN | apply Kd.R_drew)); exact HO_15.out) hb); have n1_ := Aside0.mk (Kd.R_below (by (with_reducible repeat (first | apply Kd.R_alloc | apply Kd.R_drewN | apply Kd.R_drew)); exact HO_17.out) hb); have n2_ := Aside0.mk (Kd.R_below (by (with_reducible repeat (first | apply Kd.R_alloc | apply Kd.R_drewN | apply Kd.R_drew)); exact HO309.out) hb); have n3_ := Aside0.mk (Kd.R_below (by (with_reducible repeat (first | apply Kd.R_alloc | apply Kd.R_drewN | apply Kd.R_drew)); exact HO313.out) hb); have n4_ := Aside0.mk (below_step (by repeat (first | (with_reducible first | exact HB.out | apply below_alloc | apply pw_below_drewN | apply below_drew1) | exact HB.out)) hb); clear HO_15; clear HO_17; clear HO309; clear HO313; clear HB; have HO_15 := n0_; have HO_17 := n1_; have HO309 := n2_; have HO313 := n3_; have HB := n4_; clear n0_ n1_ n2_ n3_ n4_; (try clear hb); (try clear hb2); (try clear hk); (try clear hi)))
          go_ret
          exact ⟨by first | rfl | (simp [errW_none, errW_some] <;> rfl) | (simp only [← hji9, ← hji12]; first | rfl | (simp [errW_none, errW_some] <;> rfl)) | (simp [*, errW_none, errW_some] <;> rfl), by repeat (first | (with_reducible first | exact HB.out | apply below_alloc | apply pw_below_drewN | apply below_drew1) | exact HB.out)⟩
    ·rw [if_neg c14] at H
     exact absurd H (by simp)
   ·rw [if_neg c13] at H
    exact absurd H (by simp)
  ·rw [if_neg c11] at H
   exact absurd H (by simp)
 ·rw [if_neg c10] at H
  exact absurd H (by simp)
end Go.Proofs.Ytliablhnkoghbaa.PStock
