/- A part of the proof of StockBack: words and walks that it uses. -/
import Derived.Test.YtliablhnkoghbaaZStockBack7
import Derived.Test.YtliablhnkoghbaaZStockBack8
namespace Go.Proofs.Ytliablhnkoghbaa.PStock
open Go.RowKit Go.Proofs.YtliablhnkoghbaaH Go.Proofs.YtliablhnkoghbaaW.PrintWords Go.Proofs.YtliablhnkoghbaaW.PrintLast Go.Proofs.YtliablhnkoghbaaW.PrintMore
attribute [local go_sem] max2_int min2_int max_two min_two max_three min_three max_four min_four
set_option linter.unusedVariables false
set_option linter.unusedSimpArgs false
attribute [local go_sem high] eqA33
mutual
def tarrylaw08_StockBack.j0 : Nat → List (S33) → ByteArray → List (S33) → List (S33) → Bool → Option (Bool)
 | 0, _, _, _, _, _ => none
 | k + 1, x0, x1, x7, x13, x116 => if x116 = true then (some false) else (tarrylaw08_StockBack.l0 k x1 x7 x13 x0 (x0.length : Int) 0)
def tarrylaw08_StockBack.l0 : Nat → ByteArray → List (S33) → List (S33) → List (S33) → Int → Int → Option (Bool)
 | 0, _, _, _, _, _, _ => none
 | k + 1, x1, x7, x13, x117, x118, x119 => if x119 < x118 then (if 0 ≤ x119 then (if x119 < (x117.length : Int) then (if ((rd_T33 x117 x119).f0).toList = x1.toList then (tarrylaw08_StockBack.l0 k x1 x7 x13 x117 x118 (wrap64 (x119 + 1))) else (if x119 < (x7.length : Int) then (if (!((((rd_T33 x7 x119).f0).toList) == (((rd_T33 x117 x119).f0).toList)) || (!(((rd_T33 x7 x119).f1) == ((rd_T33 x117 x119).f1)) || (!(((rd_T33 x7 x119).f2) == ((rd_T33 x117 x119).f2)) || (!(((rd_T33 x7 x119).f3) == ((rd_T33 x117 x119).f3)) || (!(((rd_T33 x7 x119).f4) == ((rd_T33 x117 x119).f4)) || (!(((rd_T33 x7 x119).f5) == ((rd_T33 x117 x119).f5)))))))) = true then (some false) else (if x119 < (x13.length : Int) then (if (!((((rd_T33 x13 x119).f0).toList) == (((rd_T33 x117 x119).f0).toList)) || (!(((rd_T33 x13 x119).f1) == ((rd_T33 x117 x119).f1)) || (!(((rd_T33 x13 x119).f2) == ((rd_T33 x117 x119).f2)) || (!(((rd_T33 x13 x119).f3) == ((rd_T33 x117 x119).f3)) || (!(((rd_T33 x13 x119).f4) == ((rd_T33 x117 x119).f4)) || (!(((rd_T33 x13 x119).f5) == ((rd_T33 x117 x119).f5)))))))) = true then (some false) else (tarrylaw08_StockBack.l0 k x1 x7 x13 x117 x118 (wrap64 (x119 + 1)))) else (none))) else (none))) else (none)) else (none)) else (some true)
end
def tarrylaw08_StockBack.f (k : Nat) (l0 : List (S33)) (a1 : ByteArray) (a2 : Int) : Option (Bool) := (tarrylaw08_few.f k l0).bind fun t317 => (if 0 ≤ (mn (a1.size : Int) 18) then (if (mn (a1.size : Int) 18) ≤ (a1.size : Int) then ((stock_Hold.f t317 (a1.extract 0 ((mn (a1.size : Int) 18) : Int).toNat) a2).bind fun bt320 => ((stock_Get.f t317 (a1.extract 0 ((mn (a1.size : Int) 18) : Int).toNat)).bind fun bt324 => (if bt320.2 = 0 then ((stock_Release.f bt320.1 (a1.extract 0 ((mn (a1.size : Int) 18) : Int).toNat) a2).bind fun bt333 => ((stock_Ship.f bt320.1 (a1.extract 0 ((mn (a1.size : Int) 18) : Int).toNat) a2).bind fun bt337 => (if bt324.2.2.2.2.2.2 = 0 then (if bt324.2.2.1 < a2 then (tarrylaw08_StockBack.j0 k t317 (a1.extract 0 ((mn (a1.size : Int) 18) : Int).toNat) bt320.1 bt337.1 true) else (if a2 < 1 then (tarrylaw08_StockBack.j0 k t317 (a1.extract 0 ((mn (a1.size : Int) 18) : Int).toNat) bt320.1 bt337.1 true) else (if bt333.2 = 0 then (if bt337.2 = 0 then ((tarryref08_Same.f k bt333.1 t317).bind fun t341 => (if t341 = true then (if (bt320.1.length : Int) = (t317.length : Int) then (if (bt337.1.length : Int) = (t317.length : Int) then ((tarrylaw08_alive.f k).bind fun t342 => (tarrylaw08_StockBack.j0 k t317 (a1.extract 0 ((mn (a1.size : Int) 18) : Int).toNat) bt320.1 bt337.1 (!t342))) else (tarrylaw08_StockBack.j0 k t317 (a1.extract 0 ((mn (a1.size : Int) 18) : Int).toNat) bt320.1 bt337.1 true)) else (tarrylaw08_StockBack.j0 k t317 (a1.extract 0 ((mn (a1.size : Int) 18) : Int).toNat) bt320.1 bt337.1 true)) else (tarrylaw08_StockBack.j0 k t317 (a1.extract 0 ((mn (a1.size : Int) 18) : Int).toNat) bt320.1 bt337.1 true))) else (tarrylaw08_StockBack.j0 k t317 (a1.extract 0 ((mn (a1.size : Int) 18) : Int).toNat) bt320.1 bt337.1 true)) else (tarrylaw08_StockBack.j0 k t317 (a1.extract 0 ((mn (a1.size : Int) 18) : Int).toNat) bt320.1 bt337.1 true)))) else (tarrylaw08_StockBack.j0 k t317 (a1.extract 0 ((mn (a1.size : Int) 18) : Int).toNat) bt320.1 bt337.1 true)))) else ((tarrylaw08_alive.f k).bind fun t332 => (if t332 = true then (if (bt320.1.length : Int) = 0 then (if bt324.2.2.2.2.2.2 = 0 then (if a2 < 1 then (some true) else (some (decide (bt324.2.2.1 < a2)))) else (some true)) else (some false)) else (some false)))))) else (none)) else (none))
theorem tarrylaw08_StockBack.mono_l : ∀ k, (∀ y0 y1 y2 y3 y4, LeO (tarrylaw08_StockBack.j0 k y0 y1 y2 y3 y4) (tarrylaw08_StockBack.j0 (k + 1) y0 y1 y2 y3 y4)) ∧ (∀ y0 y1 y2 y3 y4 y5, LeO (tarrylaw08_StockBack.l0 k y0 y1 y2 y3 y4 y5) (tarrylaw08_StockBack.l0 (k + 1) y0 y1 y2 y3 y4 y5))
 | 0 => ⟨fun _ _ _ _ _ r h => by simp [tarrylaw08_StockBack.j0] at h, fun _ _ _ _ _ _ r h => by simp [tarrylaw08_StockBack.l0] at h⟩
 | k + 1 => by
  obtain ⟨ih0, ih1⟩ := tarrylaw08_StockBack.mono_l k
  refine ⟨?_, ?_⟩
  ·intro y0 y1 y2 y3 y4
   unfold tarrylaw08_StockBack.j0
   repeat' first
   | (with_reducible exact ih0 _ _ _ _ _)
   | (with_reducible exact ih1 _ _ _ _ _ _)
   | (with_reducible exact tarrylaw08_alive.mono _)
   | (with_reducible exact tarrylaw08_few.mono _ _)
   | (with_reducible exact tarryref08_Same.mono _ _ _)
   | (with_reducible exact LeO.refl _)
   | (with_reducible exact LeO.none _)
   | (with_reducible refine LeO.ite ?_ ?_)
   | (with_reducible refine LeO.bind ?_ (fun _ => ?_))
   | exact ih0 _ _ _ _ _
   | exact ih1 _ _ _ _ _ _
   | exact tarrylaw08_alive.mono _
   | exact tarrylaw08_few.mono _ _
   | exact tarryref08_Same.mono _ _ _
   | exact LeO.none _
   | refine LeO.ite ?_ ?_
   | refine LeO.bind ?_ (fun _ => ?_)
  ·intro y0 y1 y2 y3 y4 y5
   unfold tarrylaw08_StockBack.l0
   repeat' first
   | (with_reducible exact ih0 _ _ _ _ _)
   | (with_reducible exact ih1 _ _ _ _ _ _)
   | (with_reducible exact tarrylaw08_alive.mono _)
   | (with_reducible exact tarrylaw08_few.mono _ _)
   | (with_reducible exact tarryref08_Same.mono _ _ _)
   | (with_reducible exact LeO.refl _)
   | (with_reducible exact LeO.none _)
   | (with_reducible refine LeO.ite ?_ ?_)
   | (with_reducible refine LeO.bind ?_ (fun _ => ?_))
   | exact ih0 _ _ _ _ _
   | exact ih1 _ _ _ _ _ _
   | exact tarrylaw08_alive.mono _
   | exact tarrylaw08_few.mono _ _
   | exact tarryref08_Same.mono _ _ _
   | exact LeO.none _
   | refine LeO.ite ?_ ?_
   | refine LeO.bind ?_ (fun _ => ?_)
theorem tarrylaw08_StockBack.mono : ∀ a0 a1 a2 k, LeO (tarrylaw08_StockBack.f k a0 a1 a2) (tarrylaw08_StockBack.f (k + 1) a0 a1 a2) := by
 intro a0 a1 a2 k
 obtain ⟨ih0, ih1⟩ := tarrylaw08_StockBack.mono_l k
 unfold tarrylaw08_StockBack.f
 repeat' first
   | (with_reducible exact ih0 _ _ _ _ _)
   | (with_reducible exact ih1 _ _ _ _ _ _)
   | (with_reducible exact tarrylaw08_alive.mono _)
   | (with_reducible exact tarrylaw08_few.mono _ _)
   | (with_reducible exact tarryref08_Same.mono _ _ _)
   | (with_reducible exact LeO.refl _)
   | (with_reducible exact LeO.none _)
   | (with_reducible refine LeO.ite ?_ ?_)
   | (with_reducible refine LeO.bind ?_ (fun _ => ?_))
   | exact ih0 _ _ _ _ _
   | exact ih1 _ _ _ _ _ _
   | exact tarrylaw08_alive.mono _
   | exact tarrylaw08_few.mono _ _
   | exact tarryref08_Same.mono _ _ _
   | exact LeO.none _
   | refine LeO.ite ?_ ?_
   | refine LeO.bind ?_ (fun _ => ?_)
def tarrylaw08_StockBack.T1 : Bool × List (List Nat × List Nat) := (true, [([], []), ([0], [0]), ([], []), ([], []), ([3], [3]), ([4], [4]), ([2, 5], [2, 5]), ([1, 1, 0, 1], [0, 1]), ([6, 7, 0, 1, 2, 3, 4, 5, 6, 7], [2, 3, 6])])
def tarrylaw08_StockBack.B1 : List Nat := [0, 1, 0, 0, 8, 24, 60, 3, 255]
theorem tarrylaw08_StockBack.tab1 : rtab .any (opsOf Try.f4 1) = tarrylaw08_StockBack.T1 := by kernel_rfl
theorem tarrylaw08_StockBack.bits1 : waitsOk tarrylaw08_StockBack.T1.2 tarrylaw08_StockBack.B1 = true := by kernel_rfl
def tarrylaw08_StockBack.T13 : Bool × List (List Nat × List Nat) := (true, [([], []), ([0], [0]), ([], []), ([1, 2], [1, 2]), ([3], [3]), ([4], [4]), ([4], [4]), ([5, 6, 4], [4, 5, 6]), ([7, 4], [4, 7]), ([4], [4]), ([8, 9, 4], [4, 8, 9]), ([10, 4, 4], [4, 10]), ([11], [11]), ([11], [11]), ([12, 13, 11], [11, 12, 13]), ([14, 11], [11, 14]), ([11], [11]), ([15, 16, 11], [11, 15, 16]), ([11, 17, 4], [4, 11, 17]), ([4, 18], [4, 18])])
def tarrylaw08_StockBack.B13 : List Nat := [0, 1, 0, 7, 15, 31, 31, 127, 255, 31, 1023, 2047, 4095, 4095, 16383, 32767, 4095, 131071, 262143, 524287]
theorem tarrylaw08_StockBack.tab13 : rtab .any (opsOf Try.f4 13) = tarrylaw08_StockBack.T13 := by kernel_rfl
theorem tarrylaw08_StockBack.bits13 : waitsOk tarrylaw08_StockBack.T13.2 tarrylaw08_StockBack.B13 = true := by kernel_rfl
set_option maxHeartbeats 8000000 in
set_option maxRecDepth 100000 in
theorem tarrylaw08_StockBack.calls (k : Nat) (A0 : Option Addr) (c0 : Nat) (l0 : List (S33)) (a1 : ByteArray) (a2 : Int) (r : Bool) (w : World) (hr0 : Kd.C k33 w A0 l0.length l0) (hc0 : l0.length ≤ c0) (h : tarrylaw08_StockBack.f k l0 a1 a2 = some r) :
  Calls Try.prog 4 #[.slice A0 l0.length c0, .string a1, .int .i64 a2] w fun e w' => e = .returned (.bool r) ∧ Below w.heap.size w w' := by
 have hu33 := Try.underlying33
 have HR0 := Aside0.mk hr0
 have HC0 := Aside0.mk hc0
 clear hr0 hc0
 have HB := Aside0.mk (Below.refl w.heap.size w)
 have H : ((tarrylaw08_few.f k l0).bind fun t317 => (if 0 ≤ (mn (a1.size : Int) 18) then (if (mn (a1.size : Int) 18) ≤ (a1.size : Int) then ((stock_Hold.f t317 (a1.extract 0 ((mn (a1.size : Int) 18) : Int).toNat) a2).bind fun bt320 => ((stock_Get.f t317 (a1.extract 0 ((mn (a1.size : Int) 18) : Int).toNat)).bind fun bt324 => (if bt320.2 = 0 then ((stock_Release.f bt320.1 (a1.extract 0 ((mn (a1.size : Int) 18) : Int).toNat) a2).bind fun bt333 => ((stock_Ship.f bt320.1 (a1.extract 0 ((mn (a1.size : Int) 18) : Int).toNat) a2).bind fun bt337 => (if bt324.2.2.2.2.2.2 = 0 then (if bt324.2.2.1 < a2 then (tarrylaw08_StockBack.j0 k t317 (a1.extract 0 ((mn (a1.size : Int) 18) : Int).toNat) bt320.1 bt337.1 true) else (if a2 < 1 then (tarrylaw08_StockBack.j0 k t317 (a1.extract 0 ((mn (a1.size : Int) 18) : Int).toNat) bt320.1 bt337.1 true) else (if bt333.2 = 0 then (if bt337.2 = 0 then ((tarryref08_Same.f k bt333.1 t317).bind fun t341 => (if t341 = true then (if (bt320.1.length : Int) = (t317.length : Int) then (if (bt337.1.length : Int) = (t317.length : Int) then ((tarrylaw08_alive.f k).bind fun t342 => (tarrylaw08_StockBack.j0 k t317 (a1.extract 0 ((mn (a1.size : Int) 18) : Int).toNat) bt320.1 bt337.1 (!t342))) else (tarrylaw08_StockBack.j0 k t317 (a1.extract 0 ((mn (a1.size : Int) 18) : Int).toNat) bt320.1 bt337.1 true)) else (tarrylaw08_StockBack.j0 k t317 (a1.extract 0 ((mn (a1.size : Int) 18) : Int).toNat) bt320.1 bt337.1 true)) else (tarrylaw08_StockBack.j0 k t317 (a1.extract 0 ((mn (a1.size : Int) 18) : Int).toNat) bt320.1 bt337.1 true))) else (tarrylaw08_StockBack.j0 k t317 (a1.extract 0 ((mn (a1.size : Int) 18) : Int).toNat) bt320.1 bt337.1 true)) else (tarrylaw08_StockBack.j0 k t317 (a1.extract 0 ((mn (a1.size : Int) 18) : Int).toNat) bt320.1 bt337.1 true)))) else (tarrylaw08_StockBack.j0 k t317 (a1.extract 0 ((mn (a1.size : Int) 18) : Int).toNat) bt320.1 bt337.1 true)))) else ((tarrylaw08_alive.f k).bind fun t332 => (if t332 = true then (if (bt320.1.length : Int) = 0 then (if bt324.2.2.2.2.2.2 = 0 then (if a2 < 1 then (some true) else (some (decide (bt324.2.2.1 < a2)))) else (some true)) else (some false)) else (some false)))))) else (none)) else (none))) = some r := h
 clear h
 replace H := Option.bind_eq_some_iff.mp H
 obtain ⟨t317, A40, H⟩ := H
 replace H : (if 0 ≤ (mn (a1.size : Int) 18) then (if (mn (a1.size : Int) 18) ≤ (a1.size : Int) then ((stock_Hold.f t317 (a1.extract 0 ((mn (a1.size : Int) 18) : Int).toNat) a2).bind fun bt320 => ((stock_Get.f t317 (a1.extract 0 ((mn (a1.size : Int) 18) : Int).toNat)).bind fun bt324 => (if bt320.2 = 0 then ((stock_Release.f bt320.1 (a1.extract 0 ((mn (a1.size : Int) 18) : Int).toNat) a2).bind fun bt333 => ((stock_Ship.f bt320.1 (a1.extract 0 ((mn (a1.size : Int) 18) : Int).toNat) a2).bind fun bt337 => (if bt324.2.2.2.2.2.2 = 0 then (if bt324.2.2.1 < a2 then (tarrylaw08_StockBack.j0 k t317 (a1.extract 0 ((mn (a1.size : Int) 18) : Int).toNat) bt320.1 bt337.1 true) else (if a2 < 1 then (tarrylaw08_StockBack.j0 k t317 (a1.extract 0 ((mn (a1.size : Int) 18) : Int).toNat) bt320.1 bt337.1 true) else (if bt333.2 = 0 then (if bt337.2 = 0 then ((tarryref08_Same.f k bt333.1 t317).bind fun t341 => (if t341 = true then (if (bt320.1.length : Int) = (t317.length : Int) then (if (bt337.1.length : Int) = (t317.length : Int) then ((tarrylaw08_alive.f k).bind fun t342 => (tarrylaw08_StockBack.j0 k t317 (a1.extract 0 ((mn (a1.size : Int) 18) : Int).toNat) bt320.1 bt337.1 (!t342))) else (tarrylaw08_StockBack.j0 k t317 (a1.extract 0 ((mn (a1.size : Int) 18) : Int).toNat) bt320.1 bt337.1 true)) else (tarrylaw08_StockBack.j0 k t317 (a1.extract 0 ((mn (a1.size : Int) 18) : Int).toNat) bt320.1 bt337.1 true)) else (tarrylaw08_StockBack.j0 k t317 (a1.extract 0 ((mn (a1.size : Int) 18) : Int).toNat) bt320.1 bt337.1 true))) else (tarrylaw08_StockBack.j0 k t317 (a1.extract 0 ((mn (a1.size : Int) 18) : Int).toNat) bt320.1 bt337.1 true)) else (tarrylaw08_StockBack.j0 k t317 (a1.extract 0 ((mn (a1.size : Int) 18) : Int).toNat) bt320.1 bt337.1 true)))) else (tarrylaw08_StockBack.j0 k t317 (a1.extract 0 ((mn (a1.size : Int) 18) : Int).toNat) bt320.1 bt337.1 true)))) else ((tarrylaw08_alive.f k).bind fun t332 => (if t332 = true then (if (bt320.1.length : Int) = 0 then (if bt324.2.2.2.2.2.2 = 0 then (if a2 < 1 then (some true) else (some (decide (bt324.2.2.1 < a2)))) else (some true)) else (some false)) else (some false)))))) else (none)) else (none)) = some r := H
 have A4 := Aside0.mk A40
 clear A40
 obtain ⟨ji5, hji5⟩ : ∃ j_ : Int, (mn (a1.size : Int) 18) = j_ := ⟨_, rfl⟩
 replace H : (if 0 ≤ (ji5) then (if (ji5) ≤ (a1.size : Int) then ((stock_Hold.f t317 (a1.extract 0 ((ji5) : Int).toNat) a2).bind fun bt320 => ((stock_Get.f t317 (a1.extract 0 ((ji5) : Int).toNat)).bind fun bt324 => (if bt320.2 = 0 then ((stock_Release.f bt320.1 (a1.extract 0 ((ji5) : Int).toNat) a2).bind fun bt333 => ((stock_Ship.f bt320.1 (a1.extract 0 ((ji5) : Int).toNat) a2).bind fun bt337 => (if bt324.2.2.2.2.2.2 = 0 then (if bt324.2.2.1 < a2 then (tarrylaw08_StockBack.j0 k t317 (a1.extract 0 ((ji5) : Int).toNat) bt320.1 bt337.1 true) else (if a2 < 1 then (tarrylaw08_StockBack.j0 k t317 (a1.extract 0 ((ji5) : Int).toNat) bt320.1 bt337.1 true) else (if bt333.2 = 0 then (if bt337.2 = 0 then ((tarryref08_Same.f k bt333.1 t317).bind fun t341 => (if t341 = true then (if (bt320.1.length : Int) = (t317.length : Int) then (if (bt337.1.length : Int) = (t317.length : Int) then ((tarrylaw08_alive.f k).bind fun t342 => (tarrylaw08_StockBack.j0 k t317 (a1.extract 0 ((ji5) : Int).toNat) bt320.1 bt337.1 (!t342))) else (tarrylaw08_StockBack.j0 k t317 (a1.extract 0 ((ji5) : Int).toNat) bt320.1 bt337.1 true)) else (tarrylaw08_StockBack.j0 k t317 (a1.extract 0 ((ji5) : Int).toNat) bt320.1 bt337.1 true)) else (tarrylaw08_StockBack.j0 k t317 (a1.extract 0 ((ji5) : Int).toNat) bt320.1 bt337.1 true))) else (tarrylaw08_StockBack.j0 k t317 (a1.extract 0 ((ji5) : Int).toNat) bt320.1 bt337.1 true)) else (tarrylaw08_StockBack.j0 k t317 (a1.extract 0 ((ji5) : Int).toNat) bt320.1 bt337.1 true)))) else (tarrylaw08_StockBack.j0 k t317 (a1.extract 0 ((ji5) : Int).toNat) bt320.1 bt337.1 true)))) else ((tarrylaw08_alive.f k).bind fun t332 => (if t332 = true then (if (bt320.1.length : Int) = 0 then (if bt324.2.2.2.2.2.2 = 0 then (if a2 < 1 then (some true) else (some (decide (bt324.2.2.1 < a2)))) else (some true)) else (some false)) else (some false)))))) else (none)) else (none)) = some r := by first | (rw [hji5] at H; exact H) | (simp only [hji5] at H ⊢; exact H)
 (try rw [hji5] at A4)
 (try (have hji5h : ji5 ≤ 18 := by (rw [← hji5]; unfold mn; (repeat' split) <;> omega)))
 (try (have hji5g : ji5 ≤ 64 := by omega))
 (try (have hji5l : 0 ≤ ji5 := by (rw [← hji5]; unfold mn; (repeat' split) <;> omega)))
 (try (have hji5m : 0 ≤ ji5 := by omega))
 have hji5_ : (if 18 < (a1.size : Int) then 18 else (a1.size : Int)) = ji5 := hji5
 by_cases c6 : 0 ≤ (ji5)
 ·rw [if_pos c6] at H
  have c6b0 := eq_true c6
  have c6b1 : decide (0 ≤ (ji5)) = true := decide_eq_true c6
  clear c6
  by_cases c7 : (ji5) ≤ (a1.size : Int)
  ·rw [if_pos c7] at H
   have c7b0 := eq_true c7
   have c7b1 : decide ((ji5) ≤ (a1.size : Int)) = true := decide_eq_true c7
   clear c7
   replace H := Option.bind_eq_some_iff.mp H
   obtain ⟨⟨t320, t321⟩, A80, H⟩ := H
   replace H : ((stock_Get.f t317 (a1.extract 0 ((ji5) : Int).toNat)).bind fun bt324 => (if t321 = 0 then ((stock_Release.f t320 (a1.extract 0 ((ji5) : Int).toNat) a2).bind fun bt333 => ((stock_Ship.f t320 (a1.extract 0 ((ji5) : Int).toNat) a2).bind fun bt337 => (if bt324.2.2.2.2.2.2 = 0 then (if bt324.2.2.1 < a2 then (tarrylaw08_StockBack.j0 k t317 (a1.extract 0 ((ji5) : Int).toNat) t320 bt337.1 true) else (if a2 < 1 then (tarrylaw08_StockBack.j0 k t317 (a1.extract 0 ((ji5) : Int).toNat) t320 bt337.1 true) else (if bt333.2 = 0 then (if bt337.2 = 0 then ((tarryref08_Same.f k bt333.1 t317).bind fun t341 => (if t341 = true then (if (t320.length : Int) = (t317.length : Int) then (if (bt337.1.length : Int) = (t317.length : Int) then ((tarrylaw08_alive.f k).bind fun t342 => (tarrylaw08_StockBack.j0 k t317 (a1.extract 0 ((ji5) : Int).toNat) t320 bt337.1 (!t342))) else (tarrylaw08_StockBack.j0 k t317 (a1.extract 0 ((ji5) : Int).toNat) t320 bt337.1 true)) else (tarrylaw08_StockBack.j0 k t317 (a1.extract 0 ((ji5) : Int).toNat) t320 bt337.1 true)) else (tarrylaw08_StockBack.j0 k t317 (a1.extract 0 ((ji5) : Int).toNat) t320 bt337.1 true))) else (tarrylaw08_StockBack.j0 k t317 (a1.extract 0 ((ji5) : Int).toNat) t320 bt337.1 true)) else (tarrylaw08_StockBack.j0 k t317 (a1.extract 0 ((ji5) : Int).toNat) t320 bt337.1 true)))) else (tarrylaw08_StockBack.j0 k t317 (a1.extract 0 ((ji5) : Int).toNat) t320 bt337.1 true)))) else ((tarrylaw08_alive.f k).bind fun t332 => (if t332 = true then (if (t320.length : Int) = 0 then (if bt324.2.2.2.2.2.2 = 0 then (if a2 < 1 then (some true) else (some (decide (bt324.2.2.1 < a2)))) else (some true)) else (some false)) else (some false))))) = some r := H
   have A8 := Aside0.mk A80
   clear A80
   replace H := Option.bind_eq_some_iff.mp H
   obtain ⟨⟨t324, t325, t326, t327, t328, t329, t330⟩, A90, H⟩ := H
   replace H : (if t321 = 0 then ((stock_Release.f t320 (a1.extract 0 ((ji5) : Int).toNat) a2).bind fun bt333 => ((stock_Ship.f t320 (a1.extract 0 ((ji5) : Int).toNat) a2).bind fun bt337 => (if t330 = 0 then (if t326 < a2 then (tarrylaw08_StockBack.j0 k t317 (a1.extract 0 ((ji5) : Int).toNat) t320 bt337.1 true) else (if a2 < 1 then (tarrylaw08_StockBack.j0 k t317 (a1.extract 0 ((ji5) : Int).toNat) t320 bt337.1 true) else (if bt333.2 = 0 then (if bt337.2 = 0 then ((tarryref08_Same.f k bt333.1 t317).bind fun t341 => (if t341 = true then (if (t320.length : Int) = (t317.length : Int) then (if (bt337.1.length : Int) = (t317.length : Int) then ((tarrylaw08_alive.f k).bind fun t342 => (tarrylaw08_StockBack.j0 k t317 (a1.extract 0 ((ji5) : Int).toNat) t320 bt337.1 (!t342))) else (tarrylaw08_StockBack.j0 k t317 (a1.extract 0 ((ji5) : Int).toNat) t320 bt337.1 true)) else (tarrylaw08_StockBack.j0 k t317 (a1.extract 0 ((ji5) : Int).toNat) t320 bt337.1 true)) else (tarrylaw08_StockBack.j0 k t317 (a1.extract 0 ((ji5) : Int).toNat) t320 bt337.1 true))) else (tarrylaw08_StockBack.j0 k t317 (a1.extract 0 ((ji5) : Int).toNat) t320 bt337.1 true)) else (tarrylaw08_StockBack.j0 k t317 (a1.extract 0 ((ji5) : Int).toNat) t320 bt337.1 true)))) else (tarrylaw08_StockBack.j0 k t317 (a1.extract 0 ((ji5) : Int).toNat) t320 bt337.1 true)))) else ((tarrylaw08_alive.f k).bind fun t332 => (if t332 = true then (if (t320.length : Int) = 0 then (if t330 = 0 then (if a2 < 1 then (some true) else (some (decide (t326 < a2)))) else (some true)) else (some false)) else (some false)))) = some r := H
   have A9 := Aside0.mk A90
   clear A90
   by_cases c10 : t321 = 0
   ·rw [if_pos c10] at H
    have c10b0 : (t321 == 0) = true := beq_iff_eq.mpr c10
    have c10b1 : (t321 != 0) = false := bne_eq_false_iff_eq.mpr c10
    clear c10
    replace H := Option.bind_eq_some_iff.mp H
    obtain ⟨⟨t333, t334⟩, A110, H⟩ := H
    replace H : ((stock_Ship.f t320 (a1.extract 0 ((ji5) : Int).toNat) a2).bind fun bt337 => (if t330 = 0 then (if t326 < a2 then (tarrylaw08_StockBack.j0 k t317 (a1.extract 0 ((ji5) : Int).toNat) t320 bt337.1 true) else (if a2 < 1 then (tarrylaw08_StockBack.j0 k t317 (a1.extract 0 ((ji5) : Int).toNat) t320 bt337.1 true) else (if t334 = 0 then (if bt337.2 = 0 then ((tarryref08_Same.f k t333 t317).bind fun t341 => (if t341 = true then (if (t320.length : Int) = (t317.length : Int) then (if (bt337.1.length : Int) = (t317.length : Int) then ((tarrylaw08_alive.f k).bind fun t342 => (tarrylaw08_StockBack.j0 k t317 (a1.extract 0 ((ji5) : Int).toNat) t320 bt337.1 (!t342))) else (tarrylaw08_StockBack.j0 k t317 (a1.extract 0 ((ji5) : Int).toNat) t320 bt337.1 true)) else (tarrylaw08_StockBack.j0 k t317 (a1.extract 0 ((ji5) : Int).toNat) t320 bt337.1 true)) else (tarrylaw08_StockBack.j0 k t317 (a1.extract 0 ((ji5) : Int).toNat) t320 bt337.1 true))) else (tarrylaw08_StockBack.j0 k t317 (a1.extract 0 ((ji5) : Int).toNat) t320 bt337.1 true)) else (tarrylaw08_StockBack.j0 k t317 (a1.extract 0 ((ji5) : Int).toNat) t320 bt337.1 true)))) else (tarrylaw08_StockBack.j0 k t317 (a1.extract 0 ((ji5) : Int).toNat) t320 bt337.1 true))) = some r := H
    have A11 := Aside0.mk A110
    clear A110
    replace H := Option.bind_eq_some_iff.mp H
    obtain ⟨⟨t337, t338⟩, A120, H⟩ := H
    replace H : (if t330 = 0 then (if t326 < a2 then (tarrylaw08_StockBack.j0 k t317 (a1.extract 0 ((ji5) : Int).toNat) t320 t337 true) else (if a2 < 1 then (tarrylaw08_StockBack.j0 k t317 (a1.extract 0 ((ji5) : Int).toNat) t320 t337 true) else (if t334 = 0 then (if t338 = 0 then ((tarryref08_Same.f k t333 t317).bind fun t341 => (if t341 = true then (if (t320.length : Int) = (t317.length : Int) then (if (t337.length : Int) = (t317.length : Int) then ((tarrylaw08_alive.f k).bind fun t342 => (tarrylaw08_StockBack.j0 k t317 (a1.extract 0 ((ji5) : Int).toNat) t320 t337 (!t342))) else (tarrylaw08_StockBack.j0 k t317 (a1.extract 0 ((ji5) : Int).toNat) t320 t337 true)) else (tarrylaw08_StockBack.j0 k t317 (a1.extract 0 ((ji5) : Int).toNat) t320 t337 true)) else (tarrylaw08_StockBack.j0 k t317 (a1.extract 0 ((ji5) : Int).toNat) t320 t337 true))) else (tarrylaw08_StockBack.j0 k t317 (a1.extract 0 ((ji5) : Int).toNat) t320 t337 true)) else (tarrylaw08_StockBack.j0 k t317 (a1.extract 0 ((ji5) : Int).toNat) t320 t337 true)))) else (tarrylaw08_StockBack.j0 k t317 (a1.extract 0 ((ji5) : Int).toNat) t320 t337 true)) = some r := H
    have A12 := Aside0.mk A120
    clear A120
    have HC13 := Aside0.mk H
    clear H
    go_enter Try.func4, Try.ntmps4
    try go_wp2
    have n0_ := Aside0.mk (below_drew1 HB.out)
    clear HB
    have HB := n0_
    clear n0_
    refine start_ (n := 9) (S := fun w' => True) (ds := []) #[false, false, false, false, false, false, false, false, false] (by kernel_rfl) rfl rfl trivial (fun hHeld => ?_); refine with_tabW tarrylaw08_StockBack.tab1 tarrylaw08_StockBack.bits1 (fun HT_ HW_ => ?_)
    generalize w.drew = w14 at HB hHeld ⊢
    refine pure_ (i := 0) (N := some 17) (v := ?_) (a' := ?_) #[true, false, false, false, false, false, false, false, false] rfl rfl (any_of HT_.out (by kernel_rfl)) (fun _ _ _ h => h) (Or.inl ⟨by rfl, ?_⟩) ?_ ?_
    rotate_left
    ·intro w'
     go_simp
     with_reducible rfl
    rotate_left
    ·simp only [Act.put, List.setIfInBounds_toArray, List.set_cons_zero, List.set_cons_succ, i64_w, i32_w]
     rfl
    refine pure_ (i := 2) (N := some 19) (v := ?_) (a' := ?_) #[true, false, true, false, false, false, false, false, false] rfl rfl (any_of HT_.out (by kernel_rfl)) (fun _ _ _ h => h) (Or.inl ⟨by rfl, ?_⟩) ?_ ?_
    rotate_left
    ·intro w'
     go_simp
     with_reducible rfl
    rotate_left
    ·simp only [Act.put, List.setIfInBounds_toArray, List.set_cons_zero, List.set_cons_succ, i64_w, i32_w]
     rfl
    refine pure_ (i := 3) (N := some 20) (v := ?_) (a' := ?_) #[true, false, true, true, false, false, false, false, false] rfl rfl (any_of HT_.out (by kernel_rfl)) (fun _ _ _ h => h) (Or.inl ⟨by rfl, ?_⟩) ?_ ?_
    rotate_left
    ·intro w'
     go_simp
     with_reducible rfl
    rotate_left
    ·simp only [Act.put, List.setIfInBounds_toArray, List.set_cons_zero, List.set_cons_succ, i64_w, i32_w]
     rfl
    refine pure_ (i := 4) (N := some 21) (v := ?_) (a' := ?_) #[true, false, true, true, true, false, false, false, false] rfl rfl (any_of HT_.out (by kernel_rfl)) (fun _ _ _ h => h) (Or.inl ⟨by rfl, ?_⟩) ?_ ?_
    rotate_left
    ·intro w'
     go_simp
     with_reducible rfl
    rotate_left
    ·simp only [Act.put, List.setIfInBounds_toArray, List.set_cons_zero, List.set_cons_succ, i64_w, i32_w]
     rfl
    refine pure_ (i := 5) (N := some 22) (v := ?_) (a' := ?_) #[true, false, true, true, true, true, false, false, false] rfl rfl (any_of HT_.out (by kernel_rfl)) (fun _ _ _ h => h) (Or.inl ⟨by rfl, ?_⟩) ?_ ?_
    rotate_left
    ·intro w'
     go_simp
     with_reducible rfl
    rotate_left
    ·simp only [Act.put, List.setIfInBounds_toArray, List.set_cons_zero, List.set_cons_succ, i64_w, i32_w]
     rfl
    refine pure_ (i := 6) (N := some 23) (v := ?_) (a' := ?_) #[true, false, true, true, true, true, true, false, false] rfl rfl (any_of HT_.out (by kernel_rfl)) (fun _ _ _ h => h) (Or.inl ⟨by rfl, ?_⟩) ?_ ?_
    rotate_left
    ·intro w'
     go_simp
     with_reducible rfl
    rotate_left
    ·simp only [Act.put, List.setIfInBounds_toArray, List.set_cons_zero, List.set_cons_succ, i64_w, i32_w]
     rfl
    refine one_ (i := 1) (N := some 18) #[true, true, true, true, true, true, true, false, false] rfl rfl (one_of HT_.out (by kernel_rfl)) (by decide) (fun K hK => ?_)
    refine goes_ Try.func6 (by kernel_rfl) rfl #[.slice A0 l0.length c0] (by rfl) rfl rfl (by (try simp only [List.map_toArray, List.map_cons, List.map_nil]); first | done | rfl | (simp only [List.length_drop, List.length_take]; rfl)) ?_
    with_reducible refine (tarrylaw08_few.calls k _ _ l0 t317 _ ?side1 ?side2 A4.out).mono ?_
    (case side1 => repeat (first | exact (Kd.C_below HR0.out HB.out) | (with_reducible refine Kd.C_alloc ?_ _) | (with_reducible refine Kd.C_drewN ?_ _) | (with_reducible refine Kd.C_drew ?_)))
    (case side2 => exact HC0.out)
    rintro e w15 ⟨v318, rfl, ho0, hb⟩
    refine ⟨_, rfl, ?_⟩
    have n0_ := Aside0.mk (Kd.R_lower ho0 (below_size (by repeat (first | (with_reducible first | exact HB.out | apply below_alloc | apply pw_below_drewN | apply below_drew1) | exact HB.out))))
    have n1_ := Aside0.mk (below_step (by repeat (first | (with_reducible first | exact HB.out | apply below_alloc | apply pw_below_drewN | apply below_drew1) | exact HB.out)) hb)
    clear HB
    have HO319 := n0_
    have HB := n1_
    clear n0_ n1_
    (try clear hb)
    (try clear hb2)
    (try clear hk)
    (try clear hi)
    (try clear ho0)
    refine hK.out _ _ trivial (fun hHeld => ?_)
    clear hK K
    refine norm_ (a' := ?_) ?_ ?_
    rotate_left
    ·show Act.put _ (some 18) _ = _
     simp only [Act.put, List.setIfInBounds_toArray, List.set_cons_zero, List.set_cons_succ, i64_w, i32_w]
     rfl
    refine pure_ (i := 7) (N := some 0) (v := ?_) (a' := ?_) #[true, true, true, true, true, true, true, true, false] rfl rfl (any_of HT_.out (by kernel_rfl)) (fun _ _ _ h => h) (Or.inl ⟨by rfl, ?_⟩) ?_ ?_
    rotate_left
    ·intro w'
     go_simp
     with_reducible rfl
    rotate_left
    ·simp only [Act.put, List.setIfInBounds_toArray, List.set_cons_zero, List.set_cons_succ, i64_w, i32_w]
     rfl
    refine pure_ (i := 8) (N := some 1) (v := ?_) (a' := ?_) #[true, true, true, true, true, true, true, true, true] rfl rfl (any_of HT_.out (by kernel_rfl)) (fun _ _ _ h => h) (Or.inl ⟨by rfl, ?_⟩) ?_ ?_
    rotate_left
    ·intro w'
     go_simp
     with_reducible rfl
    rotate_left
    ·simp only [Act.put, List.setIfInBounds_toArray, List.set_cons_zero, List.set_cons_succ, i64_w, i32_w]
     rfl
    refine done_ (done_of HT_.out (by kernel_rfl)) ?_
    obtain ⟨Ao16, co16, eo16⟩ := Kd.R_slice HO319.out
    subst eo16
    go_upto_region 8 with (first | ((with_reducible refine gate_callee (f := 11) rfl ?_); refine goesL_ (some 28) rfl rfl Try.func11 (by kernel_rfl) rfl #[.slice Ao16 t317.length co16, .string (a1.extract 0 ((ji5) : Int).toNat), .int .i64 a2] rfl (by (try simp only [List.map_toArray, List.map_cons, List.map_nil]); first | done | (simp only [hji5]; rfl) | rfl | (simp only [List.length_drop, List.length_take]; rfl)) ?_; (with_reducible refine (stock_Hold.calls _ _ t317 (a1.extract 0 ((ji5) : Int).toNat) a2 t320 t321 _ ?side1 ?side2 A8.out).mono ?_); (case side1 => repeat (first | exact (Kd.R_reads' HO319.out).2.2 | (with_reducible refine Kd.C_alloc ?_ _) | (with_reducible refine Kd.C_drewN ?_ _) | (with_reducible refine Kd.C_drew ?_))); (case side2 => exact (Kd.R_reads' HO319.out).2.1); rintro e w17 ⟨v322, rfl, ho0, hb⟩; refine ⟨_, rfl, ?_⟩; have n0_ := Aside0.mk (Kd.R_elder' (by (with_reducible repeat (first | apply Kd.R_alloc | apply Kd.R_drewN | apply Kd.R_drew)); exact HO319.out) (Kd.R_base ho0) hb); have n1_ := Aside0.mk (Kd.R_lower (Kd.R_new' ho0 (Kd.R_lt (by (with_reducible repeat (first | apply Kd.R_alloc | apply Kd.R_drewN | apply Kd.R_drew)); exact HO319.out))) (below_size (by repeat (first | (with_reducible first | exact HB.out | apply below_alloc | apply pw_below_drewN | apply below_drew1) | exact HB.out)))); have n2_ := Aside0.mk (below_step (by repeat (first | (with_reducible first | exact HB.out | apply below_alloc | apply pw_below_drewN | apply below_drew1) | exact HB.out)) hb); clear HO319; clear HB; have HO319 := n0_; have HO323 := n1_; have HB := n2_; clear n0_ n1_ n2_; (try clear hb); (try clear hb2); (try clear hk); (try clear hi); (try clear ho0)) | ((with_reducible refine gate_callee (f := 12) rfl ?_); refine goesL_ (some 34) rfl rfl Try.func12 (by kernel_rfl) rfl #[.slice Ao16 t317.length co16, .string (a1.extract 0 ((ji5) : Int).toNat)] rfl (by (try simp only [List.map_toArray, List.map_cons, List.map_nil]); first | done | (simp only [hji5]; rfl) | rfl | (simp only [List.length_drop, List.length_take]; rfl)) ?_; (with_reducible refine (stock_Get.calls _ _ t317 (a1.extract 0 ((ji5) : Int).toNat) t324 t325 t326 t327 t328 t329 t330 _ ?side1 ?side2 A9.out).mono ?_); (case side1 => repeat (first | exact (Kd.R_reads' HO319.out).2.2 | (with_reducible refine Kd.C_alloc ?_ _) | (with_reducible refine Kd.C_drewN ?_ _) | (with_reducible refine Kd.C_drew ?_))); (case side2 => exact (Kd.R_reads' HO319.out).2.1); rintro e w18 ⟨rfl, hb⟩; refine ⟨_, rfl, ?_⟩; have n0_ := Aside0.mk (Kd.R_below (by (with_reducible repeat (first | apply Kd.R_alloc | apply Kd.R_drewN | apply Kd.R_drew)); exact HO319.out) hb); have n1_ := Aside0.mk (Kd.R_below (by (with_reducible repeat (first | apply Kd.R_alloc | apply Kd.R_drewN | apply Kd.R_drew)); exact HO323.out) hb); have n2_ := Aside0.mk (below_step (by repeat (first | (with_reducible first | exact HB.out | apply below_alloc | apply pw_below_drewN | apply below_drew1) | exact HB.out)) hb); clear HO319; clear HO323; clear HB; have HO319 := n0_; have HO323 := n1_; have HB := n2_; clear n0_ n1_ n2_; (try clear hb); (try clear hb2); (try clear hk); (try clear hi)) | ((with_reducible refine gate_dst (N := 9) rfl ?_); (try (refine gate_guard (by rfl) ?_; dsimp only)); refine box_event ?hg (N := 9) ?hd (cs := #[.string (⟨#[]⟩ : ByteArray), .int .i64 0, .int .i64 0, .int .i64 0, .int .i64 0, .int .i64 0]) (t := 33) ?hr ?_; (case hd => rfl); (case hg => rfl); (case hr => first | (go_simp; done) | (go_simp; rfl)); intro gb331 hg w19 hbox hb; have n0_ := Aside0.mk (Kd.R_below (Kd.R_elderB (by (with_reducible repeat (first | apply Kd.R_alloc | apply Kd.R_drewN | apply Kd.R_drew)); exact HO319.out) gb331 (Nat.le_of_eq hg.symm)) hb); have n1_ := Aside0.mk (Kd.R_below (Kd.R_elderB (by (with_reducible repeat (first | apply Kd.R_alloc | apply Kd.R_drewN | apply Kd.R_drew)); exact HO323.out) gb331 (Nat.le_of_eq hg.symm)) hb); have n2_ := Aside0.mk (below_step (by repeat (first | (with_reducible first | exact HB.out | apply below_alloc | apply pw_below_drewN | apply below_drew1) | exact HB.out)) hb); have n3_ := Aside0.mk (hbox); have n4_ := Aside0.mk ((by rw [hg]; exact (below_size (by repeat (first | (with_reducible first | exact HB.out | apply below_alloc | apply pw_below_drewN | apply below_drew1) | exact HB.out))) : w.heap.size ≤ gb331)); have n5_ := Aside0.mk ((by rw [hg]; exact (below_size (by repeat (first | (with_reducible first | exact HB.out | apply below_alloc | apply pw_below_drewN | apply below_drew1) | exact HB.out))) : w.heap.size ≤ gb331)); clear HO319; clear HO323; clear HB; have HO319 := n0_; have HO323 := n1_; have HB := n2_; have BK331 := n3_; have GW331 := n4_; have GE331 := n5_; clear n0_ n1_ n2_ n3_ n4_ n5_; clear hb hbox hg; have hcz20_0 : w19.cell? ⟨gb331, 0, none⟩ = some (.string (⟨#[]⟩ : ByteArray)) := (blk_cell BK331.out 0).trans rfl; have hcz20_1 : w19.cell? ⟨gb331, 1, none⟩ = some (.int .i64 0) := (blk_cell BK331.out 1).trans rfl; have hcz20_2 : w19.cell? ⟨gb331, 2, none⟩ = some (.int .i64 0) := (blk_cell BK331.out 2).trans rfl; have hcz20_3 : w19.cell? ⟨gb331, 3, none⟩ = some (.int .i64 0) := (blk_cell BK331.out 3).trans rfl; have hcz20_4 : w19.cell? ⟨gb331, 4, none⟩ = some (.int .i64 0) := (blk_cell BK331.out 4).trans rfl; have hcz20_5 : w19.cell? ⟨gb331, 5, none⟩ = some (.int .i64 0) := (blk_cell BK331.out 5).trans rfl; have hfz20_0 := blk_frozen BK331.out 0; have hfz20_1 := blk_frozen BK331.out 1; have hfz20_2 := blk_frozen BK331.out 2; have hfz20_3 := blk_frozen BK331.out 3; have hfz20_4 := blk_frozen BK331.out 4; have hfz20_5 := blk_frozen BK331.out 5; obtain ⟨Ao21, co21, eo21⟩ := Kd.R_slice HO323.out; subst eo21) | ((with_reducible refine gate_callee (f := 13) rfl ?_); refine goesL_ (some 63) rfl rfl Try.func13 (by kernel_rfl) rfl #[.slice Ao21 t320.length co21, .string (a1.extract 0 ((ji5) : Int).toNat), .int .i64 a2] rfl (by (try simp only [List.map_toArray, List.map_cons, List.map_nil]); first | done | (simp only [hji5]; rfl) | rfl | (simp only [List.length_drop, List.length_take]; rfl)) ?_; (with_reducible refine (stock_Release.calls _ _ t320 (a1.extract 0 ((ji5) : Int).toNat) a2 t333 t334 _ ?side1 ?side2 A11.out).mono ?_); (case side1 => refine (Kd.R_reads' (e := 33) (base := w.heap.size) (ok := fun k_ => ((True ∧ some k_ ≠ (.slice Ao16 t317.length co16 : Value).ownBlock) ∧ k_ ≠ gb331)) (n := t320.length) (c := co21) ?_).2.2; exact (by (with_reducible repeat (first | apply Kd.R_alloc | apply Kd.R_drewN | apply Kd.R_drew)); exact (Kd.R_mono (Kd.R_far (p := ⟨gb331, 5, none⟩) (Kd.R_far (p := ⟨gb331, 4, none⟩) (Kd.R_far (p := ⟨gb331, 3, none⟩) (Kd.R_far (p := ⟨gb331, 2, none⟩) (Kd.R_far (p := ⟨gb331, 1, none⟩) (Kd.R_far (p := ⟨gb331, 0, none⟩) (Kd.R_mono HO323.out (fun k_ hk => (⟨hk, hk.2⟩ : _ ∧ k_ ≠ gb331))) (fun _ hk => hk.2) (.string t324)) (fun _ hk => hk.2) (.int .i64 t325)) (fun _ hk => hk.2) (.int .i64 t326)) (fun _ hk => hk.2) (.int .i64 t327)) (fun _ hk => hk.2) (.int .i64 t328)) (fun _ hk => hk.2) (.int .i64 t329)) (fun _ h_ => h_.1)))); (case side2 => exact (Kd.R_reads' HO323.out).2.1); rintro e w22 ⟨v335, rfl, ho0, hb⟩; refine ⟨_, rfl, ?_⟩; have n0_ := Aside0.mk (Kd.R_elder' (by (with_reducible repeat (first | apply Kd.R_alloc | apply Kd.R_drewN | apply Kd.R_drew)); exact (Kd.R_mono (Kd.R_far (p := ⟨gb331, 5, none⟩) (Kd.R_far (p := ⟨gb331, 4, none⟩) (Kd.R_far (p := ⟨gb331, 3, none⟩) (Kd.R_far (p := ⟨gb331, 2, none⟩) (Kd.R_far (p := ⟨gb331, 1, none⟩) (Kd.R_far (p := ⟨gb331, 0, none⟩) (Kd.R_mono HO319.out (fun k_ hk => (⟨hk, hk.2⟩ : _ ∧ k_ ≠ gb331))) (fun _ hk => hk.2) (.string t324)) (fun _ hk => hk.2) (.int .i64 t325)) (fun _ hk => hk.2) (.int .i64 t326)) (fun _ hk => hk.2) (.int .i64 t327)) (fun _ hk => hk.2) (.int .i64 t328)) (fun _ hk => hk.2) (.int .i64 t329)) (fun _ h_ => h_.1))) (Kd.R_base ho0) hb); have n1_ := Aside0.mk (Kd.R_elder' (by (with_reducible repeat (first | apply Kd.R_alloc | apply Kd.R_drewN | apply Kd.R_drew)); exact (Kd.R_mono (Kd.R_far (p := ⟨gb331, 5, none⟩) (Kd.R_far (p := ⟨gb331, 4, none⟩) (Kd.R_far (p := ⟨gb331, 3, none⟩) (Kd.R_far (p := ⟨gb331, 2, none⟩) (Kd.R_far (p := ⟨gb331, 1, none⟩) (Kd.R_far (p := ⟨gb331, 0, none⟩) (Kd.R_mono HO323.out (fun k_ hk => (⟨hk, hk.2⟩ : _ ∧ k_ ≠ gb331))) (fun _ hk => hk.2) (.string t324)) (fun _ hk => hk.2) (.int .i64 t325)) (fun _ hk => hk.2) (.int .i64 t326)) (fun _ hk => hk.2) (.int .i64 t327)) (fun _ hk => hk.2) (.int .i64 t328)) (fun _ hk => hk.2) (.int .i64 t329)) (fun _ h_ => h_.1))) (Kd.R_base ho0) hb); have n2_ := Aside0.mk (Kd.R_lower (Kd.R_newB (Kd.R_new' (Kd.R_new' ho0 (Kd.R_lt (by (with_reducible repeat (first | apply Kd.R_alloc | apply Kd.R_drewN | apply Kd.R_drew)); exact (Kd.R_mono (Kd.R_far (p := ⟨gb331, 5, none⟩) (Kd.R_far (p := ⟨gb331, 4, none⟩) (Kd.R_far (p := ⟨gb331, 3, none⟩) (Kd.R_far (p := ⟨gb331, 2, none⟩) (Kd.R_far (p := ⟨gb331, 1, none⟩) (Kd.R_far (p := ⟨gb331, 0, none⟩) (Kd.R_mono HO319.out (fun k_ hk => (⟨hk, hk.2⟩ : _ ∧ k_ ≠ gb331))) (fun _ hk => hk.2) (.string t324)) (fun _ hk => hk.2) (.int .i64 t325)) (fun _ hk => hk.2) (.int .i64 t326)) (fun _ hk => hk.2) (.int .i64 t327)) (fun _ hk => hk.2) (.int .i64 t328)) (fun _ hk => hk.2) (.int .i64 t329)) (fun _ h_ => h_.1))))) (Kd.R_lt (by (with_reducible repeat (first | apply Kd.R_alloc | apply Kd.R_drewN | apply Kd.R_drew)); exact (Kd.R_mono (Kd.R_far (p := ⟨gb331, 5, none⟩) (Kd.R_far (p := ⟨gb331, 4, none⟩) (Kd.R_far (p := ⟨gb331, 3, none⟩) (Kd.R_far (p := ⟨gb331, 2, none⟩) (Kd.R_far (p := ⟨gb331, 1, none⟩) (Kd.R_far (p := ⟨gb331, 0, none⟩) (Kd.R_mono HO323.out (fun k_ hk => (⟨hk, hk.2⟩ : _ ∧ k_ ≠ gb331))) (fun _ hk => hk.2) (.string t324)) (fun _ hk => hk.2) (.int .i64 t325)) (fun _ hk => hk.2) (.int .i64 t326)) (fun _ hk => hk.2) (.int .i64 t327)) (fun _ hk => hk.2) (.int .i64 t328)) (fun _ hk => hk.2) (.int .i64 t329)) (fun _ h_ => h_.1))))) (g := gb331) (o := .cells #[.string t324, .int .i64 t325, .int .i64 t326, .int .i64 t327, .int .i64 t328, .int .i64 t329] 33 (0, 0)) (by (with_reducible repeat (first | refine blk_drewN ?_ _ | refine blk_drew ?_ | refine blk_alloc ?_ _)); refine blk_put (cs := #[.string t324, .int .i64 t325, .int .i64 t326, .int .i64 t327, .int .i64 t328, .int .i64 0]) ?_ 5 _ rfl; (with_reducible repeat (first | refine blk_drewN ?_ _ | refine blk_drew ?_ | refine blk_alloc ?_ _)); refine blk_put (cs := #[.string t324, .int .i64 t325, .int .i64 t326, .int .i64 t327, .int .i64 0, .int .i64 0]) ?_ 4 _ rfl; (with_reducible repeat (first | refine blk_drewN ?_ _ | refine blk_drew ?_ | refine blk_alloc ?_ _)); refine blk_put (cs := #[.string t324, .int .i64 t325, .int .i64 t326, .int .i64 0, .int .i64 0, .int .i64 0]) ?_ 3 _ rfl; (with_reducible repeat (first | refine blk_drewN ?_ _ | refine blk_drew ?_ | refine blk_alloc ?_ _)); refine blk_put (cs := #[.string t324, .int .i64 t325, .int .i64 0, .int .i64 0, .int .i64 0, .int .i64 0]) ?_ 2 _ rfl; (with_reducible repeat (first | refine blk_drewN ?_ _ | refine blk_drew ?_ | refine blk_alloc ?_ _)); refine blk_put (cs := #[.string t324, .int .i64 0, .int .i64 0, .int .i64 0, .int .i64 0, .int .i64 0]) ?_ 1 _ rfl; (with_reducible repeat (first | refine blk_drewN ?_ _ | refine blk_drew ?_ | refine blk_alloc ?_ _)); refine blk_put (cs := #[.string (⟨#[]⟩ : ByteArray), .int .i64 0, .int .i64 0, .int .i64 0, .int .i64 0, .int .i64 0]) ?_ 0 _ rfl; (with_reducible repeat (first | refine blk_drewN ?_ _ | refine blk_drew ?_ | refine blk_alloc ?_ _)); exact BK331.out)) (below_size (by repeat (first | (with_reducible first | exact HB.out | apply below_alloc | apply pw_below_drewN | apply below_drew1 | refine below_set ?_ GE331.out) | exact HB.out)))); have n3_ := Aside0.mk (blk_below (g := gb331) (o := .cells #[.string t324, .int .i64 t325, .int .i64 t326, .int .i64 t327, .int .i64 t328, .int .i64 t329] 33 (0, 0)) (by (with_reducible repeat (first | refine blk_drewN ?_ _ | refine blk_drew ?_ | refine blk_alloc ?_ _)); refine blk_put (cs := #[.string t324, .int .i64 t325, .int .i64 t326, .int .i64 t327, .int .i64 t328, .int .i64 0]) ?_ 5 _ rfl; (with_reducible repeat (first | refine blk_drewN ?_ _ | refine blk_drew ?_ | refine blk_alloc ?_ _)); refine blk_put (cs := #[.string t324, .int .i64 t325, .int .i64 t326, .int .i64 t327, .int .i64 0, .int .i64 0]) ?_ 4 _ rfl; (with_reducible repeat (first | refine blk_drewN ?_ _ | refine blk_drew ?_ | refine blk_alloc ?_ _)); refine blk_put (cs := #[.string t324, .int .i64 t325, .int .i64 t326, .int .i64 0, .int .i64 0, .int .i64 0]) ?_ 3 _ rfl; (with_reducible repeat (first | refine blk_drewN ?_ _ | refine blk_drew ?_ | refine blk_alloc ?_ _)); refine blk_put (cs := #[.string t324, .int .i64 t325, .int .i64 0, .int .i64 0, .int .i64 0, .int .i64 0]) ?_ 2 _ rfl; (with_reducible repeat (first | refine blk_drewN ?_ _ | refine blk_drew ?_ | refine blk_alloc ?_ _)); refine blk_put (cs := #[.string t324, .int .i64 0, .int .i64 0, .int .i64 0, .int .i64 0, .int .i64 0]) ?_ 1 _ rfl; (with_reducible repeat (first | refine blk_drewN ?_ _ | refine blk_drew ?_ | refine blk_alloc ?_ _)); refine blk_put (cs := #[.string (⟨#[]⟩ : ByteArray), .int .i64 0, .int .i64 0, .int .i64 0, .int .i64 0, .int .i64 0]) ?_ 0 _ rfl; (with_reducible repeat (first | refine blk_drewN ?_ _ | refine blk_drew ?_ | refine blk_alloc ?_ _)); exact BK331.out) hb); have n4_ := Aside0.mk (below_step (by repeat (first | (with_reducible first | exact HB.out | apply below_alloc | apply pw_below_drewN | apply below_drew1 | refine below_set ?_ GE331.out) | exact HB.out)) hb); clear HO319; clear HO323; clear BK331; clear HB; have HO319 := n0_; have HO323 := n1_; have HO336 := n2_; have BK331 := n3_; have HB := n4_; clear n0_ n1_ n2_ n3_ n4_; (try clear hb); (try clear hb2); (try clear hk); (try clear hi); (try clear ho0)) | ((with_reducible refine gate_callee (f := 14) rfl ?_); refine goesL_ (some 70) rfl rfl Try.func14 (by kernel_rfl) rfl #[.slice Ao21 t320.length co21, .string (a1.extract 0 ((ji5) : Int).toNat), .int .i64 a2] rfl (by (try simp only [List.map_toArray, List.map_cons, List.map_nil]); first | done | (simp only [hji5]; rfl) | rfl | (simp only [List.length_drop, List.length_take]; rfl)) ?_; (with_reducible refine (stock_Ship.calls _ _ t320 (a1.extract 0 ((ji5) : Int).toNat) a2 t337 t338 _ ?side1 ?side2 A12.out).mono ?_); (case side1 => repeat (first | exact (Kd.R_reads' HO323.out).2.2 | (with_reducible refine Kd.C_alloc ?_ _) | (with_reducible refine Kd.C_drewN ?_ _) | (with_reducible refine Kd.C_drew ?_))); (case side2 => exact (Kd.R_reads' HO323.out).2.1); rintro e w23 ⟨v339, rfl, ho0, hb⟩; refine ⟨_, rfl, ?_⟩; have n0_ := Aside0.mk (Kd.R_elder' (by (with_reducible repeat (first | apply Kd.R_alloc | apply Kd.R_drewN | apply Kd.R_drew)); exact HO319.out) (Kd.R_base ho0) hb); have n1_ := Aside0.mk (Kd.R_elder' (by (with_reducible repeat (first | apply Kd.R_alloc | apply Kd.R_drewN | apply Kd.R_drew)); exact HO323.out) (Kd.R_base ho0) hb); have n2_ := Aside0.mk (Kd.R_elder' (by (with_reducible repeat (first | apply Kd.R_alloc | apply Kd.R_drewN | apply Kd.R_drew)); exact HO336.out) (Kd.R_base ho0) hb); have n3_ := Aside0.mk (Kd.R_lower (Kd.R_newB (Kd.R_new' (Kd.R_new' (Kd.R_new' ho0 (Kd.R_lt (by (with_reducible repeat (first | apply Kd.R_alloc | apply Kd.R_drewN | apply Kd.R_drew)); exact HO319.out))) (Kd.R_lt (by (with_reducible repeat (first | apply Kd.R_alloc | apply Kd.R_drewN | apply Kd.R_drew)); exact HO323.out))) (Kd.R_lt (by (with_reducible repeat (first | apply Kd.R_alloc | apply Kd.R_drewN | apply Kd.R_drew)); exact HO336.out))) (g := gb331) (o := .cells #[.string t324, .int .i64 t325, .int .i64 t326, .int .i64 t327, .int .i64 t328, .int .i64 t329] 33 (0, 0)) (by (with_reducible repeat (first | refine blk_drewN ?_ _ | refine blk_drew ?_ | refine blk_alloc ?_ _)); exact BK331.out)) (below_size (by repeat (first | (with_reducible first | exact HB.out | apply below_alloc | apply pw_below_drewN | apply below_drew1 | refine below_set ?_ GE331.out) | exact HB.out)))); have n4_ := Aside0.mk (blk_below (g := gb331) (o := .cells #[.string t324, .int .i64 t325, .int .i64 t326, .int .i64 t327, .int .i64 t328, .int .i64 t329] 33 (0, 0)) (by (with_reducible repeat (first | refine blk_drewN ?_ _ | refine blk_drew ?_ | refine blk_alloc ?_ _)); exact BK331.out) hb); have n5_ := Aside0.mk (below_step (by repeat (first | (with_reducible first | exact HB.out | apply below_alloc | apply pw_below_drewN | apply below_drew1 | refine below_set ?_ GE331.out) | exact HB.out)) hb); clear HO319; clear HO323; clear HO336; clear BK331; clear HB; have HO319 := n0_; have HO323 := n1_; have HO336 := n2_; have HO340 := n3_; have BK331 := n4_; have HB := n5_; clear n0_ n1_ n2_ n3_ n4_ n5_; (try clear hb); (try clear hb2); (try clear hk); (try clear hi); (try clear ho0)))
    (try simp only [Act.put, List.setIfInBounds_toArray, List.set_cons_zero, List.set_cons_succ])
    go_cut [116] (fun v116 wc => ∃ (kq : Nat) (x116_12 : Bool), v116 = .bool x116_12 ∧ Aside0 (tarrylaw08_StockBack.j0 kq t317 (a1.extract 0 ((ji5) : Int).toNat) t320 t337 x116_12 = some r) ∧ Aside0 (kq ≤ k) ∧ Aside0 (Kd.R k33 33 wc w.heap.size (fun k_ => some k_ ≠ ((.slice Ao21 t320.length co21) : Value).ownBlock ∧ some k_ ≠ (v339 : Value).ownBlock ∧ k_ ≠ gb331) (.slice Ao16 t317.length co16) t317) ∧ Aside0 (Kd.R k33 33 wc w.heap.size (fun k_ => some k_ ≠ ((.slice Ao16 t317.length co16) : Value).ownBlock ∧ some k_ ≠ (v339 : Value).ownBlock ∧ k_ ≠ gb331) (.slice Ao21 t320.length co21) t320) ∧ Aside0 (Kd.R k33 33 wc w.heap.size (fun k_ => some k_ ≠ ((.slice Ao16 t317.length co16) : Value).ownBlock ∧ some k_ ≠ ((.slice Ao21 t320.length co21) : Value).ownBlock ∧ k_ ≠ gb331) v339 t337) ∧ Aside0 (wc.heap[gb331]? = some (.cells #[.string t324, .int .i64 t325, .int .i64 t326, .int .i64 t327, .int .i64 t328, .int .i64 t329] 33 (0, 0))) ∧ Aside0 (Below w.heap.size w wc))
    case first =>
     have H := HC13.out
     clear HC13
     by_cases c24 : t330 = 0
     ·rw [if_pos c24] at H
      have c24b0 : (t330 == 0) = true := beq_iff_eq.mpr c24
      have c24b1 : (t330 != 0) = false := bne_eq_false_iff_eq.mpr c24
      clear c24
      (first | rw [c24b0] | (simp only [i64_w, i32_w]; rw [c24b0]) | skip)
      by_cases c25 : t326 < a2
      ·rw [if_pos c25] at H
       have c25b0 : decide (t326 < a2) = true := decide_eq_true c25
       clear c25
       have H' := Aside0.mk H
       clear H
       have hcz26_0 : w23.cell? ⟨gb331, 0, none⟩ = some (.string t324) := (blk_cell BK331.out 0).trans rfl
       have hcz26_1 : w23.cell? ⟨gb331, 1, none⟩ = some (.int .i64 t325) := (blk_cell BK331.out 1).trans rfl
       have hcz26_2 : w23.cell? ⟨gb331, 2, none⟩ = some (.int .i64 t326) := (blk_cell BK331.out 2).trans rfl
       have hcz26_3 : w23.cell? ⟨gb331, 3, none⟩ = some (.int .i64 t327) := (blk_cell BK331.out 3).trans rfl
       have hcz26_4 : w23.cell? ⟨gb331, 4, none⟩ = some (.int .i64 t328) := (blk_cell BK331.out 4).trans rfl
       have hcz26_5 : w23.cell? ⟨gb331, 5, none⟩ = some (.int .i64 t329) := (blk_cell BK331.out 5).trans rfl
       have hfz26_0 := blk_frozen BK331.out 0
       have hfz26_1 := blk_frozen BK331.out 1
       have hfz26_2 := blk_frozen BK331.out 2
       have hfz26_3 := blk_frozen BK331.out 3
       have hfz26_4 := blk_frozen BK331.out 4
       have hfz26_5 := blk_frozen BK331.out 5
       go_wp2
       go_meet
       case rel => exact ⟨_, (true), (by first | rfl | (simp; done) | (simp [*]; done)), H', ⟨by first | omega | exact Nat.le_refl _⟩, ⟨by (with_reducible repeat (first | apply Kd.R_alloc | apply Kd.R_drewN | apply Kd.R_drew)); exact Kd.R_mono HO319.out (fun _ hk => ⟨hk.1.1.1.2, ⟨hk.2, hk.1.1.2⟩⟩)⟩, ⟨by (with_reducible repeat (first | apply Kd.R_alloc | apply Kd.R_drewN | apply Kd.R_drew)); exact Kd.R_mono HO323.out (fun _ hk => ⟨hk.1.1.1.2, ⟨hk.2, hk.1.1.2⟩⟩)⟩, ⟨by (with_reducible repeat (first | apply Kd.R_alloc | apply Kd.R_drewN | apply Kd.R_drew)); exact Kd.R_mono HO340.out (fun _ hk => ⟨hk.1.1.1.2, ⟨hk.1.1.2, hk.2⟩⟩)⟩, ⟨by (with_reducible repeat (first | refine blk_drewN ?_ _ | refine blk_drew ?_ | refine blk_alloc ?_ _)); exact BK331.out⟩, ⟨by repeat (first | (with_reducible first | exact HB.out | apply below_alloc | apply pw_below_drewN | apply below_drew1 | refine below_set ?_ GE331.out) | exact HB.out)⟩⟩
      ·rw [if_neg c25] at H
       have c25b0 : decide (t326 < a2) = false := decide_eq_false c25
       clear c25
       by_cases c27 : a2 < 1
       ·rw [if_pos c27] at H
        have c27b0 : decide (a2 < 1) = true := decide_eq_true c27
        clear c27
        have H' := Aside0.mk H
        clear H
        have hcz28_0 : w23.cell? ⟨gb331, 0, none⟩ = some (.string t324) := (blk_cell BK331.out 0).trans rfl
        have hcz28_1 : w23.cell? ⟨gb331, 1, none⟩ = some (.int .i64 t325) := (blk_cell BK331.out 1).trans rfl
        have hcz28_2 : w23.cell? ⟨gb331, 2, none⟩ = some (.int .i64 t326) := (blk_cell BK331.out 2).trans rfl
        have hcz28_3 : w23.cell? ⟨gb331, 3, none⟩ = some (.int .i64 t327) := (blk_cell BK331.out 3).trans rfl
        have hcz28_4 : w23.cell? ⟨gb331, 4, none⟩ = some (.int .i64 t328) := (blk_cell BK331.out 4).trans rfl
        have hcz28_5 : w23.cell? ⟨gb331, 5, none⟩ = some (.int .i64 t329) := (blk_cell BK331.out 5).trans rfl
        have hfz28_0 := blk_frozen BK331.out 0
        have hfz28_1 := blk_frozen BK331.out 1
        have hfz28_2 := blk_frozen BK331.out 2
        have hfz28_3 := blk_frozen BK331.out 3
        have hfz28_4 := blk_frozen BK331.out 4
        have hfz28_5 := blk_frozen BK331.out 5
        go_wp2
        go_meet
        case rel => exact ⟨_, (true), (by first | rfl | (simp; done) | (simp [*]; done)), H', ⟨by first | omega | exact Nat.le_refl _⟩, ⟨by (with_reducible repeat (first | apply Kd.R_alloc | apply Kd.R_drewN | apply Kd.R_drew)); exact Kd.R_mono HO319.out (fun _ hk => ⟨hk.1.1.1.2, ⟨hk.2, hk.1.1.2⟩⟩)⟩, ⟨by (with_reducible repeat (first | apply Kd.R_alloc | apply Kd.R_drewN | apply Kd.R_drew)); exact Kd.R_mono HO323.out (fun _ hk => ⟨hk.1.1.1.2, ⟨hk.2, hk.1.1.2⟩⟩)⟩, ⟨by (with_reducible repeat (first | apply Kd.R_alloc | apply Kd.R_drewN | apply Kd.R_drew)); exact Kd.R_mono HO340.out (fun _ hk => ⟨hk.1.1.1.2, ⟨hk.1.1.2, hk.2⟩⟩)⟩, ⟨by (with_reducible repeat (first | refine blk_drewN ?_ _ | refine blk_drew ?_ | refine blk_alloc ?_ _)); exact BK331.out⟩, ⟨by repeat (first | (with_reducible first | exact HB.out | apply below_alloc | apply pw_below_drewN | apply below_drew1 | refine below_set ?_ GE331.out) | exact HB.out)⟩⟩
       ·rw [if_neg c27] at H
        have c27b0 : decide (a2 < 1) = false := decide_eq_false c27
        clear c27
        by_cases c29 : t334 = 0
        ·rw [if_pos c29] at H
         have c29b0 : (t334 == 0) = true := beq_iff_eq.mpr c29
         have c29b1 : (t334 != 0) = false := bne_eq_false_iff_eq.mpr c29
         clear c29
         by_cases c30 : t338 = 0
         ·rw [if_pos c30] at H
          have c30b0 : (t338 == 0) = true := beq_iff_eq.mpr c30
          have c30b1 : (t338 != 0) = false := bne_eq_false_iff_eq.mpr c30
          clear c30
          replace H := Option.bind_eq_some_iff.mp H
          obtain ⟨t341, A310, H⟩ := H
          replace H : (if t341 = true then (if (t320.length : Int) = (t317.length : Int) then (if (t337.length : Int) = (t317.length : Int) then ((tarrylaw08_alive.f k).bind fun t342 => (tarrylaw08_StockBack.j0 k t317 (a1.extract 0 ((ji5) : Int).toNat) t320 t337 (!t342))) else (tarrylaw08_StockBack.j0 k t317 (a1.extract 0 ((ji5) : Int).toNat) t320 t337 true)) else (tarrylaw08_StockBack.j0 k t317 (a1.extract 0 ((ji5) : Int).toNat) t320 t337 true)) else (tarrylaw08_StockBack.j0 k t317 (a1.extract 0 ((ji5) : Int).toNat) t320 t337 true)) = some r := H
          have A31 := Aside0.mk A310
          clear A310
          by_cases c32 : t341 = true
          ·subst c32
           have H1 : (if (t320.length : Int) = (t317.length : Int) then (if (t337.length : Int) = (t317.length : Int) then ((tarrylaw08_alive.f k).bind fun t342 => (tarrylaw08_StockBack.j0 k t317 (a1.extract 0 ((ji5) : Int).toNat) t320 t337 (!t342))) else (tarrylaw08_StockBack.j0 k t317 (a1.extract 0 ((ji5) : Int).toNat) t320 t337 true)) else (tarrylaw08_StockBack.j0 k t317 (a1.extract 0 ((ji5) : Int).toNat) t320 t337 true)) = some r := by rw [if_pos rfl] at H; exact H
           clear H
           have H := H1
           clear H1
           by_cases c33 : (t320.length : Int) = (t317.length : Int)
           ·rw [if_pos c33] at H
            have c33b0 : ((t320.length : Int) == (t317.length : Int)) = true := beq_iff_eq.mpr c33
            have c33b1 : ((t320.length : Int) != (t317.length : Int)) = false := bne_eq_false_iff_eq.mpr c33
            have c33b2 : (t320.length == t317.length) = true := by first | simpa using c33 | (simp at c33 ⊢; omega)
            clear c33
            by_cases c34 : (t337.length : Int) = (t317.length : Int)
            ·rw [if_pos c34] at H
             have c34b0 : ((t337.length : Int) == (t317.length : Int)) = true := beq_iff_eq.mpr c34
             have c34b1 : ((t337.length : Int) != (t317.length : Int)) = false := bne_eq_false_iff_eq.mpr c34
             have c34b2 : (t337.length == t317.length) = true := by first | simpa using c34 | (simp at c34 ⊢; omega)
             clear c34
             replace H := Option.bind_eq_some_iff.mp H
             obtain ⟨t342, A350, H⟩ := H
             replace H : (tarrylaw08_StockBack.j0 k t317 (a1.extract 0 ((ji5) : Int).toNat) t320 t337 (!t342)) = some r := H
             have A35 := Aside0.mk A350
             clear A350
             have H' := Aside0.mk H
             clear H
             have hcz36_0 : w23.cell? ⟨gb331, 0, none⟩ = some (.string t324) := (blk_cell BK331.out 0).trans rfl
             have hcz36_1 : w23.cell? ⟨gb331, 1, none⟩ = some (.int .i64 t325) := (blk_cell BK331.out 1).trans rfl
             have hcz36_2 : w23.cell? ⟨gb331, 2, none⟩ = some (.int .i64 t326) := (blk_cell BK331.out 2).trans rfl
             have hcz36_3 : w23.cell? ⟨gb331, 3, none⟩ = some (.int .i64 t327) := (blk_cell BK331.out 3).trans rfl
             have hcz36_4 : w23.cell? ⟨gb331, 4, none⟩ = some (.int .i64 t328) := (blk_cell BK331.out 4).trans rfl
             have hcz36_5 : w23.cell? ⟨gb331, 5, none⟩ = some (.int .i64 t329) := (blk_cell BK331.out 5).trans rfl
             have hfz36_0 := blk_frozen BK331.out 0
             have hfz36_1 := blk_frozen BK331.out 1
             have hfz36_2 := blk_frozen BK331.out 2
             have hfz36_3 := blk_frozen BK331.out 3
             have hfz36_4 := blk_frozen BK331.out 4
             have hfz36_5 := blk_frozen BK331.out 5
             obtain ⟨Ao37, co37, eo37⟩ := Kd.R_slice HO336.out
             subst eo37
             go_wp2_with (first | (go_at_call 9; (with_reducible refine (tarryref08_Same.calls k _ _ t333 _ _ t317 true _ ?side1 ?side2 ?side3 ?side4 A31.out).mono ?_); (case side1 => repeat (first | exact (Kd.R_reads' HO336.out).2.2 | (with_reducible refine Kd.C_alloc ?_ _) | (with_reducible refine Kd.C_drewN ?_ _) | (with_reducible refine Kd.C_drew ?_))); (case side2 => exact (Kd.R_reads' HO336.out).2.1); (case side3 => repeat (first | exact (Kd.R_reads' HO319.out).2.2 | (with_reducible refine Kd.C_alloc ?_ _) | (with_reducible refine Kd.C_drewN ?_ _) | (with_reducible refine Kd.C_drew ?_))); (case side4 => exact (Kd.R_reads' HO319.out).2.1); rintro e w' ⟨rfl, ⟨nd, rfl⟩⟩; obtain ⟨Ao38, co38, eo38⟩ := Kd.R_slice HO340.out; subst eo38) | (go_at_call 7; (with_reducible refine (tarrylaw08_alive.calls k  t342 _ A35.out).mono ?_); rintro e w39 ⟨rfl, hb⟩; have n0_ := Aside0.mk (Kd.R_below (by (with_reducible repeat (first | apply Kd.R_alloc | apply Kd.R_drewN | apply Kd.R_drew)); exact HO319.out) hb); have n1_ := Aside0.mk (Kd.R_below (by (with_reducible repeat (first | apply Kd.R_alloc | apply Kd.R_drewN | apply Kd.R_drew)); exact HO323.out) hb); have n2_ := Aside0.mk (Kd.R_below (by (with_reducible repeat (first | apply Kd.R_alloc | apply Kd.R_drewN | apply Kd.R_drew)); exact HO336.out) hb); have n3_ := Aside0.mk (Kd.R_below (by (with_reducible repeat (first | apply Kd.R_alloc | apply Kd.R_drewN | apply Kd.R_drew)); exact HO340.out) hb); have n4_ := Aside0.mk (blk_below (g := gb331) (o := .cells #[.string t324, .int .i64 t325, .int .i64 t326, .int .i64 t327, .int .i64 t328, .int .i64 t329] 33 (0, 0)) (by (with_reducible repeat (first | refine blk_drewN ?_ _ | refine blk_drew ?_ | refine blk_alloc ?_ _)); exact BK331.out) hb); have n5_ := Aside0.mk (below_step (by repeat (first | (with_reducible first | exact HB.out | apply below_alloc | apply pw_below_drewN | apply below_drew1 | refine below_set ?_ GE331.out) | exact HB.out)) hb); clear HO319; clear HO323; clear HO336; clear HO340; clear BK331; clear HB; have HO319 := n0_; have HO323 := n1_; have HO336 := n2_; have HO340 := n3_; have BK331 := n4_; have HB := n5_; clear n0_ n1_ n2_ n3_ n4_ n5_; (try clear hb); (try clear hb2); (try clear hk); (try clear hi)))
             go_meet
             case rel => exact ⟨_, (!t342), (by first | rfl | (simp; done) | (simp [*]; done)), H', ⟨by first | omega | exact Nat.le_refl _⟩, ⟨by (with_reducible repeat (first | apply Kd.R_alloc | apply Kd.R_drewN | apply Kd.R_drew)); exact Kd.R_mono HO319.out (fun _ hk => ⟨hk.1.1.1.2, ⟨hk.2, hk.1.1.2⟩⟩)⟩, ⟨by (with_reducible repeat (first | apply Kd.R_alloc | apply Kd.R_drewN | apply Kd.R_drew)); exact Kd.R_mono HO323.out (fun _ hk => ⟨hk.1.1.1.2, ⟨hk.2, hk.1.1.2⟩⟩)⟩, ⟨by (with_reducible repeat (first | apply Kd.R_alloc | apply Kd.R_drewN | apply Kd.R_drew)); exact Kd.R_mono HO340.out (fun _ hk => ⟨hk.1.1.1.2, ⟨hk.1.1.2, hk.2⟩⟩)⟩, ⟨by (with_reducible repeat (first | refine blk_drewN ?_ _ | refine blk_drew ?_ | refine blk_alloc ?_ _)); exact BK331.out⟩, ⟨by repeat (first | (with_reducible first | exact HB.out | apply below_alloc | apply pw_below_drewN | apply below_drew1 | refine below_set ?_ GE331.out) | exact HB.out)⟩⟩
            ·rw [if_neg c34] at H
             have c34b0 : ((t337.length : Int) == (t317.length : Int)) = false := beq_eq_false_iff_ne.mpr c34
             have c34b1 : ((t337.length : Int) != (t317.length : Int)) = true := bne_iff_ne.mpr c34
             have c34b2 : (t337.length == t317.length) = false := by first | simpa using c34 | (simp at c34 ⊢; omega)
             have H' := Aside0.mk H
             clear H
             have hcz40_0 : w23.cell? ⟨gb331, 0, none⟩ = some (.string t324) := (blk_cell BK331.out 0).trans rfl
             have hcz40_1 : w23.cell? ⟨gb331, 1, none⟩ = some (.int .i64 t325) := (blk_cell BK331.out 1).trans rfl
             have hcz40_2 : w23.cell? ⟨gb331, 2, none⟩ = some (.int .i64 t326) := (blk_cell BK331.out 2).trans rfl
             have hcz40_3 : w23.cell? ⟨gb331, 3, none⟩ = some (.int .i64 t327) := (blk_cell BK331.out 3).trans rfl
             have hcz40_4 : w23.cell? ⟨gb331, 4, none⟩ = some (.int .i64 t328) := (blk_cell BK331.out 4).trans rfl
             have hcz40_5 : w23.cell? ⟨gb331, 5, none⟩ = some (.int .i64 t329) := (blk_cell BK331.out 5).trans rfl
             have hfz40_0 := blk_frozen BK331.out 0
             have hfz40_1 := blk_frozen BK331.out 1
             have hfz40_2 := blk_frozen BK331.out 2
             have hfz40_3 := blk_frozen BK331.out 3
             have hfz40_4 := blk_frozen BK331.out 4
             have hfz40_5 := blk_frozen BK331.out 5
             obtain ⟨Ao41, co41, eo41⟩ := Kd.R_slice HO336.out
             subst eo41
             go_wp2_with (first | (go_at_call 9; (with_reducible refine (tarryref08_Same.calls k _ _ t333 _ _ t317 true _ ?side1 ?side2 ?side3 ?side4 A31.out).mono ?_); (case side1 => repeat (first | exact (Kd.R_reads' HO336.out).2.2 | (with_reducible refine Kd.C_alloc ?_ _) | (with_reducible refine Kd.C_drewN ?_ _) | (with_reducible refine Kd.C_drew ?_))); (case side2 => exact (Kd.R_reads' HO336.out).2.1); (case side3 => repeat (first | exact (Kd.R_reads' HO319.out).2.2 | (with_reducible refine Kd.C_alloc ?_ _) | (with_reducible refine Kd.C_drewN ?_ _) | (with_reducible refine Kd.C_drew ?_))); (case side4 => exact (Kd.R_reads' HO319.out).2.1); rintro e w' ⟨rfl, ⟨nd, rfl⟩⟩; obtain ⟨Ao42, co42, eo42⟩ := Kd.R_slice HO340.out; subst eo42))
             go_meet
             case rel => exact ⟨_, (true), (by first | rfl | (simp; done) | (simp [*]; done)), H', ⟨by first | omega | exact Nat.le_refl _⟩, ⟨by (with_reducible repeat (first | apply Kd.R_alloc | apply Kd.R_drewN | apply Kd.R_drew)); exact Kd.R_mono HO319.out (fun _ hk => ⟨hk.1.1.1.2, ⟨hk.2, hk.1.1.2⟩⟩)⟩, ⟨by (with_reducible repeat (first | apply Kd.R_alloc | apply Kd.R_drewN | apply Kd.R_drew)); exact Kd.R_mono HO323.out (fun _ hk => ⟨hk.1.1.1.2, ⟨hk.2, hk.1.1.2⟩⟩)⟩, ⟨by (with_reducible repeat (first | apply Kd.R_alloc | apply Kd.R_drewN | apply Kd.R_drew)); exact Kd.R_mono HO340.out (fun _ hk => ⟨hk.1.1.1.2, ⟨hk.1.1.2, hk.2⟩⟩)⟩, ⟨by (with_reducible repeat (first | refine blk_drewN ?_ _ | refine blk_drew ?_ | refine blk_alloc ?_ _)); exact BK331.out⟩, ⟨by repeat (first | (with_reducible first | exact HB.out | apply below_alloc | apply pw_below_drewN | apply below_drew1 | refine below_set ?_ GE331.out) | exact HB.out)⟩⟩
           ·rw [if_neg c33] at H
            have c33b0 : ((t320.length : Int) == (t317.length : Int)) = false := beq_eq_false_iff_ne.mpr c33
            have c33b1 : ((t320.length : Int) != (t317.length : Int)) = true := bne_iff_ne.mpr c33
            have c33b2 : (t320.length == t317.length) = false := by first | simpa using c33 | (simp at c33 ⊢; omega)
            have H' := Aside0.mk H
            clear H
            have hcz43_0 : w23.cell? ⟨gb331, 0, none⟩ = some (.string t324) := (blk_cell BK331.out 0).trans rfl
            have hcz43_1 : w23.cell? ⟨gb331, 1, none⟩ = some (.int .i64 t325) := (blk_cell BK331.out 1).trans rfl
            have hcz43_2 : w23.cell? ⟨gb331, 2, none⟩ = some (.int .i64 t326) := (blk_cell BK331.out 2).trans rfl
            have hcz43_3 : w23.cell? ⟨gb331, 3, none⟩ = some (.int .i64 t327) := (blk_cell BK331.out 3).trans rfl
            have hcz43_4 : w23.cell? ⟨gb331, 4, none⟩ = some (.int .i64 t328) := (blk_cell BK331.out 4).trans rfl
            have hcz43_5 : w23.cell? ⟨gb331, 5, none⟩ = some (.int .i64 t329) := (blk_cell BK331.out 5).trans rfl
            have hfz43_0 := blk_frozen BK331.out 0
            have hfz43_1 := blk_frozen BK331.out 1
            have hfz43_2 := blk_frozen BK331.out 2
            have hfz43_3 := blk_frozen BK331.out 3
            have hfz43_4 := blk_frozen BK331.out 4
            have hfz43_5 := blk_frozen BK331.out 5
            obtain ⟨Ao44, co44, eo44⟩ := Kd.R_slice HO336.out
            subst eo44
            go_wp2_with (first | (go_at_call 9; (with_reducible refine (tarryref08_Same.calls k _ _ t333 _ _ t317 true _ ?side1 ?side2 ?side3 ?side4 A31.out).mono ?_); (case side1 => repeat (first | exact (Kd.R_reads' HO336.out).2.2 | (with_reducible refine Kd.C_alloc ?_ _) | (with_reducible refine Kd.C_drewN ?_ _) | (with_reducible refine Kd.C_drew ?_))); (case side2 => exact (Kd.R_reads' HO336.out).2.1); (case side3 => repeat (first | exact (Kd.R_reads' HO319.out).2.2 | (with_reducible refine Kd.C_alloc ?_ _) | (with_reducible refine Kd.C_drewN ?_ _) | (with_reducible refine Kd.C_drew ?_))); (case side4 => exact (Kd.R_reads' HO319.out).2.1); rintro e w' ⟨rfl, ⟨nd, rfl⟩⟩))
            go_meet
            case rel => exact ⟨_, (true), (by first | rfl | (simp; done) | (simp [*]; done)), H', ⟨by first | omega | exact Nat.le_refl _⟩, ⟨by (with_reducible repeat (first | apply Kd.R_alloc | apply Kd.R_drewN | apply Kd.R_drew)); exact Kd.R_mono HO319.out (fun _ hk => ⟨hk.1.1.1.2, ⟨hk.2, hk.1.1.2⟩⟩)⟩, ⟨by (with_reducible repeat (first | apply Kd.R_alloc | apply Kd.R_drewN | apply Kd.R_drew)); exact Kd.R_mono HO323.out (fun _ hk => ⟨hk.1.1.1.2, ⟨hk.2, hk.1.1.2⟩⟩)⟩, ⟨by (with_reducible repeat (first | apply Kd.R_alloc | apply Kd.R_drewN | apply Kd.R_drew)); exact Kd.R_mono HO340.out (fun _ hk => ⟨hk.1.1.1.2, ⟨hk.1.1.2, hk.2⟩⟩)⟩, ⟨by (with_reducible repeat (first | refine blk_drewN ?_ _ | refine blk_drew ?_ | refine blk_alloc ?_ _)); exact BK331.out⟩, ⟨by repeat (first | (with_reducible first | exact HB.out | apply below_alloc | apply pw_below_drewN | apply below_drew1 | refine below_set ?_ GE331.out) | exact HB.out)⟩⟩
          ·replace c32 := Bool.eq_false_iff.mpr c32
           subst c32
           have H1 : (tarrylaw08_StockBack.j0 k t317 (a1.extract 0 ((ji5) : Int).toNat) t320 t337 true) = some r := by rw [if_neg (show ¬ (false = true) by decide)] at H; exact H
           clear H
           have H := H1
           clear H1
           have H' := Aside0.mk H
           clear H
           have hcz45_0 : w23.cell? ⟨gb331, 0, none⟩ = some (.string t324) := (blk_cell BK331.out 0).trans rfl
           have hcz45_1 : w23.cell? ⟨gb331, 1, none⟩ = some (.int .i64 t325) := (blk_cell BK331.out 1).trans rfl
           have hcz45_2 : w23.cell? ⟨gb331, 2, none⟩ = some (.int .i64 t326) := (blk_cell BK331.out 2).trans rfl
           have hcz45_3 : w23.cell? ⟨gb331, 3, none⟩ = some (.int .i64 t327) := (blk_cell BK331.out 3).trans rfl
           have hcz45_4 : w23.cell? ⟨gb331, 4, none⟩ = some (.int .i64 t328) := (blk_cell BK331.out 4).trans rfl
           have hcz45_5 : w23.cell? ⟨gb331, 5, none⟩ = some (.int .i64 t329) := (blk_cell BK331.out 5).trans rfl
           have hfz45_0 := blk_frozen BK331.out 0
           have hfz45_1 := blk_frozen BK331.out 1
           have hfz45_2 := blk_frozen BK331.out 2
           have hfz45_3 := blk_frozen BK331.out 3
           have hfz45_4 := blk_frozen BK331.out 4
           have hfz45_5 := blk_frozen BK331.out 5
           obtain ⟨Ao46, co46, eo46⟩ := Kd.R_slice HO336.out
           subst eo46
           go_wp2_with (first | (go_at_call 9; (with_reducible refine (tarryref08_Same.calls k _ _ t333 _ _ t317 false _ ?side1 ?side2 ?side3 ?side4 A31.out).mono ?_); (case side1 => repeat (first | exact (Kd.R_reads' HO336.out).2.2 | (with_reducible refine Kd.C_alloc ?_ _) | (with_reducible refine Kd.C_drewN ?_ _) | (with_reducible refine Kd.C_drew ?_))); (case side2 => exact (Kd.R_reads' HO336.out).2.1); (case side3 => repeat (first | exact (Kd.R_reads' HO319.out).2.2 | (with_reducible refine Kd.C_alloc ?_ _) | (with_reducible refine Kd.C_drewN ?_ _) | (with_reducible refine Kd.C_drew ?_))); (case side4 => exact (Kd.R_reads' HO319.out).2.1); rintro e w' ⟨rfl, ⟨nd, rfl⟩⟩))
           go_meet
           case rel => exact ⟨_, (true), (by first | rfl | (simp; done) | (simp [*]; done)), H', ⟨by first | omega | exact Nat.le_refl _⟩, ⟨by (with_reducible repeat (first | apply Kd.R_alloc | apply Kd.R_drewN | apply Kd.R_drew)); exact Kd.R_mono HO319.out (fun _ hk => ⟨hk.1.1.1.2, ⟨hk.2, hk.1.1.2⟩⟩)⟩, ⟨by (with_reducible repeat (first | apply Kd.R_alloc | apply Kd.R_drewN | apply Kd.R_drew)); exact Kd.R_mono HO323.out (fun _ hk => ⟨hk.1.1.1.2, ⟨hk.2, hk.1.1.2⟩⟩)⟩, ⟨by (with_reducible repeat (first | apply Kd.R_alloc | apply Kd.R_drewN | apply Kd.R_drew)); exact Kd.R_mono HO340.out (fun _ hk => ⟨hk.1.1.1.2, ⟨hk.1.1.2, hk.2⟩⟩)⟩, ⟨by (with_reducible repeat (first | refine blk_drewN ?_ _ | refine blk_drew ?_ | refine blk_alloc ?_ _)); exact BK331.out⟩, ⟨by repeat (first | (with_reducible first | exact HB.out | apply below_alloc | apply pw_below_drewN | apply below_drew1 | refine below_set ?_ GE331.out) | exact HB.out)⟩⟩
         ·rw [if_neg c30] at H
          have c30b0 : (t338 == 0) = false := beq_eq_false_iff_ne.mpr c30
          have c30b1 : (t338 != 0) = true := bne_iff_ne.mpr c30
          have H' := Aside0.mk H
          clear H
          have hcz47_0 : w23.cell? ⟨gb331, 0, none⟩ = some (.string t324) := (blk_cell BK331.out 0).trans rfl
          have hcz47_1 : w23.cell? ⟨gb331, 1, none⟩ = some (.int .i64 t325) := (blk_cell BK331.out 1).trans rfl
          have hcz47_2 : w23.cell? ⟨gb331, 2, none⟩ = some (.int .i64 t326) := (blk_cell BK331.out 2).trans rfl
          have hcz47_3 : w23.cell? ⟨gb331, 3, none⟩ = some (.int .i64 t327) := (blk_cell BK331.out 3).trans rfl
          have hcz47_4 : w23.cell? ⟨gb331, 4, none⟩ = some (.int .i64 t328) := (blk_cell BK331.out 4).trans rfl
          have hcz47_5 : w23.cell? ⟨gb331, 5, none⟩ = some (.int .i64 t329) := (blk_cell BK331.out 5).trans rfl
          have hfz47_0 := blk_frozen BK331.out 0
          have hfz47_1 := blk_frozen BK331.out 1
          have hfz47_2 := blk_frozen BK331.out 2
          have hfz47_3 := blk_frozen BK331.out 3
          have hfz47_4 := blk_frozen BK331.out 4
          have hfz47_5 := blk_frozen BK331.out 5
          go_wp2
          go_meet
          case rel => exact ⟨_, (true), (by first | rfl | (simp; done) | (simp [*]; done)), H', ⟨by first | omega | exact Nat.le_refl _⟩, ⟨by (with_reducible repeat (first | apply Kd.R_alloc | apply Kd.R_drewN | apply Kd.R_drew)); exact Kd.R_mono HO319.out (fun _ hk => ⟨hk.1.1.1.2, ⟨hk.2, hk.1.1.2⟩⟩)⟩, ⟨by (with_reducible repeat (first | apply Kd.R_alloc | apply Kd.R_drewN | apply Kd.R_drew)); exact Kd.R_mono HO323.out (fun _ hk => ⟨hk.1.1.1.2, ⟨hk.2, hk.1.1.2⟩⟩)⟩, ⟨by (with_reducible repeat (first | apply Kd.R_alloc | apply Kd.R_drewN | apply Kd.R_drew)); exact Kd.R_mono HO340.out (fun _ hk => ⟨hk.1.1.1.2, ⟨hk.1.1.2, hk.2⟩⟩)⟩, ⟨by (with_reducible repeat (first | refine blk_drewN ?_ _ | refine blk_drew ?_ | refine blk_alloc ?_ _)); exact BK331.out⟩, ⟨by repeat (first | (with_reducible first | exact HB.out | apply below_alloc | apply pw_below_drewN | apply below_drew1 | refine below_set ?_ GE331.out) | exact HB.out)⟩⟩
        ·rw [if_neg c29] at H
         have c29b0 : (t334 == 0) = false := beq_eq_false_iff_ne.mpr c29
         have c29b1 : (t334 != 0) = true := bne_iff_ne.mpr c29
         have H' := Aside0.mk H
         clear H
         have hcz48_0 : w23.cell? ⟨gb331, 0, none⟩ = some (.string t324) := (blk_cell BK331.out 0).trans rfl
         have hcz48_1 : w23.cell? ⟨gb331, 1, none⟩ = some (.int .i64 t325) := (blk_cell BK331.out 1).trans rfl
         have hcz48_2 : w23.cell? ⟨gb331, 2, none⟩ = some (.int .i64 t326) := (blk_cell BK331.out 2).trans rfl
         have hcz48_3 : w23.cell? ⟨gb331, 3, none⟩ = some (.int .i64 t327) := (blk_cell BK331.out 3).trans rfl
         have hcz48_4 : w23.cell? ⟨gb331, 4, none⟩ = some (.int .i64 t328) := (blk_cell BK331.out 4).trans rfl
         have hcz48_5 : w23.cell? ⟨gb331, 5, none⟩ = some (.int .i64 t329) := (blk_cell BK331.out 5).trans rfl
         have hfz48_0 := blk_frozen BK331.out 0
         have hfz48_1 := blk_frozen BK331.out 1
         have hfz48_2 := blk_frozen BK331.out 2
         have hfz48_3 := blk_frozen BK331.out 3
         have hfz48_4 := blk_frozen BK331.out 4
         have hfz48_5 := blk_frozen BK331.out 5
         go_wp2
         go_meet
         case rel => exact ⟨_, (true), (by first | rfl | (simp; done) | (simp [*]; done)), H', ⟨by first | omega | exact Nat.le_refl _⟩, ⟨by (with_reducible repeat (first | apply Kd.R_alloc | apply Kd.R_drewN | apply Kd.R_drew)); exact Kd.R_mono HO319.out (fun _ hk => ⟨hk.1.1.1.2, ⟨hk.2, hk.1.1.2⟩⟩)⟩, ⟨by (with_reducible repeat (first | apply Kd.R_alloc | apply Kd.R_drewN | apply Kd.R_drew)); exact Kd.R_mono HO323.out (fun _ hk => ⟨hk.1.1.1.2, ⟨hk.2, hk.1.1.2⟩⟩)⟩, ⟨by (with_reducible repeat (first | apply Kd.R_alloc | apply Kd.R_drewN | apply Kd.R_drew)); exact Kd.R_mono HO340.out (fun _ hk => ⟨hk.1.1.1.2, ⟨hk.1.1.2, hk.2⟩⟩)⟩, ⟨by (with_reducible repeat (first | refine blk_drewN ?_ _ | refine blk_drew ?_ | refine blk_alloc ?_ _)); exact BK331.out⟩, ⟨by repeat (first | (with_reducible first | exact HB.out | apply below_alloc | apply pw_below_drewN | apply below_drew1 | refine below_set ?_ GE331.out) | exact HB.out)⟩⟩
     ·rw [if_neg c24] at H
      have c24b0 : (t330 == 0) = false := beq_eq_false_iff_ne.mpr c24
      have c24b1 : (t330 != 0) = true := bne_iff_ne.mpr c24
      (first | rw [c24b0] | (simp only [i64_w, i32_w]; rw [c24b0]) | skip)
      have H' := Aside0.mk H
      clear H
      go_wp2
      go_meet
      case rel => exact ⟨_, (true), (by first | rfl | (simp; done) | (simp [*]; done)), H', ⟨by first | omega | exact Nat.le_refl _⟩, ⟨by (with_reducible repeat (first | apply Kd.R_alloc | apply Kd.R_drewN | apply Kd.R_drew)); exact Kd.R_mono HO319.out (fun _ hk => ⟨hk.1.1.1.2, ⟨hk.2, hk.1.1.2⟩⟩)⟩, ⟨by (with_reducible repeat (first | apply Kd.R_alloc | apply Kd.R_drewN | apply Kd.R_drew)); exact Kd.R_mono HO323.out (fun _ hk => ⟨hk.1.1.1.2, ⟨hk.2, hk.1.1.2⟩⟩)⟩, ⟨by (with_reducible repeat (first | apply Kd.R_alloc | apply Kd.R_drewN | apply Kd.R_drew)); exact Kd.R_mono HO340.out (fun _ hk => ⟨hk.1.1.1.2, ⟨hk.1.1.2, hk.2⟩⟩)⟩, ⟨by (with_reducible repeat (first | refine blk_drewN ?_ _ | refine blk_drew ?_ | refine blk_alloc ?_ _)); exact BK331.out⟩, ⟨by repeat (first | (with_reducible first | exact HB.out | apply below_alloc | apply pw_below_drewN | apply below_drew1 | refine below_set ?_ GE331.out) | exact HB.out)⟩⟩
    case rest =>
     clear HC13
     try clear c1
     try clear c2
     try clear p2
     try clear c3
     try clear c4
     try clear c6
     try clear c6b0
     try clear c6b1
     try clear c7
     try clear c7b0
     try clear c7b1
     try clear c10
     try clear c10b0
     try clear c10b1
     try clear c11
     try clear c12
     try clear c13
     try clear c14
     try clear c24
     try clear c24b0
     try clear c24b1
     try clear c25
     try clear c25b0
     try clear c27
     try clear c27b0
     try clear c29
     try clear c29b0
     try clear c29b1
     try clear c30
     try clear c30b0
     try clear c30b1
     try clear c32
     try clear c33
     try clear c33b0
     try clear c33b1
     try clear c33b2
     try clear c34
     try clear c34b0
     try clear c34b1
     try clear c34b2
     try clear hcz20_0
     try clear hcz20_1
     try clear hcz20_2
     try clear hcz20_3
     try clear hcz20_4
     try clear hcz20_5
     try clear hcz26_0
     try clear hcz26_1
     try clear hcz26_2
     try clear hcz26_3
     try clear hcz26_4
     try clear hcz26_5
     try clear hcz28_0
     try clear hcz28_1
     try clear hcz28_2
     try clear hcz28_3
     try clear hcz28_4
     try clear hcz28_5
     try clear hcz36_0
     try clear hcz36_1
     try clear hcz36_2
     try clear hcz36_3
     try clear hcz36_4
     try clear hcz36_5
     try clear hcz40_0
     try clear hcz40_1
     try clear hcz40_2
     try clear hcz40_3
     try clear hcz40_4
     try clear hcz40_5
     try clear hcz43_0
     try clear hcz43_1
     try clear hcz43_2
     try clear hcz43_3
     try clear hcz43_4
     try clear hcz43_5
     try clear hcz45_0
     try clear hcz45_1
     try clear hcz45_2
     try clear hcz45_3
     try clear hcz45_4
     try clear hcz45_5
     try clear hcz47_0
     try clear hcz47_1
     try clear hcz47_2
     try clear hcz47_3
     try clear hcz47_4
     try clear hcz47_5
     try clear hcz48_0
     try clear hcz48_1
     try clear hcz48_2
     try clear hcz48_3
     try clear hcz48_4
     try clear hcz48_5
     try clear hfz20_0
     try clear hfz20_1
     try clear hfz20_2
     try clear hfz20_3
     try clear hfz20_4
     try clear hfz20_5
     try clear hfz26_0
     try clear hfz26_1
     try clear hfz26_2
     try clear hfz26_3
     try clear hfz26_4
     try clear hfz26_5
     try clear hfz28_0
     try clear hfz28_1
     try clear hfz28_2
     try clear hfz28_3
     try clear hfz28_4
     try clear hfz28_5
     try clear hfz36_0
     try clear hfz36_1
     try clear hfz36_2
     try clear hfz36_3
     try clear hfz36_4
     try clear hfz36_5
     try clear hfz40_0
     try clear hfz40_1
     try clear hfz40_2
     try clear hfz40_3
     try clear hfz40_4
     try clear hfz40_5
     try clear hfz43_0
     try clear hfz43_1
     try clear hfz43_2
     try clear hfz43_3
     try clear hfz43_4
     try clear hfz43_5
     try clear hfz45_0
     try clear hfz45_1
     try clear hfz45_2
     try clear hfz45_3
     try clear hfz45_4
     try clear hfz45_5
     try clear hfz47_0
     try clear hfz47_1
     try clear hfz47_2
     try clear hfz47_3
     try clear hfz47_4
     try clear hfz47_5
     try clear hfz48_0
     try clear hfz48_1
     try clear hfz48_2
     try clear hfz48_3
     try clear hfz48_4
     try clear hfz48_5
     obtain ⟨kq, x116_12, rfl, HA, HJ12, HO_0, HO_7, HO_13, BK331, HB⟩ := hcut
     cases kq with
     | zero => exact absurd HA.out (by simp [tarrylaw08_StockBack.j0])
     | succ kj12 =>
      have H := HA.out
      clear HA
      simp only [tarrylaw08_StockBack.j0] at H
      by_cases c49 : x116_12 = true
      ·subst c49
       have H1 : (some false) = some r := by rw [if_pos rfl] at H; exact H
       clear H
       have H := H1
       clear H1
       obtain rfl := Option.some.inj H
       go_wp2
       go_ret
       exact ⟨by first | rfl | (simp [errW_none, errW_some] <;> rfl) | (simp only [← hji5]; first | rfl | (simp [errW_none, errW_some] <;> rfl)) | (simp [*, errW_none, errW_some] <;> rfl), by repeat (first | (with_reducible first | exact HB.out | apply below_alloc | apply pw_below_drewN | apply below_drew1 | refine below_set ?_ GE331.out) | exact HB.out)⟩
      ·replace c49 := Bool.eq_false_iff.mpr c49
       subst c49
       have H1 : (tarrylaw08_StockBack.l0 kj12 (a1.extract 0 ((ji5) : Int).toNat) t320 t337 t317 (t317.length : Int) 0) = some r := by rw [if_neg (show ¬ (false = true) by decide)] at H; exact H
       clear H
       have H := H1
       clear H1
       have H' := Aside0.mk H
       clear H
       go_wp2
       go_loopg [119] kj12 (fun kq v119 w' => ∃ (x119_2 : Int), v119 = .int .i64 x119_2 ∧ Aside0 (tarrylaw08_StockBack.l0 kq (a1.extract 0 ((ji5) : Int).toNat) t320 t337 t317 (t317.length : Int) x119_2 = some r) ∧ Aside0 (kq ≤ kj12) ∧ Aside0 (Kd.R k33 33 w' w.heap.size (fun k_ => some k_ ≠ (v339 : Value).ownBlock ∧ some k_ ≠ ((.slice Ao16 t317.length co16) : Value).ownBlock ∧ k_ ≠ gb331) (.slice Ao21 t320.length co21) t320) ∧ Aside0 (Kd.R k33 33 w' w.heap.size (fun k_ => some k_ ≠ ((.slice Ao21 t320.length co21) : Value).ownBlock ∧ some k_ ≠ ((.slice Ao16 t317.length co16) : Value).ownBlock ∧ k_ ≠ gb331) v339 t337) ∧ Aside0 (Kd.R k33 33 w' w.heap.size (fun k_ => some k_ ≠ ((.slice Ao21 t320.length co21) : Value).ownBlock ∧ some k_ ≠ (v339 : Value).ownBlock ∧ k_ ≠ gb331) (.slice Ao16 t317.length co16) t317) ∧ Aside0 (w'.heap[gb331]? = some (.cells #[.string t324, .int .i64 t325, .int .i64 t326, .int .i64 t327, .int .i64 t328, .int .i64 t329] 33 (0, 0))) ∧ Aside0 (Below w.heap.size w w'))
       case atStart => exact ⟨(0), (by first | rfl | (simp; done) | (simp [*]; done)), H', ⟨Nat.le_refl _⟩, ⟨by (with_reducible repeat (first | apply Kd.R_alloc | apply Kd.R_drewN | apply Kd.R_drew)); exact Kd.R_mono HO_7.out (fun _ hk => ⟨hk.2.1, ⟨hk.1, hk.2.2⟩⟩)⟩, ⟨by (with_reducible repeat (first | apply Kd.R_alloc | apply Kd.R_drewN | apply Kd.R_drew)); exact Kd.R_mono HO_13.out (fun _ hk => ⟨hk.2.1, ⟨hk.1, hk.2.2⟩⟩)⟩, ⟨by (with_reducible repeat (first | apply Kd.R_alloc | apply Kd.R_drewN | apply Kd.R_drew)); exact HO_0.out⟩, ⟨by (with_reducible repeat (first | refine blk_drewN ?_ _ | refine blk_drew ?_ | refine blk_alloc ?_ _)); exact BK331.out⟩, ⟨by repeat (first | (with_reducible first | exact HB.out | apply below_alloc | apply pw_below_drewN | apply below_drew1 | refine below_set ?_ GE331.out) | exact HB.out)⟩⟩
       case round =>
        clear H'
        try clear c1
        try clear c2
        try clear p2
        try clear c3
        try clear c4
        try clear c6
        try clear c6b0
        try clear c6b1
        try clear c7
        try clear c7b0
        try clear c7b1
        try clear c10
        try clear c10b0
        try clear c10b1
        try clear c11
        try clear c12
        try clear c13
        try clear c14
        try clear c24
        try clear c24b0
        try clear c24b1
        try clear c25
        try clear c25b0
        try clear c27
        try clear c27b0
        try clear c29
        try clear c29b0
        try clear c29b1
        try clear c30
        try clear c30b0
        try clear c30b1
        try clear c32
        try clear c33
        try clear c33b0
        try clear c33b1
        try clear c33b2
        try clear c34
        try clear c34b0
        try clear c34b1
        try clear c34b2
        try clear c49
        try clear hcz20_0
        try clear hcz20_1
        try clear hcz20_2
        try clear hcz20_3
        try clear hcz20_4
        try clear hcz20_5
        try clear hcz26_0
        try clear hcz26_1
        try clear hcz26_2
        try clear hcz26_3
        try clear hcz26_4
        try clear hcz26_5
        try clear hcz28_0
        try clear hcz28_1
        try clear hcz28_2
        try clear hcz28_3
        try clear hcz28_4
        try clear hcz28_5
        try clear hcz36_0
        try clear hcz36_1
        try clear hcz36_2
        try clear hcz36_3
        try clear hcz36_4
        try clear hcz36_5
        try clear hcz40_0
        try clear hcz40_1
        try clear hcz40_2
        try clear hcz40_3
        try clear hcz40_4
        try clear hcz40_5
        try clear hcz43_0
        try clear hcz43_1
        try clear hcz43_2
        try clear hcz43_3
        try clear hcz43_4
        try clear hcz43_5
        try clear hcz45_0
        try clear hcz45_1
        try clear hcz45_2
        try clear hcz45_3
        try clear hcz45_4
        try clear hcz45_5
        try clear hcz47_0
        try clear hcz47_1
        try clear hcz47_2
        try clear hcz47_3
        try clear hcz47_4
        try clear hcz47_5
        try clear hcz48_0
        try clear hcz48_1
        try clear hcz48_2
        try clear hcz48_3
        try clear hcz48_4
        try clear hcz48_5
        try clear hfz20_0
        try clear hfz20_1
        try clear hfz20_2
        try clear hfz20_3
        try clear hfz20_4
        try clear hfz20_5
        try clear hfz26_0
        try clear hfz26_1
        try clear hfz26_2
        try clear hfz26_3
        try clear hfz26_4
        try clear hfz26_5
        try clear hfz28_0
        try clear hfz28_1
        try clear hfz28_2
        try clear hfz28_3
        try clear hfz28_4
        try clear hfz28_5
        try clear hfz36_0
        try clear hfz36_1
        try clear hfz36_2
        try clear hfz36_3
        try clear hfz36_4
        try clear hfz36_5
        try clear hfz40_0
        try clear hfz40_1
        try clear hfz40_2
        try clear hfz40_3
        try clear hfz40_4
        try clear hfz40_5
        try clear hfz43_0
        try clear hfz43_1
        try clear hfz43_2
        try clear hfz43_3
        try clear hfz43_4
        try clear hfz43_5
        try clear hfz45_0
        try clear hfz45_1
        try clear hfz45_2
        try clear hfz45_3
        try clear hfz45_4
        try clear hfz45_5
        try clear hfz47_0
        try clear hfz47_1
        try clear hfz47_2
        try clear hfz47_3
        try clear hfz47_4
        try clear hfz47_5
        try clear hfz48_0
        try clear hfz48_1
        try clear hfz48_2
        try clear hfz48_3
        try clear hfz48_4
        try clear hfz48_5
        try clear p2
        obtain ⟨x119_2, rfl, HA, HK2, HO_7, HO_13, HO_117, BK331, HB⟩ := hrel
        cases gk with
        | zero => exact absurd HA.out (by simp [tarrylaw08_StockBack.l0])
        | succ k2 =>
         have H := HA.out
         clear HA
         simp only [tarrylaw08_StockBack.l0] at H
         by_cases c50 : x119_2 < (t317.length : Int)
         ·rw [if_pos c50] at H
          have c50b0 : decide (x119_2 < (t317.length : Int)) = true := decide_eq_true c50
          clear c50
          by_cases c51 : 0 ≤ x119_2
          ·rw [if_pos c51] at H
           have c51b0 : decide (0 ≤ x119_2) = true := decide_eq_true c51
           clear c51
           by_cases c52 : x119_2 < (t317.length : Int)
           ·rw [if_pos c52] at H
            have c52b0 : decide (x119_2 < (t317.length : Int)) = true := decide_eq_true c52
            clear c52
            by_cases c53 : ((rd_T33 t317 x119_2).f0).toList = (a1.extract 0 ((ji5) : Int).toNat).toList
            ·rw [if_pos c53] at H
             have c53b0 : (((rd_T33 t317 x119_2).f0).toList == (a1.extract 0 ((ji5) : Int).toNat).toList) = true := beq_iff_eq.mpr c53
             have c53b1 : (((rd_T33 t317 x119_2).f0).toList != (a1.extract 0 ((ji5) : Int).toNat).toList) = false := bne_eq_false_iff_eq.mpr c53
             clear c53
             have H' := Aside0.mk H
             clear H
             have p343 : 0 ≤ (x119_2 : Int) := of_decide_eq_true (by first | (with_reducible assumption) | assumption)
             have q343 : x119_2 < (t317.length : Int) := of_decide_eq_true (by first | (with_reducible assumption) | assumption)
             obtain ⟨ad343, e343, hx343_0, hx343_1, hx343_2, hx343_3, hx343_4, hx343_5⟩ := at_T33 (Kd.R_reads' HO_117.out).2.2 x119_2 p343 q343
             cases e343
             replace p343 := eq_true p343
             replace q343 := eq_true q343
             try go_wp2_with (first | ((with_reducible refine gate_dst (N := 16) rfl ?_); (try (refine gate_guard (by rfl) ?_; dsimp only)); refine box_event ?hg (N := 16) ?hd (cs := #[.string (⟨#[]⟩ : ByteArray), .int .i64 0, .int .i64 0, .int .i64 0, .int .i64 0, .int .i64 0]) (t := 33) ?hr ?_; (case hd => rfl); (case hg => rfl); (case hr => first | (go_simp; done) | (go_simp; rfl)); intro gb344 hg w54 hbox hb; have n0_ := Aside0.mk (Kd.R_below (Kd.R_elderB (by (with_reducible repeat (first | apply Kd.R_alloc | apply Kd.R_drewN | apply Kd.R_drew)); exact HO_7.out) gb344 (Nat.le_of_eq hg.symm)) hb); have n1_ := Aside0.mk (Kd.R_below (Kd.R_elderB (by (with_reducible repeat (first | apply Kd.R_alloc | apply Kd.R_drewN | apply Kd.R_drew)); exact HO_13.out) gb344 (Nat.le_of_eq hg.symm)) hb); have n2_ := Aside0.mk (Kd.R_below (Kd.R_elderB (by (with_reducible repeat (first | apply Kd.R_alloc | apply Kd.R_drewN | apply Kd.R_drew)); exact HO_117.out) gb344 (Nat.le_of_eq hg.symm)) hb); have n3_ := Aside0.mk (blk_below (g := gb331) (o := .cells #[.string t324, .int .i64 t325, .int .i64 t326, .int .i64 t327, .int .i64 t328, .int .i64 t329] 33 (0, 0)) (by (with_reducible repeat (first | refine blk_drewN ?_ _ | refine blk_drew ?_ | refine blk_alloc ?_ _)); exact BK331.out) hb); have n4_ := Aside0.mk (below_step (by repeat (first | (with_reducible first | exact HB.out | apply below_alloc | apply pw_below_drewN | apply below_drew1 | refine below_set ?_ GE331.out) | exact HB.out)) hb); have n5_ := Aside0.mk (hbox); have n6_ := Aside0.mk ((by rw [hg]; exact (below_size (by repeat (first | (with_reducible first | exact HB.out | apply below_alloc | apply pw_below_drewN | apply below_drew1 | refine below_set ?_ GE331.out) | exact HB.out))) : w.heap.size ≤ gb344)); have n7_ := Aside0.mk ((by rw [hg]; exact (below_size (by repeat (first | (with_reducible first | exact HB.out | apply below_alloc | apply pw_below_drewN | apply below_drew1 | refine below_set ?_ GE331.out) | exact HB.out))) : w.heap.size ≤ gb344)); have n8_ := Aside0.mk ((by rw [hg]; exact Nat.ne_of_lt (blk_lt (g := gb331) (o := .cells #[.string t324, .int .i64 t325, .int .i64 t326, .int .i64 t327, .int .i64 t328, .int .i64 t329] 33 (0, 0)) (by (with_reducible repeat (first | refine blk_drewN ?_ _ | refine blk_drew ?_ | refine blk_alloc ?_ _)); exact BK331.out)) : gb331 ≠ gb344)); have n9_ := Aside0.mk ((by rw [hg]; exact Nat.ne_of_gt (blk_lt (g := gb331) (o := .cells #[.string t324, .int .i64 t325, .int .i64 t326, .int .i64 t327, .int .i64 t328, .int .i64 t329] 33 (0, 0)) (by (with_reducible repeat (first | refine blk_drewN ?_ _ | refine blk_drew ?_ | refine blk_alloc ?_ _)); exact BK331.out)) : gb344 ≠ gb331)); clear HO_7; clear HO_13; clear HO_117; clear BK331; clear HB; have HO_7 := n0_; have HO_13 := n1_; have HO_117 := n2_; have BK331 := n3_; have HB := n4_; have BK344 := n5_; have GW344 := n6_; have GE344 := n7_; have NB331_344 := n8_; have NB344_331 := n9_; clear n0_ n1_ n2_ n3_ n4_ n5_ n6_ n7_ n8_ n9_; clear hb hbox hg; have hnb55 := NB344_331.out; have hnc55 := NB331_344.out; have hcz56_0 : w54.cell? ⟨gb344, 0, none⟩ = some (.string (⟨#[]⟩ : ByteArray)) := (blk_cell BK344.out 0).trans rfl; have hcz56_1 : w54.cell? ⟨gb344, 1, none⟩ = some (.int .i64 0) := (blk_cell BK344.out 1).trans rfl; have hcz56_2 : w54.cell? ⟨gb344, 2, none⟩ = some (.int .i64 0) := (blk_cell BK344.out 2).trans rfl; have hcz56_3 : w54.cell? ⟨gb344, 3, none⟩ = some (.int .i64 0) := (blk_cell BK344.out 3).trans rfl; have hcz56_4 : w54.cell? ⟨gb344, 4, none⟩ = some (.int .i64 0) := (blk_cell BK344.out 4).trans rfl; have hcz56_5 : w54.cell? ⟨gb344, 5, none⟩ = some (.int .i64 0) := (blk_cell BK344.out 5).trans rfl; have hfz56_0 := blk_frozen BK344.out 0; have hfz56_1 := blk_frozen BK344.out 1; have hfz56_2 := blk_frozen BK344.out 2; have hfz56_3 := blk_frozen BK344.out 3; have hfz56_4 := blk_frozen BK344.out 4; have hfz56_5 := blk_frozen BK344.out 5))
             have n0_ : Aside0 (Kd.R k33 33 ((((((w54.setCell ⟨gb344, 0, none⟩ (.string ((rd_T33 t317 x119_2).f0))).setCell ⟨gb344, 1, none⟩ (.int .i64 ((rd_T33 t317 x119_2).f1))).setCell ⟨gb344, 2, none⟩ (.int .i64 ((rd_T33 t317 x119_2).f2))).setCell ⟨gb344, 3, none⟩ (.int .i64 ((rd_T33 t317 x119_2).f3))).setCell ⟨gb344, 4, none⟩ (.int .i64 ((rd_T33 t317 x119_2).f4))).setCell ⟨gb344, 5, none⟩ (.int .i64 ((rd_T33 t317 x119_2).f5))) w.heap.size (fun k_ => some k_ ≠ (v339 : Value).ownBlock ∧ some k_ ≠ (.slice (some ad343) t317.length co16 : Value).ownBlock ∧ k_ ≠ gb331 ∧ k_ ≠ gb344) (.slice Ao21 t320.length co21) t320) := ⟨by (with_reducible repeat (first | apply Kd.R_alloc | apply Kd.R_drewN | apply Kd.R_drew)); exact Kd.R_mono (Kd.R_far (p := ⟨gb344, 5, none⟩) (Kd.R_far (p := ⟨gb344, 4, none⟩) (Kd.R_far (p := ⟨gb344, 3, none⟩) (Kd.R_far (p := ⟨gb344, 2, none⟩) (Kd.R_far (p := ⟨gb344, 1, none⟩) (Kd.R_far (p := ⟨gb344, 0, none⟩) (Kd.R_mono HO_7.out (fun k_ hk => (⟨hk, hk.2⟩ : _ ∧ k_ ≠ gb344))) (fun _ hk => hk.2) (.string ((rd_T33 t317 x119_2).f0))) (fun _ hk => hk.2) (.int .i64 ((rd_T33 t317 x119_2).f1))) (fun _ hk => hk.2) (.int .i64 ((rd_T33 t317 x119_2).f2))) (fun _ hk => hk.2) (.int .i64 ((rd_T33 t317 x119_2).f3))) (fun _ hk => hk.2) (.int .i64 ((rd_T33 t317 x119_2).f4))) (fun _ hk => hk.2) (.int .i64 ((rd_T33 t317 x119_2).f5))) (fun _ hk => ⟨hk.1.1.1, ⟨hk.1.1.2.1, ⟨hk.1.1.2.2, hk.1.2⟩⟩⟩)⟩
             have n1_ : Aside0 (Kd.R k33 33 ((((((w54.setCell ⟨gb344, 0, none⟩ (.string ((rd_T33 t317 x119_2).f0))).setCell ⟨gb344, 1, none⟩ (.int .i64 ((rd_T33 t317 x119_2).f1))).setCell ⟨gb344, 2, none⟩ (.int .i64 ((rd_T33 t317 x119_2).f2))).setCell ⟨gb344, 3, none⟩ (.int .i64 ((rd_T33 t317 x119_2).f3))).setCell ⟨gb344, 4, none⟩ (.int .i64 ((rd_T33 t317 x119_2).f4))).setCell ⟨gb344, 5, none⟩ (.int .i64 ((rd_T33 t317 x119_2).f5))) w.heap.size (fun k_ => some k_ ≠ (.slice Ao21 t320.length co21 : Value).ownBlock ∧ some k_ ≠ (.slice (some ad343) t317.length co16 : Value).ownBlock ∧ k_ ≠ gb331 ∧ k_ ≠ gb344) v339 t337) := ⟨by (with_reducible repeat (first | apply Kd.R_alloc | apply Kd.R_drewN | apply Kd.R_drew)); exact Kd.R_mono (Kd.R_far (p := ⟨gb344, 5, none⟩) (Kd.R_far (p := ⟨gb344, 4, none⟩) (Kd.R_far (p := ⟨gb344, 3, none⟩) (Kd.R_far (p := ⟨gb344, 2, none⟩) (Kd.R_far (p := ⟨gb344, 1, none⟩) (Kd.R_far (p := ⟨gb344, 0, none⟩) (Kd.R_mono HO_13.out (fun k_ hk => (⟨hk, hk.2⟩ : _ ∧ k_ ≠ gb344))) (fun _ hk => hk.2) (.string ((rd_T33 t317 x119_2).f0))) (fun _ hk => hk.2) (.int .i64 ((rd_T33 t317 x119_2).f1))) (fun _ hk => hk.2) (.int .i64 ((rd_T33 t317 x119_2).f2))) (fun _ hk => hk.2) (.int .i64 ((rd_T33 t317 x119_2).f3))) (fun _ hk => hk.2) (.int .i64 ((rd_T33 t317 x119_2).f4))) (fun _ hk => hk.2) (.int .i64 ((rd_T33 t317 x119_2).f5))) (fun _ hk => ⟨hk.1.1.1, ⟨hk.1.1.2.1, ⟨hk.1.1.2.2, hk.1.2⟩⟩⟩)⟩
             have n2_ : Aside0 (Kd.R k33 33 ((((((w54.setCell ⟨gb344, 0, none⟩ (.string ((rd_T33 t317 x119_2).f0))).setCell ⟨gb344, 1, none⟩ (.int .i64 ((rd_T33 t317 x119_2).f1))).setCell ⟨gb344, 2, none⟩ (.int .i64 ((rd_T33 t317 x119_2).f2))).setCell ⟨gb344, 3, none⟩ (.int .i64 ((rd_T33 t317 x119_2).f3))).setCell ⟨gb344, 4, none⟩ (.int .i64 ((rd_T33 t317 x119_2).f4))).setCell ⟨gb344, 5, none⟩ (.int .i64 ((rd_T33 t317 x119_2).f5))) w.heap.size (fun k_ => some k_ ≠ (.slice Ao21 t320.length co21 : Value).ownBlock ∧ some k_ ≠ (v339 : Value).ownBlock ∧ k_ ≠ gb331 ∧ k_ ≠ gb344) (.slice (some ad343) t317.length co16) t317) := ⟨by (with_reducible repeat (first | apply Kd.R_alloc | apply Kd.R_drewN | apply Kd.R_drew)); exact Kd.R_mono (Kd.R_far (p := ⟨gb344, 5, none⟩) (Kd.R_far (p := ⟨gb344, 4, none⟩) (Kd.R_far (p := ⟨gb344, 3, none⟩) (Kd.R_far (p := ⟨gb344, 2, none⟩) (Kd.R_far (p := ⟨gb344, 1, none⟩) (Kd.R_far (p := ⟨gb344, 0, none⟩) (Kd.R_mono HO_117.out (fun k_ hk => (⟨hk, hk.2⟩ : _ ∧ k_ ≠ gb344))) (fun _ hk => hk.2) (.string ((rd_T33 t317 x119_2).f0))) (fun _ hk => hk.2) (.int .i64 ((rd_T33 t317 x119_2).f1))) (fun _ hk => hk.2) (.int .i64 ((rd_T33 t317 x119_2).f2))) (fun _ hk => hk.2) (.int .i64 ((rd_T33 t317 x119_2).f3))) (fun _ hk => hk.2) (.int .i64 ((rd_T33 t317 x119_2).f4))) (fun _ hk => hk.2) (.int .i64 ((rd_T33 t317 x119_2).f5))) (fun _ hk => ⟨hk.1.1.1, ⟨hk.1.1.2.1, ⟨hk.1.1.2.2, hk.1.2⟩⟩⟩)⟩
             have n3_ : Aside0 (((((((w54.setCell ⟨gb344, 0, none⟩ (.string ((rd_T33 t317 x119_2).f0))).setCell ⟨gb344, 1, none⟩ (.int .i64 ((rd_T33 t317 x119_2).f1))).setCell ⟨gb344, 2, none⟩ (.int .i64 ((rd_T33 t317 x119_2).f2))).setCell ⟨gb344, 3, none⟩ (.int .i64 ((rd_T33 t317 x119_2).f3))).setCell ⟨gb344, 4, none⟩ (.int .i64 ((rd_T33 t317 x119_2).f4))).setCell ⟨gb344, 5, none⟩ (.int .i64 ((rd_T33 t317 x119_2).f5))).heap[gb331]? = some (.cells #[.string t324, .int .i64 t325, .int .i64 t326, .int .i64 t327, .int .i64 t328, .int .i64 t329] 33 (0, 0))) := ⟨by (with_reducible repeat (first | refine blk_drewN ?_ _ | refine blk_drew ?_ | refine blk_alloc ?_ _)); refine blk_far ?_ NB331_344.out _; (with_reducible repeat (first | refine blk_drewN ?_ _ | refine blk_drew ?_ | refine blk_alloc ?_ _)); refine blk_far ?_ NB331_344.out _; (with_reducible repeat (first | refine blk_drewN ?_ _ | refine blk_drew ?_ | refine blk_alloc ?_ _)); refine blk_far ?_ NB331_344.out _; (with_reducible repeat (first | refine blk_drewN ?_ _ | refine blk_drew ?_ | refine blk_alloc ?_ _)); refine blk_far ?_ NB331_344.out _; (with_reducible repeat (first | refine blk_drewN ?_ _ | refine blk_drew ?_ | refine blk_alloc ?_ _)); refine blk_far ?_ NB331_344.out _; (with_reducible repeat (first | refine blk_drewN ?_ _ | refine blk_drew ?_ | refine blk_alloc ?_ _)); refine blk_far ?_ NB331_344.out _; (with_reducible repeat (first | refine blk_drewN ?_ _ | refine blk_drew ?_ | refine blk_alloc ?_ _)); exact BK331.out⟩
             have n4_ : Aside0 (((((((w54.setCell ⟨gb344, 0, none⟩ (.string ((rd_T33 t317 x119_2).f0))).setCell ⟨gb344, 1, none⟩ (.int .i64 ((rd_T33 t317 x119_2).f1))).setCell ⟨gb344, 2, none⟩ (.int .i64 ((rd_T33 t317 x119_2).f2))).setCell ⟨gb344, 3, none⟩ (.int .i64 ((rd_T33 t317 x119_2).f3))).setCell ⟨gb344, 4, none⟩ (.int .i64 ((rd_T33 t317 x119_2).f4))).setCell ⟨gb344, 5, none⟩ (.int .i64 ((rd_T33 t317 x119_2).f5))).heap[gb344]? = some (.cells #[.string ((rd_T33 t317 x119_2).f0), .int .i64 ((rd_T33 t317 x119_2).f1), .int .i64 ((rd_T33 t317 x119_2).f2), .int .i64 ((rd_T33 t317 x119_2).f3), .int .i64 ((rd_T33 t317 x119_2).f4), .int .i64 ((rd_T33 t317 x119_2).f5)] 33 (0, 0))) := ⟨by (with_reducible repeat (first | refine blk_drewN ?_ _ | refine blk_drew ?_ | refine blk_alloc ?_ _)); refine blk_put (cs := #[.string ((rd_T33 t317 x119_2).f0), .int .i64 ((rd_T33 t317 x119_2).f1), .int .i64 ((rd_T33 t317 x119_2).f2), .int .i64 ((rd_T33 t317 x119_2).f3), .int .i64 ((rd_T33 t317 x119_2).f4), .int .i64 0]) ?_ 5 _ rfl; (with_reducible repeat (first | refine blk_drewN ?_ _ | refine blk_drew ?_ | refine blk_alloc ?_ _)); refine blk_put (cs := #[.string ((rd_T33 t317 x119_2).f0), .int .i64 ((rd_T33 t317 x119_2).f1), .int .i64 ((rd_T33 t317 x119_2).f2), .int .i64 ((rd_T33 t317 x119_2).f3), .int .i64 0, .int .i64 0]) ?_ 4 _ rfl; (with_reducible repeat (first | refine blk_drewN ?_ _ | refine blk_drew ?_ | refine blk_alloc ?_ _)); refine blk_put (cs := #[.string ((rd_T33 t317 x119_2).f0), .int .i64 ((rd_T33 t317 x119_2).f1), .int .i64 ((rd_T33 t317 x119_2).f2), .int .i64 0, .int .i64 0, .int .i64 0]) ?_ 3 _ rfl; (with_reducible repeat (first | refine blk_drewN ?_ _ | refine blk_drew ?_ | refine blk_alloc ?_ _)); refine blk_put (cs := #[.string ((rd_T33 t317 x119_2).f0), .int .i64 ((rd_T33 t317 x119_2).f1), .int .i64 0, .int .i64 0, .int .i64 0, .int .i64 0]) ?_ 2 _ rfl; (with_reducible repeat (first | refine blk_drewN ?_ _ | refine blk_drew ?_ | refine blk_alloc ?_ _)); refine blk_put (cs := #[.string ((rd_T33 t317 x119_2).f0), .int .i64 0, .int .i64 0, .int .i64 0, .int .i64 0, .int .i64 0]) ?_ 1 _ rfl; (with_reducible repeat (first | refine blk_drewN ?_ _ | refine blk_drew ?_ | refine blk_alloc ?_ _)); refine blk_put (cs := #[.string (⟨#[]⟩ : ByteArray), .int .i64 0, .int .i64 0, .int .i64 0, .int .i64 0, .int .i64 0]) ?_ 0 _ rfl; (with_reducible repeat (first | refine blk_drewN ?_ _ | refine blk_drew ?_ | refine blk_alloc ?_ _)); exact BK344.out⟩
             have n5_ : Aside0 (Below w.heap.size w ((((((w54.setCell ⟨gb344, 0, none⟩ (.string ((rd_T33 t317 x119_2).f0))).setCell ⟨gb344, 1, none⟩ (.int .i64 ((rd_T33 t317 x119_2).f1))).setCell ⟨gb344, 2, none⟩ (.int .i64 ((rd_T33 t317 x119_2).f2))).setCell ⟨gb344, 3, none⟩ (.int .i64 ((rd_T33 t317 x119_2).f3))).setCell ⟨gb344, 4, none⟩ (.int .i64 ((rd_T33 t317 x119_2).f4))).setCell ⟨gb344, 5, none⟩ (.int .i64 ((rd_T33 t317 x119_2).f5)))) := ⟨by repeat (first | (with_reducible first | exact HB.out | apply below_alloc | apply pw_below_drewN | apply below_drew1 | refine below_set ?_ GE331.out | refine below_set ?_ GE344.out) | exact HB.out)⟩
             (try clear HO_7)
             (try clear HO_13)
             (try clear HO_117)
             (try clear BK331)
             (try clear BK344)
             (try clear HB)
             generalize ((((((w54.setCell ⟨gb344, 0, none⟩ (.string ((rd_T33 t317 x119_2).f0))).setCell ⟨gb344, 1, none⟩ (.int .i64 ((rd_T33 t317 x119_2).f1))).setCell ⟨gb344, 2, none⟩ (.int .i64 ((rd_T33 t317 x119_2).f2))).setCell ⟨gb344, 3, none⟩ (.int .i64 ((rd_T33 t317 x119_2).f3))).setCell ⟨gb344, 4, none⟩ (.int .i64 ((rd_T33 t317 x119_2).f4))).setCell ⟨gb344, 5, none⟩ (.int .i64 ((rd_T33 t317 x119_2).f5))) = w57 at n0_ n1_ n2_ n3_ n4_ n5_ ⊢
             have HO_7 := n0_
             have HO_13 := n1_
             have HO_117 := n2_
             have BK331 := n3_
             have BK344 := n4_
             have HB := n5_
             clear n0_ n1_ n2_ n3_ n4_ n5_
             have n0_ := Aside0.mk (Kd.R_drew HO_7.out)
             have n1_ := Aside0.mk (Kd.R_drew HO_13.out)
             have n2_ := Aside0.mk (Kd.R_drew HO_117.out)
             have n3_ := Aside0.mk (blk_drew BK331.out)
             have n4_ := Aside0.mk (blk_drew BK344.out)
             have n5_ := Aside0.mk (below_drew1 HB.out)
             clear HO_7
             clear HO_13
             clear HO_117
             clear BK331
             clear BK344
             clear HB
             have HO_7 := n0_
             have HO_13 := n1_
             have HO_117 := n2_
             have BK331 := n3_
             have BK344 := n4_
             have HB := n5_
             clear n0_ n1_ n2_ n3_ n4_ n5_
             refine start_ (n := 20) (S := fun w' => w'.cell? ⟨gb344, 0, none⟩ = some (.string ((rd_T33 t317 x119_2).f0)) ∧ w'.cell? ⟨gb344, 1, none⟩ = some (.int .i64 ((rd_T33 t317 x119_2).f1)) ∧ w'.cell? ⟨gb344, 2, none⟩ = some (.int .i64 ((rd_T33 t317 x119_2).f2)) ∧ w'.cell? ⟨gb344, 3, none⟩ = some (.int .i64 ((rd_T33 t317 x119_2).f3)) ∧ w'.cell? ⟨gb344, 4, none⟩ = some (.int .i64 ((rd_T33 t317 x119_2).f4)) ∧ w'.cell? ⟨gb344, 5, none⟩ = some (.int .i64 ((rd_T33 t317 x119_2).f5))) (ds := []) #[false, false, false, false, false, false, false, false, false, false, false, false, false, false, false, false, false, false, false, false] (by kernel_rfl) rfl rfl ⟨(blk_cell BK344.out 0).trans rfl, (blk_cell BK344.out 1).trans rfl, (blk_cell BK344.out 2).trans rfl, (blk_cell BK344.out 3).trans rfl, (blk_cell BK344.out 4).trans rfl, (blk_cell BK344.out 5).trans rfl⟩ (fun hHeld => ?_); refine with_tabW tarrylaw08_StockBack.tab13 tarrylaw08_StockBack.bits13 (fun HT_ HW_ => ?_)
             generalize w57.drew = w58 at HO_7 HO_13 HO_117 BK331 BK344 HB hHeld ⊢
             refine pure_ (i := 0) (N := some 124) (v := ?_) (a' := ?_) #[true, false, false, false, false, false, false, false, false, false, false, false, false, false, false, false, false, false, false, false] rfl rfl (any_of HT_.out (by kernel_rfl)) (fun _ _ _ h => h) (Or.inl ⟨by rfl, ?_⟩) ?_ ?_
             rotate_left
             ·intro w'
              go_simp
              with_reducible rfl
             rotate_left
             ·simp only [Act.put, List.setIfInBounds_toArray, List.set_cons_zero, List.set_cons_succ, i64_w, i32_w]
              rfl
             refine pure_ (i := 2) (N := some 126) (v := ?_) (a' := ?_) #[true, false, true, false, false, false, false, false, false, false, false, false, false, false, false, false, false, false, false, false] rfl rfl (any_of HT_.out (by kernel_rfl)) (fun _ _ _ h => h) (Or.inl ⟨by rfl, ?_⟩) ?_ ?_
             rotate_left
             ·intro w'
              go_simp
              with_reducible rfl
             rotate_left
             ·simp only [Act.put, List.setIfInBounds_toArray, List.set_cons_zero, List.set_cons_succ, i64_w, i32_w]
              rfl
             refine take_ (i := 1) (N := some 125) (v := ?_) (a' := ?_) #[true, true, true, false, false, false, false, false, false, false, false, false, false, false, false, false, false, false, false, false] rfl rfl (take_ofW HT_.out HW_.out (by kernel_rfl)) (fun _ _ _ h => h) (Or.inl ⟨by rfl, ?_⟩) hHeld ?_ ?_
             rotate_left
             ·rintro w' ⟨s0, s1, s2, s3, s4, s5⟩
              go_simp
              with_reducible rfl
             rotate_left
             ·simp only [Act.put, List.setIfInBounds_toArray, List.set_cons_zero, List.set_cons_succ, i64_w, i32_w]
              rfl
             refine pure_ (i := 3) (N := some 127) (v := ?_) (a' := ?_) #[true, true, true, true, false, false, false, false, false, false, false, false, false, false, false, false, false, false, false, false] rfl rfl (any_of HT_.out (by kernel_rfl)) (fun _ _ _ h => h) (Or.inl ⟨by rfl, ?_⟩) ?_ ?_
             rotate_left
             ·intro w'
              go_simp
              with_reducible rfl
             rotate_left
             ·simp only [Act.put, List.setIfInBounds_toArray, List.set_cons_zero, List.set_cons_succ, i64_w, i32_w]
              rfl
             refine pure_ (i := 4) (N := some 128) (v := ?_) (a' := ?_) #[true, true, true, true, true, false, false, false, false, false, false, false, false, false, false, false, false, false, false, false] rfl rfl (any_of HT_.out (by kernel_rfl)) (fun _ _ _ h => h) (Or.inl ⟨by rfl, ?_⟩) ?_ ?_
             rotate_left
             ·intro w'
              go_simp
              with_reducible rfl
             rotate_left
             ·simp only [Act.put, List.setIfInBounds_toArray, List.set_cons_zero, List.set_cons_succ, i64_w, i32_w]
              rfl
             refine pure_ (i := 5) (N := some 129) (v := undef) (a' := ?_) #[true, true, true, true, true, true, false, false, false, false, false, false, false, false, false, false, false, false, false, false] rfl rfl (any_of HT_.out (by kernel_rfl)) (fun _ _ _ h => h) (Or.inr ⟨by rfl, rfl⟩) ?_ ?_
             rotate_left
             ·simp only [Act.put, List.setIfInBounds_toArray, List.set_cons_zero, List.set_cons_succ, i64_w, i32_w]
              rfl
             refine pure_ (i := 6) (N := some 130) (v := undef) (a' := ?_) #[true, true, true, true, true, true, true, false, false, false, false, false, false, false, false, false, false, false, false, false] rfl rfl (any_of HT_.out (by kernel_rfl)) (fun _ _ _ h => h) (Or.inr ⟨by rfl, rfl⟩) ?_ ?_
             rotate_left
             ·simp only [Act.put, List.setIfInBounds_toArray, List.set_cons_zero, List.set_cons_succ, i64_w, i32_w]
              rfl
             refine pure_ (i := 7) (N := some 131) (v := undef) (a' := ?_) #[true, true, true, true, true, true, true, true, false, false, false, false, false, false, false, false, false, false, false, false] rfl rfl (any_of HT_.out (by kernel_rfl)) (fun _ _ _ h => h) (Or.inr ⟨by rfl, rfl⟩) ?_ ?_
             rotate_left
             ·simp only [Act.put, List.setIfInBounds_toArray, List.set_cons_zero, List.set_cons_succ, i64_w, i32_w]
              rfl
             refine pure_ (i := 8) (N := some 132) (v := undef) (a' := ?_) #[true, true, true, true, true, true, true, true, true, false, false, false, false, false, false, false, false, false, false, false] rfl rfl (any_of HT_.out (by kernel_rfl)) (fun _ _ _ h => h) (Or.inr ⟨by rfl, rfl⟩) ?_ ?_
             rotate_left
             ·simp only [Act.put, List.setIfInBounds_toArray, List.set_cons_zero, List.set_cons_succ, i64_w, i32_w]
              rfl
             refine pure_ (i := 9) (N := some 133) (v := undef) (a' := ?_) #[true, true, true, true, true, true, true, true, true, true, false, false, false, false, false, false, false, false, false, false] rfl rfl (any_of HT_.out (by kernel_rfl)) (fun _ _ _ h => h) (Or.inr ⟨by rfl, rfl⟩) ?_ ?_
             rotate_left
             ·simp only [Act.put, List.setIfInBounds_toArray, List.set_cons_zero, List.set_cons_succ, i64_w, i32_w]
              rfl
             refine pure_ (i := 10) (N := some 134) (v := undef) (a' := ?_) #[true, true, true, true, true, true, true, true, true, true, true, false, false, false, false, false, false, false, false, false] rfl rfl (any_of HT_.out (by kernel_rfl)) (fun _ _ _ h => h) (Or.inr ⟨by rfl, rfl⟩) ?_ ?_
             rotate_left
             ·simp only [Act.put, List.setIfInBounds_toArray, List.set_cons_zero, List.set_cons_succ, i64_w, i32_w]
              rfl
             refine pure_ (i := 11) (N := some 135) (v := undef) (a' := ?_) #[true, true, true, true, true, true, true, true, true, true, true, true, false, false, false, false, false, false, false, false] rfl rfl (any_of HT_.out (by kernel_rfl)) (fun _ _ _ h => h) (Or.inr ⟨by rfl, rfl⟩) ?_ ?_
             rotate_left
             ·simp only [Act.put, List.setIfInBounds_toArray, List.set_cons_zero, List.set_cons_succ, i64_w, i32_w]
              rfl
             refine pure_ (i := 12) (N := some 136) (v := undef) (a' := ?_) #[true, true, true, true, true, true, true, true, true, true, true, true, true, false, false, false, false, false, false, false] rfl rfl (any_of HT_.out (by kernel_rfl)) (fun _ _ _ h => h) (Or.inr ⟨by rfl, rfl⟩) ?_ ?_
             rotate_left
             ·simp only [Act.put, List.setIfInBounds_toArray, List.set_cons_zero, List.set_cons_succ, i64_w, i32_w]
              rfl
             refine pure_ (i := 13) (N := some 137) (v := undef) (a' := ?_) #[true, true, true, true, true, true, true, true, true, true, true, true, true, true, false, false, false, false, false, false] rfl rfl (any_of HT_.out (by kernel_rfl)) (fun _ _ _ h => h) (Or.inr ⟨by rfl, rfl⟩) ?_ ?_
             rotate_left
             ·simp only [Act.put, List.setIfInBounds_toArray, List.set_cons_zero, List.set_cons_succ, i64_w, i32_w]
              rfl
             refine pure_ (i := 14) (N := some 138) (v := undef) (a' := ?_) #[true, true, true, true, true, true, true, true, true, true, true, true, true, true, true, false, false, false, false, false] rfl rfl (any_of HT_.out (by kernel_rfl)) (fun _ _ _ h => h) (Or.inr ⟨by rfl, rfl⟩) ?_ ?_
             rotate_left
             ·simp only [Act.put, List.setIfInBounds_toArray, List.set_cons_zero, List.set_cons_succ, i64_w, i32_w]
              rfl
             refine pure_ (i := 15) (N := some 139) (v := undef) (a' := ?_) #[true, true, true, true, true, true, true, true, true, true, true, true, true, true, true, true, false, false, false, false] rfl rfl (any_of HT_.out (by kernel_rfl)) (fun _ _ _ h => h) (Or.inr ⟨by rfl, rfl⟩) ?_ ?_
             rotate_left
             ·simp only [Act.put, List.setIfInBounds_toArray, List.set_cons_zero, List.set_cons_succ, i64_w, i32_w]
              rfl
             refine pure_ (i := 16) (N := some 140) (v := undef) (a' := ?_) #[true, true, true, true, true, true, true, true, true, true, true, true, true, true, true, true, true, false, false, false] rfl rfl (any_of HT_.out (by kernel_rfl)) (fun _ _ _ h => h) (Or.inr ⟨by rfl, rfl⟩) ?_ ?_
             rotate_left
             ·simp only [Act.put, List.setIfInBounds_toArray, List.set_cons_zero, List.set_cons_succ, i64_w, i32_w]
              rfl
             refine pure_ (i := 17) (N := some 141) (v := undef) (a' := ?_) #[true, true, true, true, true, true, true, true, true, true, true, true, true, true, true, true, true, true, false, false] rfl rfl (any_of HT_.out (by kernel_rfl)) (fun _ _ _ h => h) (Or.inr ⟨by rfl, rfl⟩) ?_ ?_
             rotate_left
             ·simp only [Act.put, List.setIfInBounds_toArray, List.set_cons_zero, List.set_cons_succ, i64_w, i32_w]
              rfl
             refine pure_ (i := 18) (N := some 142) (v := undef) (a' := ?_) #[true, true, true, true, true, true, true, true, true, true, true, true, true, true, true, true, true, true, true, false] rfl rfl (any_of HT_.out (by kernel_rfl)) (fun _ _ _ h => h) (Or.inr ⟨by rfl, rfl⟩) ?_ ?_
             rotate_left
             ·simp only [Act.put, List.setIfInBounds_toArray, List.set_cons_zero, List.set_cons_succ, i64_w, i32_w]
              rfl
             refine pure_ (i := 19) (N := some 143) (v := ?_) (a' := ?_) #[true, true, true, true, true, true, true, true, true, true, true, true, true, true, true, true, true, true, true, true] rfl rfl (any_of HT_.out (by kernel_rfl)) (fun _ _ _ h => h) (Or.inl ⟨by rfl, ?_⟩) ?_ ?_
             rotate_left
             ·intro w'
              go_simp
              with_reducible rfl
             rotate_left
             ·simp only [Act.put, List.setIfInBounds_toArray, List.set_cons_zero, List.set_cons_succ, i64_w, i32_w]
              rfl
             refine done_ (done_of HT_.out (by kernel_rfl)) ?_
             try go_wp2
             go_roundg k2
             case measure => have := HJ12.out; have := HK2.out; omega
             case rel => exact ⟨(wrap64 (x119_2 + 1)), (by first | rfl | (simp; done) | (simp [*]; done)), H', ⟨by have := HJ12.out; have := HK2.out; omega⟩, ⟨by (with_reducible repeat (first | apply Kd.R_alloc | apply Kd.R_drewN | apply Kd.R_drew)); exact Kd.R_mono HO_7.out (fun _ hk => ⟨hk.1, ⟨hk.2.1, hk.2.2.1⟩⟩)⟩, ⟨by (with_reducible repeat (first | apply Kd.R_alloc | apply Kd.R_drewN | apply Kd.R_drew)); exact Kd.R_mono HO_13.out (fun _ hk => ⟨hk.1, ⟨hk.2.1, hk.2.2.1⟩⟩)⟩, ⟨by (with_reducible repeat (first | apply Kd.R_alloc | apply Kd.R_drewN | apply Kd.R_drew)); exact Kd.R_mono HO_117.out (fun _ hk => ⟨hk.1, ⟨hk.2.1, hk.2.2.1⟩⟩)⟩, ⟨by (with_reducible repeat (first | refine blk_drewN ?_ _ | refine blk_drew ?_ | refine blk_alloc ?_ _)); exact BK331.out⟩, ⟨by repeat (first | (with_reducible first | exact HB.out | apply below_alloc | apply pw_below_drewN | apply below_drew1 | refine below_set ?_ GE331.out | refine below_set ?_ GE344.out) | exact HB.out)⟩⟩
            ·rw [if_neg c53] at H
             have c53b0 : (((rd_T33 t317 x119_2).f0).toList == (a1.extract 0 ((ji5) : Int).toNat).toList) = false := beq_eq_false_iff_ne.mpr c53
             have c53b1 : (((rd_T33 t317 x119_2).f0).toList != (a1.extract 0 ((ji5) : Int).toNat).toList) = true := bne_iff_ne.mpr c53
             by_cases c59 : x119_2 < (t320.length : Int)
             ·rw [if_pos c59] at H
              have c59b0 : decide (x119_2 < (t320.length : Int)) = true := decide_eq_true c59
              clear c59
              by_cases c60 : (!((((rd_T33 t320 x119_2).f0).toList) == (((rd_T33 t317 x119_2).f0).toList)) || (!(((rd_T33 t320 x119_2).f1) == ((rd_T33 t317 x119_2).f1)) || (!(((rd_T33 t320 x119_2).f2) == ((rd_T33 t317 x119_2).f2)) || (!(((rd_T33 t320 x119_2).f3) == ((rd_T33 t317 x119_2).f3)) || (!(((rd_T33 t320 x119_2).f4) == ((rd_T33 t317 x119_2).f4)) || (!(((rd_T33 t320 x119_2).f5) == ((rd_T33 t317 x119_2).f5)))))))) = true
              ·rw [if_pos c60] at H
               have c60b0 : (!((((rd_T33 t320 x119_2).f0).toList) == (((rd_T33 t317 x119_2).f0).toList)) || (!(((rd_T33 t320 x119_2).f1) == ((rd_T33 t317 x119_2).f1)) || (!(((rd_T33 t320 x119_2).f2) == ((rd_T33 t317 x119_2).f2)) || (!(((rd_T33 t320 x119_2).f3) == ((rd_T33 t317 x119_2).f3)) || (!(((rd_T33 t320 x119_2).f4) == ((rd_T33 t317 x119_2).f4)) || (!(((rd_T33 t320 x119_2).f5) == ((rd_T33 t317 x119_2).f5)))))))) = true := c60
               clear c60
               obtain rfl := Option.some.inj H
               have p343 : 0 ≤ (x119_2 : Int) := of_decide_eq_true (by first | (with_reducible assumption) | assumption)
               have q343 : x119_2 < (t317.length : Int) := of_decide_eq_true (by first | (with_reducible assumption) | assumption)
               obtain ⟨ad343, e343, hx343_0, hx343_1, hx343_2, hx343_3, hx343_4, hx343_5⟩ := at_T33 (Kd.R_reads' HO_117.out).2.2 x119_2 p343 q343
               cases e343
               replace p343 := eq_true p343
               replace q343 := eq_true q343
               try go_wp2_with (first | ((with_reducible refine gate_dst (N := 16) rfl ?_); (try (refine gate_guard (by rfl) ?_; dsimp only)); refine box_event ?hg (N := 16) ?hd (cs := #[.string (⟨#[]⟩ : ByteArray), .int .i64 0, .int .i64 0, .int .i64 0, .int .i64 0, .int .i64 0]) (t := 33) ?hr ?_; (case hd => rfl); (case hg => rfl); (case hr => first | (go_simp; done) | (go_simp; rfl)); intro gb344 hg w61 hbox hb; have n0_ := Aside0.mk (Kd.R_below (Kd.R_elderB (by (with_reducible repeat (first | apply Kd.R_alloc | apply Kd.R_drewN | apply Kd.R_drew)); exact HO_7.out) gb344 (Nat.le_of_eq hg.symm)) hb); have n1_ := Aside0.mk (Kd.R_below (Kd.R_elderB (by (with_reducible repeat (first | apply Kd.R_alloc | apply Kd.R_drewN | apply Kd.R_drew)); exact HO_13.out) gb344 (Nat.le_of_eq hg.symm)) hb); have n2_ := Aside0.mk (Kd.R_below (Kd.R_elderB (by (with_reducible repeat (first | apply Kd.R_alloc | apply Kd.R_drewN | apply Kd.R_drew)); exact HO_117.out) gb344 (Nat.le_of_eq hg.symm)) hb); have n3_ := Aside0.mk (blk_below (g := gb331) (o := .cells #[.string t324, .int .i64 t325, .int .i64 t326, .int .i64 t327, .int .i64 t328, .int .i64 t329] 33 (0, 0)) (by (with_reducible repeat (first | refine blk_drewN ?_ _ | refine blk_drew ?_ | refine blk_alloc ?_ _)); exact BK331.out) hb); have n4_ := Aside0.mk (below_step (by repeat (first | (with_reducible first | exact HB.out | apply below_alloc | apply pw_below_drewN | apply below_drew1 | refine below_set ?_ GE331.out) | exact HB.out)) hb); have n5_ := Aside0.mk (hbox); have n6_ := Aside0.mk ((by rw [hg]; exact (below_size (by repeat (first | (with_reducible first | exact HB.out | apply below_alloc | apply pw_below_drewN | apply below_drew1 | refine below_set ?_ GE331.out) | exact HB.out))) : w.heap.size ≤ gb344)); have n7_ := Aside0.mk ((by rw [hg]; exact (below_size (by repeat (first | (with_reducible first | exact HB.out | apply below_alloc | apply pw_below_drewN | apply below_drew1 | refine below_set ?_ GE331.out) | exact HB.out))) : w.heap.size ≤ gb344)); have n8_ := Aside0.mk ((by rw [hg]; exact Nat.ne_of_lt (blk_lt (g := gb331) (o := .cells #[.string t324, .int .i64 t325, .int .i64 t326, .int .i64 t327, .int .i64 t328, .int .i64 t329] 33 (0, 0)) (by (with_reducible repeat (first | refine blk_drewN ?_ _ | refine blk_drew ?_ | refine blk_alloc ?_ _)); exact BK331.out)) : gb331 ≠ gb344)); have n9_ := Aside0.mk ((by rw [hg]; exact Nat.ne_of_gt (blk_lt (g := gb331) (o := .cells #[.string t324, .int .i64 t325, .int .i64 t326, .int .i64 t327, .int .i64 t328, .int .i64 t329] 33 (0, 0)) (by (with_reducible repeat (first | refine blk_drewN ?_ _ | refine blk_drew ?_ | refine blk_alloc ?_ _)); exact BK331.out)) : gb344 ≠ gb331)); clear HO_7; clear HO_13; clear HO_117; clear BK331; clear HB; have HO_7 := n0_; have HO_13 := n1_; have HO_117 := n2_; have BK331 := n3_; have HB := n4_; have BK344 := n5_; have GW344 := n6_; have GE344 := n7_; have NB331_344 := n8_; have NB344_331 := n9_; clear n0_ n1_ n2_ n3_ n4_ n5_ n6_ n7_ n8_ n9_; clear hb hbox hg; have hnb62 := NB344_331.out; have hnc62 := NB331_344.out; have hcz63_0 : w61.cell? ⟨gb344, 0, none⟩ = some (.string (⟨#[]⟩ : ByteArray)) := (blk_cell BK344.out 0).trans rfl; have hcz63_1 : w61.cell? ⟨gb344, 1, none⟩ = some (.int .i64 0) := (blk_cell BK344.out 1).trans rfl; have hcz63_2 : w61.cell? ⟨gb344, 2, none⟩ = some (.int .i64 0) := (blk_cell BK344.out 2).trans rfl; have hcz63_3 : w61.cell? ⟨gb344, 3, none⟩ = some (.int .i64 0) := (blk_cell BK344.out 3).trans rfl; have hcz63_4 : w61.cell? ⟨gb344, 4, none⟩ = some (.int .i64 0) := (blk_cell BK344.out 4).trans rfl; have hcz63_5 : w61.cell? ⟨gb344, 5, none⟩ = some (.int .i64 0) := (blk_cell BK344.out 5).trans rfl; have hfz63_0 := blk_frozen BK344.out 0; have hfz63_1 := blk_frozen BK344.out 1; have hfz63_2 := blk_frozen BK344.out 2; have hfz63_3 := blk_frozen BK344.out 3; have hfz63_4 := blk_frozen BK344.out 4; have hfz63_5 := blk_frozen BK344.out 5))
               have n0_ : Aside0 (Kd.R k33 33 ((((((w61.setCell ⟨gb344, 0, none⟩ (.string ((rd_T33 t317 x119_2).f0))).setCell ⟨gb344, 1, none⟩ (.int .i64 ((rd_T33 t317 x119_2).f1))).setCell ⟨gb344, 2, none⟩ (.int .i64 ((rd_T33 t317 x119_2).f2))).setCell ⟨gb344, 3, none⟩ (.int .i64 ((rd_T33 t317 x119_2).f3))).setCell ⟨gb344, 4, none⟩ (.int .i64 ((rd_T33 t317 x119_2).f4))).setCell ⟨gb344, 5, none⟩ (.int .i64 ((rd_T33 t317 x119_2).f5))) w.heap.size (fun k_ => some k_ ≠ (v339 : Value).ownBlock ∧ some k_ ≠ (.slice (some ad343) t317.length co16 : Value).ownBlock ∧ k_ ≠ gb331 ∧ k_ ≠ gb344) (.slice Ao21 t320.length co21) t320) := ⟨by (with_reducible repeat (first | apply Kd.R_alloc | apply Kd.R_drewN | apply Kd.R_drew)); exact Kd.R_mono (Kd.R_far (p := ⟨gb344, 5, none⟩) (Kd.R_far (p := ⟨gb344, 4, none⟩) (Kd.R_far (p := ⟨gb344, 3, none⟩) (Kd.R_far (p := ⟨gb344, 2, none⟩) (Kd.R_far (p := ⟨gb344, 1, none⟩) (Kd.R_far (p := ⟨gb344, 0, none⟩) (Kd.R_mono HO_7.out (fun k_ hk => (⟨hk, hk.2⟩ : _ ∧ k_ ≠ gb344))) (fun _ hk => hk.2) (.string ((rd_T33 t317 x119_2).f0))) (fun _ hk => hk.2) (.int .i64 ((rd_T33 t317 x119_2).f1))) (fun _ hk => hk.2) (.int .i64 ((rd_T33 t317 x119_2).f2))) (fun _ hk => hk.2) (.int .i64 ((rd_T33 t317 x119_2).f3))) (fun _ hk => hk.2) (.int .i64 ((rd_T33 t317 x119_2).f4))) (fun _ hk => hk.2) (.int .i64 ((rd_T33 t317 x119_2).f5))) (fun _ hk => ⟨hk.1.1.1, ⟨hk.1.1.2.1, ⟨hk.1.1.2.2, hk.1.2⟩⟩⟩)⟩
               have n1_ : Aside0 (Kd.R k33 33 ((((((w61.setCell ⟨gb344, 0, none⟩ (.string ((rd_T33 t317 x119_2).f0))).setCell ⟨gb344, 1, none⟩ (.int .i64 ((rd_T33 t317 x119_2).f1))).setCell ⟨gb344, 2, none⟩ (.int .i64 ((rd_T33 t317 x119_2).f2))).setCell ⟨gb344, 3, none⟩ (.int .i64 ((rd_T33 t317 x119_2).f3))).setCell ⟨gb344, 4, none⟩ (.int .i64 ((rd_T33 t317 x119_2).f4))).setCell ⟨gb344, 5, none⟩ (.int .i64 ((rd_T33 t317 x119_2).f5))) w.heap.size (fun k_ => some k_ ≠ (.slice Ao21 t320.length co21 : Value).ownBlock ∧ some k_ ≠ (.slice (some ad343) t317.length co16 : Value).ownBlock ∧ k_ ≠ gb331 ∧ k_ ≠ gb344) v339 t337) := ⟨by (with_reducible repeat (first | apply Kd.R_alloc | apply Kd.R_drewN | apply Kd.R_drew)); exact Kd.R_mono (Kd.R_far (p := ⟨gb344, 5, none⟩) (Kd.R_far (p := ⟨gb344, 4, none⟩) (Kd.R_far (p := ⟨gb344, 3, none⟩) (Kd.R_far (p := ⟨gb344, 2, none⟩) (Kd.R_far (p := ⟨gb344, 1, none⟩) (Kd.R_far (p := ⟨gb344, 0, none⟩) (Kd.R_mono HO_13.out (fun k_ hk => (⟨hk, hk.2⟩ : _ ∧ k_ ≠ gb344))) (fun _ hk => hk.2) (.string ((rd_T33 t317 x119_2).f0))) (fun _ hk => hk.2) (.int .i64 ((rd_T33 t317 x119_2).f1))) (fun _ hk => hk.2) (.int .i64 ((rd_T33 t317 x119_2).f2))) (fun _ hk => hk.2) (.int .i64 ((rd_T33 t317 x119_2).f3))) (fun _ hk => hk.2) (.int .i64 ((rd_T33 t317 x119_2).f4))) (fun _ hk => hk.2) (.int .i64 ((rd_T33 t317 x119_2).f5))) (fun _ hk => ⟨hk.1.1.1, ⟨hk.1.1.2.1, ⟨hk.1.1.2.2, hk.1.2⟩⟩⟩)⟩
               have n2_ : Aside0 (Kd.R k33 33 ((((((w61.setCell ⟨gb344, 0, none⟩ (.string ((rd_T33 t317 x119_2).f0))).setCell ⟨gb344, 1, none⟩ (.int .i64 ((rd_T33 t317 x119_2).f1))).setCell ⟨gb344, 2, none⟩ (.int .i64 ((rd_T33 t317 x119_2).f2))).setCell ⟨gb344, 3, none⟩ (.int .i64 ((rd_T33 t317 x119_2).f3))).setCell ⟨gb344, 4, none⟩ (.int .i64 ((rd_T33 t317 x119_2).f4))).setCell ⟨gb344, 5, none⟩ (.int .i64 ((rd_T33 t317 x119_2).f5))) w.heap.size (fun k_ => some k_ ≠ (.slice Ao21 t320.length co21 : Value).ownBlock ∧ some k_ ≠ (v339 : Value).ownBlock ∧ k_ ≠ gb331 ∧ k_ ≠ gb344) (.slice (some ad343) t317.length co16) t317) := ⟨by (with_reducible repeat (first | apply Kd.R_alloc | apply Kd.R_drewN | apply Kd.R_drew)); exact Kd.R_mono (Kd.R_far (p := ⟨gb344, 5, none⟩) (Kd.R_far (p := ⟨gb344, 4, none⟩) (Kd.R_far (p := ⟨gb344, 3, none⟩) (Kd.R_far (p := ⟨gb344, 2, none⟩) (Kd.R_far (p := ⟨gb344, 1, none⟩) (Kd.R_far (p := ⟨gb344, 0, none⟩) (Kd.R_mono HO_117.out (fun k_ hk => (⟨hk, hk.2⟩ : _ ∧ k_ ≠ gb344))) (fun _ hk => hk.2) (.string ((rd_T33 t317 x119_2).f0))) (fun _ hk => hk.2) (.int .i64 ((rd_T33 t317 x119_2).f1))) (fun _ hk => hk.2) (.int .i64 ((rd_T33 t317 x119_2).f2))) (fun _ hk => hk.2) (.int .i64 ((rd_T33 t317 x119_2).f3))) (fun _ hk => hk.2) (.int .i64 ((rd_T33 t317 x119_2).f4))) (fun _ hk => hk.2) (.int .i64 ((rd_T33 t317 x119_2).f5))) (fun _ hk => ⟨hk.1.1.1, ⟨hk.1.1.2.1, ⟨hk.1.1.2.2, hk.1.2⟩⟩⟩)⟩
               have n3_ : Aside0 (((((((w61.setCell ⟨gb344, 0, none⟩ (.string ((rd_T33 t317 x119_2).f0))).setCell ⟨gb344, 1, none⟩ (.int .i64 ((rd_T33 t317 x119_2).f1))).setCell ⟨gb344, 2, none⟩ (.int .i64 ((rd_T33 t317 x119_2).f2))).setCell ⟨gb344, 3, none⟩ (.int .i64 ((rd_T33 t317 x119_2).f3))).setCell ⟨gb344, 4, none⟩ (.int .i64 ((rd_T33 t317 x119_2).f4))).setCell ⟨gb344, 5, none⟩ (.int .i64 ((rd_T33 t317 x119_2).f5))).heap[gb331]? = some (.cells #[.string t324, .int .i64 t325, .int .i64 t326, .int .i64 t327, .int .i64 t328, .int .i64 t329] 33 (0, 0))) := ⟨by (with_reducible repeat (first | refine blk_drewN ?_ _ | refine blk_drew ?_ | refine blk_alloc ?_ _)); refine blk_far ?_ NB331_344.out _; (with_reducible repeat (first | refine blk_drewN ?_ _ | refine blk_drew ?_ | refine blk_alloc ?_ _)); refine blk_far ?_ NB331_344.out _; (with_reducible repeat (first | refine blk_drewN ?_ _ | refine blk_drew ?_ | refine blk_alloc ?_ _)); refine blk_far ?_ NB331_344.out _; (with_reducible repeat (first | refine blk_drewN ?_ _ | refine blk_drew ?_ | refine blk_alloc ?_ _)); refine blk_far ?_ NB331_344.out _; (with_reducible repeat (first | refine blk_drewN ?_ _ | refine blk_drew ?_ | refine blk_alloc ?_ _)); refine blk_far ?_ NB331_344.out _; (with_reducible repeat (first | refine blk_drewN ?_ _ | refine blk_drew ?_ | refine blk_alloc ?_ _)); refine blk_far ?_ NB331_344.out _; (with_reducible repeat (first | refine blk_drewN ?_ _ | refine blk_drew ?_ | refine blk_alloc ?_ _)); exact BK331.out⟩
               have n4_ : Aside0 (((((((w61.setCell ⟨gb344, 0, none⟩ (.string ((rd_T33 t317 x119_2).f0))).setCell ⟨gb344, 1, none⟩ (.int .i64 ((rd_T33 t317 x119_2).f1))).setCell ⟨gb344, 2, none⟩ (.int .i64 ((rd_T33 t317 x119_2).f2))).setCell ⟨gb344, 3, none⟩ (.int .i64 ((rd_T33 t317 x119_2).f3))).setCell ⟨gb344, 4, none⟩ (.int .i64 ((rd_T33 t317 x119_2).f4))).setCell ⟨gb344, 5, none⟩ (.int .i64 ((rd_T33 t317 x119_2).f5))).heap[gb344]? = some (.cells #[.string ((rd_T33 t317 x119_2).f0), .int .i64 ((rd_T33 t317 x119_2).f1), .int .i64 ((rd_T33 t317 x119_2).f2), .int .i64 ((rd_T33 t317 x119_2).f3), .int .i64 ((rd_T33 t317 x119_2).f4), .int .i64 ((rd_T33 t317 x119_2).f5)] 33 (0, 0))) := ⟨by (with_reducible repeat (first | refine blk_drewN ?_ _ | refine blk_drew ?_ | refine blk_alloc ?_ _)); refine blk_put (cs := #[.string ((rd_T33 t317 x119_2).f0), .int .i64 ((rd_T33 t317 x119_2).f1), .int .i64 ((rd_T33 t317 x119_2).f2), .int .i64 ((rd_T33 t317 x119_2).f3), .int .i64 ((rd_T33 t317 x119_2).f4), .int .i64 0]) ?_ 5 _ rfl; (with_reducible repeat (first | refine blk_drewN ?_ _ | refine blk_drew ?_ | refine blk_alloc ?_ _)); refine blk_put (cs := #[.string ((rd_T33 t317 x119_2).f0), .int .i64 ((rd_T33 t317 x119_2).f1), .int .i64 ((rd_T33 t317 x119_2).f2), .int .i64 ((rd_T33 t317 x119_2).f3), .int .i64 0, .int .i64 0]) ?_ 4 _ rfl; (with_reducible repeat (first | refine blk_drewN ?_ _ | refine blk_drew ?_ | refine blk_alloc ?_ _)); refine blk_put (cs := #[.string ((rd_T33 t317 x119_2).f0), .int .i64 ((rd_T33 t317 x119_2).f1), .int .i64 ((rd_T33 t317 x119_2).f2), .int .i64 0, .int .i64 0, .int .i64 0]) ?_ 3 _ rfl; (with_reducible repeat (first | refine blk_drewN ?_ _ | refine blk_drew ?_ | refine blk_alloc ?_ _)); refine blk_put (cs := #[.string ((rd_T33 t317 x119_2).f0), .int .i64 ((rd_T33 t317 x119_2).f1), .int .i64 0, .int .i64 0, .int .i64 0, .int .i64 0]) ?_ 2 _ rfl; (with_reducible repeat (first | refine blk_drewN ?_ _ | refine blk_drew ?_ | refine blk_alloc ?_ _)); refine blk_put (cs := #[.string ((rd_T33 t317 x119_2).f0), .int .i64 0, .int .i64 0, .int .i64 0, .int .i64 0, .int .i64 0]) ?_ 1 _ rfl; (with_reducible repeat (first | refine blk_drewN ?_ _ | refine blk_drew ?_ | refine blk_alloc ?_ _)); refine blk_put (cs := #[.string (⟨#[]⟩ : ByteArray), .int .i64 0, .int .i64 0, .int .i64 0, .int .i64 0, .int .i64 0]) ?_ 0 _ rfl; (with_reducible repeat (first | refine blk_drewN ?_ _ | refine blk_drew ?_ | refine blk_alloc ?_ _)); exact BK344.out⟩
               have n5_ : Aside0 (Below w.heap.size w ((((((w61.setCell ⟨gb344, 0, none⟩ (.string ((rd_T33 t317 x119_2).f0))).setCell ⟨gb344, 1, none⟩ (.int .i64 ((rd_T33 t317 x119_2).f1))).setCell ⟨gb344, 2, none⟩ (.int .i64 ((rd_T33 t317 x119_2).f2))).setCell ⟨gb344, 3, none⟩ (.int .i64 ((rd_T33 t317 x119_2).f3))).setCell ⟨gb344, 4, none⟩ (.int .i64 ((rd_T33 t317 x119_2).f4))).setCell ⟨gb344, 5, none⟩ (.int .i64 ((rd_T33 t317 x119_2).f5)))) := ⟨by repeat (first | (with_reducible first | exact HB.out | apply below_alloc | apply pw_below_drewN | apply below_drew1 | refine below_set ?_ GE331.out | refine below_set ?_ GE344.out) | exact HB.out)⟩
               (try clear HO_7)
               (try clear HO_13)
               (try clear HO_117)
               (try clear BK331)
               (try clear BK344)
               (try clear HB)
               generalize ((((((w61.setCell ⟨gb344, 0, none⟩ (.string ((rd_T33 t317 x119_2).f0))).setCell ⟨gb344, 1, none⟩ (.int .i64 ((rd_T33 t317 x119_2).f1))).setCell ⟨gb344, 2, none⟩ (.int .i64 ((rd_T33 t317 x119_2).f2))).setCell ⟨gb344, 3, none⟩ (.int .i64 ((rd_T33 t317 x119_2).f3))).setCell ⟨gb344, 4, none⟩ (.int .i64 ((rd_T33 t317 x119_2).f4))).setCell ⟨gb344, 5, none⟩ (.int .i64 ((rd_T33 t317 x119_2).f5))) = w64 at n0_ n1_ n2_ n3_ n4_ n5_ ⊢
               have HO_7 := n0_
               have HO_13 := n1_
               have HO_117 := n2_
               have BK331 := n3_
               have BK344 := n4_
               have HB := n5_
               clear n0_ n1_ n2_ n3_ n4_ n5_
               have n0_ := Aside0.mk (Kd.R_drew HO_7.out)
               have n1_ := Aside0.mk (Kd.R_drew HO_13.out)
               have n2_ := Aside0.mk (Kd.R_drew HO_117.out)
               have n3_ := Aside0.mk (blk_drew BK331.out)
               have n4_ := Aside0.mk (blk_drew BK344.out)
               have n5_ := Aside0.mk (below_drew1 HB.out)
               clear HO_7
               clear HO_13
               clear HO_117
               clear BK331
               clear BK344
               clear HB
               have HO_7 := n0_
               have HO_13 := n1_
               have HO_117 := n2_
               have BK331 := n3_
               have BK344 := n4_
               have HB := n5_
               clear n0_ n1_ n2_ n3_ n4_ n5_
               have p345 : 0 ≤ (x119_2 : Int) := of_decide_eq_true (by first | (with_reducible assumption) | assumption)
               have q345 : x119_2 < (t320.length : Int) := of_decide_eq_true (by first | (with_reducible assumption) | assumption)
               obtain ⟨ad345, e345, hx345_0, hx345_1, hx345_2, hx345_3, hx345_4, hx345_5⟩ := at_T33 (Kd.R_reads' HO_7.out).2.2 x119_2 p345 q345
               cases e345
               replace p345 := eq_true p345
               replace q345 := eq_true q345
               refine start_ (n := 20) (S := fun w' => w'.cell? ⟨gb344, 0, none⟩ = some (.string ((rd_T33 t317 x119_2).f0)) ∧ w'.cell? ⟨gb344, 1, none⟩ = some (.int .i64 ((rd_T33 t317 x119_2).f1)) ∧ w'.cell? ⟨gb344, 2, none⟩ = some (.int .i64 ((rd_T33 t317 x119_2).f2)) ∧ w'.cell? ⟨gb344, 3, none⟩ = some (.int .i64 ((rd_T33 t317 x119_2).f3)) ∧ w'.cell? ⟨gb344, 4, none⟩ = some (.int .i64 ((rd_T33 t317 x119_2).f4)) ∧ w'.cell? ⟨gb344, 5, none⟩ = some (.int .i64 ((rd_T33 t317 x119_2).f5)) ∧ w'.cell? (ad345.add ((x119_2).toNat * 6)) = some (.string ((rd_T33 t320 x119_2).f0)) ∧ w'.cell? ⟨(ad345.add ((x119_2).toNat * 6)).block, (ad345.add ((x119_2).toNat * 6)).off + 1, none⟩ = some (.int .i64 ((rd_T33 t320 x119_2).f1)) ∧ w'.cell? ⟨(ad345.add ((x119_2).toNat * 6)).block, (ad345.add ((x119_2).toNat * 6)).off + 2, none⟩ = some (.int .i64 ((rd_T33 t320 x119_2).f2)) ∧ w'.cell? ⟨(ad345.add ((x119_2).toNat * 6)).block, (ad345.add ((x119_2).toNat * 6)).off + 3, none⟩ = some (.int .i64 ((rd_T33 t320 x119_2).f3)) ∧ w'.cell? ⟨(ad345.add ((x119_2).toNat * 6)).block, (ad345.add ((x119_2).toNat * 6)).off + 4, none⟩ = some (.int .i64 ((rd_T33 t320 x119_2).f4)) ∧ w'.cell? ⟨(ad345.add ((x119_2).toNat * 6)).block, (ad345.add ((x119_2).toNat * 6)).off + 5, none⟩ = some (.int .i64 ((rd_T33 t320 x119_2).f5))) (ds := []) #[false, false, false, false, false, false, false, false, false, false, false, false, false, false, false, false, false, false, false, false] (by kernel_rfl) rfl rfl ⟨(blk_cell BK344.out 0).trans rfl, (blk_cell BK344.out 1).trans rfl, (blk_cell BK344.out 2).trans rfl, (blk_cell BK344.out 3).trans rfl, (blk_cell BK344.out 4).trans rfl, (blk_cell BK344.out 5).trans rfl, hx345_0, hx345_1, hx345_2, hx345_3, hx345_4, hx345_5⟩ (fun hHeld => ?_); refine with_tabW tarrylaw08_StockBack.tab13 tarrylaw08_StockBack.bits13 (fun HT_ HW_ => ?_)
               generalize w64.drew = w65 at HO_7 HO_13 HO_117 BK331 BK344 HB hx345_0 hx345_1 hx345_2 hx345_3 hx345_4 hx345_5 hHeld ⊢
               refine pure_ (i := 0) (N := some 124) (v := ?_) (a' := ?_) #[true, false, false, false, false, false, false, false, false, false, false, false, false, false, false, false, false, false, false, false] rfl rfl (any_of HT_.out (by kernel_rfl)) (fun _ _ _ h => h) (Or.inl ⟨by rfl, ?_⟩) ?_ ?_
               rotate_left
               ·intro w'
                go_simp
                with_reducible rfl
               rotate_left
               ·simp only [Act.put, List.setIfInBounds_toArray, List.set_cons_zero, List.set_cons_succ, i64_w, i32_w]
                rfl
               refine pure_ (i := 2) (N := some 126) (v := ?_) (a' := ?_) #[true, false, true, false, false, false, false, false, false, false, false, false, false, false, false, false, false, false, false, false] rfl rfl (any_of HT_.out (by kernel_rfl)) (fun _ _ _ h => h) (Or.inl ⟨by rfl, ?_⟩) ?_ ?_
               rotate_left
               ·intro w'
                go_simp
                with_reducible rfl
               rotate_left
               ·simp only [Act.put, List.setIfInBounds_toArray, List.set_cons_zero, List.set_cons_succ, i64_w, i32_w]
                rfl
               refine take_ (i := 1) (N := some 125) (v := ?_) (a' := ?_) #[true, true, true, false, false, false, false, false, false, false, false, false, false, false, false, false, false, false, false, false] rfl rfl (take_ofW HT_.out HW_.out (by kernel_rfl)) (fun _ _ _ h => h) (Or.inl ⟨by rfl, ?_⟩) hHeld ?_ ?_
               rotate_left
               ·rintro w' ⟨s0, s1, s2, s3, s4, s5, s6, s7, s8, s9, s10, s11⟩
                go_simp
                with_reducible rfl
               rotate_left
               ·simp only [Act.put, List.setIfInBounds_toArray, List.set_cons_zero, List.set_cons_succ, i64_w, i32_w]
                rfl
               refine pure_ (i := 3) (N := some 127) (v := ?_) (a' := ?_) #[true, true, true, true, false, false, false, false, false, false, false, false, false, false, false, false, false, false, false, false] rfl rfl (any_of HT_.out (by kernel_rfl)) (fun _ _ _ h => h) (Or.inl ⟨by rfl, ?_⟩) ?_ ?_
               rotate_left
               ·intro w'
                go_simp
                with_reducible rfl
               rotate_left
               ·simp only [Act.put, List.setIfInBounds_toArray, List.set_cons_zero, List.set_cons_succ, i64_w, i32_w]
                rfl
               refine pure_ (i := 4) (N := some 128) (v := ?_) (a' := ?_) #[true, true, true, true, true, false, false, false, false, false, false, false, false, false, false, false, false, false, false, false] rfl rfl (any_of HT_.out (by kernel_rfl)) (fun _ _ _ h => h) (Or.inl ⟨by rfl, ?_⟩) ?_ ?_
               rotate_left
               ·intro w'
                go_simp
                with_reducible rfl
               rotate_left
               ·simp only [Act.put, List.setIfInBounds_toArray, List.set_cons_zero, List.set_cons_succ, i64_w, i32_w]
                rfl
               refine pure_ (i := 5) (N := some 129) (v := ?_) (a' := ?_) #[true, true, true, true, true, true, false, false, false, false, false, false, false, false, false, false, false, false, false, false] rfl rfl (any_of HT_.out (by kernel_rfl)) (fun _ _ _ h => h) (Or.inl ⟨by rfl, ?_⟩) ?_ ?_
               rotate_left
               ·intro w'
                go_simp
                with_reducible rfl
               rotate_left
               ·simp only [Act.put, List.setIfInBounds_toArray, List.set_cons_zero, List.set_cons_succ, i64_w, i32_w]
                rfl
               refine pure_ (i := 6) (N := some 130) (v := ?_) (a' := ?_) #[true, true, true, true, true, true, true, false, false, false, false, false, false, false, false, false, false, false, false, false] rfl rfl (any_of HT_.out (by kernel_rfl)) (fun _ _ _ h => h) (Or.inl ⟨by rfl, ?_⟩) ?_ ?_
               rotate_left
               ·intro w'
                go_simp
                with_reducible rfl
               rotate_left
               ·simp only [Act.put, List.setIfInBounds_toArray, List.set_cons_zero, List.set_cons_succ, i64_w, i32_w]
                rfl
               refine pure_ (i := 7) (N := some 131) (v := ?_) (a' := ?_) #[true, true, true, true, true, true, true, true, false, false, false, false, false, false, false, false, false, false, false, false] rfl rfl (any_of HT_.out (by kernel_rfl)) (fun _ _ _ h => h) (Or.inl ⟨by rfl, ?_⟩) ?_ ?_
               rotate_left
               ·intro w'
                go_simp
                with_reducible rfl
               rotate_left
               ·simp only [Act.put, List.setIfInBounds_toArray, List.set_cons_zero, List.set_cons_succ, i64_w, i32_w]
                rfl
               refine take_ (i := 8) (N := some 132) (v := ?_) (a' := ?_) #[true, true, true, true, true, true, true, true, true, false, false, false, false, false, false, false, false, false, false, false] rfl rfl (take_ofW HT_.out HW_.out (by kernel_rfl)) (fun _ _ _ h => h) (Or.inl ⟨by rfl, ?_⟩) hHeld ?_ ?_
               rotate_left
               ·rintro w' ⟨s0, s1, s2, s3, s4, s5, s6, s7, s8, s9, s10, s11⟩
                go_simp
                with_reducible rfl
               rotate_left
               ·simp only [Act.put, List.setIfInBounds_toArray, List.set_cons_zero, List.set_cons_succ, i64_w, i32_w]
                rfl
               refine take_ (i := 9) (N := some 133) (v := ?_) (a' := ?_) #[true, true, true, true, true, true, true, true, true, true, false, false, false, false, false, false, false, false, false, false] rfl rfl (take_ofW HT_.out HW_.out (by kernel_rfl)) (fun _ _ _ h => h) (Or.inl ⟨by rfl, ?_⟩) hHeld ?_ ?_
               rotate_left
               ·rintro w' ⟨s0, s1, s2, s3, s4, s5, s6, s7, s8, s9, s10, s11⟩
                go_simp
                with_reducible rfl
               rotate_left
               ·simp only [Act.put, List.setIfInBounds_toArray, List.set_cons_zero, List.set_cons_succ, i64_w, i32_w]
                rfl
               refine pure_ (i := 10) (N := some 134) (v := ?_) (a' := ?_) #[true, true, true, true, true, true, true, true, true, true, true, false, false, false, false, false, false, false, false, false] rfl rfl (any_of HT_.out (by kernel_rfl)) (fun _ _ _ h => h) (Or.inl ⟨by rfl, ?_⟩) ?_ ?_
               rotate_left
               ·intro w'
                go_simp
                with_reducible rfl
               rotate_left
               ·simp only [Act.put, List.setIfInBounds_toArray, List.set_cons_zero, List.set_cons_succ, i64_w, i32_w]
                rfl
               refine pure_ (i := 11) (N := some 135) (v := ?_) (a' := ?_) #[true, true, true, true, true, true, true, true, true, true, true, true, false, false, false, false, false, false, false, false] rfl rfl (any_of HT_.out (by kernel_rfl)) (fun _ _ _ h => h) (Or.inl ⟨by rfl, ?_⟩) ?_ ?_
               rotate_left
               ·intro w'
                go_simp
                with_reducible rfl
               rotate_left
               ·simp only [Act.put, List.setIfInBounds_toArray, List.set_cons_zero, List.set_cons_succ, i64_w, i32_w]
                rfl
               refine pure_ (i := 12) (N := some 136) (v := undef) (a' := ?_) #[true, true, true, true, true, true, true, true, true, true, true, true, true, false, false, false, false, false, false, false] rfl rfl (any_of HT_.out (by kernel_rfl)) (fun _ _ _ h => h) (Or.inr ⟨by rfl, rfl⟩) ?_ ?_
               rotate_left
               ·simp only [Act.put, List.setIfInBounds_toArray, List.set_cons_zero, List.set_cons_succ, i64_w, i32_w]
                rfl
               refine pure_ (i := 13) (N := some 137) (v := undef) (a' := ?_) #[true, true, true, true, true, true, true, true, true, true, true, true, true, true, false, false, false, false, false, false] rfl rfl (any_of HT_.out (by kernel_rfl)) (fun _ _ _ h => h) (Or.inr ⟨by rfl, rfl⟩) ?_ ?_
               rotate_left
               ·simp only [Act.put, List.setIfInBounds_toArray, List.set_cons_zero, List.set_cons_succ, i64_w, i32_w]
                rfl
               refine pure_ (i := 14) (N := some 138) (v := undef) (a' := ?_) #[true, true, true, true, true, true, true, true, true, true, true, true, true, true, true, false, false, false, false, false] rfl rfl (any_of HT_.out (by kernel_rfl)) (fun _ _ _ h => h) (Or.inr ⟨by rfl, rfl⟩) ?_ ?_
               rotate_left
               ·simp only [Act.put, List.setIfInBounds_toArray, List.set_cons_zero, List.set_cons_succ, i64_w, i32_w]
                rfl
               refine pure_ (i := 15) (N := some 139) (v := undef) (a' := ?_) #[true, true, true, true, true, true, true, true, true, true, true, true, true, true, true, true, false, false, false, false] rfl rfl (any_of HT_.out (by kernel_rfl)) (fun _ _ _ h => h) (Or.inr ⟨by rfl, rfl⟩) ?_ ?_
               rotate_left
               ·simp only [Act.put, List.setIfInBounds_toArray, List.set_cons_zero, List.set_cons_succ, i64_w, i32_w]
                rfl
               refine pure_ (i := 16) (N := some 140) (v := undef) (a' := ?_) #[true, true, true, true, true, true, true, true, true, true, true, true, true, true, true, true, true, false, false, false] rfl rfl (any_of HT_.out (by kernel_rfl)) (fun _ _ _ h => h) (Or.inr ⟨by rfl, rfl⟩) ?_ ?_
               rotate_left
               ·simp only [Act.put, List.setIfInBounds_toArray, List.set_cons_zero, List.set_cons_succ, i64_w, i32_w]
                rfl
               refine pure_ (i := 17) (N := some 141) (v := undef) (a' := ?_) #[true, true, true, true, true, true, true, true, true, true, true, true, true, true, true, true, true, true, false, false] rfl rfl (any_of HT_.out (by kernel_rfl)) (fun _ _ _ h => h) (Or.inr ⟨by rfl, rfl⟩) ?_ ?_
               rotate_left
               ·simp only [Act.put, List.setIfInBounds_toArray, List.set_cons_zero, List.set_cons_succ, i64_w, i32_w]
                rfl
               refine pure_ (i := 18) (N := some 142) (v := ?_) (a' := ?_) #[true, true, true, true, true, true, true, true, true, true, true, true, true, true, true, true, true, true, true, false] rfl rfl (any_of HT_.out (by kernel_rfl)) (fun _ _ _ h => h) (Or.inl ⟨by rfl, ?_⟩) ?_ ?_
               rotate_left
               ·intro w'
                go_simp
                with_reducible rfl
               rotate_left
               ·simp only [Act.put, List.setIfInBounds_toArray, List.set_cons_zero, List.set_cons_succ, i64_w, i32_w]
                rfl
               refine pure_ (i := 19) (N := some 143) (v := ?_) (a' := ?_) #[true, true, true, true, true, true, true, true, true, true, true, true, true, true, true, true, true, true, true, true] rfl rfl (any_of HT_.out (by kernel_rfl)) (fun _ _ _ h => h) (Or.inl ⟨by rfl, ?_⟩) ?_ ?_
               rotate_left
               ·intro w'
                go_simp
                with_reducible rfl
               rotate_left
               ·simp only [Act.put, List.setIfInBounds_toArray, List.set_cons_zero, List.set_cons_succ, i64_w, i32_w]
                rfl
               refine done_ (done_of HT_.out (by kernel_rfl)) ?_
               try go_wp2
               go_ret
               exact ⟨by first | rfl | (simp [errW_none, errW_some] <;> rfl) | (simp only [← hji5]; first | rfl | (simp [errW_none, errW_some] <;> rfl)) | (simp [*, errW_none, errW_some] <;> rfl), by repeat (first | (with_reducible first | exact HB.out | apply below_alloc | apply pw_below_drewN | apply below_drew1 | refine below_set ?_ GE331.out | refine below_set ?_ GE344.out) | exact HB.out)⟩
              ·rw [if_neg c60] at H
               have c60b0 : (!((((rd_T33 t320 x119_2).f0).toList) == (((rd_T33 t317 x119_2).f0).toList)) || (!(((rd_T33 t320 x119_2).f1) == ((rd_T33 t317 x119_2).f1)) || (!(((rd_T33 t320 x119_2).f2) == ((rd_T33 t317 x119_2).f2)) || (!(((rd_T33 t320 x119_2).f3) == ((rd_T33 t317 x119_2).f3)) || (!(((rd_T33 t320 x119_2).f4) == ((rd_T33 t317 x119_2).f4)) || (!(((rd_T33 t320 x119_2).f5) == ((rd_T33 t317 x119_2).f5)))))))) = false := by simpa using c60
               clear c60
               by_cases c66 : x119_2 < (t337.length : Int)
               ·rw [if_pos c66] at H
                have c66b0 : decide (x119_2 < (t337.length : Int)) = true := decide_eq_true c66
                clear c66
                by_cases c67 : (!((((rd_T33 t337 x119_2).f0).toList) == (((rd_T33 t317 x119_2).f0).toList)) || (!(((rd_T33 t337 x119_2).f1) == ((rd_T33 t317 x119_2).f1)) || (!(((rd_T33 t337 x119_2).f2) == ((rd_T33 t317 x119_2).f2)) || (!(((rd_T33 t337 x119_2).f3) == ((rd_T33 t317 x119_2).f3)) || (!(((rd_T33 t337 x119_2).f4) == ((rd_T33 t317 x119_2).f4)) || (!(((rd_T33 t337 x119_2).f5) == ((rd_T33 t317 x119_2).f5)))))))) = true
                ·rw [if_pos c67] at H
                 have c67b0 : (!((((rd_T33 t337 x119_2).f0).toList) == (((rd_T33 t317 x119_2).f0).toList)) || (!(((rd_T33 t337 x119_2).f1) == ((rd_T33 t317 x119_2).f1)) || (!(((rd_T33 t337 x119_2).f2) == ((rd_T33 t317 x119_2).f2)) || (!(((rd_T33 t337 x119_2).f3) == ((rd_T33 t317 x119_2).f3)) || (!(((rd_T33 t337 x119_2).f4) == ((rd_T33 t317 x119_2).f4)) || (!(((rd_T33 t337 x119_2).f5) == ((rd_T33 t317 x119_2).f5)))))))) = true := c67
                 clear c67
                 obtain rfl := Option.some.inj H
                 have p343 : 0 ≤ (x119_2 : Int) := of_decide_eq_true (by first | (with_reducible assumption) | assumption)
                 have q343 : x119_2 < (t317.length : Int) := of_decide_eq_true (by first | (with_reducible assumption) | assumption)
                 obtain ⟨ad343, e343, hx343_0, hx343_1, hx343_2, hx343_3, hx343_4, hx343_5⟩ := at_T33 (Kd.R_reads' HO_117.out).2.2 x119_2 p343 q343
                 cases e343
                 replace p343 := eq_true p343
                 replace q343 := eq_true q343
                 try go_wp2_with (first | ((with_reducible refine gate_dst (N := 16) rfl ?_); (try (refine gate_guard (by rfl) ?_; dsimp only)); refine box_event ?hg (N := 16) ?hd (cs := #[.string (⟨#[]⟩ : ByteArray), .int .i64 0, .int .i64 0, .int .i64 0, .int .i64 0, .int .i64 0]) (t := 33) ?hr ?_; (case hd => rfl); (case hg => rfl); (case hr => first | (go_simp; done) | (go_simp; rfl)); intro gb344 hg w68 hbox hb; have n0_ := Aside0.mk (Kd.R_below (Kd.R_elderB (by (with_reducible repeat (first | apply Kd.R_alloc | apply Kd.R_drewN | apply Kd.R_drew)); exact HO_7.out) gb344 (Nat.le_of_eq hg.symm)) hb); have n1_ := Aside0.mk (Kd.R_below (Kd.R_elderB (by (with_reducible repeat (first | apply Kd.R_alloc | apply Kd.R_drewN | apply Kd.R_drew)); exact HO_13.out) gb344 (Nat.le_of_eq hg.symm)) hb); have n2_ := Aside0.mk (Kd.R_below (Kd.R_elderB (by (with_reducible repeat (first | apply Kd.R_alloc | apply Kd.R_drewN | apply Kd.R_drew)); exact HO_117.out) gb344 (Nat.le_of_eq hg.symm)) hb); have n3_ := Aside0.mk (blk_below (g := gb331) (o := .cells #[.string t324, .int .i64 t325, .int .i64 t326, .int .i64 t327, .int .i64 t328, .int .i64 t329] 33 (0, 0)) (by (with_reducible repeat (first | refine blk_drewN ?_ _ | refine blk_drew ?_ | refine blk_alloc ?_ _)); exact BK331.out) hb); have n4_ := Aside0.mk (below_step (by repeat (first | (with_reducible first | exact HB.out | apply below_alloc | apply pw_below_drewN | apply below_drew1 | refine below_set ?_ GE331.out) | exact HB.out)) hb); have n5_ := Aside0.mk (hbox); have n6_ := Aside0.mk ((by rw [hg]; exact (below_size (by repeat (first | (with_reducible first | exact HB.out | apply below_alloc | apply pw_below_drewN | apply below_drew1 | refine below_set ?_ GE331.out) | exact HB.out))) : w.heap.size ≤ gb344)); have n7_ := Aside0.mk ((by rw [hg]; exact (below_size (by repeat (first | (with_reducible first | exact HB.out | apply below_alloc | apply pw_below_drewN | apply below_drew1 | refine below_set ?_ GE331.out) | exact HB.out))) : w.heap.size ≤ gb344)); have n8_ := Aside0.mk ((by rw [hg]; exact Nat.ne_of_lt (blk_lt (g := gb331) (o := .cells #[.string t324, .int .i64 t325, .int .i64 t326, .int .i64 t327, .int .i64 t328, .int .i64 t329] 33 (0, 0)) (by (with_reducible repeat (first | refine blk_drewN ?_ _ | refine blk_drew ?_ | refine blk_alloc ?_ _)); exact BK331.out)) : gb331 ≠ gb344)); have n9_ := Aside0.mk ((by rw [hg]; exact Nat.ne_of_gt (blk_lt (g := gb331) (o := .cells #[.string t324, .int .i64 t325, .int .i64 t326, .int .i64 t327, .int .i64 t328, .int .i64 t329] 33 (0, 0)) (by (with_reducible repeat (first | refine blk_drewN ?_ _ | refine blk_drew ?_ | refine blk_alloc ?_ _)); exact BK331.out)) : gb344 ≠ gb331)); clear HO_7; clear HO_13; clear HO_117; clear BK331; clear HB; have HO_7 := n0_; have HO_13 := n1_; have HO_117 := n2_; have BK331 := n3_; have HB := n4_; have BK344 := n5_; have GW344 := n6_; have GE344 := n7_; have NB331_344 := n8_; have NB344_331 := n9_; clear n0_ n1_ n2_ n3_ n4_ n5_ n6_ n7_ n8_ n9_; clear hb hbox hg; have hnb69 := NB344_331.out; have hnc69 := NB331_344.out; have hcz70_0 : w68.cell? ⟨gb344, 0, none⟩ = some (.string (⟨#[]⟩ : ByteArray)) := (blk_cell BK344.out 0).trans rfl; have hcz70_1 : w68.cell? ⟨gb344, 1, none⟩ = some (.int .i64 0) := (blk_cell BK344.out 1).trans rfl; have hcz70_2 : w68.cell? ⟨gb344, 2, none⟩ = some (.int .i64 0) := (blk_cell BK344.out 2).trans rfl; have hcz70_3 : w68.cell? ⟨gb344, 3, none⟩ = some (.int .i64 0) := (blk_cell BK344.out 3).trans rfl; have hcz70_4 : w68.cell? ⟨gb344, 4, none⟩ = some (.int .i64 0) := (blk_cell BK344.out 4).trans rfl; have hcz70_5 : w68.cell? ⟨gb344, 5, none⟩ = some (.int .i64 0) := (blk_cell BK344.out 5).trans rfl; have hfz70_0 := blk_frozen BK344.out 0; have hfz70_1 := blk_frozen BK344.out 1; have hfz70_2 := blk_frozen BK344.out 2; have hfz70_3 := blk_frozen BK344.out 3; have hfz70_4 := blk_frozen BK344.out 4; have hfz70_5 := blk_frozen BK344.out 5))
                 have n0_ : Aside0 (Kd.R k33 33 ((((((w68.setCell ⟨gb344, 0, none⟩ (.string ((rd_T33 t317 x119_2).f0))).setCell ⟨gb344, 1, none⟩ (.int .i64 ((rd_T33 t317 x119_2).f1))).setCell ⟨gb344, 2, none⟩ (.int .i64 ((rd_T33 t317 x119_2).f2))).setCell ⟨gb344, 3, none⟩ (.int .i64 ((rd_T33 t317 x119_2).f3))).setCell ⟨gb344, 4, none⟩ (.int .i64 ((rd_T33 t317 x119_2).f4))).setCell ⟨gb344, 5, none⟩ (.int .i64 ((rd_T33 t317 x119_2).f5))) w.heap.size (fun k_ => some k_ ≠ (v339 : Value).ownBlock ∧ some k_ ≠ (.slice (some ad343) t317.length co16 : Value).ownBlock ∧ k_ ≠ gb331 ∧ k_ ≠ gb344) (.slice Ao21 t320.length co21) t320) := ⟨by (with_reducible repeat (first | apply Kd.R_alloc | apply Kd.R_drewN | apply Kd.R_drew)); exact Kd.R_mono (Kd.R_far (p := ⟨gb344, 5, none⟩) (Kd.R_far (p := ⟨gb344, 4, none⟩) (Kd.R_far (p := ⟨gb344, 3, none⟩) (Kd.R_far (p := ⟨gb344, 2, none⟩) (Kd.R_far (p := ⟨gb344, 1, none⟩) (Kd.R_far (p := ⟨gb344, 0, none⟩) (Kd.R_mono HO_7.out (fun k_ hk => (⟨hk, hk.2⟩ : _ ∧ k_ ≠ gb344))) (fun _ hk => hk.2) (.string ((rd_T33 t317 x119_2).f0))) (fun _ hk => hk.2) (.int .i64 ((rd_T33 t317 x119_2).f1))) (fun _ hk => hk.2) (.int .i64 ((rd_T33 t317 x119_2).f2))) (fun _ hk => hk.2) (.int .i64 ((rd_T33 t317 x119_2).f3))) (fun _ hk => hk.2) (.int .i64 ((rd_T33 t317 x119_2).f4))) (fun _ hk => hk.2) (.int .i64 ((rd_T33 t317 x119_2).f5))) (fun _ hk => ⟨hk.1.1.1, ⟨hk.1.1.2.1, ⟨hk.1.1.2.2, hk.1.2⟩⟩⟩)⟩
                 have n1_ : Aside0 (Kd.R k33 33 ((((((w68.setCell ⟨gb344, 0, none⟩ (.string ((rd_T33 t317 x119_2).f0))).setCell ⟨gb344, 1, none⟩ (.int .i64 ((rd_T33 t317 x119_2).f1))).setCell ⟨gb344, 2, none⟩ (.int .i64 ((rd_T33 t317 x119_2).f2))).setCell ⟨gb344, 3, none⟩ (.int .i64 ((rd_T33 t317 x119_2).f3))).setCell ⟨gb344, 4, none⟩ (.int .i64 ((rd_T33 t317 x119_2).f4))).setCell ⟨gb344, 5, none⟩ (.int .i64 ((rd_T33 t317 x119_2).f5))) w.heap.size (fun k_ => some k_ ≠ (.slice Ao21 t320.length co21 : Value).ownBlock ∧ some k_ ≠ (.slice (some ad343) t317.length co16 : Value).ownBlock ∧ k_ ≠ gb331 ∧ k_ ≠ gb344) v339 t337) := ⟨by (with_reducible repeat (first | apply Kd.R_alloc | apply Kd.R_drewN | apply Kd.R_drew)); exact Kd.R_mono (Kd.R_far (p := ⟨gb344, 5, none⟩) (Kd.R_far (p := ⟨gb344, 4, none⟩) (Kd.R_far (p := ⟨gb344, 3, none⟩) (Kd.R_far (p := ⟨gb344, 2, none⟩) (Kd.R_far (p := ⟨gb344, 1, none⟩) (Kd.R_far (p := ⟨gb344, 0, none⟩) (Kd.R_mono HO_13.out (fun k_ hk => (⟨hk, hk.2⟩ : _ ∧ k_ ≠ gb344))) (fun _ hk => hk.2) (.string ((rd_T33 t317 x119_2).f0))) (fun _ hk => hk.2) (.int .i64 ((rd_T33 t317 x119_2).f1))) (fun _ hk => hk.2) (.int .i64 ((rd_T33 t317 x119_2).f2))) (fun _ hk => hk.2) (.int .i64 ((rd_T33 t317 x119_2).f3))) (fun _ hk => hk.2) (.int .i64 ((rd_T33 t317 x119_2).f4))) (fun _ hk => hk.2) (.int .i64 ((rd_T33 t317 x119_2).f5))) (fun _ hk => ⟨hk.1.1.1, ⟨hk.1.1.2.1, ⟨hk.1.1.2.2, hk.1.2⟩⟩⟩)⟩
                 have n2_ : Aside0 (Kd.R k33 33 ((((((w68.setCell ⟨gb344, 0, none⟩ (.string ((rd_T33 t317 x119_2).f0))).setCell ⟨gb344, 1, none⟩ (.int .i64 ((rd_T33 t317 x119_2).f1))).setCell ⟨gb344, 2, none⟩ (.int .i64 ((rd_T33 t317 x119_2).f2))).setCell ⟨gb344, 3, none⟩ (.int .i64 ((rd_T33 t317 x119_2).f3))).setCell ⟨gb344, 4, none⟩ (.int .i64 ((rd_T33 t317 x119_2).f4))).setCell ⟨gb344, 5, none⟩ (.int .i64 ((rd_T33 t317 x119_2).f5))) w.heap.size (fun k_ => some k_ ≠ (.slice Ao21 t320.length co21 : Value).ownBlock ∧ some k_ ≠ (v339 : Value).ownBlock ∧ k_ ≠ gb331 ∧ k_ ≠ gb344) (.slice (some ad343) t317.length co16) t317) := ⟨by (with_reducible repeat (first | apply Kd.R_alloc | apply Kd.R_drewN | apply Kd.R_drew)); exact Kd.R_mono (Kd.R_far (p := ⟨gb344, 5, none⟩) (Kd.R_far (p := ⟨gb344, 4, none⟩) (Kd.R_far (p := ⟨gb344, 3, none⟩) (Kd.R_far (p := ⟨gb344, 2, none⟩) (Kd.R_far (p := ⟨gb344, 1, none⟩) (Kd.R_far (p := ⟨gb344, 0, none⟩) (Kd.R_mono HO_117.out (fun k_ hk => (⟨hk, hk.2⟩ : _ ∧ k_ ≠ gb344))) (fun _ hk => hk.2) (.string ((rd_T33 t317 x119_2).f0))) (fun _ hk => hk.2) (.int .i64 ((rd_T33 t317 x119_2).f1))) (fun _ hk => hk.2) (.int .i64 ((rd_T33 t317 x119_2).f2))) (fun _ hk => hk.2) (.int .i64 ((rd_T33 t317 x119_2).f3))) (fun _ hk => hk.2) (.int .i64 ((rd_T33 t317 x119_2).f4))) (fun _ hk => hk.2) (.int .i64 ((rd_T33 t317 x119_2).f5))) (fun _ hk => ⟨hk.1.1.1, ⟨hk.1.1.2.1, ⟨hk.1.1.2.2, hk.1.2⟩⟩⟩)⟩
                 have n3_ : Aside0 (((((((w68.setCell ⟨gb344, 0, none⟩ (.string ((rd_T33 t317 x119_2).f0))).setCell ⟨gb344, 1, none⟩ (.int .i64 ((rd_T33 t317 x119_2).f1))).setCell ⟨gb344, 2, none⟩ (.int .i64 ((rd_T33 t317 x119_2).f2))).setCell ⟨gb344, 3, none⟩ (.int .i64 ((rd_T33 t317 x119_2).f3))).setCell ⟨gb344, 4, none⟩ (.int .i64 ((rd_T33 t317 x119_2).f4))).setCell ⟨gb344, 5, none⟩ (.int .i64 ((rd_T33 t317 x119_2).f5))).heap[gb331]? = some (.cells #[.string t324, .int .i64 t325, .int .i64 t326, .int .i64 t327, .int .i64 t328, .int .i64 t329] 33 (0, 0))) := ⟨by (with_reducible repeat (first | refine blk_drewN ?_ _ | refine blk_drew ?_ | refine blk_alloc ?_ _)); refine blk_far ?_ NB331_344.out _; (with_reducible repeat (first | refine blk_drewN ?_ _ | refine blk_drew ?_ | refine blk_alloc ?_ _)); refine blk_far ?_ NB331_344.out _; (with_reducible repeat (first | refine blk_drewN ?_ _ | refine blk_drew ?_ | refine blk_alloc ?_ _)); refine blk_far ?_ NB331_344.out _; (with_reducible repeat (first | refine blk_drewN ?_ _ | refine blk_drew ?_ | refine blk_alloc ?_ _)); refine blk_far ?_ NB331_344.out _; (with_reducible repeat (first | refine blk_drewN ?_ _ | refine blk_drew ?_ | refine blk_alloc ?_ _)); refine blk_far ?_ NB331_344.out _; (with_reducible repeat (first | refine blk_drewN ?_ _ | refine blk_drew ?_ | refine blk_alloc ?_ _)); refine blk_far ?_ NB331_344.out _; (with_reducible repeat (first | refine blk_drewN ?_ _ | refine blk_drew ?_ | refine blk_alloc ?_ _)); exact BK331.out⟩
                 have n4_ : Aside0 (((((((w68.setCell ⟨gb344, 0, none⟩ (.string ((rd_T33 t317 x119_2).f0))).setCell ⟨gb344, 1, none⟩ (.int .i64 ((rd_T33 t317 x119_2).f1))).setCell ⟨gb344, 2, none⟩ (.int .i64 ((rd_T33 t317 x119_2).f2))).setCell ⟨gb344, 3, none⟩ (.int .i64 ((rd_T33 t317 x119_2).f3))).setCell ⟨gb344, 4, none⟩ (.int .i64 ((rd_T33 t317 x119_2).f4))).setCell ⟨gb344, 5, none⟩ (.int .i64 ((rd_T33 t317 x119_2).f5))).heap[gb344]? = some (.cells #[.string ((rd_T33 t317 x119_2).f0), .int .i64 ((rd_T33 t317 x119_2).f1), .int .i64 ((rd_T33 t317 x119_2).f2), .int .i64 ((rd_T33 t317 x119_2).f3), .int .i64 ((rd_T33 t317 x119_2).f4), .int .i64 ((rd_T33 t317 x119_2).f5)] 33 (0, 0))) := ⟨by (with_reducible repeat (first | refine blk_drewN ?_ _ | refine blk_drew ?_ | refine blk_alloc ?_ _)); refine blk_put (cs := #[.string ((rd_T33 t317 x119_2).f0), .int .i64 ((rd_T33 t317 x119_2).f1), .int .i64 ((rd_T33 t317 x119_2).f2), .int .i64 ((rd_T33 t317 x119_2).f3), .int .i64 ((rd_T33 t317 x119_2).f4), .int .i64 0]) ?_ 5 _ rfl; (with_reducible repeat (first | refine blk_drewN ?_ _ | refine blk_drew ?_ | refine blk_alloc ?_ _)); refine blk_put (cs := #[.string ((rd_T33 t317 x119_2).f0), .int .i64 ((rd_T33 t317 x119_2).f1), .int .i64 ((rd_T33 t317 x119_2).f2), .int .i64 ((rd_T33 t317 x119_2).f3), .int .i64 0, .int .i64 0]) ?_ 4 _ rfl; (with_reducible repeat (first | refine blk_drewN ?_ _ | refine blk_drew ?_ | refine blk_alloc ?_ _)); refine blk_put (cs := #[.string ((rd_T33 t317 x119_2).f0), .int .i64 ((rd_T33 t317 x119_2).f1), .int .i64 ((rd_T33 t317 x119_2).f2), .int .i64 0, .int .i64 0, .int .i64 0]) ?_ 3 _ rfl; (with_reducible repeat (first | refine blk_drewN ?_ _ | refine blk_drew ?_ | refine blk_alloc ?_ _)); refine blk_put (cs := #[.string ((rd_T33 t317 x119_2).f0), .int .i64 ((rd_T33 t317 x119_2).f1), .int .i64 0, .int .i64 0, .int .i64 0, .int .i64 0]) ?_ 2 _ rfl; (with_reducible repeat (first | refine blk_drewN ?_ _ | refine blk_drew ?_ | refine blk_alloc ?_ _)); refine blk_put (cs := #[.string ((rd_T33 t317 x119_2).f0), .int .i64 0, .int .i64 0, .int .i64 0, .int .i64 0, .int .i64 0]) ?_ 1 _ rfl; (with_reducible repeat (first | refine blk_drewN ?_ _ | refine blk_drew ?_ | refine blk_alloc ?_ _)); refine blk_put (cs := #[.string (⟨#[]⟩ : ByteArray), .int .i64 0, .int .i64 0, .int .i64 0, .int .i64 0, .int .i64 0]) ?_ 0 _ rfl; (with_reducible repeat (first | refine blk_drewN ?_ _ | refine blk_drew ?_ | refine blk_alloc ?_ _)); exact BK344.out⟩
                 have n5_ : Aside0 (Below w.heap.size w ((((((w68.setCell ⟨gb344, 0, none⟩ (.string ((rd_T33 t317 x119_2).f0))).setCell ⟨gb344, 1, none⟩ (.int .i64 ((rd_T33 t317 x119_2).f1))).setCell ⟨gb344, 2, none⟩ (.int .i64 ((rd_T33 t317 x119_2).f2))).setCell ⟨gb344, 3, none⟩ (.int .i64 ((rd_T33 t317 x119_2).f3))).setCell ⟨gb344, 4, none⟩ (.int .i64 ((rd_T33 t317 x119_2).f4))).setCell ⟨gb344, 5, none⟩ (.int .i64 ((rd_T33 t317 x119_2).f5)))) := ⟨by repeat (first | (with_reducible first | exact HB.out | apply below_alloc | apply pw_below_drewN | apply below_drew1 | refine below_set ?_ GE331.out | refine below_set ?_ GE344.out) | exact HB.out)⟩
                 (try clear HO_7)
                 (try clear HO_13)
                 (try clear HO_117)
                 (try clear BK331)
                 (try clear BK344)
                 (try clear HB)
                 generalize ((((((w68.setCell ⟨gb344, 0, none⟩ (.string ((rd_T33 t317 x119_2).f0))).setCell ⟨gb344, 1, none⟩ (.int .i64 ((rd_T33 t317 x119_2).f1))).setCell ⟨gb344, 2, none⟩ (.int .i64 ((rd_T33 t317 x119_2).f2))).setCell ⟨gb344, 3, none⟩ (.int .i64 ((rd_T33 t317 x119_2).f3))).setCell ⟨gb344, 4, none⟩ (.int .i64 ((rd_T33 t317 x119_2).f4))).setCell ⟨gb344, 5, none⟩ (.int .i64 ((rd_T33 t317 x119_2).f5))) = w71 at n0_ n1_ n2_ n3_ n4_ n5_ ⊢
                 have HO_7 := n0_
                 have HO_13 := n1_
                 have HO_117 := n2_
                 have BK331 := n3_
                 have BK344 := n4_
                 have HB := n5_
                 clear n0_ n1_ n2_ n3_ n4_ n5_
                 have n0_ := Aside0.mk (Kd.R_drew HO_7.out)
                 have n1_ := Aside0.mk (Kd.R_drew HO_13.out)
                 have n2_ := Aside0.mk (Kd.R_drew HO_117.out)
                 have n3_ := Aside0.mk (blk_drew BK331.out)
                 have n4_ := Aside0.mk (blk_drew BK344.out)
                 have n5_ := Aside0.mk (below_drew1 HB.out)
                 clear HO_7
                 clear HO_13
                 clear HO_117
                 clear BK331
                 clear BK344
                 clear HB
                 have HO_7 := n0_
                 have HO_13 := n1_
                 have HO_117 := n2_
                 have BK331 := n3_
                 have BK344 := n4_
                 have HB := n5_
                 clear n0_ n1_ n2_ n3_ n4_ n5_
                 have p345 : 0 ≤ (x119_2 : Int) := of_decide_eq_true (by first | (with_reducible assumption) | assumption)
                 have q345 : x119_2 < (t320.length : Int) := of_decide_eq_true (by first | (with_reducible assumption) | assumption)
                 obtain ⟨ad345, e345, hx345_0, hx345_1, hx345_2, hx345_3, hx345_4, hx345_5⟩ := at_T33 (Kd.R_reads' HO_7.out).2.2 x119_2 p345 q345
                 cases e345
                 replace p345 := eq_true p345
                 replace q345 := eq_true q345
                 obtain ⟨Ao73, co73, eo73⟩ := Kd.R_slice HO_13.out
                 (first | subst eo73 | (injection eo73 with f1_ f2_ f3_; have f4_ := f1_.symm; have f5_ := f3_.symm; clear f1_ f2_ f3_; subst f4_; subst f5_))
                 have p346 : 0 ≤ (x119_2 : Int) := of_decide_eq_true (by first | (with_reducible assumption) | assumption)
                 have q346 : x119_2 < (t337.length : Int) := of_decide_eq_true (by first | (with_reducible assumption) | assumption)
                 obtain ⟨ad346, e346, hx346_0, hx346_1, hx346_2, hx346_3, hx346_4, hx346_5⟩ := at_T33 (Kd.R_reads' HO_13.out).2.2 x119_2 p346 q346
                 cases e346
                 replace p346 := eq_true p346
                 replace q346 := eq_true q346
                 refine start_ (n := 20) (S := fun w' => w'.cell? ⟨gb344, 0, none⟩ = some (.string ((rd_T33 t317 x119_2).f0)) ∧ w'.cell? ⟨gb344, 1, none⟩ = some (.int .i64 ((rd_T33 t317 x119_2).f1)) ∧ w'.cell? ⟨gb344, 2, none⟩ = some (.int .i64 ((rd_T33 t317 x119_2).f2)) ∧ w'.cell? ⟨gb344, 3, none⟩ = some (.int .i64 ((rd_T33 t317 x119_2).f3)) ∧ w'.cell? ⟨gb344, 4, none⟩ = some (.int .i64 ((rd_T33 t317 x119_2).f4)) ∧ w'.cell? ⟨gb344, 5, none⟩ = some (.int .i64 ((rd_T33 t317 x119_2).f5)) ∧ w'.cell? (ad345.add ((x119_2).toNat * 6)) = some (.string ((rd_T33 t320 x119_2).f0)) ∧ w'.cell? ⟨(ad345.add ((x119_2).toNat * 6)).block, (ad345.add ((x119_2).toNat * 6)).off + 1, none⟩ = some (.int .i64 ((rd_T33 t320 x119_2).f1)) ∧ w'.cell? ⟨(ad345.add ((x119_2).toNat * 6)).block, (ad345.add ((x119_2).toNat * 6)).off + 2, none⟩ = some (.int .i64 ((rd_T33 t320 x119_2).f2)) ∧ w'.cell? ⟨(ad345.add ((x119_2).toNat * 6)).block, (ad345.add ((x119_2).toNat * 6)).off + 3, none⟩ = some (.int .i64 ((rd_T33 t320 x119_2).f3)) ∧ w'.cell? ⟨(ad345.add ((x119_2).toNat * 6)).block, (ad345.add ((x119_2).toNat * 6)).off + 4, none⟩ = some (.int .i64 ((rd_T33 t320 x119_2).f4)) ∧ w'.cell? ⟨(ad345.add ((x119_2).toNat * 6)).block, (ad345.add ((x119_2).toNat * 6)).off + 5, none⟩ = some (.int .i64 ((rd_T33 t320 x119_2).f5)) ∧ w'.cell? (ad346.add ((x119_2).toNat * 6)) = some (.string ((rd_T33 t337 x119_2).f0)) ∧ w'.cell? ⟨(ad346.add ((x119_2).toNat * 6)).block, (ad346.add ((x119_2).toNat * 6)).off + 1, none⟩ = some (.int .i64 ((rd_T33 t337 x119_2).f1)) ∧ w'.cell? ⟨(ad346.add ((x119_2).toNat * 6)).block, (ad346.add ((x119_2).toNat * 6)).off + 2, none⟩ = some (.int .i64 ((rd_T33 t337 x119_2).f2)) ∧ w'.cell? ⟨(ad346.add ((x119_2).toNat * 6)).block, (ad346.add ((x119_2).toNat * 6)).off + 3, none⟩ = some (.int .i64 ((rd_T33 t337 x119_2).f3)) ∧ w'.cell? ⟨(ad346.add ((x119_2).toNat * 6)).block, (ad346.add ((x119_2).toNat * 6)).off + 4, none⟩ = some (.int .i64 ((rd_T33 t337 x119_2).f4)) ∧ w'.cell? ⟨(ad346.add ((x119_2).toNat * 6)).block, (ad346.add ((x119_2).toNat * 6)).off + 5, none⟩ = some (.int .i64 ((rd_T33 t337 x119_2).f5))) (ds := []) #[false, false, false, false, false, false, false, false, false, false, false, false, false, false, false, false, false, false, false, false] (by kernel_rfl) rfl rfl ⟨(blk_cell BK344.out 0).trans rfl, (blk_cell BK344.out 1).trans rfl, (blk_cell BK344.out 2).trans rfl, (blk_cell BK344.out 3).trans rfl, (blk_cell BK344.out 4).trans rfl, (blk_cell BK344.out 5).trans rfl, hx345_0, hx345_1, hx345_2, hx345_3, hx345_4, hx345_5, hx346_0, hx346_1, hx346_2, hx346_3, hx346_4, hx346_5⟩ (fun hHeld => ?_); refine with_tabW tarrylaw08_StockBack.tab13 tarrylaw08_StockBack.bits13 (fun HT_ HW_ => ?_)
                 generalize w71.drew = w72 at HO_7 HO_13 HO_117 BK331 BK344 HB hx345_0 hx345_1 hx345_2 hx345_3 hx345_4 hx345_5 hx346_0 hx346_1 hx346_2 hx346_3 hx346_4 hx346_5 hHeld ⊢
                 refine pure_ (i := 0) (N := some 124) (v := ?_) (a' := ?_) #[true, false, false, false, false, false, false, false, false, false, false, false, false, false, false, false, false, false, false, false] rfl rfl (any_of HT_.out (by kernel_rfl)) (fun _ _ _ h => h) (Or.inl ⟨by rfl, ?_⟩) ?_ ?_
                 rotate_left
                 ·intro w'
                  go_simp
                  with_reducible rfl
                 rotate_left
                 ·simp only [Act.put, List.setIfInBounds_toArray, List.set_cons_zero, List.set_cons_succ, i64_w, i32_w]
                  rfl
                 refine pure_ (i := 2) (N := some 126) (v := ?_) (a' := ?_) #[true, false, true, false, false, false, false, false, false, false, false, false, false, false, false, false, false, false, false, false] rfl rfl (any_of HT_.out (by kernel_rfl)) (fun _ _ _ h => h) (Or.inl ⟨by rfl, ?_⟩) ?_ ?_
                 rotate_left
                 ·intro w'
                  go_simp
                  with_reducible rfl
                 rotate_left
                 ·simp only [Act.put, List.setIfInBounds_toArray, List.set_cons_zero, List.set_cons_succ, i64_w, i32_w]
                  rfl
                 refine take_ (i := 1) (N := some 125) (v := ?_) (a' := ?_) #[true, true, true, false, false, false, false, false, false, false, false, false, false, false, false, false, false, false, false, false] rfl rfl (take_ofW HT_.out HW_.out (by kernel_rfl)) (fun _ _ _ h => h) (Or.inl ⟨by rfl, ?_⟩) hHeld ?_ ?_
                 rotate_left
                 ·rintro w' ⟨s0, s1, s2, s3, s4, s5, s6, s7, s8, s9, s10, s11, s12, s13, s14, s15, s16, s17⟩
                  go_simp
                  with_reducible rfl
                 rotate_left
                 ·simp only [Act.put, List.setIfInBounds_toArray, List.set_cons_zero, List.set_cons_succ, i64_w, i32_w]
                  rfl
                 refine pure_ (i := 3) (N := some 127) (v := ?_) (a' := ?_) #[true, true, true, true, false, false, false, false, false, false, false, false, false, false, false, false, false, false, false, false] rfl rfl (any_of HT_.out (by kernel_rfl)) (fun _ _ _ h => h) (Or.inl ⟨by rfl, ?_⟩) ?_ ?_
                 rotate_left
                 ·intro w'
                  go_simp
                  with_reducible rfl
                 rotate_left
                 ·simp only [Act.put, List.setIfInBounds_toArray, List.set_cons_zero, List.set_cons_succ, i64_w, i32_w]
                  rfl
                 refine pure_ (i := 4) (N := some 128) (v := ?_) (a' := ?_) #[true, true, true, true, true, false, false, false, false, false, false, false, false, false, false, false, false, false, false, false] rfl rfl (any_of HT_.out (by kernel_rfl)) (fun _ _ _ h => h) (Or.inl ⟨by rfl, ?_⟩) ?_ ?_
                 rotate_left
                 ·intro w'
                  go_simp
                  with_reducible rfl
                 rotate_left
                 ·simp only [Act.put, List.setIfInBounds_toArray, List.set_cons_zero, List.set_cons_succ, i64_w, i32_w]
                  rfl
                 refine pure_ (i := 5) (N := some 129) (v := ?_) (a' := ?_) #[true, true, true, true, true, true, false, false, false, false, false, false, false, false, false, false, false, false, false, false] rfl rfl (any_of HT_.out (by kernel_rfl)) (fun _ _ _ h => h) (Or.inl ⟨by rfl, ?_⟩) ?_ ?_
                 rotate_left
                 ·intro w'
                  go_simp
                  with_reducible rfl
                 rotate_left
                 ·simp only [Act.put, List.setIfInBounds_toArray, List.set_cons_zero, List.set_cons_succ, i64_w, i32_w]
                  rfl
                 refine pure_ (i := 6) (N := some 130) (v := ?_) (a' := ?_) #[true, true, true, true, true, true, true, false, false, false, false, false, false, false, false, false, false, false, false, false] rfl rfl (any_of HT_.out (by kernel_rfl)) (fun _ _ _ h => h) (Or.inl ⟨by rfl, ?_⟩) ?_ ?_
                 rotate_left
                 ·intro w'
                  go_simp
                  with_reducible rfl
                 rotate_left
                 ·simp only [Act.put, List.setIfInBounds_toArray, List.set_cons_zero, List.set_cons_succ, i64_w, i32_w]
                  rfl
                 refine pure_ (i := 7) (N := some 131) (v := ?_) (a' := ?_) #[true, true, true, true, true, true, true, true, false, false, false, false, false, false, false, false, false, false, false, false] rfl rfl (any_of HT_.out (by kernel_rfl)) (fun _ _ _ h => h) (Or.inl ⟨by rfl, ?_⟩) ?_ ?_
                 rotate_left
                 ·intro w'
                  go_simp
                  with_reducible rfl
                 rotate_left
                 ·simp only [Act.put, List.setIfInBounds_toArray, List.set_cons_zero, List.set_cons_succ, i64_w, i32_w]
                  rfl
                 refine take_ (i := 8) (N := some 132) (v := ?_) (a' := ?_) #[true, true, true, true, true, true, true, true, true, false, false, false, false, false, false, false, false, false, false, false] rfl rfl (take_ofW HT_.out HW_.out (by kernel_rfl)) (fun _ _ _ h => h) (Or.inl ⟨by rfl, ?_⟩) hHeld ?_ ?_
                 rotate_left
                 ·rintro w' ⟨s0, s1, s2, s3, s4, s5, s6, s7, s8, s9, s10, s11, s12, s13, s14, s15, s16, s17⟩
                  go_simp
                  with_reducible rfl
                 rotate_left
                 ·simp only [Act.put, List.setIfInBounds_toArray, List.set_cons_zero, List.set_cons_succ, i64_w, i32_w]
                  rfl
                 refine take_ (i := 9) (N := some 133) (v := ?_) (a' := ?_) #[true, true, true, true, true, true, true, true, true, true, false, false, false, false, false, false, false, false, false, false] rfl rfl (take_ofW HT_.out HW_.out (by kernel_rfl)) (fun _ _ _ h => h) (Or.inl ⟨by rfl, ?_⟩) hHeld ?_ ?_
                 rotate_left
                 ·rintro w' ⟨s0, s1, s2, s3, s4, s5, s6, s7, s8, s9, s10, s11, s12, s13, s14, s15, s16, s17⟩
                  go_simp
                  with_reducible rfl
                 rotate_left
                 ·simp only [Act.put, List.setIfInBounds_toArray, List.set_cons_zero, List.set_cons_succ, i64_w, i32_w]
                  rfl
                 refine pure_ (i := 10) (N := some 134) (v := ?_) (a' := ?_) #[true, true, true, true, true, true, true, true, true, true, true, false, false, false, false, false, false, false, false, false] rfl rfl (any_of HT_.out (by kernel_rfl)) (fun _ _ _ h => h) (Or.inl ⟨by rfl, ?_⟩) ?_ ?_
                 rotate_left
                 ·intro w'
                  go_simp
                  with_reducible rfl
                 rotate_left
                 ·simp only [Act.put, List.setIfInBounds_toArray, List.set_cons_zero, List.set_cons_succ, i64_w, i32_w]
                  rfl
                 refine pure_ (i := 11) (N := some 135) (v := ?_) (a' := ?_) #[true, true, true, true, true, true, true, true, true, true, true, true, false, false, false, false, false, false, false, false] rfl rfl (any_of HT_.out (by kernel_rfl)) (fun _ _ _ h => h) (Or.inl ⟨by rfl, ?_⟩) ?_ ?_
                 rotate_left
                 ·intro w'
                  go_simp
                  with_reducible rfl
                 rotate_left
                 ·simp only [Act.put, List.setIfInBounds_toArray, List.set_cons_zero, List.set_cons_succ, i64_w, i32_w]
                  rfl
                 refine pure_ (i := 12) (N := some 136) (v := ?_) (a' := ?_) #[true, true, true, true, true, true, true, true, true, true, true, true, true, false, false, false, false, false, false, false] rfl rfl (any_of HT_.out (by kernel_rfl)) (fun _ _ _ h => h) (Or.inl ⟨by rfl, ?_⟩) ?_ ?_
                 rotate_left
                 ·intro w'
                  go_simp
                  with_reducible rfl
                 rotate_left
                 ·simp only [Act.put, List.setIfInBounds_toArray, List.set_cons_zero, List.set_cons_succ, i64_w, i32_w]
                  rfl
                 refine pure_ (i := 13) (N := some 137) (v := ?_) (a' := ?_) #[true, true, true, true, true, true, true, true, true, true, true, true, true, true, false, false, false, false, false, false] rfl rfl (any_of HT_.out (by kernel_rfl)) (fun _ _ _ h => h) (Or.inl ⟨by rfl, ?_⟩) ?_ ?_
                 rotate_left
                 ·intro w'
                  go_simp
                  with_reducible rfl
                 rotate_left
                 ·simp only [Act.put, List.setIfInBounds_toArray, List.set_cons_zero, List.set_cons_succ, i64_w, i32_w]
                  rfl
                 refine pure_ (i := 14) (N := some 138) (v := ?_) (a' := ?_) #[true, true, true, true, true, true, true, true, true, true, true, true, true, true, true, false, false, false, false, false] rfl rfl (any_of HT_.out (by kernel_rfl)) (fun _ _ _ h => h) (Or.inl ⟨by rfl, ?_⟩) ?_ ?_
                 rotate_left
                 ·intro w'
                  go_simp
                  with_reducible rfl
                 rotate_left
                 ·simp only [Act.put, List.setIfInBounds_toArray, List.set_cons_zero, List.set_cons_succ, i64_w, i32_w]
                  rfl
                 refine take_ (i := 15) (N := some 139) (v := ?_) (a' := ?_) #[true, true, true, true, true, true, true, true, true, true, true, true, true, true, true, true, false, false, false, false] rfl rfl (take_ofW HT_.out HW_.out (by kernel_rfl)) (fun _ _ _ h => h) (Or.inl ⟨by rfl, ?_⟩) hHeld ?_ ?_
                 rotate_left
                 ·rintro w' ⟨s0, s1, s2, s3, s4, s5, s6, s7, s8, s9, s10, s11, s12, s13, s14, s15, s16, s17⟩
                  go_simp
                  with_reducible rfl
                 rotate_left
                 ·simp only [Act.put, List.setIfInBounds_toArray, List.set_cons_zero, List.set_cons_succ, i64_w, i32_w]
                  rfl
                 refine take_ (i := 16) (N := some 140) (v := ?_) (a' := ?_) #[true, true, true, true, true, true, true, true, true, true, true, true, true, true, true, true, true, false, false, false] rfl rfl (take_ofW HT_.out HW_.out (by kernel_rfl)) (fun _ _ _ h => h) (Or.inl ⟨by rfl, ?_⟩) hHeld ?_ ?_
                 rotate_left
                 ·rintro w' ⟨s0, s1, s2, s3, s4, s5, s6, s7, s8, s9, s10, s11, s12, s13, s14, s15, s16, s17⟩
                  go_simp
                  with_reducible rfl
                 rotate_left
                 ·simp only [Act.put, List.setIfInBounds_toArray, List.set_cons_zero, List.set_cons_succ, i64_w, i32_w]
                  rfl
                 refine pure_ (i := 17) (N := some 141) (v := ?_) (a' := ?_) #[true, true, true, true, true, true, true, true, true, true, true, true, true, true, true, true, true, true, false, false] rfl rfl (any_of HT_.out (by kernel_rfl)) (fun _ _ _ h => h) (Or.inl ⟨by rfl, ?_⟩) ?_ ?_
                 rotate_left
                 ·intro w'
                  go_simp
                  with_reducible rfl
                 rotate_left
                 ·simp only [Act.put, List.setIfInBounds_toArray, List.set_cons_zero, List.set_cons_succ, i64_w, i32_w]
                  rfl
                 refine pure_ (i := 18) (N := some 142) (v := ?_) (a' := ?_) #[true, true, true, true, true, true, true, true, true, true, true, true, true, true, true, true, true, true, true, false] rfl rfl (any_of HT_.out (by kernel_rfl)) (fun _ _ _ h => h) (Or.inl ⟨by rfl, ?_⟩) ?_ ?_
                 rotate_left
                 ·intro w'
                  go_simp
                  with_reducible rfl
                 rotate_left
                 ·simp only [Act.put, List.setIfInBounds_toArray, List.set_cons_zero, List.set_cons_succ, i64_w, i32_w]
                  rfl
                 refine pure_ (i := 19) (N := some 143) (v := ?_) (a' := ?_) #[true, true, true, true, true, true, true, true, true, true, true, true, true, true, true, true, true, true, true, true] rfl rfl (any_of HT_.out (by kernel_rfl)) (fun _ _ _ h => h) (Or.inl ⟨by rfl, ?_⟩) ?_ ?_
                 rotate_left
                 ·intro w'
                  go_simp
                  with_reducible rfl
                 rotate_left
                 ·simp only [Act.put, List.setIfInBounds_toArray, List.set_cons_zero, List.set_cons_succ, i64_w, i32_w]
                  rfl
                 refine done_ (done_of HT_.out (by kernel_rfl)) ?_
                 try go_wp2
                 go_ret
                 exact ⟨by first | rfl | (simp [errW_none, errW_some] <;> rfl) | (simp only [← hji5]; first | rfl | (simp [errW_none, errW_some] <;> rfl)) | (simp [*, errW_none, errW_some] <;> rfl), by repeat (first | (with_reducible first | exact HB.out | apply below_alloc | apply pw_below_drewN | apply below_drew1 | refine below_set ?_ GE331.out | refine below_set ?_ GE344.out) | exact HB.out)⟩
                ·rw [if_neg c67] at H
                 have c67b0 : (!((((rd_T33 t337 x119_2).f0).toList) == (((rd_T33 t317 x119_2).f0).toList)) || (!(((rd_T33 t337 x119_2).f1) == ((rd_T33 t317 x119_2).f1)) || (!(((rd_T33 t337 x119_2).f2) == ((rd_T33 t317 x119_2).f2)) || (!(((rd_T33 t337 x119_2).f3) == ((rd_T33 t317 x119_2).f3)) || (!(((rd_T33 t337 x119_2).f4) == ((rd_T33 t317 x119_2).f4)) || (!(((rd_T33 t337 x119_2).f5) == ((rd_T33 t317 x119_2).f5)))))))) = false := by simpa using c67
                 clear c67
                 have H' := Aside0.mk H
                 clear H
                 have p343 : 0 ≤ (x119_2 : Int) := of_decide_eq_true (by first | (with_reducible assumption) | assumption)
                 have q343 : x119_2 < (t317.length : Int) := of_decide_eq_true (by first | (with_reducible assumption) | assumption)
                 obtain ⟨ad343, e343, hx343_0, hx343_1, hx343_2, hx343_3, hx343_4, hx343_5⟩ := at_T33 (Kd.R_reads' HO_117.out).2.2 x119_2 p343 q343
                 cases e343
                 replace p343 := eq_true p343
                 replace q343 := eq_true q343
                 try go_wp2_with (first | ((with_reducible refine gate_dst (N := 16) rfl ?_); (try (refine gate_guard (by rfl) ?_; dsimp only)); refine box_event ?hg (N := 16) ?hd (cs := #[.string (⟨#[]⟩ : ByteArray), .int .i64 0, .int .i64 0, .int .i64 0, .int .i64 0, .int .i64 0]) (t := 33) ?hr ?_; (case hd => rfl); (case hg => rfl); (case hr => first | (go_simp; done) | (go_simp; rfl)); intro gb344 hg w74 hbox hb; have n0_ := Aside0.mk (Kd.R_below (Kd.R_elderB (by (with_reducible repeat (first | apply Kd.R_alloc | apply Kd.R_drewN | apply Kd.R_drew)); exact HO_7.out) gb344 (Nat.le_of_eq hg.symm)) hb); have n1_ := Aside0.mk (Kd.R_below (Kd.R_elderB (by (with_reducible repeat (first | apply Kd.R_alloc | apply Kd.R_drewN | apply Kd.R_drew)); exact HO_13.out) gb344 (Nat.le_of_eq hg.symm)) hb); have n2_ := Aside0.mk (Kd.R_below (Kd.R_elderB (by (with_reducible repeat (first | apply Kd.R_alloc | apply Kd.R_drewN | apply Kd.R_drew)); exact HO_117.out) gb344 (Nat.le_of_eq hg.symm)) hb); have n3_ := Aside0.mk (blk_below (g := gb331) (o := .cells #[.string t324, .int .i64 t325, .int .i64 t326, .int .i64 t327, .int .i64 t328, .int .i64 t329] 33 (0, 0)) (by (with_reducible repeat (first | refine blk_drewN ?_ _ | refine blk_drew ?_ | refine blk_alloc ?_ _)); exact BK331.out) hb); have n4_ := Aside0.mk (below_step (by repeat (first | (with_reducible first | exact HB.out | apply below_alloc | apply pw_below_drewN | apply below_drew1 | refine below_set ?_ GE331.out) | exact HB.out)) hb); have n5_ := Aside0.mk (hbox); have n6_ := Aside0.mk ((by rw [hg]; exact (below_size (by repeat (first | (with_reducible first | exact HB.out | apply below_alloc | apply pw_below_drewN | apply below_drew1 | refine below_set ?_ GE331.out) | exact HB.out))) : w.heap.size ≤ gb344)); have n7_ := Aside0.mk ((by rw [hg]; exact (below_size (by repeat (first | (with_reducible first | exact HB.out | apply below_alloc | apply pw_below_drewN | apply below_drew1 | refine below_set ?_ GE331.out) | exact HB.out))) : w.heap.size ≤ gb344)); have n8_ := Aside0.mk ((by rw [hg]; exact Nat.ne_of_lt (blk_lt (g := gb331) (o := .cells #[.string t324, .int .i64 t325, .int .i64 t326, .int .i64 t327, .int .i64 t328, .int .i64 t329] 33 (0, 0)) (by (with_reducible repeat (first | refine blk_drewN ?_ _ | refine blk_drew ?_ | refine blk_alloc ?_ _)); exact BK331.out)) : gb331 ≠ gb344)); have n9_ := Aside0.mk ((by rw [hg]; exact Nat.ne_of_gt (blk_lt (g := gb331) (o := .cells #[.string t324, .int .i64 t325, .int .i64 t326, .int .i64 t327, .int .i64 t328, .int .i64 t329] 33 (0, 0)) (by (with_reducible repeat (first | refine blk_drewN ?_ _ | refine blk_drew ?_ | refine blk_alloc ?_ _)); exact BK331.out)) : gb344 ≠ gb331)); clear HO_7; clear HO_13; clear HO_117; clear BK331; clear HB; have HO_7 := n0_; have HO_13 := n1_; have HO_117 := n2_; have BK331 := n3_; have HB := n4_; have BK344 := n5_; have GW344 := n6_; have GE344 := n7_; have NB331_344 := n8_; have NB344_331 := n9_; clear n0_ n1_ n2_ n3_ n4_ n5_ n6_ n7_ n8_ n9_; clear hb hbox hg; have hnb75 := NB344_331.out; have hnc75 := NB331_344.out; have hcz76_0 : w74.cell? ⟨gb344, 0, none⟩ = some (.string (⟨#[]⟩ : ByteArray)) := (blk_cell BK344.out 0).trans rfl; have hcz76_1 : w74.cell? ⟨gb344, 1, none⟩ = some (.int .i64 0) := (blk_cell BK344.out 1).trans rfl; have hcz76_2 : w74.cell? ⟨gb344, 2, none⟩ = some (.int .i64 0) := (blk_cell BK344.out 2).trans rfl; have hcz76_3 : w74.cell? ⟨gb344, 3, none⟩ = some (.int .i64 0) := (blk_cell BK344.out 3).trans rfl; have hcz76_4 : w74.cell? ⟨gb344, 4, none⟩ = some (.int .i64 0) := (blk_cell BK344.out 4).trans rfl; have hcz76_5 : w74.cell? ⟨gb344, 5, none⟩ = some (.int .i64 0) := (blk_cell BK344.out 5).trans rfl; have hfz76_0 := blk_frozen BK344.out 0; have hfz76_1 := blk_frozen BK344.out 1; have hfz76_2 := blk_frozen BK344.out 2; have hfz76_3 := blk_frozen BK344.out 3; have hfz76_4 := blk_frozen BK344.out 4; have hfz76_5 := blk_frozen BK344.out 5))
                 have n0_ : Aside0 (Kd.R k33 33 ((((((w74.setCell ⟨gb344, 0, none⟩ (.string ((rd_T33 t317 x119_2).f0))).setCell ⟨gb344, 1, none⟩ (.int .i64 ((rd_T33 t317 x119_2).f1))).setCell ⟨gb344, 2, none⟩ (.int .i64 ((rd_T33 t317 x119_2).f2))).setCell ⟨gb344, 3, none⟩ (.int .i64 ((rd_T33 t317 x119_2).f3))).setCell ⟨gb344, 4, none⟩ (.int .i64 ((rd_T33 t317 x119_2).f4))).setCell ⟨gb344, 5, none⟩ (.int .i64 ((rd_T33 t317 x119_2).f5))) w.heap.size (fun k_ => some k_ ≠ (v339 : Value).ownBlock ∧ some k_ ≠ (.slice (some ad343) t317.length co16 : Value).ownBlock ∧ k_ ≠ gb331 ∧ k_ ≠ gb344) (.slice Ao21 t320.length co21) t320) := ⟨by (with_reducible repeat (first | apply Kd.R_alloc | apply Kd.R_drewN | apply Kd.R_drew)); exact Kd.R_mono (Kd.R_far (p := ⟨gb344, 5, none⟩) (Kd.R_far (p := ⟨gb344, 4, none⟩) (Kd.R_far (p := ⟨gb344, 3, none⟩) (Kd.R_far (p := ⟨gb344, 2, none⟩) (Kd.R_far (p := ⟨gb344, 1, none⟩) (Kd.R_far (p := ⟨gb344, 0, none⟩) (Kd.R_mono HO_7.out (fun k_ hk => (⟨hk, hk.2⟩ : _ ∧ k_ ≠ gb344))) (fun _ hk => hk.2) (.string ((rd_T33 t317 x119_2).f0))) (fun _ hk => hk.2) (.int .i64 ((rd_T33 t317 x119_2).f1))) (fun _ hk => hk.2) (.int .i64 ((rd_T33 t317 x119_2).f2))) (fun _ hk => hk.2) (.int .i64 ((rd_T33 t317 x119_2).f3))) (fun _ hk => hk.2) (.int .i64 ((rd_T33 t317 x119_2).f4))) (fun _ hk => hk.2) (.int .i64 ((rd_T33 t317 x119_2).f5))) (fun _ hk => ⟨hk.1.1.1, ⟨hk.1.1.2.1, ⟨hk.1.1.2.2, hk.1.2⟩⟩⟩)⟩
                 have n1_ : Aside0 (Kd.R k33 33 ((((((w74.setCell ⟨gb344, 0, none⟩ (.string ((rd_T33 t317 x119_2).f0))).setCell ⟨gb344, 1, none⟩ (.int .i64 ((rd_T33 t317 x119_2).f1))).setCell ⟨gb344, 2, none⟩ (.int .i64 ((rd_T33 t317 x119_2).f2))).setCell ⟨gb344, 3, none⟩ (.int .i64 ((rd_T33 t317 x119_2).f3))).setCell ⟨gb344, 4, none⟩ (.int .i64 ((rd_T33 t317 x119_2).f4))).setCell ⟨gb344, 5, none⟩ (.int .i64 ((rd_T33 t317 x119_2).f5))) w.heap.size (fun k_ => some k_ ≠ (.slice Ao21 t320.length co21 : Value).ownBlock ∧ some k_ ≠ (.slice (some ad343) t317.length co16 : Value).ownBlock ∧ k_ ≠ gb331 ∧ k_ ≠ gb344) v339 t337) := ⟨by (with_reducible repeat (first | apply Kd.R_alloc | apply Kd.R_drewN | apply Kd.R_drew)); exact Kd.R_mono (Kd.R_far (p := ⟨gb344, 5, none⟩) (Kd.R_far (p := ⟨gb344, 4, none⟩) (Kd.R_far (p := ⟨gb344, 3, none⟩) (Kd.R_far (p := ⟨gb344, 2, none⟩) (Kd.R_far (p := ⟨gb344, 1, none⟩) (Kd.R_far (p := ⟨gb344, 0, none⟩) (Kd.R_mono HO_13.out (fun k_ hk => (⟨hk, hk.2⟩ : _ ∧ k_ ≠ gb344))) (fun _ hk => hk.2) (.string ((rd_T33 t317 x119_2).f0))) (fun _ hk => hk.2) (.int .i64 ((rd_T33 t317 x119_2).f1))) (fun _ hk => hk.2) (.int .i64 ((rd_T33 t317 x119_2).f2))) (fun _ hk => hk.2) (.int .i64 ((rd_T33 t317 x119_2).f3))) (fun _ hk => hk.2) (.int .i64 ((rd_T33 t317 x119_2).f4))) (fun _ hk => hk.2) (.int .i64 ((rd_T33 t317 x119_2).f5))) (fun _ hk => ⟨hk.1.1.1, ⟨hk.1.1.2.1, ⟨hk.1.1.2.2, hk.1.2⟩⟩⟩)⟩
                 have n2_ : Aside0 (Kd.R k33 33 ((((((w74.setCell ⟨gb344, 0, none⟩ (.string ((rd_T33 t317 x119_2).f0))).setCell ⟨gb344, 1, none⟩ (.int .i64 ((rd_T33 t317 x119_2).f1))).setCell ⟨gb344, 2, none⟩ (.int .i64 ((rd_T33 t317 x119_2).f2))).setCell ⟨gb344, 3, none⟩ (.int .i64 ((rd_T33 t317 x119_2).f3))).setCell ⟨gb344, 4, none⟩ (.int .i64 ((rd_T33 t317 x119_2).f4))).setCell ⟨gb344, 5, none⟩ (.int .i64 ((rd_T33 t317 x119_2).f5))) w.heap.size (fun k_ => some k_ ≠ (.slice Ao21 t320.length co21 : Value).ownBlock ∧ some k_ ≠ (v339 : Value).ownBlock ∧ k_ ≠ gb331 ∧ k_ ≠ gb344) (.slice (some ad343) t317.length co16) t317) := ⟨by (with_reducible repeat (first | apply Kd.R_alloc | apply Kd.R_drewN | apply Kd.R_drew)); exact Kd.R_mono (Kd.R_far (p := ⟨gb344, 5, none⟩) (Kd.R_far (p := ⟨gb344, 4, none⟩) (Kd.R_far (p := ⟨gb344, 3, none⟩) (Kd.R_far (p := ⟨gb344, 2, none⟩) (Kd.R_far (p := ⟨gb344, 1, none⟩) (Kd.R_far (p := ⟨gb344, 0, none⟩) (Kd.R_mono HO_117.out (fun k_ hk => (⟨hk, hk.2⟩ : _ ∧ k_ ≠ gb344))) (fun _ hk => hk.2) (.string ((rd_T33 t317 x119_2).f0))) (fun _ hk => hk.2) (.int .i64 ((rd_T33 t317 x119_2).f1))) (fun _ hk => hk.2) (.int .i64 ((rd_T33 t317 x119_2).f2))) (fun _ hk => hk.2) (.int .i64 ((rd_T33 t317 x119_2).f3))) (fun _ hk => hk.2) (.int .i64 ((rd_T33 t317 x119_2).f4))) (fun _ hk => hk.2) (.int .i64 ((rd_T33 t317 x119_2).f5))) (fun _ hk => ⟨hk.1.1.1, ⟨hk.1.1.2.1, ⟨hk.1.1.2.2, hk.1.2⟩⟩⟩)⟩
                 have n3_ : Aside0 (((((((w74.setCell ⟨gb344, 0, none⟩ (.string ((rd_T33 t317 x119_2).f0))).setCell ⟨gb344, 1, none⟩ (.int .i64 ((rd_T33 t317 x119_2).f1))).setCell ⟨gb344, 2, none⟩ (.int .i64 ((rd_T33 t317 x119_2).f2))).setCell ⟨gb344, 3, none⟩ (.int .i64 ((rd_T33 t317 x119_2).f3))).setCell ⟨gb344, 4, none⟩ (.int .i64 ((rd_T33 t317 x119_2).f4))).setCell ⟨gb344, 5, none⟩ (.int .i64 ((rd_T33 t317 x119_2).f5))).heap[gb331]? = some (.cells #[.string t324, .int .i64 t325, .int .i64 t326, .int .i64 t327, .int .i64 t328, .int .i64 t329] 33 (0, 0))) := ⟨by (with_reducible repeat (first | refine blk_drewN ?_ _ | refine blk_drew ?_ | refine blk_alloc ?_ _)); refine blk_far ?_ NB331_344.out _; (with_reducible repeat (first | refine blk_drewN ?_ _ | refine blk_drew ?_ | refine blk_alloc ?_ _)); refine blk_far ?_ NB331_344.out _; (with_reducible repeat (first | refine blk_drewN ?_ _ | refine blk_drew ?_ | refine blk_alloc ?_ _)); refine blk_far ?_ NB331_344.out _; (with_reducible repeat (first | refine blk_drewN ?_ _ | refine blk_drew ?_ | refine blk_alloc ?_ _)); refine blk_far ?_ NB331_344.out _; (with_reducible repeat (first | refine blk_drewN ?_ _ | refine blk_drew ?_ | refine blk_alloc ?_ _)); refine blk_far ?_ NB331_344.out _; (with_reducible repeat (first | refine blk_drewN ?_ _ | refine blk_drew ?_ | refine blk_alloc ?_ _)); refine blk_far ?_ NB331_344.out _; (with_reducible repeat (first | refine blk_drewN ?_ _ | refine blk_drew ?_ | refine blk_alloc ?_ _)); exact BK331.out⟩
                 have n4_ : Aside0 (((((((w74.setCell ⟨gb344, 0, none⟩ (.string ((rd_T33 t317 x119_2).f0))).setCell ⟨gb344, 1, none⟩ (.int .i64 ((rd_T33 t317 x119_2).f1))).setCell ⟨gb344, 2, none⟩ (.int .i64 ((rd_T33 t317 x119_2).f2))).setCell ⟨gb344, 3, none⟩ (.int .i64 ((rd_T33 t317 x119_2).f3))).setCell ⟨gb344, 4, none⟩ (.int .i64 ((rd_T33 t317 x119_2).f4))).setCell ⟨gb344, 5, none⟩ (.int .i64 ((rd_T33 t317 x119_2).f5))).heap[gb344]? = some (.cells #[.string ((rd_T33 t317 x119_2).f0), .int .i64 ((rd_T33 t317 x119_2).f1), .int .i64 ((rd_T33 t317 x119_2).f2), .int .i64 ((rd_T33 t317 x119_2).f3), .int .i64 ((rd_T33 t317 x119_2).f4), .int .i64 ((rd_T33 t317 x119_2).f5)] 33 (0, 0))) := ⟨by (with_reducible repeat (first | refine blk_drewN ?_ _ | refine blk_drew ?_ | refine blk_alloc ?_ _)); refine blk_put (cs := #[.string ((rd_T33 t317 x119_2).f0), .int .i64 ((rd_T33 t317 x119_2).f1), .int .i64 ((rd_T33 t317 x119_2).f2), .int .i64 ((rd_T33 t317 x119_2).f3), .int .i64 ((rd_T33 t317 x119_2).f4), .int .i64 0]) ?_ 5 _ rfl; (with_reducible repeat (first | refine blk_drewN ?_ _ | refine blk_drew ?_ | refine blk_alloc ?_ _)); refine blk_put (cs := #[.string ((rd_T33 t317 x119_2).f0), .int .i64 ((rd_T33 t317 x119_2).f1), .int .i64 ((rd_T33 t317 x119_2).f2), .int .i64 ((rd_T33 t317 x119_2).f3), .int .i64 0, .int .i64 0]) ?_ 4 _ rfl; (with_reducible repeat (first | refine blk_drewN ?_ _ | refine blk_drew ?_ | refine blk_alloc ?_ _)); refine blk_put (cs := #[.string ((rd_T33 t317 x119_2).f0), .int .i64 ((rd_T33 t317 x119_2).f1), .int .i64 ((rd_T33 t317 x119_2).f2), .int .i64 0, .int .i64 0, .int .i64 0]) ?_ 3 _ rfl; (with_reducible repeat (first | refine blk_drewN ?_ _ | refine blk_drew ?_ | refine blk_alloc ?_ _)); refine blk_put (cs := #[.string ((rd_T33 t317 x119_2).f0), .int .i64 ((rd_T33 t317 x119_2).f1), .int .i64 0, .int .i64 0, .int .i64 0, .int .i64 0]) ?_ 2 _ rfl; (with_reducible repeat (first | refine blk_drewN ?_ _ | refine blk_drew ?_ | refine blk_alloc ?_ _)); refine blk_put (cs := #[.string ((rd_T33 t317 x119_2).f0), .int .i64 0, .int .i64 0, .int .i64 0, .int .i64 0, .int .i64 0]) ?_ 1 _ rfl; (with_reducible repeat (first | refine blk_drewN ?_ _ | refine blk_drew ?_ | refine blk_alloc ?_ _)); refine blk_put (cs := #[.string (⟨#[]⟩ : ByteArray), .int .i64 0, .int .i64 0, .int .i64 0, .int .i64 0, .int .i64 0]) ?_ 0 _ rfl; (with_reducible repeat (first | refine blk_drewN ?_ _ | refine blk_drew ?_ | refine blk_alloc ?_ _)); exact BK344.out⟩
                 have n5_ : Aside0 (Below w.heap.size w ((((((w74.setCell ⟨gb344, 0, none⟩ (.string ((rd_T33 t317 x119_2).f0))).setCell ⟨gb344, 1, none⟩ (.int .i64 ((rd_T33 t317 x119_2).f1))).setCell ⟨gb344, 2, none⟩ (.int .i64 ((rd_T33 t317 x119_2).f2))).setCell ⟨gb344, 3, none⟩ (.int .i64 ((rd_T33 t317 x119_2).f3))).setCell ⟨gb344, 4, none⟩ (.int .i64 ((rd_T33 t317 x119_2).f4))).setCell ⟨gb344, 5, none⟩ (.int .i64 ((rd_T33 t317 x119_2).f5)))) := ⟨by repeat (first | (with_reducible first | exact HB.out | apply below_alloc | apply pw_below_drewN | apply below_drew1 | refine below_set ?_ GE331.out | refine below_set ?_ GE344.out) | exact HB.out)⟩
                 (try clear HO_7)
                 (try clear HO_13)
                 (try clear HO_117)
                 (try clear BK331)
                 (try clear BK344)
                 (try clear HB)
                 generalize ((((((w74.setCell ⟨gb344, 0, none⟩ (.string ((rd_T33 t317 x119_2).f0))).setCell ⟨gb344, 1, none⟩ (.int .i64 ((rd_T33 t317 x119_2).f1))).setCell ⟨gb344, 2, none⟩ (.int .i64 ((rd_T33 t317 x119_2).f2))).setCell ⟨gb344, 3, none⟩ (.int .i64 ((rd_T33 t317 x119_2).f3))).setCell ⟨gb344, 4, none⟩ (.int .i64 ((rd_T33 t317 x119_2).f4))).setCell ⟨gb344, 5, none⟩ (.int .i64 ((rd_T33 t317 x119_2).f5))) = w77 at n0_ n1_ n2_ n3_ n4_ n5_ ⊢
                 have HO_7 := n0_
                 have HO_13 := n1_
                 have HO_117 := n2_
                 have BK331 := n3_
                 have BK344 := n4_
                 have HB := n5_
                 clear n0_ n1_ n2_ n3_ n4_ n5_
                 have n0_ := Aside0.mk (Kd.R_drew HO_7.out)
                 have n1_ := Aside0.mk (Kd.R_drew HO_13.out)
                 have n2_ := Aside0.mk (Kd.R_drew HO_117.out)
                 have n3_ := Aside0.mk (blk_drew BK331.out)
                 have n4_ := Aside0.mk (blk_drew BK344.out)
                 have n5_ := Aside0.mk (below_drew1 HB.out)
                 clear HO_7
                 clear HO_13
                 clear HO_117
                 clear BK331
                 clear BK344
                 clear HB
                 have HO_7 := n0_
                 have HO_13 := n1_
                 have HO_117 := n2_
                 have BK331 := n3_
                 have BK344 := n4_
                 have HB := n5_
                 clear n0_ n1_ n2_ n3_ n4_ n5_
                 have p345 : 0 ≤ (x119_2 : Int) := of_decide_eq_true (by first | (with_reducible assumption) | assumption)
                 have q345 : x119_2 < (t320.length : Int) := of_decide_eq_true (by first | (with_reducible assumption) | assumption)
                 obtain ⟨ad345, e345, hx345_0, hx345_1, hx345_2, hx345_3, hx345_4, hx345_5⟩ := at_T33 (Kd.R_reads' HO_7.out).2.2 x119_2 p345 q345
                 cases e345
                 replace p345 := eq_true p345
                 replace q345 := eq_true q345
                 obtain ⟨Ao79, co79, eo79⟩ := Kd.R_slice HO_13.out
                 (first | subst eo79 | (injection eo79 with f1_ f2_ f3_; have f4_ := f1_.symm; have f5_ := f3_.symm; clear f1_ f2_ f3_; subst f4_; subst f5_))
                 have p346 : 0 ≤ (x119_2 : Int) := of_decide_eq_true (by first | (with_reducible assumption) | assumption)
                 have q346 : x119_2 < (t337.length : Int) := of_decide_eq_true (by first | (with_reducible assumption) | assumption)
                 obtain ⟨ad346, e346, hx346_0, hx346_1, hx346_2, hx346_3, hx346_4, hx346_5⟩ := at_T33 (Kd.R_reads' HO_13.out).2.2 x119_2 p346 q346
                 cases e346
                 replace p346 := eq_true p346
                 replace q346 := eq_true q346
                 refine start_ (n := 20) (S := fun w' => w'.cell? ⟨gb344, 0, none⟩ = some (.string ((rd_T33 t317 x119_2).f0)) ∧ w'.cell? ⟨gb344, 1, none⟩ = some (.int .i64 ((rd_T33 t317 x119_2).f1)) ∧ w'.cell? ⟨gb344, 2, none⟩ = some (.int .i64 ((rd_T33 t317 x119_2).f2)) ∧ w'.cell? ⟨gb344, 3, none⟩ = some (.int .i64 ((rd_T33 t317 x119_2).f3)) ∧ w'.cell? ⟨gb344, 4, none⟩ = some (.int .i64 ((rd_T33 t317 x119_2).f4)) ∧ w'.cell? ⟨gb344, 5, none⟩ = some (.int .i64 ((rd_T33 t317 x119_2).f5)) ∧ w'.cell? (ad345.add ((x119_2).toNat * 6)) = some (.string ((rd_T33 t320 x119_2).f0)) ∧ w'.cell? ⟨(ad345.add ((x119_2).toNat * 6)).block, (ad345.add ((x119_2).toNat * 6)).off + 1, none⟩ = some (.int .i64 ((rd_T33 t320 x119_2).f1)) ∧ w'.cell? ⟨(ad345.add ((x119_2).toNat * 6)).block, (ad345.add ((x119_2).toNat * 6)).off + 2, none⟩ = some (.int .i64 ((rd_T33 t320 x119_2).f2)) ∧ w'.cell? ⟨(ad345.add ((x119_2).toNat * 6)).block, (ad345.add ((x119_2).toNat * 6)).off + 3, none⟩ = some (.int .i64 ((rd_T33 t320 x119_2).f3)) ∧ w'.cell? ⟨(ad345.add ((x119_2).toNat * 6)).block, (ad345.add ((x119_2).toNat * 6)).off + 4, none⟩ = some (.int .i64 ((rd_T33 t320 x119_2).f4)) ∧ w'.cell? ⟨(ad345.add ((x119_2).toNat * 6)).block, (ad345.add ((x119_2).toNat * 6)).off + 5, none⟩ = some (.int .i64 ((rd_T33 t320 x119_2).f5)) ∧ w'.cell? (ad346.add ((x119_2).toNat * 6)) = some (.string ((rd_T33 t337 x119_2).f0)) ∧ w'.cell? ⟨(ad346.add ((x119_2).toNat * 6)).block, (ad346.add ((x119_2).toNat * 6)).off + 1, none⟩ = some (.int .i64 ((rd_T33 t337 x119_2).f1)) ∧ w'.cell? ⟨(ad346.add ((x119_2).toNat * 6)).block, (ad346.add ((x119_2).toNat * 6)).off + 2, none⟩ = some (.int .i64 ((rd_T33 t337 x119_2).f2)) ∧ w'.cell? ⟨(ad346.add ((x119_2).toNat * 6)).block, (ad346.add ((x119_2).toNat * 6)).off + 3, none⟩ = some (.int .i64 ((rd_T33 t337 x119_2).f3)) ∧ w'.cell? ⟨(ad346.add ((x119_2).toNat * 6)).block, (ad346.add ((x119_2).toNat * 6)).off + 4, none⟩ = some (.int .i64 ((rd_T33 t337 x119_2).f4)) ∧ w'.cell? ⟨(ad346.add ((x119_2).toNat * 6)).block, (ad346.add ((x119_2).toNat * 6)).off + 5, none⟩ = some (.int .i64 ((rd_T33 t337 x119_2).f5))) (ds := []) #[false, false, false, false, false, false, false, false, false, false, false, false, false, false, false, false, false, false, false, false] (by kernel_rfl) rfl rfl ⟨(blk_cell BK344.out 0).trans rfl, (blk_cell BK344.out 1).trans rfl, (blk_cell BK344.out 2).trans rfl, (blk_cell BK344.out 3).trans rfl, (blk_cell BK344.out 4).trans rfl, (blk_cell BK344.out 5).trans rfl, hx345_0, hx345_1, hx345_2, hx345_3, hx345_4, hx345_5, hx346_0, hx346_1, hx346_2, hx346_3, hx346_4, hx346_5⟩ (fun hHeld => ?_); refine with_tabW tarrylaw08_StockBack.tab13 tarrylaw08_StockBack.bits13 (fun HT_ HW_ => ?_)
                 generalize w77.drew = w78 at HO_7 HO_13 HO_117 BK331 BK344 HB hx345_0 hx345_1 hx345_2 hx345_3 hx345_4 hx345_5 hx346_0 hx346_1 hx346_2 hx346_3 hx346_4 hx346_5 hHeld ⊢
                 refine pure_ (i := 0) (N := some 124) (v := ?_) (a' := ?_) #[true, false, false, false, false, false, false, false, false, false, false, false, false, false, false, false, false, false, false, false] rfl rfl (any_of HT_.out (by kernel_rfl)) (fun _ _ _ h => h) (Or.inl ⟨by rfl, ?_⟩) ?_ ?_
                 rotate_left
                 ·intro w'
                  go_simp
                  with_reducible rfl
                 rotate_left
                 ·simp only [Act.put, List.setIfInBounds_toArray, List.set_cons_zero, List.set_cons_succ, i64_w, i32_w]
                  rfl
                 refine pure_ (i := 2) (N := some 126) (v := ?_) (a' := ?_) #[true, false, true, false, false, false, false, false, false, false, false, false, false, false, false, false, false, false, false, false] rfl rfl (any_of HT_.out (by kernel_rfl)) (fun _ _ _ h => h) (Or.inl ⟨by rfl, ?_⟩) ?_ ?_
                 rotate_left
                 ·intro w'
                  go_simp
                  with_reducible rfl
                 rotate_left
                 ·simp only [Act.put, List.setIfInBounds_toArray, List.set_cons_zero, List.set_cons_succ, i64_w, i32_w]
                  rfl
                 refine take_ (i := 1) (N := some 125) (v := ?_) (a' := ?_) #[true, true, true, false, false, false, false, false, false, false, false, false, false, false, false, false, false, false, false, false] rfl rfl (take_ofW HT_.out HW_.out (by kernel_rfl)) (fun _ _ _ h => h) (Or.inl ⟨by rfl, ?_⟩) hHeld ?_ ?_
                 rotate_left
                 ·rintro w' ⟨s0, s1, s2, s3, s4, s5, s6, s7, s8, s9, s10, s11, s12, s13, s14, s15, s16, s17⟩
                  go_simp
                  with_reducible rfl
                 rotate_left
                 ·simp only [Act.put, List.setIfInBounds_toArray, List.set_cons_zero, List.set_cons_succ, i64_w, i32_w]
                  rfl
                 refine pure_ (i := 3) (N := some 127) (v := ?_) (a' := ?_) #[true, true, true, true, false, false, false, false, false, false, false, false, false, false, false, false, false, false, false, false] rfl rfl (any_of HT_.out (by kernel_rfl)) (fun _ _ _ h => h) (Or.inl ⟨by rfl, ?_⟩) ?_ ?_
                 rotate_left
                 ·intro w'
                  go_simp
                  with_reducible rfl
                 rotate_left
                 ·simp only [Act.put, List.setIfInBounds_toArray, List.set_cons_zero, List.set_cons_succ, i64_w, i32_w]
                  rfl
                 refine pure_ (i := 4) (N := some 128) (v := ?_) (a' := ?_) #[true, true, true, true, true, false, false, false, false, false, false, false, false, false, false, false, false, false, false, false] rfl rfl (any_of HT_.out (by kernel_rfl)) (fun _ _ _ h => h) (Or.inl ⟨by rfl, ?_⟩) ?_ ?_
                 rotate_left
                 ·intro w'
                  go_simp
                  with_reducible rfl
                 rotate_left
                 ·simp only [Act.put, List.setIfInBounds_toArray, List.set_cons_zero, List.set_cons_succ, i64_w, i32_w]
                  rfl
                 refine pure_ (i := 5) (N := some 129) (v := ?_) (a' := ?_) #[true, true, true, true, true, true, false, false, false, false, false, false, false, false, false, false, false, false, false, false] rfl rfl (any_of HT_.out (by kernel_rfl)) (fun _ _ _ h => h) (Or.inl ⟨by rfl, ?_⟩) ?_ ?_
                 rotate_left
                 ·intro w'
                  go_simp
                  with_reducible rfl
                 rotate_left
                 ·simp only [Act.put, List.setIfInBounds_toArray, List.set_cons_zero, List.set_cons_succ, i64_w, i32_w]
                  rfl
                 refine pure_ (i := 6) (N := some 130) (v := ?_) (a' := ?_) #[true, true, true, true, true, true, true, false, false, false, false, false, false, false, false, false, false, false, false, false] rfl rfl (any_of HT_.out (by kernel_rfl)) (fun _ _ _ h => h) (Or.inl ⟨by rfl, ?_⟩) ?_ ?_
                 rotate_left
                 ·intro w'
                  go_simp
                  with_reducible rfl
                 rotate_left
                 ·simp only [Act.put, List.setIfInBounds_toArray, List.set_cons_zero, List.set_cons_succ, i64_w, i32_w]
                  rfl
                 refine pure_ (i := 7) (N := some 131) (v := ?_) (a' := ?_) #[true, true, true, true, true, true, true, true, false, false, false, false, false, false, false, false, false, false, false, false] rfl rfl (any_of HT_.out (by kernel_rfl)) (fun _ _ _ h => h) (Or.inl ⟨by rfl, ?_⟩) ?_ ?_
                 rotate_left
                 ·intro w'
                  go_simp
                  with_reducible rfl
                 rotate_left
                 ·simp only [Act.put, List.setIfInBounds_toArray, List.set_cons_zero, List.set_cons_succ, i64_w, i32_w]
                  rfl
                 refine take_ (i := 8) (N := some 132) (v := ?_) (a' := ?_) #[true, true, true, true, true, true, true, true, true, false, false, false, false, false, false, false, false, false, false, false] rfl rfl (take_ofW HT_.out HW_.out (by kernel_rfl)) (fun _ _ _ h => h) (Or.inl ⟨by rfl, ?_⟩) hHeld ?_ ?_
                 rotate_left
                 ·rintro w' ⟨s0, s1, s2, s3, s4, s5, s6, s7, s8, s9, s10, s11, s12, s13, s14, s15, s16, s17⟩
                  go_simp
                  with_reducible rfl
                 rotate_left
                 ·simp only [Act.put, List.setIfInBounds_toArray, List.set_cons_zero, List.set_cons_succ, i64_w, i32_w]
                  rfl
                 refine take_ (i := 9) (N := some 133) (v := ?_) (a' := ?_) #[true, true, true, true, true, true, true, true, true, true, false, false, false, false, false, false, false, false, false, false] rfl rfl (take_ofW HT_.out HW_.out (by kernel_rfl)) (fun _ _ _ h => h) (Or.inl ⟨by rfl, ?_⟩) hHeld ?_ ?_
                 rotate_left
                 ·rintro w' ⟨s0, s1, s2, s3, s4, s5, s6, s7, s8, s9, s10, s11, s12, s13, s14, s15, s16, s17⟩
                  go_simp
                  with_reducible rfl
                 rotate_left
                 ·simp only [Act.put, List.setIfInBounds_toArray, List.set_cons_zero, List.set_cons_succ, i64_w, i32_w]
                  rfl
                 refine pure_ (i := 10) (N := some 134) (v := ?_) (a' := ?_) #[true, true, true, true, true, true, true, true, true, true, true, false, false, false, false, false, false, false, false, false] rfl rfl (any_of HT_.out (by kernel_rfl)) (fun _ _ _ h => h) (Or.inl ⟨by rfl, ?_⟩) ?_ ?_
                 rotate_left
                 ·intro w'
                  go_simp
                  with_reducible rfl
                 rotate_left
                 ·simp only [Act.put, List.setIfInBounds_toArray, List.set_cons_zero, List.set_cons_succ, i64_w, i32_w]
                  rfl
                 refine pure_ (i := 11) (N := some 135) (v := ?_) (a' := ?_) #[true, true, true, true, true, true, true, true, true, true, true, true, false, false, false, false, false, false, false, false] rfl rfl (any_of HT_.out (by kernel_rfl)) (fun _ _ _ h => h) (Or.inl ⟨by rfl, ?_⟩) ?_ ?_
                 rotate_left
                 ·intro w'
                  go_simp
                  with_reducible rfl
                 rotate_left
                 ·simp only [Act.put, List.setIfInBounds_toArray, List.set_cons_zero, List.set_cons_succ, i64_w, i32_w]
                  rfl
                 refine pure_ (i := 12) (N := some 136) (v := ?_) (a' := ?_) #[true, true, true, true, true, true, true, true, true, true, true, true, true, false, false, false, false, false, false, false] rfl rfl (any_of HT_.out (by kernel_rfl)) (fun _ _ _ h => h) (Or.inl ⟨by rfl, ?_⟩) ?_ ?_
                 rotate_left
                 ·intro w'
                  go_simp
                  with_reducible rfl
                 rotate_left
                 ·simp only [Act.put, List.setIfInBounds_toArray, List.set_cons_zero, List.set_cons_succ, i64_w, i32_w]
                  rfl
                 refine pure_ (i := 13) (N := some 137) (v := ?_) (a' := ?_) #[true, true, true, true, true, true, true, true, true, true, true, true, true, true, false, false, false, false, false, false] rfl rfl (any_of HT_.out (by kernel_rfl)) (fun _ _ _ h => h) (Or.inl ⟨by rfl, ?_⟩) ?_ ?_
                 rotate_left
                 ·intro w'
                  go_simp
                  with_reducible rfl
                 rotate_left
                 ·simp only [Act.put, List.setIfInBounds_toArray, List.set_cons_zero, List.set_cons_succ, i64_w, i32_w]
                  rfl
                 refine pure_ (i := 14) (N := some 138) (v := ?_) (a' := ?_) #[true, true, true, true, true, true, true, true, true, true, true, true, true, true, true, false, false, false, false, false] rfl rfl (any_of HT_.out (by kernel_rfl)) (fun _ _ _ h => h) (Or.inl ⟨by rfl, ?_⟩) ?_ ?_
                 rotate_left
                 ·intro w'
                  go_simp
                  with_reducible rfl
                 rotate_left
                 ·simp only [Act.put, List.setIfInBounds_toArray, List.set_cons_zero, List.set_cons_succ, i64_w, i32_w]
                  rfl
                 refine take_ (i := 15) (N := some 139) (v := ?_) (a' := ?_) #[true, true, true, true, true, true, true, true, true, true, true, true, true, true, true, true, false, false, false, false] rfl rfl (take_ofW HT_.out HW_.out (by kernel_rfl)) (fun _ _ _ h => h) (Or.inl ⟨by rfl, ?_⟩) hHeld ?_ ?_
                 rotate_left
                 ·rintro w' ⟨s0, s1, s2, s3, s4, s5, s6, s7, s8, s9, s10, s11, s12, s13, s14, s15, s16, s17⟩
                  go_simp
                  with_reducible rfl
                 rotate_left
                 ·simp only [Act.put, List.setIfInBounds_toArray, List.set_cons_zero, List.set_cons_succ, i64_w, i32_w]
                  rfl
                 refine take_ (i := 16) (N := some 140) (v := ?_) (a' := ?_) #[true, true, true, true, true, true, true, true, true, true, true, true, true, true, true, true, true, false, false, false] rfl rfl (take_ofW HT_.out HW_.out (by kernel_rfl)) (fun _ _ _ h => h) (Or.inl ⟨by rfl, ?_⟩) hHeld ?_ ?_
                 rotate_left
                 ·rintro w' ⟨s0, s1, s2, s3, s4, s5, s6, s7, s8, s9, s10, s11, s12, s13, s14, s15, s16, s17⟩
                  go_simp
                  with_reducible rfl
                 rotate_left
                 ·simp only [Act.put, List.setIfInBounds_toArray, List.set_cons_zero, List.set_cons_succ, i64_w, i32_w]
                  rfl
                 refine pure_ (i := 17) (N := some 141) (v := ?_) (a' := ?_) #[true, true, true, true, true, true, true, true, true, true, true, true, true, true, true, true, true, true, false, false] rfl rfl (any_of HT_.out (by kernel_rfl)) (fun _ _ _ h => h) (Or.inl ⟨by rfl, ?_⟩) ?_ ?_
                 rotate_left
                 ·intro w'
                  go_simp
                  with_reducible rfl
                 rotate_left
                 ·simp only [Act.put, List.setIfInBounds_toArray, List.set_cons_zero, List.set_cons_succ, i64_w, i32_w]
                  rfl
                 refine pure_ (i := 18) (N := some 142) (v := ?_) (a' := ?_) #[true, true, true, true, true, true, true, true, true, true, true, true, true, true, true, true, true, true, true, false] rfl rfl (any_of HT_.out (by kernel_rfl)) (fun _ _ _ h => h) (Or.inl ⟨by rfl, ?_⟩) ?_ ?_
                 rotate_left
                 ·intro w'
                  go_simp
                  with_reducible rfl
                 rotate_left
                 ·simp only [Act.put, List.setIfInBounds_toArray, List.set_cons_zero, List.set_cons_succ, i64_w, i32_w]
                  rfl
                 refine pure_ (i := 19) (N := some 143) (v := ?_) (a' := ?_) #[true, true, true, true, true, true, true, true, true, true, true, true, true, true, true, true, true, true, true, true] rfl rfl (any_of HT_.out (by kernel_rfl)) (fun _ _ _ h => h) (Or.inl ⟨by rfl, ?_⟩) ?_ ?_
                 rotate_left
                 ·intro w'
                  go_simp
                  with_reducible rfl
                 rotate_left
                 ·simp only [Act.put, List.setIfInBounds_toArray, List.set_cons_zero, List.set_cons_succ, i64_w, i32_w]
                  rfl
                 refine done_ (done_of HT_.out (by kernel_rfl)) ?_
                 try go_wp2
                 go_roundg k2
                 case measure => have := HJ12.out; have := HK2.out; omega
                 case rel => exact ⟨(wrap64 (x119_2 + 1)), (by first | rfl | (simp; done) | (simp [*]; done)), H', ⟨by have := HJ12.out; have := HK2.out; omega⟩, ⟨by (with_reducible repeat (first | apply Kd.R_alloc | apply Kd.R_drewN | apply Kd.R_drew)); exact Kd.R_mono HO_7.out (fun _ hk => ⟨hk.1, ⟨hk.2.1, hk.2.2.1⟩⟩)⟩, ⟨by (with_reducible repeat (first | apply Kd.R_alloc | apply Kd.R_drewN | apply Kd.R_drew)); exact Kd.R_mono HO_13.out (fun _ hk => ⟨hk.1, ⟨hk.2.1, hk.2.2.1⟩⟩)⟩, ⟨by (with_reducible repeat (first | apply Kd.R_alloc | apply Kd.R_drewN | apply Kd.R_drew)); exact Kd.R_mono HO_117.out (fun _ hk => ⟨hk.1, ⟨hk.2.1, hk.2.2.1⟩⟩)⟩, ⟨by (with_reducible repeat (first | refine blk_drewN ?_ _ | refine blk_drew ?_ | refine blk_alloc ?_ _)); exact BK331.out⟩, ⟨by repeat (first | (with_reducible first | exact HB.out | apply below_alloc | apply pw_below_drewN | apply below_drew1 | refine below_set ?_ GE331.out | refine below_set ?_ GE344.out) | exact HB.out)⟩⟩
               ·rw [if_neg c66] at H
                exact absurd H (by simp)
             ·rw [if_neg c59] at H
              exact absurd H (by simp)
           ·rw [if_neg c52] at H
            exact absurd H (by simp)
          ·rw [if_neg c51] at H
           exact absurd H (by simp)
         ·rw [if_neg c50] at H
          have c50b0 : decide (x119_2 < (t317.length : Int)) = false := decide_eq_false c50
          clear c50
          obtain rfl := Option.some.inj H
          go_wp2
          go_ret
          exact ⟨by first | rfl | (simp [errW_none, errW_some] <;> rfl) | (simp only [← hji5]; first | rfl | (simp [errW_none, errW_some] <;> rfl)) | (simp [*, errW_none, errW_some] <;> rfl), by repeat (first | (with_reducible first | exact HB.out | apply below_alloc | apply pw_below_drewN | apply below_drew1 | refine below_set ?_ GE331.out) | exact HB.out)⟩
   ·rw [if_neg c10] at H
    have c10b0 : (t321 == 0) = false := beq_eq_false_iff_ne.mpr c10
    have c10b1 : (t321 != 0) = true := bne_iff_ne.mpr c10
    replace H := Option.bind_eq_some_iff.mp H
    obtain ⟨t332, A800, H⟩ := H
    replace H : (if t332 = true then (if (t320.length : Int) = 0 then (if t330 = 0 then (if a2 < 1 then (some true) else (some (decide (t326 < a2)))) else (some true)) else (some false)) else (some false)) = some r := H
    have A80 := Aside0.mk A800
    clear A800
    by_cases c81 : t332 = true
    ·subst c81
     have H1 : (if (t320.length : Int) = 0 then (if t330 = 0 then (if a2 < 1 then (some true) else (some (decide (t326 < a2)))) else (some true)) else (some false)) = some r := by rw [if_pos rfl] at H; exact H
     clear H
     have H := H1
     clear H1
     by_cases c82 : (t320.length : Int) = 0
     ·rw [if_pos c82] at H
      have c82b0 : ((t320.length : Int) == 0) = true := beq_iff_eq.mpr c82
      have c82b1 : ((t320.length : Int) != 0) = false := bne_eq_false_iff_eq.mpr c82
      clear c82
      by_cases c83 : t330 = 0
      ·rw [if_pos c83] at H
       have c83b0 : (t330 == 0) = true := beq_iff_eq.mpr c83
       have c83b1 : (t330 != 0) = false := bne_eq_false_iff_eq.mpr c83
       clear c83
       by_cases c84 : a2 < 1
       ·rw [if_pos c84] at H
        have c84b0 : decide (a2 < 1) = true := decide_eq_true c84
        clear c84
        obtain rfl := Option.some.inj H
        go_enter Try.func4, Try.ntmps4
        try go_wp2
        have n0_ := Aside0.mk (below_drew1 HB.out)
        clear HB
        have HB := n0_
        clear n0_
        refine start_ (n := 9) (S := fun w' => True) (ds := []) #[false, false, false, false, false, false, false, false, false] (by kernel_rfl) rfl rfl trivial (fun hHeld => ?_); refine with_tabW tarrylaw08_StockBack.tab1 tarrylaw08_StockBack.bits1 (fun HT_ HW_ => ?_)
        generalize w.drew = w85 at HB hHeld ⊢
        refine pure_ (i := 0) (N := some 17) (v := ?_) (a' := ?_) #[true, false, false, false, false, false, false, false, false] rfl rfl (any_of HT_.out (by kernel_rfl)) (fun _ _ _ h => h) (Or.inl ⟨by rfl, ?_⟩) ?_ ?_
        rotate_left
        ·intro w'
         go_simp
         with_reducible rfl
        rotate_left
        ·simp only [Act.put, List.setIfInBounds_toArray, List.set_cons_zero, List.set_cons_succ, i64_w, i32_w]
         rfl
        refine pure_ (i := 2) (N := some 19) (v := ?_) (a' := ?_) #[true, false, true, false, false, false, false, false, false] rfl rfl (any_of HT_.out (by kernel_rfl)) (fun _ _ _ h => h) (Or.inl ⟨by rfl, ?_⟩) ?_ ?_
        rotate_left
        ·intro w'
         go_simp
         with_reducible rfl
        rotate_left
        ·simp only [Act.put, List.setIfInBounds_toArray, List.set_cons_zero, List.set_cons_succ, i64_w, i32_w]
         rfl
        refine pure_ (i := 3) (N := some 20) (v := ?_) (a' := ?_) #[true, false, true, true, false, false, false, false, false] rfl rfl (any_of HT_.out (by kernel_rfl)) (fun _ _ _ h => h) (Or.inl ⟨by rfl, ?_⟩) ?_ ?_
        rotate_left
        ·intro w'
         go_simp
         with_reducible rfl
        rotate_left
        ·simp only [Act.put, List.setIfInBounds_toArray, List.set_cons_zero, List.set_cons_succ, i64_w, i32_w]
         rfl
        refine pure_ (i := 4) (N := some 21) (v := ?_) (a' := ?_) #[true, false, true, true, true, false, false, false, false] rfl rfl (any_of HT_.out (by kernel_rfl)) (fun _ _ _ h => h) (Or.inl ⟨by rfl, ?_⟩) ?_ ?_
        rotate_left
        ·intro w'
         go_simp
         with_reducible rfl
        rotate_left
        ·simp only [Act.put, List.setIfInBounds_toArray, List.set_cons_zero, List.set_cons_succ, i64_w, i32_w]
         rfl
        refine pure_ (i := 5) (N := some 22) (v := ?_) (a' := ?_) #[true, false, true, true, true, true, false, false, false] rfl rfl (any_of HT_.out (by kernel_rfl)) (fun _ _ _ h => h) (Or.inl ⟨by rfl, ?_⟩) ?_ ?_
        rotate_left
        ·intro w'
         go_simp
         with_reducible rfl
        rotate_left
        ·simp only [Act.put, List.setIfInBounds_toArray, List.set_cons_zero, List.set_cons_succ, i64_w, i32_w]
         rfl
        refine pure_ (i := 6) (N := some 23) (v := ?_) (a' := ?_) #[true, false, true, true, true, true, true, false, false] rfl rfl (any_of HT_.out (by kernel_rfl)) (fun _ _ _ h => h) (Or.inl ⟨by rfl, ?_⟩) ?_ ?_
        rotate_left
        ·intro w'
         go_simp
         with_reducible rfl
        rotate_left
        ·simp only [Act.put, List.setIfInBounds_toArray, List.set_cons_zero, List.set_cons_succ, i64_w, i32_w]
         rfl
        refine one_ (i := 1) (N := some 18) #[true, true, true, true, true, true, true, false, false] rfl rfl (one_of HT_.out (by kernel_rfl)) (by decide) (fun K hK => ?_)
        refine goes_ Try.func6 (by kernel_rfl) rfl #[.slice A0 l0.length c0] (by rfl) rfl rfl (by (try simp only [List.map_toArray, List.map_cons, List.map_nil]); first | done | rfl | (simp only [List.length_drop, List.length_take]; rfl)) ?_
        with_reducible refine (tarrylaw08_few.calls k _ _ l0 t317 _ ?side1 ?side2 A4.out).mono ?_
        (case side1 => repeat (first | exact (Kd.C_below HR0.out HB.out) | (with_reducible refine Kd.C_alloc ?_ _) | (with_reducible refine Kd.C_drewN ?_ _) | (with_reducible refine Kd.C_drew ?_)))
        (case side2 => exact HC0.out)
        rintro e w86 ⟨v318, rfl, ho0, hb⟩
        refine ⟨_, rfl, ?_⟩
        have n0_ := Aside0.mk (Kd.R_lower ho0 (below_size (by repeat (first | (with_reducible first | exact HB.out | apply below_alloc | apply pw_below_drewN | apply below_drew1) | exact HB.out))))
        have n1_ := Aside0.mk (below_step (by repeat (first | (with_reducible first | exact HB.out | apply below_alloc | apply pw_below_drewN | apply below_drew1) | exact HB.out)) hb)
        clear HB
        have HO319 := n0_
        have HB := n1_
        clear n0_ n1_
        (try clear hb)
        (try clear hb2)
        (try clear hk)
        (try clear hi)
        (try clear ho0)
        refine hK.out _ _ trivial (fun hHeld => ?_)
        clear hK K
        refine norm_ (a' := ?_) ?_ ?_
        rotate_left
        ·show Act.put _ (some 18) _ = _
         simp only [Act.put, List.setIfInBounds_toArray, List.set_cons_zero, List.set_cons_succ, i64_w, i32_w]
         rfl
        refine pure_ (i := 7) (N := some 0) (v := ?_) (a' := ?_) #[true, true, true, true, true, true, true, true, false] rfl rfl (any_of HT_.out (by kernel_rfl)) (fun _ _ _ h => h) (Or.inl ⟨by rfl, ?_⟩) ?_ ?_
        rotate_left
        ·intro w'
         go_simp
         with_reducible rfl
        rotate_left
        ·simp only [Act.put, List.setIfInBounds_toArray, List.set_cons_zero, List.set_cons_succ, i64_w, i32_w]
         rfl
        refine pure_ (i := 8) (N := some 1) (v := ?_) (a' := ?_) #[true, true, true, true, true, true, true, true, true] rfl rfl (any_of HT_.out (by kernel_rfl)) (fun _ _ _ h => h) (Or.inl ⟨by rfl, ?_⟩) ?_ ?_
        rotate_left
        ·intro w'
         go_simp
         with_reducible rfl
        rotate_left
        ·simp only [Act.put, List.setIfInBounds_toArray, List.set_cons_zero, List.set_cons_succ, i64_w, i32_w]
         rfl
        refine done_ (done_of HT_.out (by kernel_rfl)) ?_
        obtain ⟨Ao87, co87, eo87⟩ := Kd.R_slice HO319.out
        subst eo87
        try go_wp2_with (first | ((with_reducible refine gate_callee (f := 11) rfl ?_); refine goesL_ (some 28) rfl rfl Try.func11 (by kernel_rfl) rfl #[.slice Ao87 t317.length co87, .string (a1.extract 0 ((ji5) : Int).toNat), .int .i64 a2] rfl (by (try simp only [List.map_toArray, List.map_cons, List.map_nil]); first | done | (simp only [hji5]; rfl) | rfl | (simp only [List.length_drop, List.length_take]; rfl)) ?_; (with_reducible refine (stock_Hold.calls _ _ t317 (a1.extract 0 ((ji5) : Int).toNat) a2 t320 t321 _ ?side1 ?side2 A8.out).mono ?_); (case side1 => repeat (first | exact (Kd.R_reads' HO319.out).2.2 | (with_reducible refine Kd.C_alloc ?_ _) | (with_reducible refine Kd.C_drewN ?_ _) | (with_reducible refine Kd.C_drew ?_))); (case side2 => exact (Kd.R_reads' HO319.out).2.1); rintro e w88 ⟨v322, rfl, ho0, hb⟩; refine ⟨_, rfl, ?_⟩; have n0_ := Aside0.mk (Kd.R_elder' (by (with_reducible repeat (first | apply Kd.R_alloc | apply Kd.R_drewN | apply Kd.R_drew)); exact HO319.out) (Kd.R_base ho0) hb); have n1_ := Aside0.mk (Kd.R_lower (Kd.R_new' ho0 (Kd.R_lt (by (with_reducible repeat (first | apply Kd.R_alloc | apply Kd.R_drewN | apply Kd.R_drew)); exact HO319.out))) (below_size (by repeat (first | (with_reducible first | exact HB.out | apply below_alloc | apply pw_below_drewN | apply below_drew1) | exact HB.out)))); have n2_ := Aside0.mk (below_step (by repeat (first | (with_reducible first | exact HB.out | apply below_alloc | apply pw_below_drewN | apply below_drew1) | exact HB.out)) hb); clear HO319; clear HB; have HO319 := n0_; have HO323 := n1_; have HB := n2_; clear n0_ n1_ n2_; (try clear hb); (try clear hb2); (try clear hk); (try clear hi); (try clear ho0)) | ((with_reducible refine gate_callee (f := 12) rfl ?_); refine goesL_ (some 34) rfl rfl Try.func12 (by kernel_rfl) rfl #[.slice Ao87 t317.length co87, .string (a1.extract 0 ((ji5) : Int).toNat)] rfl (by (try simp only [List.map_toArray, List.map_cons, List.map_nil]); first | done | (simp only [hji5]; rfl) | rfl | (simp only [List.length_drop, List.length_take]; rfl)) ?_; (with_reducible refine (stock_Get.calls _ _ t317 (a1.extract 0 ((ji5) : Int).toNat) t324 t325 t326 t327 t328 t329 t330 _ ?side1 ?side2 A9.out).mono ?_); (case side1 => repeat (first | exact (Kd.R_reads' HO319.out).2.2 | (with_reducible refine Kd.C_alloc ?_ _) | (with_reducible refine Kd.C_drewN ?_ _) | (with_reducible refine Kd.C_drew ?_))); (case side2 => exact (Kd.R_reads' HO319.out).2.1); rintro e w89 ⟨rfl, hb⟩; refine ⟨_, rfl, ?_⟩; have n0_ := Aside0.mk (Kd.R_below (by (with_reducible repeat (first | apply Kd.R_alloc | apply Kd.R_drewN | apply Kd.R_drew)); exact HO319.out) hb); have n1_ := Aside0.mk (Kd.R_below (by (with_reducible repeat (first | apply Kd.R_alloc | apply Kd.R_drewN | apply Kd.R_drew)); exact HO323.out) hb); have n2_ := Aside0.mk (below_step (by repeat (first | (with_reducible first | exact HB.out | apply below_alloc | apply pw_below_drewN | apply below_drew1) | exact HB.out)) hb); clear HO319; clear HO323; clear HB; have HO319 := n0_; have HO323 := n1_; have HB := n2_; clear n0_ n1_ n2_; (try clear hb); (try clear hb2); (try clear hk); (try clear hi)) | ((with_reducible refine gate_dst (N := 9) rfl ?_); (try (refine gate_guard (by rfl) ?_; dsimp only)); refine box_event ?hg (N := 9) ?hd (cs := #[.string (⟨#[]⟩ : ByteArray), .int .i64 0, .int .i64 0, .int .i64 0, .int .i64 0, .int .i64 0]) (t := 33) ?hr ?_; (case hd => rfl); (case hg => rfl); (case hr => first | (go_simp; done) | (go_simp; rfl)); intro gb331 hg w90 hbox hb; have n0_ := Aside0.mk (Kd.R_below (Kd.R_elderB (by (with_reducible repeat (first | apply Kd.R_alloc | apply Kd.R_drewN | apply Kd.R_drew)); exact HO319.out) gb331 (Nat.le_of_eq hg.symm)) hb); have n1_ := Aside0.mk (Kd.R_below (Kd.R_elderB (by (with_reducible repeat (first | apply Kd.R_alloc | apply Kd.R_drewN | apply Kd.R_drew)); exact HO323.out) gb331 (Nat.le_of_eq hg.symm)) hb); have n2_ := Aside0.mk (below_step (by repeat (first | (with_reducible first | exact HB.out | apply below_alloc | apply pw_below_drewN | apply below_drew1) | exact HB.out)) hb); have n3_ := Aside0.mk (hbox); have n4_ := Aside0.mk ((by rw [hg]; exact (below_size (by repeat (first | (with_reducible first | exact HB.out | apply below_alloc | apply pw_below_drewN | apply below_drew1) | exact HB.out))) : w.heap.size ≤ gb331)); have n5_ := Aside0.mk ((by rw [hg]; exact (below_size (by repeat (first | (with_reducible first | exact HB.out | apply below_alloc | apply pw_below_drewN | apply below_drew1) | exact HB.out))) : w.heap.size ≤ gb331)); clear HO319; clear HO323; clear HB; have HO319 := n0_; have HO323 := n1_; have HB := n2_; have BK331 := n3_; have GW331 := n4_; have GE331 := n5_; clear n0_ n1_ n2_ n3_ n4_ n5_; clear hb hbox hg; have hcz91_0 : w90.cell? ⟨gb331, 0, none⟩ = some (.string (⟨#[]⟩ : ByteArray)) := (blk_cell BK331.out 0).trans rfl; have hcz91_1 : w90.cell? ⟨gb331, 1, none⟩ = some (.int .i64 0) := (blk_cell BK331.out 1).trans rfl; have hcz91_2 : w90.cell? ⟨gb331, 2, none⟩ = some (.int .i64 0) := (blk_cell BK331.out 2).trans rfl; have hcz91_3 : w90.cell? ⟨gb331, 3, none⟩ = some (.int .i64 0) := (blk_cell BK331.out 3).trans rfl; have hcz91_4 : w90.cell? ⟨gb331, 4, none⟩ = some (.int .i64 0) := (blk_cell BK331.out 4).trans rfl; have hcz91_5 : w90.cell? ⟨gb331, 5, none⟩ = some (.int .i64 0) := (blk_cell BK331.out 5).trans rfl; have hfz91_0 := blk_frozen BK331.out 0; have hfz91_1 := blk_frozen BK331.out 1; have hfz91_2 := blk_frozen BK331.out 2; have hfz91_3 := blk_frozen BK331.out 3; have hfz91_4 := blk_frozen BK331.out 4; have hfz91_5 := blk_frozen BK331.out 5) | ((with_reducible refine gate_callee (f := 7) rfl ?_); refine goesL_ (some 39) rfl rfl Try.func7 (by kernel_rfl) rfl #[] rfl (by (try simp only [List.map_toArray, List.map_cons, List.map_nil]); first | done | rfl | (simp only [List.length_drop, List.length_take]; rfl)) ?_; (with_reducible refine (tarrylaw08_alive.calls k  true _ A80.out).mono ?_); rintro e w92 ⟨rfl, hb⟩; refine ⟨_, rfl, ?_⟩; have n0_ := Aside0.mk (Kd.R_below (by (with_reducible repeat (first | apply Kd.R_alloc | apply Kd.R_drewN | apply Kd.R_drew)); exact (Kd.R_mono (Kd.R_far (p := ⟨gb331, 5, none⟩) (Kd.R_far (p := ⟨gb331, 4, none⟩) (Kd.R_far (p := ⟨gb331, 3, none⟩) (Kd.R_far (p := ⟨gb331, 2, none⟩) (Kd.R_far (p := ⟨gb331, 1, none⟩) (Kd.R_far (p := ⟨gb331, 0, none⟩) (Kd.R_mono HO319.out (fun k_ hk => (⟨hk, hk.2⟩ : _ ∧ k_ ≠ gb331))) (fun _ hk => hk.2) (.string t324)) (fun _ hk => hk.2) (.int .i64 t325)) (fun _ hk => hk.2) (.int .i64 t326)) (fun _ hk => hk.2) (.int .i64 t327)) (fun _ hk => hk.2) (.int .i64 t328)) (fun _ hk => hk.2) (.int .i64 t329)) (fun _ h_ => h_.1))) hb); have n1_ := Aside0.mk (Kd.R_below (by (with_reducible repeat (first | apply Kd.R_alloc | apply Kd.R_drewN | apply Kd.R_drew)); exact (Kd.R_mono (Kd.R_far (p := ⟨gb331, 5, none⟩) (Kd.R_far (p := ⟨gb331, 4, none⟩) (Kd.R_far (p := ⟨gb331, 3, none⟩) (Kd.R_far (p := ⟨gb331, 2, none⟩) (Kd.R_far (p := ⟨gb331, 1, none⟩) (Kd.R_far (p := ⟨gb331, 0, none⟩) (Kd.R_mono HO323.out (fun k_ hk => (⟨hk, hk.2⟩ : _ ∧ k_ ≠ gb331))) (fun _ hk => hk.2) (.string t324)) (fun _ hk => hk.2) (.int .i64 t325)) (fun _ hk => hk.2) (.int .i64 t326)) (fun _ hk => hk.2) (.int .i64 t327)) (fun _ hk => hk.2) (.int .i64 t328)) (fun _ hk => hk.2) (.int .i64 t329)) (fun _ h_ => h_.1))) hb); have n2_ := Aside0.mk (blk_below (g := gb331) (o := .cells #[.string t324, .int .i64 t325, .int .i64 t326, .int .i64 t327, .int .i64 t328, .int .i64 t329] 33 (0, 0)) (by (with_reducible repeat (first | refine blk_drewN ?_ _ | refine blk_drew ?_ | refine blk_alloc ?_ _)); refine blk_put (cs := #[.string t324, .int .i64 t325, .int .i64 t326, .int .i64 t327, .int .i64 t328, .int .i64 0]) ?_ 5 _ rfl; (with_reducible repeat (first | refine blk_drewN ?_ _ | refine blk_drew ?_ | refine blk_alloc ?_ _)); refine blk_put (cs := #[.string t324, .int .i64 t325, .int .i64 t326, .int .i64 t327, .int .i64 0, .int .i64 0]) ?_ 4 _ rfl; (with_reducible repeat (first | refine blk_drewN ?_ _ | refine blk_drew ?_ | refine blk_alloc ?_ _)); refine blk_put (cs := #[.string t324, .int .i64 t325, .int .i64 t326, .int .i64 0, .int .i64 0, .int .i64 0]) ?_ 3 _ rfl; (with_reducible repeat (first | refine blk_drewN ?_ _ | refine blk_drew ?_ | refine blk_alloc ?_ _)); refine blk_put (cs := #[.string t324, .int .i64 t325, .int .i64 0, .int .i64 0, .int .i64 0, .int .i64 0]) ?_ 2 _ rfl; (with_reducible repeat (first | refine blk_drewN ?_ _ | refine blk_drew ?_ | refine blk_alloc ?_ _)); refine blk_put (cs := #[.string t324, .int .i64 0, .int .i64 0, .int .i64 0, .int .i64 0, .int .i64 0]) ?_ 1 _ rfl; (with_reducible repeat (first | refine blk_drewN ?_ _ | refine blk_drew ?_ | refine blk_alloc ?_ _)); refine blk_put (cs := #[.string (⟨#[]⟩ : ByteArray), .int .i64 0, .int .i64 0, .int .i64 0, .int .i64 0, .int .i64 0]) ?_ 0 _ rfl; (with_reducible repeat (first | refine blk_drewN ?_ _ | refine blk_drew ?_ | refine blk_alloc ?_ _)); exact BK331.out) hb); have n3_ := Aside0.mk (below_step (by repeat (first | (with_reducible first | exact HB.out | apply below_alloc | apply pw_below_drewN | apply below_drew1 | refine below_set ?_ GE331.out) | exact HB.out)) hb); clear HO319; clear HO323; clear BK331; clear HB; have HO319 := n0_; have HO323 := n1_; have BK331 := n2_; have HB := n3_; clear n0_ n1_ n2_ n3_; (try clear hb); (try clear hb2); (try clear hk); (try clear hi); obtain ⟨Ao93, co93, eo93⟩ := Kd.R_slice HO323.out; subst eo93))
        go_ret
        exact ⟨by first | rfl | (simp [errW_none, errW_some] <;> rfl) | (simp only [← hji5]; first | rfl | (simp [errW_none, errW_some] <;> rfl)) | (simp [*, errW_none, errW_some] <;> rfl), by repeat (first | (with_reducible first | exact HB.out | apply below_alloc | apply pw_below_drewN | apply below_drew1 | refine below_set ?_ GE331.out) | exact HB.out)⟩
       ·rw [if_neg c84] at H
        have c84b0 : decide (a2 < 1) = false := decide_eq_false c84
        clear c84
        obtain rfl := Option.some.inj H
        go_enter Try.func4, Try.ntmps4
        try go_wp2
        have n0_ := Aside0.mk (below_drew1 HB.out)
        clear HB
        have HB := n0_
        clear n0_
        refine start_ (n := 9) (S := fun w' => True) (ds := []) #[false, false, false, false, false, false, false, false, false] (by kernel_rfl) rfl rfl trivial (fun hHeld => ?_); refine with_tabW tarrylaw08_StockBack.tab1 tarrylaw08_StockBack.bits1 (fun HT_ HW_ => ?_)
        generalize w.drew = w94 at HB hHeld ⊢
        refine pure_ (i := 0) (N := some 17) (v := ?_) (a' := ?_) #[true, false, false, false, false, false, false, false, false] rfl rfl (any_of HT_.out (by kernel_rfl)) (fun _ _ _ h => h) (Or.inl ⟨by rfl, ?_⟩) ?_ ?_
        rotate_left
        ·intro w'
         go_simp
         with_reducible rfl
        rotate_left
        ·simp only [Act.put, List.setIfInBounds_toArray, List.set_cons_zero, List.set_cons_succ, i64_w, i32_w]
         rfl
        refine pure_ (i := 2) (N := some 19) (v := ?_) (a' := ?_) #[true, false, true, false, false, false, false, false, false] rfl rfl (any_of HT_.out (by kernel_rfl)) (fun _ _ _ h => h) (Or.inl ⟨by rfl, ?_⟩) ?_ ?_
        rotate_left
        ·intro w'
         go_simp
         with_reducible rfl
        rotate_left
        ·simp only [Act.put, List.setIfInBounds_toArray, List.set_cons_zero, List.set_cons_succ, i64_w, i32_w]
         rfl
        refine pure_ (i := 3) (N := some 20) (v := ?_) (a' := ?_) #[true, false, true, true, false, false, false, false, false] rfl rfl (any_of HT_.out (by kernel_rfl)) (fun _ _ _ h => h) (Or.inl ⟨by rfl, ?_⟩) ?_ ?_
        rotate_left
        ·intro w'
         go_simp
         with_reducible rfl
        rotate_left
        ·simp only [Act.put, List.setIfInBounds_toArray, List.set_cons_zero, List.set_cons_succ, i64_w, i32_w]
         rfl
        refine pure_ (i := 4) (N := some 21) (v := ?_) (a' := ?_) #[true, false, true, true, true, false, false, false, false] rfl rfl (any_of HT_.out (by kernel_rfl)) (fun _ _ _ h => h) (Or.inl ⟨by rfl, ?_⟩) ?_ ?_
        rotate_left
        ·intro w'
         go_simp
         with_reducible rfl
        rotate_left
        ·simp only [Act.put, List.setIfInBounds_toArray, List.set_cons_zero, List.set_cons_succ, i64_w, i32_w]
         rfl
        refine pure_ (i := 5) (N := some 22) (v := ?_) (a' := ?_) #[true, false, true, true, true, true, false, false, false] rfl rfl (any_of HT_.out (by kernel_rfl)) (fun _ _ _ h => h) (Or.inl ⟨by rfl, ?_⟩) ?_ ?_
        rotate_left
        ·intro w'
         go_simp
         with_reducible rfl
        rotate_left
        ·simp only [Act.put, List.setIfInBounds_toArray, List.set_cons_zero, List.set_cons_succ, i64_w, i32_w]
         rfl
        refine pure_ (i := 6) (N := some 23) (v := ?_) (a' := ?_) #[true, false, true, true, true, true, true, false, false] rfl rfl (any_of HT_.out (by kernel_rfl)) (fun _ _ _ h => h) (Or.inl ⟨by rfl, ?_⟩) ?_ ?_
        rotate_left
        ·intro w'
         go_simp
         with_reducible rfl
        rotate_left
        ·simp only [Act.put, List.setIfInBounds_toArray, List.set_cons_zero, List.set_cons_succ, i64_w, i32_w]
         rfl
        refine one_ (i := 1) (N := some 18) #[true, true, true, true, true, true, true, false, false] rfl rfl (one_of HT_.out (by kernel_rfl)) (by decide) (fun K hK => ?_)
        refine goes_ Try.func6 (by kernel_rfl) rfl #[.slice A0 l0.length c0] (by rfl) rfl rfl (by (try simp only [List.map_toArray, List.map_cons, List.map_nil]); first | done | rfl | (simp only [List.length_drop, List.length_take]; rfl)) ?_
        with_reducible refine (tarrylaw08_few.calls k _ _ l0 t317 _ ?side1 ?side2 A4.out).mono ?_
        (case side1 => repeat (first | exact (Kd.C_below HR0.out HB.out) | (with_reducible refine Kd.C_alloc ?_ _) | (with_reducible refine Kd.C_drewN ?_ _) | (with_reducible refine Kd.C_drew ?_)))
        (case side2 => exact HC0.out)
        rintro e w95 ⟨v318, rfl, ho0, hb⟩
        refine ⟨_, rfl, ?_⟩
        have n0_ := Aside0.mk (Kd.R_lower ho0 (below_size (by repeat (first | (with_reducible first | exact HB.out | apply below_alloc | apply pw_below_drewN | apply below_drew1) | exact HB.out))))
        have n1_ := Aside0.mk (below_step (by repeat (first | (with_reducible first | exact HB.out | apply below_alloc | apply pw_below_drewN | apply below_drew1) | exact HB.out)) hb)
        clear HB
        have HO319 := n0_
        have HB := n1_
        clear n0_ n1_
        (try clear hb)
        (try clear hb2)
        (try clear hk)
        (try clear hi)
        (try clear ho0)
        refine hK.out _ _ trivial (fun hHeld => ?_)
        clear hK K
        refine norm_ (a' := ?_) ?_ ?_
        rotate_left
        ·show Act.put _ (some 18) _ = _
         simp only [Act.put, List.setIfInBounds_toArray, List.set_cons_zero, List.set_cons_succ, i64_w, i32_w]
         rfl
        refine pure_ (i := 7) (N := some 0) (v := ?_) (a' := ?_) #[true, true, true, true, true, true, true, true, false] rfl rfl (any_of HT_.out (by kernel_rfl)) (fun _ _ _ h => h) (Or.inl ⟨by rfl, ?_⟩) ?_ ?_
        rotate_left
        ·intro w'
         go_simp
         with_reducible rfl
        rotate_left
        ·simp only [Act.put, List.setIfInBounds_toArray, List.set_cons_zero, List.set_cons_succ, i64_w, i32_w]
         rfl
        refine pure_ (i := 8) (N := some 1) (v := ?_) (a' := ?_) #[true, true, true, true, true, true, true, true, true] rfl rfl (any_of HT_.out (by kernel_rfl)) (fun _ _ _ h => h) (Or.inl ⟨by rfl, ?_⟩) ?_ ?_
        rotate_left
        ·intro w'
         go_simp
         with_reducible rfl
        rotate_left
        ·simp only [Act.put, List.setIfInBounds_toArray, List.set_cons_zero, List.set_cons_succ, i64_w, i32_w]
         rfl
        refine done_ (done_of HT_.out (by kernel_rfl)) ?_
        obtain ⟨Ao96, co96, eo96⟩ := Kd.R_slice HO319.out
        subst eo96
        try go_wp2_with (first | ((with_reducible refine gate_callee (f := 11) rfl ?_); refine goesL_ (some 28) rfl rfl Try.func11 (by kernel_rfl) rfl #[.slice Ao96 t317.length co96, .string (a1.extract 0 ((ji5) : Int).toNat), .int .i64 a2] rfl (by (try simp only [List.map_toArray, List.map_cons, List.map_nil]); first | done | (simp only [hji5]; rfl) | rfl | (simp only [List.length_drop, List.length_take]; rfl)) ?_; (with_reducible refine (stock_Hold.calls _ _ t317 (a1.extract 0 ((ji5) : Int).toNat) a2 t320 t321 _ ?side1 ?side2 A8.out).mono ?_); (case side1 => repeat (first | exact (Kd.R_reads' HO319.out).2.2 | (with_reducible refine Kd.C_alloc ?_ _) | (with_reducible refine Kd.C_drewN ?_ _) | (with_reducible refine Kd.C_drew ?_))); (case side2 => exact (Kd.R_reads' HO319.out).2.1); rintro e w97 ⟨v322, rfl, ho0, hb⟩; refine ⟨_, rfl, ?_⟩; have n0_ := Aside0.mk (Kd.R_elder' (by (with_reducible repeat (first | apply Kd.R_alloc | apply Kd.R_drewN | apply Kd.R_drew)); exact HO319.out) (Kd.R_base ho0) hb); have n1_ := Aside0.mk (Kd.R_lower (Kd.R_new' ho0 (Kd.R_lt (by (with_reducible repeat (first | apply Kd.R_alloc | apply Kd.R_drewN | apply Kd.R_drew)); exact HO319.out))) (below_size (by repeat (first | (with_reducible first | exact HB.out | apply below_alloc | apply pw_below_drewN | apply below_drew1) | exact HB.out)))); have n2_ := Aside0.mk (below_step (by repeat (first | (with_reducible first | exact HB.out | apply below_alloc | apply pw_below_drewN | apply below_drew1) | exact HB.out)) hb); clear HO319; clear HB; have HO319 := n0_; have HO323 := n1_; have HB := n2_; clear n0_ n1_ n2_; (try clear hb); (try clear hb2); (try clear hk); (try clear hi); (try clear ho0)) | ((with_reducible refine gate_callee (f := 12) rfl ?_); refine goesL_ (some 34) rfl rfl Try.func12 (by kernel_rfl) rfl #[.slice Ao96 t317.length co96, .string (a1.extract 0 ((ji5) : Int).toNat)] rfl (by (try simp only [List.map_toArray, List.map_cons, List.map_nil]); first | done | (simp only [hji5]; rfl) | rfl | (simp only [List.length_drop, List.length_take]; rfl)) ?_; (with_reducible refine (stock_Get.calls _ _ t317 (a1.extract 0 ((ji5) : Int).toNat) t324 t325 t326 t327 t328 t329 t330 _ ?side1 ?side2 A9.out).mono ?_); (case side1 => repeat (first | exact (Kd.R_reads' HO319.out).2.2 | (with_reducible refine Kd.C_alloc ?_ _) | (with_reducible refine Kd.C_drewN ?_ _) | (with_reducible refine Kd.C_drew ?_))); (case side2 => exact (Kd.R_reads' HO319.out).2.1); rintro e w98 ⟨rfl, hb⟩; refine ⟨_, rfl, ?_⟩; have n0_ := Aside0.mk (Kd.R_below (by (with_reducible repeat (first | apply Kd.R_alloc | apply Kd.R_drewN | apply Kd.R_drew)); exact HO319.out) hb); have n1_ := Aside0.mk (Kd.R_below (by (with_reducible repeat (first | apply Kd.R_alloc | apply Kd.R_drewN | apply Kd.R_drew)); exact HO323.out) hb); have n2_ := Aside0.mk (below_step (by repeat (first | (with_reducible first | exact HB.out | apply below_alloc | apply pw_below_drewN | apply below_drew1) | exact HB.out)) hb); clear HO319; clear HO323; clear HB; have HO319 := n0_; have HO323 := n1_; have HB := n2_; clear n0_ n1_ n2_; (try clear hb); (try clear hb2); (try clear hk); (try clear hi)) | ((with_reducible refine gate_dst (N := 9) rfl ?_); (try (refine gate_guard (by rfl) ?_; dsimp only)); refine box_event ?hg (N := 9) ?hd (cs := #[.string (⟨#[]⟩ : ByteArray), .int .i64 0, .int .i64 0, .int .i64 0, .int .i64 0, .int .i64 0]) (t := 33) ?hr ?_; (case hd => rfl); (case hg => rfl); (case hr => first | (go_simp; done) | (go_simp; rfl)); intro gb331 hg w99 hbox hb; have n0_ := Aside0.mk (Kd.R_below (Kd.R_elderB (by (with_reducible repeat (first | apply Kd.R_alloc | apply Kd.R_drewN | apply Kd.R_drew)); exact HO319.out) gb331 (Nat.le_of_eq hg.symm)) hb); have n1_ := Aside0.mk (Kd.R_below (Kd.R_elderB (by (with_reducible repeat (first | apply Kd.R_alloc | apply Kd.R_drewN | apply Kd.R_drew)); exact HO323.out) gb331 (Nat.le_of_eq hg.symm)) hb); have n2_ := Aside0.mk (below_step (by repeat (first | (with_reducible first | exact HB.out | apply below_alloc | apply pw_below_drewN | apply below_drew1) | exact HB.out)) hb); have n3_ := Aside0.mk (hbox); have n4_ := Aside0.mk ((by rw [hg]; exact (below_size (by repeat (first | (with_reducible first | exact HB.out | apply below_alloc | apply pw_below_drewN | apply below_drew1) | exact HB.out))) : w.heap.size ≤ gb331)); have n5_ := Aside0.mk ((by rw [hg]; exact (below_size (by repeat (first | (with_reducible first | exact HB.out | apply below_alloc | apply pw_below_drewN | apply below_drew1) | exact HB.out))) : w.heap.size ≤ gb331)); clear HO319; clear HO323; clear HB; have HO319 := n0_; have HO323 := n1_; have HB := n2_; have BK331 := n3_; have GW331 := n4_; have GE331 := n5_; clear n0_ n1_ n2_ n3_ n4_ n5_; clear hb hbox hg; have hcz100_0 : w99.cell? ⟨gb331, 0, none⟩ = some (.string (⟨#[]⟩ : ByteArray)) := (blk_cell BK331.out 0).trans rfl; have hcz100_1 : w99.cell? ⟨gb331, 1, none⟩ = some (.int .i64 0) := (blk_cell BK331.out 1).trans rfl; have hcz100_2 : w99.cell? ⟨gb331, 2, none⟩ = some (.int .i64 0) := (blk_cell BK331.out 2).trans rfl; have hcz100_3 : w99.cell? ⟨gb331, 3, none⟩ = some (.int .i64 0) := (blk_cell BK331.out 3).trans rfl; have hcz100_4 : w99.cell? ⟨gb331, 4, none⟩ = some (.int .i64 0) := (blk_cell BK331.out 4).trans rfl; have hcz100_5 : w99.cell? ⟨gb331, 5, none⟩ = some (.int .i64 0) := (blk_cell BK331.out 5).trans rfl; have hfz100_0 := blk_frozen BK331.out 0; have hfz100_1 := blk_frozen BK331.out 1; have hfz100_2 := blk_frozen BK331.out 2; have hfz100_3 := blk_frozen BK331.out 3; have hfz100_4 := blk_frozen BK331.out 4; have hfz100_5 := blk_frozen BK331.out 5) | ((with_reducible refine gate_callee (f := 7) rfl ?_); refine goesL_ (some 39) rfl rfl Try.func7 (by kernel_rfl) rfl #[] rfl (by (try simp only [List.map_toArray, List.map_cons, List.map_nil]); first | done | rfl | (simp only [List.length_drop, List.length_take]; rfl)) ?_; (with_reducible refine (tarrylaw08_alive.calls k  true _ A80.out).mono ?_); rintro e w101 ⟨rfl, hb⟩; refine ⟨_, rfl, ?_⟩; have n0_ := Aside0.mk (Kd.R_below (by (with_reducible repeat (first | apply Kd.R_alloc | apply Kd.R_drewN | apply Kd.R_drew)); exact (Kd.R_mono (Kd.R_far (p := ⟨gb331, 5, none⟩) (Kd.R_far (p := ⟨gb331, 4, none⟩) (Kd.R_far (p := ⟨gb331, 3, none⟩) (Kd.R_far (p := ⟨gb331, 2, none⟩) (Kd.R_far (p := ⟨gb331, 1, none⟩) (Kd.R_far (p := ⟨gb331, 0, none⟩) (Kd.R_mono HO319.out (fun k_ hk => (⟨hk, hk.2⟩ : _ ∧ k_ ≠ gb331))) (fun _ hk => hk.2) (.string t324)) (fun _ hk => hk.2) (.int .i64 t325)) (fun _ hk => hk.2) (.int .i64 t326)) (fun _ hk => hk.2) (.int .i64 t327)) (fun _ hk => hk.2) (.int .i64 t328)) (fun _ hk => hk.2) (.int .i64 t329)) (fun _ h_ => h_.1))) hb); have n1_ := Aside0.mk (Kd.R_below (by (with_reducible repeat (first | apply Kd.R_alloc | apply Kd.R_drewN | apply Kd.R_drew)); exact (Kd.R_mono (Kd.R_far (p := ⟨gb331, 5, none⟩) (Kd.R_far (p := ⟨gb331, 4, none⟩) (Kd.R_far (p := ⟨gb331, 3, none⟩) (Kd.R_far (p := ⟨gb331, 2, none⟩) (Kd.R_far (p := ⟨gb331, 1, none⟩) (Kd.R_far (p := ⟨gb331, 0, none⟩) (Kd.R_mono HO323.out (fun k_ hk => (⟨hk, hk.2⟩ : _ ∧ k_ ≠ gb331))) (fun _ hk => hk.2) (.string t324)) (fun _ hk => hk.2) (.int .i64 t325)) (fun _ hk => hk.2) (.int .i64 t326)) (fun _ hk => hk.2) (.int .i64 t327)) (fun _ hk => hk.2) (.int .i64 t328)) (fun _ hk => hk.2) (.int .i64 t329)) (fun _ h_ => h_.1))) hb); have n2_ := Aside0.mk (blk_below (g := gb331) (o := .cells #[.string t324, .int .i64 t325, .int .i64 t326, .int .i64 t327, .int .i64 t328, .int .i64 t329] 33 (0, 0)) (by (with_reducible repeat (first | refine blk_drewN ?_ _ | refine blk_drew ?_ | refine blk_alloc ?_ _)); refine blk_put (cs := #[.string t324, .int .i64 t325, .int .i64 t326, .int .i64 t327, .int .i64 t328, .int .i64 0]) ?_ 5 _ rfl; (with_reducible repeat (first | refine blk_drewN ?_ _ | refine blk_drew ?_ | refine blk_alloc ?_ _)); refine blk_put (cs := #[.string t324, .int .i64 t325, .int .i64 t326, .int .i64 t327, .int .i64 0, .int .i64 0]) ?_ 4 _ rfl; (with_reducible repeat (first | refine blk_drewN ?_ _ | refine blk_drew ?_ | refine blk_alloc ?_ _)); refine blk_put (cs := #[.string t324, .int .i64 t325, .int .i64 t326, .int .i64 0, .int .i64 0, .int .i64 0]) ?_ 3 _ rfl; (with_reducible repeat (first | refine blk_drewN ?_ _ | refine blk_drew ?_ | refine blk_alloc ?_ _)); refine blk_put (cs := #[.string t324, .int .i64 t325, .int .i64 0, .int .i64 0, .int .i64 0, .int .i64 0]) ?_ 2 _ rfl; (with_reducible repeat (first | refine blk_drewN ?_ _ | refine blk_drew ?_ | refine blk_alloc ?_ _)); refine blk_put (cs := #[.string t324, .int .i64 0, .int .i64 0, .int .i64 0, .int .i64 0, .int .i64 0]) ?_ 1 _ rfl; (with_reducible repeat (first | refine blk_drewN ?_ _ | refine blk_drew ?_ | refine blk_alloc ?_ _)); refine blk_put (cs := #[.string (⟨#[]⟩ : ByteArray), .int .i64 0, .int .i64 0, .int .i64 0, .int .i64 0, .int .i64 0]) ?_ 0 _ rfl; (with_reducible repeat (first | refine blk_drewN ?_ _ | refine blk_drew ?_ | refine blk_alloc ?_ _)); exact BK331.out) hb); have n3_ := Aside0.mk (below_step (by repeat (first | (with_reducible first | exact HB.out | apply below_alloc | apply pw_below_drewN | apply below_drew1 | refine below_set ?_ GE331.out) | exact HB.out)) hb); clear HO319; clear HO323; clear BK331; clear HB; have HO319 := n0_; have HO323 := n1_; have BK331 := n2_; have HB := n3_; clear n0_ n1_ n2_ n3_; (try clear hb); (try clear hb2); (try clear hk); (try clear hi); obtain ⟨Ao102, co102, eo102⟩ := Kd.R_slice HO323.out; subst eo102; have hcz103_0 : w101.cell? ⟨gb331, 0, none⟩ = some (.string t324) := (blk_cell BK331.out 0).trans rfl; have hcz103_1 : w101.cell? ⟨gb331, 1, none⟩ = some (.int .i64 t325) := (blk_cell BK331.out 1).trans rfl; have hcz103_2 : w101.cell? ⟨gb331, 2, none⟩ = some (.int .i64 t326) := (blk_cell BK331.out 2).trans rfl; have hcz103_3 : w101.cell? ⟨gb331, 3, none⟩ = some (.int .i64 t327) := (blk_cell BK331.out 3).trans rfl; have hcz103_4 : w101.cell? ⟨gb331, 4, none⟩ = some (.int .i64 t328) := (blk_cell BK331.out 4).trans rfl; have hcz103_5 : w101.cell? ⟨gb331, 5, none⟩ = some (.int .i64 t329) := (blk_cell BK331.out 5).trans rfl; have hfz103_0 := blk_frozen BK331.out 0; have hfz103_1 := blk_frozen BK331.out 1; have hfz103_2 := blk_frozen BK331.out 2; have hfz103_3 := blk_frozen BK331.out 3; have hfz103_4 := blk_frozen BK331.out 4; have hfz103_5 := blk_frozen BK331.out 5))
        go_ret
        exact ⟨by first | rfl | (simp [errW_none, errW_some] <;> rfl) | (simp only [← hji5]; first | rfl | (simp [errW_none, errW_some] <;> rfl)) | (simp [*, errW_none, errW_some] <;> rfl), by repeat (first | (with_reducible first | exact HB.out | apply below_alloc | apply pw_below_drewN | apply below_drew1 | refine below_set ?_ GE331.out) | exact HB.out)⟩
      ·rw [if_neg c83] at H
       have c83b0 : (t330 == 0) = false := beq_eq_false_iff_ne.mpr c83
       have c83b1 : (t330 != 0) = true := bne_iff_ne.mpr c83
       obtain rfl := Option.some.inj H
       go_enter Try.func4, Try.ntmps4
       try go_wp2
       have n0_ := Aside0.mk (below_drew1 HB.out)
       clear HB
       have HB := n0_
       clear n0_
       refine start_ (n := 9) (S := fun w' => True) (ds := []) #[false, false, false, false, false, false, false, false, false] (by kernel_rfl) rfl rfl trivial (fun hHeld => ?_); refine with_tabW tarrylaw08_StockBack.tab1 tarrylaw08_StockBack.bits1 (fun HT_ HW_ => ?_)
       generalize w.drew = w104 at HB hHeld ⊢
       refine pure_ (i := 0) (N := some 17) (v := ?_) (a' := ?_) #[true, false, false, false, false, false, false, false, false] rfl rfl (any_of HT_.out (by kernel_rfl)) (fun _ _ _ h => h) (Or.inl ⟨by rfl, ?_⟩) ?_ ?_
       rotate_left
       ·intro w'
        go_simp
        with_reducible rfl
       rotate_left
       ·simp only [Act.put, List.setIfInBounds_toArray, List.set_cons_zero, List.set_cons_succ, i64_w, i32_w]
        rfl
       refine pure_ (i := 2) (N := some 19) (v := ?_) (a' := ?_) #[true, false, true, false, false, false, false, false, false] rfl rfl (any_of HT_.out (by kernel_rfl)) (fun _ _ _ h => h) (Or.inl ⟨by rfl, ?_⟩) ?_ ?_
       rotate_left
       ·intro w'
        go_simp
        with_reducible rfl
       rotate_left
       ·simp only [Act.put, List.setIfInBounds_toArray, List.set_cons_zero, List.set_cons_succ, i64_w, i32_w]
        rfl
       refine pure_ (i := 3) (N := some 20) (v := ?_) (a' := ?_) #[true, false, true, true, false, false, false, false, false] rfl rfl (any_of HT_.out (by kernel_rfl)) (fun _ _ _ h => h) (Or.inl ⟨by rfl, ?_⟩) ?_ ?_
       rotate_left
       ·intro w'
        go_simp
        with_reducible rfl
       rotate_left
       ·simp only [Act.put, List.setIfInBounds_toArray, List.set_cons_zero, List.set_cons_succ, i64_w, i32_w]
        rfl
       refine pure_ (i := 4) (N := some 21) (v := ?_) (a' := ?_) #[true, false, true, true, true, false, false, false, false] rfl rfl (any_of HT_.out (by kernel_rfl)) (fun _ _ _ h => h) (Or.inl ⟨by rfl, ?_⟩) ?_ ?_
       rotate_left
       ·intro w'
        go_simp
        with_reducible rfl
       rotate_left
       ·simp only [Act.put, List.setIfInBounds_toArray, List.set_cons_zero, List.set_cons_succ, i64_w, i32_w]
        rfl
       refine pure_ (i := 5) (N := some 22) (v := ?_) (a' := ?_) #[true, false, true, true, true, true, false, false, false] rfl rfl (any_of HT_.out (by kernel_rfl)) (fun _ _ _ h => h) (Or.inl ⟨by rfl, ?_⟩) ?_ ?_
       rotate_left
       ·intro w'
        go_simp
        with_reducible rfl
       rotate_left
       ·simp only [Act.put, List.setIfInBounds_toArray, List.set_cons_zero, List.set_cons_succ, i64_w, i32_w]
        rfl
       refine pure_ (i := 6) (N := some 23) (v := ?_) (a' := ?_) #[true, false, true, true, true, true, true, false, false] rfl rfl (any_of HT_.out (by kernel_rfl)) (fun _ _ _ h => h) (Or.inl ⟨by rfl, ?_⟩) ?_ ?_
       rotate_left
       ·intro w'
        go_simp
        with_reducible rfl
       rotate_left
       ·simp only [Act.put, List.setIfInBounds_toArray, List.set_cons_zero, List.set_cons_succ, i64_w, i32_w]
        rfl
       refine one_ (i := 1) (N := some 18) #[true, true, true, true, true, true, true, false, false] rfl rfl (one_of HT_.out (by kernel_rfl)) (by decide) (fun K hK => ?_)
       refine goes_ Try.func6 (by kernel_rfl) rfl #[.slice A0 l0.length c0] (by rfl) rfl rfl (by (try simp only [List.map_toArray, List.map_cons, List.map_nil]); first | done | rfl | (simp only [List.length_drop, List.length_take]; rfl)) ?_
       with_reducible refine (tarrylaw08_few.calls k _ _ l0 t317 _ ?side1 ?side2 A4.out).mono ?_
       (case side1 => repeat (first | exact (Kd.C_below HR0.out HB.out) | (with_reducible refine Kd.C_alloc ?_ _) | (with_reducible refine Kd.C_drewN ?_ _) | (with_reducible refine Kd.C_drew ?_)))
       (case side2 => exact HC0.out)
       rintro e w105 ⟨v318, rfl, ho0, hb⟩
       refine ⟨_, rfl, ?_⟩
       have n0_ := Aside0.mk (Kd.R_lower ho0 (below_size (by repeat (first | (with_reducible first | exact HB.out | apply below_alloc | apply pw_below_drewN | apply below_drew1) | exact HB.out))))
       have n1_ := Aside0.mk (below_step (by repeat (first | (with_reducible first | exact HB.out | apply below_alloc | apply pw_below_drewN | apply below_drew1) | exact HB.out)) hb)
       clear HB
       have HO319 := n0_
       have HB := n1_
       clear n0_ n1_
       (try clear hb)
       (try clear hb2)
       (try clear hk)
       (try clear hi)
       (try clear ho0)
       refine hK.out _ _ trivial (fun hHeld => ?_)
       clear hK K
       refine norm_ (a' := ?_) ?_ ?_
       rotate_left
       ·show Act.put _ (some 18) _ = _
        simp only [Act.put, List.setIfInBounds_toArray, List.set_cons_zero, List.set_cons_succ, i64_w, i32_w]
        rfl
       refine pure_ (i := 7) (N := some 0) (v := ?_) (a' := ?_) #[true, true, true, true, true, true, true, true, false] rfl rfl (any_of HT_.out (by kernel_rfl)) (fun _ _ _ h => h) (Or.inl ⟨by rfl, ?_⟩) ?_ ?_
       rotate_left
       ·intro w'
        go_simp
        with_reducible rfl
       rotate_left
       ·simp only [Act.put, List.setIfInBounds_toArray, List.set_cons_zero, List.set_cons_succ, i64_w, i32_w]
        rfl
       refine pure_ (i := 8) (N := some 1) (v := ?_) (a' := ?_) #[true, true, true, true, true, true, true, true, true] rfl rfl (any_of HT_.out (by kernel_rfl)) (fun _ _ _ h => h) (Or.inl ⟨by rfl, ?_⟩) ?_ ?_
       rotate_left
       ·intro w'
        go_simp
        with_reducible rfl
       rotate_left
       ·simp only [Act.put, List.setIfInBounds_toArray, List.set_cons_zero, List.set_cons_succ, i64_w, i32_w]
        rfl
       refine done_ (done_of HT_.out (by kernel_rfl)) ?_
       obtain ⟨Ao106, co106, eo106⟩ := Kd.R_slice HO319.out
       subst eo106
       try go_wp2_with (first | ((with_reducible refine gate_callee (f := 11) rfl ?_); refine goesL_ (some 28) rfl rfl Try.func11 (by kernel_rfl) rfl #[.slice Ao106 t317.length co106, .string (a1.extract 0 ((ji5) : Int).toNat), .int .i64 a2] rfl (by (try simp only [List.map_toArray, List.map_cons, List.map_nil]); first | done | (simp only [hji5]; rfl) | rfl | (simp only [List.length_drop, List.length_take]; rfl)) ?_; (with_reducible refine (stock_Hold.calls _ _ t317 (a1.extract 0 ((ji5) : Int).toNat) a2 t320 t321 _ ?side1 ?side2 A8.out).mono ?_); (case side1 => repeat (first | exact (Kd.R_reads' HO319.out).2.2 | (with_reducible refine Kd.C_alloc ?_ _) | (with_reducible refine Kd.C_drewN ?_ _) | (with_reducible refine Kd.C_drew ?_))); (case side2 => exact (Kd.R_reads' HO319.out).2.1); rintro e w107 ⟨v322, rfl, ho0, hb⟩; refine ⟨_, rfl, ?_⟩; have n0_ := Aside0.mk (Kd.R_elder' (by (with_reducible repeat (first | apply Kd.R_alloc | apply Kd.R_drewN | apply Kd.R_drew)); exact HO319.out) (Kd.R_base ho0) hb); have n1_ := Aside0.mk (Kd.R_lower (Kd.R_new' ho0 (Kd.R_lt (by (with_reducible repeat (first | apply Kd.R_alloc | apply Kd.R_drewN | apply Kd.R_drew)); exact HO319.out))) (below_size (by repeat (first | (with_reducible first | exact HB.out | apply below_alloc | apply pw_below_drewN | apply below_drew1) | exact HB.out)))); have n2_ := Aside0.mk (below_step (by repeat (first | (with_reducible first | exact HB.out | apply below_alloc | apply pw_below_drewN | apply below_drew1) | exact HB.out)) hb); clear HO319; clear HB; have HO319 := n0_; have HO323 := n1_; have HB := n2_; clear n0_ n1_ n2_; (try clear hb); (try clear hb2); (try clear hk); (try clear hi); (try clear ho0)) | ((with_reducible refine gate_callee (f := 12) rfl ?_); refine goesL_ (some 34) rfl rfl Try.func12 (by kernel_rfl) rfl #[.slice Ao106 t317.length co106, .string (a1.extract 0 ((ji5) : Int).toNat)] rfl (by (try simp only [List.map_toArray, List.map_cons, List.map_nil]); first | done | (simp only [hji5]; rfl) | rfl | (simp only [List.length_drop, List.length_take]; rfl)) ?_; (with_reducible refine (stock_Get.calls _ _ t317 (a1.extract 0 ((ji5) : Int).toNat) t324 t325 t326 t327 t328 t329 t330 _ ?side1 ?side2 A9.out).mono ?_); (case side1 => repeat (first | exact (Kd.R_reads' HO319.out).2.2 | (with_reducible refine Kd.C_alloc ?_ _) | (with_reducible refine Kd.C_drewN ?_ _) | (with_reducible refine Kd.C_drew ?_))); (case side2 => exact (Kd.R_reads' HO319.out).2.1); rintro e w108 ⟨rfl, hb⟩; refine ⟨_, rfl, ?_⟩; have n0_ := Aside0.mk (Kd.R_below (by (with_reducible repeat (first | apply Kd.R_alloc | apply Kd.R_drewN | apply Kd.R_drew)); exact HO319.out) hb); have n1_ := Aside0.mk (Kd.R_below (by (with_reducible repeat (first | apply Kd.R_alloc | apply Kd.R_drewN | apply Kd.R_drew)); exact HO323.out) hb); have n2_ := Aside0.mk (below_step (by repeat (first | (with_reducible first | exact HB.out | apply below_alloc | apply pw_below_drewN | apply below_drew1) | exact HB.out)) hb); clear HO319; clear HO323; clear HB; have HO319 := n0_; have HO323 := n1_; have HB := n2_; clear n0_ n1_ n2_; (try clear hb); (try clear hb2); (try clear hk); (try clear hi)) | ((with_reducible refine gate_dst (N := 9) rfl ?_); (try (refine gate_guard (by rfl) ?_; dsimp only)); refine box_event ?hg (N := 9) ?hd (cs := #[.string (⟨#[]⟩ : ByteArray), .int .i64 0, .int .i64 0, .int .i64 0, .int .i64 0, .int .i64 0]) (t := 33) ?hr ?_; (case hd => rfl); (case hg => rfl); (case hr => first | (go_simp; done) | (go_simp; rfl)); intro gb331 hg w109 hbox hb; have n0_ := Aside0.mk (Kd.R_below (Kd.R_elderB (by (with_reducible repeat (first | apply Kd.R_alloc | apply Kd.R_drewN | apply Kd.R_drew)); exact HO319.out) gb331 (Nat.le_of_eq hg.symm)) hb); have n1_ := Aside0.mk (Kd.R_below (Kd.R_elderB (by (with_reducible repeat (first | apply Kd.R_alloc | apply Kd.R_drewN | apply Kd.R_drew)); exact HO323.out) gb331 (Nat.le_of_eq hg.symm)) hb); have n2_ := Aside0.mk (below_step (by repeat (first | (with_reducible first | exact HB.out | apply below_alloc | apply pw_below_drewN | apply below_drew1) | exact HB.out)) hb); have n3_ := Aside0.mk (hbox); have n4_ := Aside0.mk ((by rw [hg]; exact (below_size (by repeat (first | (with_reducible first | exact HB.out | apply below_alloc | apply pw_below_drewN | apply below_drew1) | exact HB.out))) : w.heap.size ≤ gb331)); have n5_ := Aside0.mk ((by rw [hg]; exact (below_size (by repeat (first | (with_reducible first | exact HB.out | apply below_alloc | apply pw_below_drewN | apply below_drew1) | exact HB.out))) : w.heap.size ≤ gb331)); clear HO319; clear HO323; clear HB; have HO319 := n0_; have HO323 := n1_; have HB := n2_; have BK331 := n3_; have GW331 := n4_; have GE331 := n5_; clear n0_ n1_ n2_ n3_ n4_ n5_; clear hb hbox hg; have hcz110_0 : w109.cell? ⟨gb331, 0, none⟩ = some (.string (⟨#[]⟩ : ByteArray)) := (blk_cell BK331.out 0).trans rfl; have hcz110_1 : w109.cell? ⟨gb331, 1, none⟩ = some (.int .i64 0) := (blk_cell BK331.out 1).trans rfl; have hcz110_2 : w109.cell? ⟨gb331, 2, none⟩ = some (.int .i64 0) := (blk_cell BK331.out 2).trans rfl; have hcz110_3 : w109.cell? ⟨gb331, 3, none⟩ = some (.int .i64 0) := (blk_cell BK331.out 3).trans rfl; have hcz110_4 : w109.cell? ⟨gb331, 4, none⟩ = some (.int .i64 0) := (blk_cell BK331.out 4).trans rfl; have hcz110_5 : w109.cell? ⟨gb331, 5, none⟩ = some (.int .i64 0) := (blk_cell BK331.out 5).trans rfl; have hfz110_0 := blk_frozen BK331.out 0; have hfz110_1 := blk_frozen BK331.out 1; have hfz110_2 := blk_frozen BK331.out 2; have hfz110_3 := blk_frozen BK331.out 3; have hfz110_4 := blk_frozen BK331.out 4; have hfz110_5 := blk_frozen BK331.out 5) | ((with_reducible refine gate_callee (f := 7) rfl ?_); refine goesL_ (some 39) rfl rfl Try.func7 (by kernel_rfl) rfl #[] rfl (by (try simp only [List.map_toArray, List.map_cons, List.map_nil]); first | done | rfl | (simp only [List.length_drop, List.length_take]; rfl)) ?_; (with_reducible refine (tarrylaw08_alive.calls k  true _ A80.out).mono ?_); rintro e w111 ⟨rfl, hb⟩; refine ⟨_, rfl, ?_⟩; have n0_ := Aside0.mk (Kd.R_below (by (with_reducible repeat (first | apply Kd.R_alloc | apply Kd.R_drewN | apply Kd.R_drew)); exact (Kd.R_mono (Kd.R_far (p := ⟨gb331, 5, none⟩) (Kd.R_far (p := ⟨gb331, 4, none⟩) (Kd.R_far (p := ⟨gb331, 3, none⟩) (Kd.R_far (p := ⟨gb331, 2, none⟩) (Kd.R_far (p := ⟨gb331, 1, none⟩) (Kd.R_far (p := ⟨gb331, 0, none⟩) (Kd.R_mono HO319.out (fun k_ hk => (⟨hk, hk.2⟩ : _ ∧ k_ ≠ gb331))) (fun _ hk => hk.2) (.string t324)) (fun _ hk => hk.2) (.int .i64 t325)) (fun _ hk => hk.2) (.int .i64 t326)) (fun _ hk => hk.2) (.int .i64 t327)) (fun _ hk => hk.2) (.int .i64 t328)) (fun _ hk => hk.2) (.int .i64 t329)) (fun _ h_ => h_.1))) hb); have n1_ := Aside0.mk (Kd.R_below (by (with_reducible repeat (first | apply Kd.R_alloc | apply Kd.R_drewN | apply Kd.R_drew)); exact (Kd.R_mono (Kd.R_far (p := ⟨gb331, 5, none⟩) (Kd.R_far (p := ⟨gb331, 4, none⟩) (Kd.R_far (p := ⟨gb331, 3, none⟩) (Kd.R_far (p := ⟨gb331, 2, none⟩) (Kd.R_far (p := ⟨gb331, 1, none⟩) (Kd.R_far (p := ⟨gb331, 0, none⟩) (Kd.R_mono HO323.out (fun k_ hk => (⟨hk, hk.2⟩ : _ ∧ k_ ≠ gb331))) (fun _ hk => hk.2) (.string t324)) (fun _ hk => hk.2) (.int .i64 t325)) (fun _ hk => hk.2) (.int .i64 t326)) (fun _ hk => hk.2) (.int .i64 t327)) (fun _ hk => hk.2) (.int .i64 t328)) (fun _ hk => hk.2) (.int .i64 t329)) (fun _ h_ => h_.1))) hb); have n2_ := Aside0.mk (blk_below (g := gb331) (o := .cells #[.string t324, .int .i64 t325, .int .i64 t326, .int .i64 t327, .int .i64 t328, .int .i64 t329] 33 (0, 0)) (by (with_reducible repeat (first | refine blk_drewN ?_ _ | refine blk_drew ?_ | refine blk_alloc ?_ _)); refine blk_put (cs := #[.string t324, .int .i64 t325, .int .i64 t326, .int .i64 t327, .int .i64 t328, .int .i64 0]) ?_ 5 _ rfl; (with_reducible repeat (first | refine blk_drewN ?_ _ | refine blk_drew ?_ | refine blk_alloc ?_ _)); refine blk_put (cs := #[.string t324, .int .i64 t325, .int .i64 t326, .int .i64 t327, .int .i64 0, .int .i64 0]) ?_ 4 _ rfl; (with_reducible repeat (first | refine blk_drewN ?_ _ | refine blk_drew ?_ | refine blk_alloc ?_ _)); refine blk_put (cs := #[.string t324, .int .i64 t325, .int .i64 t326, .int .i64 0, .int .i64 0, .int .i64 0]) ?_ 3 _ rfl; (with_reducible repeat (first | refine blk_drewN ?_ _ | refine blk_drew ?_ | refine blk_alloc ?_ _)); refine blk_put (cs := #[.string t324, .int .i64 t325, .int .i64 0, .int .i64 0, .int .i64 0, .int .i64 0]) ?_ 2 _ rfl; (with_reducible repeat (first | refine blk_drewN ?_ _ | refine blk_drew ?_ | refine blk_alloc ?_ _)); refine blk_put (cs := #[.string t324, .int .i64 0, .int .i64 0, .int .i64 0, .int .i64 0, .int .i64 0]) ?_ 1 _ rfl; (with_reducible repeat (first | refine blk_drewN ?_ _ | refine blk_drew ?_ | refine blk_alloc ?_ _)); refine blk_put (cs := #[.string (⟨#[]⟩ : ByteArray), .int .i64 0, .int .i64 0, .int .i64 0, .int .i64 0, .int .i64 0]) ?_ 0 _ rfl; (with_reducible repeat (first | refine blk_drewN ?_ _ | refine blk_drew ?_ | refine blk_alloc ?_ _)); exact BK331.out) hb); have n3_ := Aside0.mk (below_step (by repeat (first | (with_reducible first | exact HB.out | apply below_alloc | apply pw_below_drewN | apply below_drew1 | refine below_set ?_ GE331.out) | exact HB.out)) hb); clear HO319; clear HO323; clear BK331; clear HB; have HO319 := n0_; have HO323 := n1_; have BK331 := n2_; have HB := n3_; clear n0_ n1_ n2_ n3_; (try clear hb); (try clear hb2); (try clear hk); (try clear hi); obtain ⟨Ao112, co112, eo112⟩ := Kd.R_slice HO323.out; subst eo112))
       go_ret
       exact ⟨by first | rfl | (simp [errW_none, errW_some] <;> rfl) | (simp only [← hji5]; first | rfl | (simp [errW_none, errW_some] <;> rfl)) | (simp [*, errW_none, errW_some] <;> rfl), by repeat (first | (with_reducible first | exact HB.out | apply below_alloc | apply pw_below_drewN | apply below_drew1 | refine below_set ?_ GE331.out) | exact HB.out)⟩
     ·rw [if_neg c82] at H
      have c82b0 : ((t320.length : Int) == 0) = false := beq_eq_false_iff_ne.mpr c82
      have c82b1 : ((t320.length : Int) != 0) = true := bne_iff_ne.mpr c82
      have c82b2 : ¬ (t320 = []) := fun h_ => c82 (by rw [h_]; rfl)
      obtain rfl := Option.some.inj H
      go_enter Try.func4, Try.ntmps4
      try go_wp2
      have n0_ := Aside0.mk (below_drew1 HB.out)
      clear HB
      have HB := n0_
      clear n0_
      refine start_ (n := 9) (S := fun w' => True) (ds := []) #[false, false, false, false, false, false, false, false, false] (by kernel_rfl) rfl rfl trivial (fun hHeld => ?_); refine with_tabW tarrylaw08_StockBack.tab1 tarrylaw08_StockBack.bits1 (fun HT_ HW_ => ?_)
      generalize w.drew = w113 at HB hHeld ⊢
      refine pure_ (i := 0) (N := some 17) (v := ?_) (a' := ?_) #[true, false, false, false, false, false, false, false, false] rfl rfl (any_of HT_.out (by kernel_rfl)) (fun _ _ _ h => h) (Or.inl ⟨by rfl, ?_⟩) ?_ ?_
      rotate_left
      ·intro w'
       go_simp
       with_reducible rfl
      rotate_left
      ·simp only [Act.put, List.setIfInBounds_toArray, List.set_cons_zero, List.set_cons_succ, i64_w, i32_w]
       rfl
      refine pure_ (i := 2) (N := some 19) (v := ?_) (a' := ?_) #[true, false, true, false, false, false, false, false, false] rfl rfl (any_of HT_.out (by kernel_rfl)) (fun _ _ _ h => h) (Or.inl ⟨by rfl, ?_⟩) ?_ ?_
      rotate_left
      ·intro w'
       go_simp
       with_reducible rfl
      rotate_left
      ·simp only [Act.put, List.setIfInBounds_toArray, List.set_cons_zero, List.set_cons_succ, i64_w, i32_w]
       rfl
      refine pure_ (i := 3) (N := some 20) (v := ?_) (a' := ?_) #[true, false, true, true, false, false, false, false, false] rfl rfl (any_of HT_.out (by kernel_rfl)) (fun _ _ _ h => h) (Or.inl ⟨by rfl, ?_⟩) ?_ ?_
      rotate_left
      ·intro w'
       go_simp
       with_reducible rfl
      rotate_left
      ·simp only [Act.put, List.setIfInBounds_toArray, List.set_cons_zero, List.set_cons_succ, i64_w, i32_w]
       rfl
      refine pure_ (i := 4) (N := some 21) (v := ?_) (a' := ?_) #[true, false, true, true, true, false, false, false, false] rfl rfl (any_of HT_.out (by kernel_rfl)) (fun _ _ _ h => h) (Or.inl ⟨by rfl, ?_⟩) ?_ ?_
      rotate_left
      ·intro w'
       go_simp
       with_reducible rfl
      rotate_left
      ·simp only [Act.put, List.setIfInBounds_toArray, List.set_cons_zero, List.set_cons_succ, i64_w, i32_w]
       rfl
      refine pure_ (i := 5) (N := some 22) (v := ?_) (a' := ?_) #[true, false, true, true, true, true, false, false, false] rfl rfl (any_of HT_.out (by kernel_rfl)) (fun _ _ _ h => h) (Or.inl ⟨by rfl, ?_⟩) ?_ ?_
      rotate_left
      ·intro w'
       go_simp
       with_reducible rfl
      rotate_left
      ·simp only [Act.put, List.setIfInBounds_toArray, List.set_cons_zero, List.set_cons_succ, i64_w, i32_w]
       rfl
      refine pure_ (i := 6) (N := some 23) (v := ?_) (a' := ?_) #[true, false, true, true, true, true, true, false, false] rfl rfl (any_of HT_.out (by kernel_rfl)) (fun _ _ _ h => h) (Or.inl ⟨by rfl, ?_⟩) ?_ ?_
      rotate_left
      ·intro w'
       go_simp
       with_reducible rfl
      rotate_left
      ·simp only [Act.put, List.setIfInBounds_toArray, List.set_cons_zero, List.set_cons_succ, i64_w, i32_w]
       rfl
      refine one_ (i := 1) (N := some 18) #[true, true, true, true, true, true, true, false, false] rfl rfl (one_of HT_.out (by kernel_rfl)) (by decide) (fun K hK => ?_)
      refine goes_ Try.func6 (by kernel_rfl) rfl #[.slice A0 l0.length c0] (by rfl) rfl rfl (by (try simp only [List.map_toArray, List.map_cons, List.map_nil]); first | done | rfl | (simp only [List.length_drop, List.length_take]; rfl)) ?_
      with_reducible refine (tarrylaw08_few.calls k _ _ l0 t317 _ ?side1 ?side2 A4.out).mono ?_
      (case side1 => repeat (first | exact (Kd.C_below HR0.out HB.out) | (with_reducible refine Kd.C_alloc ?_ _) | (with_reducible refine Kd.C_drewN ?_ _) | (with_reducible refine Kd.C_drew ?_)))
      (case side2 => exact HC0.out)
      rintro e w114 ⟨v318, rfl, ho0, hb⟩
      refine ⟨_, rfl, ?_⟩
      have n0_ := Aside0.mk (Kd.R_lower ho0 (below_size (by repeat (first | (with_reducible first | exact HB.out | apply below_alloc | apply pw_below_drewN | apply below_drew1) | exact HB.out))))
      have n1_ := Aside0.mk (below_step (by repeat (first | (with_reducible first | exact HB.out | apply below_alloc | apply pw_below_drewN | apply below_drew1) | exact HB.out)) hb)
      clear HB
      have HO319 := n0_
      have HB := n1_
      clear n0_ n1_
      (try clear hb)
      (try clear hb2)
      (try clear hk)
      (try clear hi)
      (try clear ho0)
      refine hK.out _ _ trivial (fun hHeld => ?_)
      clear hK K
      refine norm_ (a' := ?_) ?_ ?_
      rotate_left
      ·show Act.put _ (some 18) _ = _
       simp only [Act.put, List.setIfInBounds_toArray, List.set_cons_zero, List.set_cons_succ, i64_w, i32_w]
       rfl
      refine pure_ (i := 7) (N := some 0) (v := ?_) (a' := ?_) #[true, true, true, true, true, true, true, true, false] rfl rfl (any_of HT_.out (by kernel_rfl)) (fun _ _ _ h => h) (Or.inl ⟨by rfl, ?_⟩) ?_ ?_
      rotate_left
      ·intro w'
       go_simp
       with_reducible rfl
      rotate_left
      ·simp only [Act.put, List.setIfInBounds_toArray, List.set_cons_zero, List.set_cons_succ, i64_w, i32_w]
       rfl
      refine pure_ (i := 8) (N := some 1) (v := ?_) (a' := ?_) #[true, true, true, true, true, true, true, true, true] rfl rfl (any_of HT_.out (by kernel_rfl)) (fun _ _ _ h => h) (Or.inl ⟨by rfl, ?_⟩) ?_ ?_
      rotate_left
      ·intro w'
       go_simp
       with_reducible rfl
      rotate_left
      ·simp only [Act.put, List.setIfInBounds_toArray, List.set_cons_zero, List.set_cons_succ, i64_w, i32_w]
       rfl
      refine done_ (done_of HT_.out (by kernel_rfl)) ?_
      obtain ⟨Ao115, co115, eo115⟩ := Kd.R_slice HO319.out
      subst eo115
      try go_wp2_with (first | ((with_reducible refine gate_callee (f := 11) rfl ?_); refine goesL_ (some 28) rfl rfl Try.func11 (by kernel_rfl) rfl #[.slice Ao115 t317.length co115, .string (a1.extract 0 ((ji5) : Int).toNat), .int .i64 a2] rfl (by (try simp only [List.map_toArray, List.map_cons, List.map_nil]); first | done | (simp only [hji5]; rfl) | rfl | (simp only [List.length_drop, List.length_take]; rfl)) ?_; (with_reducible refine (stock_Hold.calls _ _ t317 (a1.extract 0 ((ji5) : Int).toNat) a2 t320 t321 _ ?side1 ?side2 A8.out).mono ?_); (case side1 => repeat (first | exact (Kd.R_reads' HO319.out).2.2 | (with_reducible refine Kd.C_alloc ?_ _) | (with_reducible refine Kd.C_drewN ?_ _) | (with_reducible refine Kd.C_drew ?_))); (case side2 => exact (Kd.R_reads' HO319.out).2.1); rintro e w116 ⟨v322, rfl, ho0, hb⟩; refine ⟨_, rfl, ?_⟩; have n0_ := Aside0.mk (Kd.R_elder' (by (with_reducible repeat (first | apply Kd.R_alloc | apply Kd.R_drewN | apply Kd.R_drew)); exact HO319.out) (Kd.R_base ho0) hb); have n1_ := Aside0.mk (Kd.R_lower (Kd.R_new' ho0 (Kd.R_lt (by (with_reducible repeat (first | apply Kd.R_alloc | apply Kd.R_drewN | apply Kd.R_drew)); exact HO319.out))) (below_size (by repeat (first | (with_reducible first | exact HB.out | apply below_alloc | apply pw_below_drewN | apply below_drew1) | exact HB.out)))); have n2_ := Aside0.mk (below_step (by repeat (first | (with_reducible first | exact HB.out | apply below_alloc | apply pw_below_drewN | apply below_drew1) | exact HB.out)) hb); clear HO319; clear HB; have HO319 := n0_; have HO323 := n1_; have HB := n2_; clear n0_ n1_ n2_; (try clear hb); (try clear hb2); (try clear hk); (try clear hi); (try clear ho0)) | ((with_reducible refine gate_callee (f := 12) rfl ?_); refine goesL_ (some 34) rfl rfl Try.func12 (by kernel_rfl) rfl #[.slice Ao115 t317.length co115, .string (a1.extract 0 ((ji5) : Int).toNat)] rfl (by (try simp only [List.map_toArray, List.map_cons, List.map_nil]); first | done | (simp only [hji5]; rfl) | rfl | (simp only [List.length_drop, List.length_take]; rfl)) ?_; (with_reducible refine (stock_Get.calls _ _ t317 (a1.extract 0 ((ji5) : Int).toNat) t324 t325 t326 t327 t328 t329 t330 _ ?side1 ?side2 A9.out).mono ?_); (case side1 => repeat (first | exact (Kd.R_reads' HO319.out).2.2 | (with_reducible refine Kd.C_alloc ?_ _) | (with_reducible refine Kd.C_drewN ?_ _) | (with_reducible refine Kd.C_drew ?_))); (case side2 => exact (Kd.R_reads' HO319.out).2.1); rintro e w117 ⟨rfl, hb⟩; refine ⟨_, rfl, ?_⟩; have n0_ := Aside0.mk (Kd.R_below (by (with_reducible repeat (first | apply Kd.R_alloc | apply Kd.R_drewN | apply Kd.R_drew)); exact HO319.out) hb); have n1_ := Aside0.mk (Kd.R_below (by (with_reducible repeat (first | apply Kd.R_alloc | apply Kd.R_drewN | apply Kd.R_drew)); exact HO323.out) hb); have n2_ := Aside0.mk (below_step (by repeat (first | (with_reducible first | exact HB.out | apply below_alloc | apply pw_below_drewN | apply below_drew1) | exact HB.out)) hb); clear HO319; clear HO323; clear HB; have HO319 := n0_; have HO323 := n1_; have HB := n2_; clear n0_ n1_ n2_; (try clear hb); (try clear hb2); (try clear hk); (try clear hi)) | ((with_reducible refine gate_dst (N := 9) rfl ?_); (try (refine gate_guard (by rfl) ?_; dsimp only)); refine box_event ?hg (N := 9) ?hd (cs := #[.string (⟨#[]⟩ : ByteArray), .int .i64 0, .int .i64 0, .int .i64 0, .int .i64 0, .int .i64 0]) (t := 33) ?hr ?_; (case hd => rfl); (case hg => rfl); (case hr => first | (go_simp; done) | (go_simp; rfl)); intro gb331 hg w118 hbox hb; have n0_ := Aside0.mk (Kd.R_below (Kd.R_elderB (by (with_reducible repeat (first | apply Kd.R_alloc | apply Kd.R_drewN | apply Kd.R_drew)); exact HO319.out) gb331 (Nat.le_of_eq hg.symm)) hb); have n1_ := Aside0.mk (Kd.R_below (Kd.R_elderB (by (with_reducible repeat (first | apply Kd.R_alloc | apply Kd.R_drewN | apply Kd.R_drew)); exact HO323.out) gb331 (Nat.le_of_eq hg.symm)) hb); have n2_ := Aside0.mk (below_step (by repeat (first | (with_reducible first | exact HB.out | apply below_alloc | apply pw_below_drewN | apply below_drew1) | exact HB.out)) hb); have n3_ := Aside0.mk (hbox); have n4_ := Aside0.mk ((by rw [hg]; exact (below_size (by repeat (first | (with_reducible first | exact HB.out | apply below_alloc | apply pw_below_drewN | apply below_drew1) | exact HB.out))) : w.heap.size ≤ gb331)); have n5_ := Aside0.mk ((by rw [hg]; exact (below_size (by repeat (first | (with_reducible first | exact HB.out | apply below_alloc | apply pw_below_drewN | apply below_drew1) | exact HB.out))) : w.heap.size ≤ gb331)); clear HO319; clear HO323; clear HB; have HO319 := n0_; have HO323 := n1_; have HB := n2_; have BK331 := n3_; have GW331 := n4_; have GE331 := n5_; clear n0_ n1_ n2_ n3_ n4_ n5_; clear hb hbox hg; have hcz119_0 : w118.cell? ⟨gb331, 0, none⟩ = some (.string (⟨#[]⟩ : ByteArray)) := (blk_cell BK331.out 0).trans rfl; have hcz119_1 : w118.cell? ⟨gb331, 1, none⟩ = some (.int .i64 0) := (blk_cell BK331.out 1).trans rfl; have hcz119_2 : w118.cell? ⟨gb331, 2, none⟩ = some (.int .i64 0) := (blk_cell BK331.out 2).trans rfl; have hcz119_3 : w118.cell? ⟨gb331, 3, none⟩ = some (.int .i64 0) := (blk_cell BK331.out 3).trans rfl; have hcz119_4 : w118.cell? ⟨gb331, 4, none⟩ = some (.int .i64 0) := (blk_cell BK331.out 4).trans rfl; have hcz119_5 : w118.cell? ⟨gb331, 5, none⟩ = some (.int .i64 0) := (blk_cell BK331.out 5).trans rfl; have hfz119_0 := blk_frozen BK331.out 0; have hfz119_1 := blk_frozen BK331.out 1; have hfz119_2 := blk_frozen BK331.out 2; have hfz119_3 := blk_frozen BK331.out 3; have hfz119_4 := blk_frozen BK331.out 4; have hfz119_5 := blk_frozen BK331.out 5) | ((with_reducible refine gate_callee (f := 7) rfl ?_); refine goesL_ (some 39) rfl rfl Try.func7 (by kernel_rfl) rfl #[] rfl (by (try simp only [List.map_toArray, List.map_cons, List.map_nil]); first | done | rfl | (simp only [List.length_drop, List.length_take]; rfl)) ?_; (with_reducible refine (tarrylaw08_alive.calls k  true _ A80.out).mono ?_); rintro e w120 ⟨rfl, hb⟩; refine ⟨_, rfl, ?_⟩; have n0_ := Aside0.mk (Kd.R_below (by (with_reducible repeat (first | apply Kd.R_alloc | apply Kd.R_drewN | apply Kd.R_drew)); exact (Kd.R_mono (Kd.R_far (p := ⟨gb331, 5, none⟩) (Kd.R_far (p := ⟨gb331, 4, none⟩) (Kd.R_far (p := ⟨gb331, 3, none⟩) (Kd.R_far (p := ⟨gb331, 2, none⟩) (Kd.R_far (p := ⟨gb331, 1, none⟩) (Kd.R_far (p := ⟨gb331, 0, none⟩) (Kd.R_mono HO319.out (fun k_ hk => (⟨hk, hk.2⟩ : _ ∧ k_ ≠ gb331))) (fun _ hk => hk.2) (.string t324)) (fun _ hk => hk.2) (.int .i64 t325)) (fun _ hk => hk.2) (.int .i64 t326)) (fun _ hk => hk.2) (.int .i64 t327)) (fun _ hk => hk.2) (.int .i64 t328)) (fun _ hk => hk.2) (.int .i64 t329)) (fun _ h_ => h_.1))) hb); have n1_ := Aside0.mk (Kd.R_below (by (with_reducible repeat (first | apply Kd.R_alloc | apply Kd.R_drewN | apply Kd.R_drew)); exact (Kd.R_mono (Kd.R_far (p := ⟨gb331, 5, none⟩) (Kd.R_far (p := ⟨gb331, 4, none⟩) (Kd.R_far (p := ⟨gb331, 3, none⟩) (Kd.R_far (p := ⟨gb331, 2, none⟩) (Kd.R_far (p := ⟨gb331, 1, none⟩) (Kd.R_far (p := ⟨gb331, 0, none⟩) (Kd.R_mono HO323.out (fun k_ hk => (⟨hk, hk.2⟩ : _ ∧ k_ ≠ gb331))) (fun _ hk => hk.2) (.string t324)) (fun _ hk => hk.2) (.int .i64 t325)) (fun _ hk => hk.2) (.int .i64 t326)) (fun _ hk => hk.2) (.int .i64 t327)) (fun _ hk => hk.2) (.int .i64 t328)) (fun _ hk => hk.2) (.int .i64 t329)) (fun _ h_ => h_.1))) hb); have n2_ := Aside0.mk (blk_below (g := gb331) (o := .cells #[.string t324, .int .i64 t325, .int .i64 t326, .int .i64 t327, .int .i64 t328, .int .i64 t329] 33 (0, 0)) (by (with_reducible repeat (first | refine blk_drewN ?_ _ | refine blk_drew ?_ | refine blk_alloc ?_ _)); refine blk_put (cs := #[.string t324, .int .i64 t325, .int .i64 t326, .int .i64 t327, .int .i64 t328, .int .i64 0]) ?_ 5 _ rfl; (with_reducible repeat (first | refine blk_drewN ?_ _ | refine blk_drew ?_ | refine blk_alloc ?_ _)); refine blk_put (cs := #[.string t324, .int .i64 t325, .int .i64 t326, .int .i64 t327, .int .i64 0, .int .i64 0]) ?_ 4 _ rfl; (with_reducible repeat (first | refine blk_drewN ?_ _ | refine blk_drew ?_ | refine blk_alloc ?_ _)); refine blk_put (cs := #[.string t324, .int .i64 t325, .int .i64 t326, .int .i64 0, .int .i64 0, .int .i64 0]) ?_ 3 _ rfl; (with_reducible repeat (first | refine blk_drewN ?_ _ | refine blk_drew ?_ | refine blk_alloc ?_ _)); refine blk_put (cs := #[.string t324, .int .i64 t325, .int .i64 0, .int .i64 0, .int .i64 0, .int .i64 0]) ?_ 2 _ rfl; (with_reducible repeat (first | refine blk_drewN ?_ _ | refine blk_drew ?_ | refine blk_alloc ?_ _)); refine blk_put (cs := #[.string t324, .int .i64 0, .int .i64 0, .int .i64 0, .int .i64 0, .int .i64 0]) ?_ 1 _ rfl; (with_reducible repeat (first | refine blk_drewN ?_ _ | refine blk_drew ?_ | refine blk_alloc ?_ _)); refine blk_put (cs := #[.string (⟨#[]⟩ : ByteArray), .int .i64 0, .int .i64 0, .int .i64 0, .int .i64 0, .int .i64 0]) ?_ 0 _ rfl; (with_reducible repeat (first | refine blk_drewN ?_ _ | refine blk_drew ?_ | refine blk_alloc ?_ _)); exact BK331.out) hb); have n3_ := Aside0.mk (below_step (by repeat (first | (with_reducible first | exact HB.out | apply below_alloc | apply pw_below_drewN | apply below_drew1 | refine below_set ?_ GE331.out) | exact HB.out)) hb); clear HO319; clear HO323; clear BK331; clear HB; have HO319 := n0_; have HO323 := n1_; have BK331 := n2_; have HB := n3_; clear n0_ n1_ n2_ n3_; (try clear hb); (try clear hb2); (try clear hk); (try clear hi); obtain ⟨Ao121, co121, eo121⟩ := Kd.R_slice HO323.out; subst eo121))
      go_ret
      exact ⟨by first | rfl | (simp [errW_none, errW_some] <;> rfl) | (simp only [← hji5]; first | rfl | (simp [errW_none, errW_some] <;> rfl)) | (simp [*, errW_none, errW_some] <;> rfl), by repeat (first | (with_reducible first | exact HB.out | apply below_alloc | apply pw_below_drewN | apply below_drew1 | refine below_set ?_ GE331.out) | exact HB.out)⟩
    ·replace c81 := Bool.eq_false_iff.mpr c81
     subst c81
     have H1 : (some false) = some r := by rw [if_neg (show ¬ (false = true) by decide)] at H; exact H
     clear H
     have H := H1
     clear H1
     obtain rfl := Option.some.inj H
     go_enter Try.func4, Try.ntmps4
     try go_wp2
     have n0_ := Aside0.mk (below_drew1 HB.out)
     clear HB
     have HB := n0_
     clear n0_
     refine start_ (n := 9) (S := fun w' => True) (ds := []) #[false, false, false, false, false, false, false, false, false] (by kernel_rfl) rfl rfl trivial (fun hHeld => ?_); refine with_tabW tarrylaw08_StockBack.tab1 tarrylaw08_StockBack.bits1 (fun HT_ HW_ => ?_)
     generalize w.drew = w122 at HB hHeld ⊢
     refine pure_ (i := 0) (N := some 17) (v := ?_) (a' := ?_) #[true, false, false, false, false, false, false, false, false] rfl rfl (any_of HT_.out (by kernel_rfl)) (fun _ _ _ h => h) (Or.inl ⟨by rfl, ?_⟩) ?_ ?_
     rotate_left
     ·intro w'
      go_simp
      with_reducible rfl
     rotate_left
     ·simp only [Act.put, List.setIfInBounds_toArray, List.set_cons_zero, List.set_cons_succ, i64_w, i32_w]
      rfl
     refine pure_ (i := 2) (N := some 19) (v := ?_) (a' := ?_) #[true, false, true, false, false, false, false, false, false] rfl rfl (any_of HT_.out (by kernel_rfl)) (fun _ _ _ h => h) (Or.inl ⟨by rfl, ?_⟩) ?_ ?_
     rotate_left
     ·intro w'
      go_simp
      with_reducible rfl
     rotate_left
     ·simp only [Act.put, List.setIfInBounds_toArray, List.set_cons_zero, List.set_cons_succ, i64_w, i32_w]
      rfl
     refine pure_ (i := 3) (N := some 20) (v := ?_) (a' := ?_) #[true, false, true, true, false, false, false, false, false] rfl rfl (any_of HT_.out (by kernel_rfl)) (fun _ _ _ h => h) (Or.inl ⟨by rfl, ?_⟩) ?_ ?_
     rotate_left
     ·intro w'
      go_simp
      with_reducible rfl
     rotate_left
     ·simp only [Act.put, List.setIfInBounds_toArray, List.set_cons_zero, List.set_cons_succ, i64_w, i32_w]
      rfl
     refine pure_ (i := 4) (N := some 21) (v := ?_) (a' := ?_) #[true, false, true, true, true, false, false, false, false] rfl rfl (any_of HT_.out (by kernel_rfl)) (fun _ _ _ h => h) (Or.inl ⟨by rfl, ?_⟩) ?_ ?_
     rotate_left
     ·intro w'
      go_simp
      with_reducible rfl
     rotate_left
     ·simp only [Act.put, List.setIfInBounds_toArray, List.set_cons_zero, List.set_cons_succ, i64_w, i32_w]
      rfl
     refine pure_ (i := 5) (N := some 22) (v := ?_) (a' := ?_) #[true, false, true, true, true, true, false, false, false] rfl rfl (any_of HT_.out (by kernel_rfl)) (fun _ _ _ h => h) (Or.inl ⟨by rfl, ?_⟩) ?_ ?_
     rotate_left
     ·intro w'
      go_simp
      with_reducible rfl
     rotate_left
     ·simp only [Act.put, List.setIfInBounds_toArray, List.set_cons_zero, List.set_cons_succ, i64_w, i32_w]
      rfl
     refine pure_ (i := 6) (N := some 23) (v := ?_) (a' := ?_) #[true, false, true, true, true, true, true, false, false] rfl rfl (any_of HT_.out (by kernel_rfl)) (fun _ _ _ h => h) (Or.inl ⟨by rfl, ?_⟩) ?_ ?_
     rotate_left
     ·intro w'
      go_simp
      with_reducible rfl
     rotate_left
     ·simp only [Act.put, List.setIfInBounds_toArray, List.set_cons_zero, List.set_cons_succ, i64_w, i32_w]
      rfl
     refine one_ (i := 1) (N := some 18) #[true, true, true, true, true, true, true, false, false] rfl rfl (one_of HT_.out (by kernel_rfl)) (by decide) (fun K hK => ?_)
     refine goes_ Try.func6 (by kernel_rfl) rfl #[.slice A0 l0.length c0] (by rfl) rfl rfl (by (try simp only [List.map_toArray, List.map_cons, List.map_nil]); first | done | rfl | (simp only [List.length_drop, List.length_take]; rfl)) ?_
     with_reducible refine (tarrylaw08_few.calls k _ _ l0 t317 _ ?side1 ?side2 A4.out).mono ?_
     (case side1 => repeat (first | exact (Kd.C_below HR0.out HB.out) | (with_reducible refine Kd.C_alloc ?_ _) | (with_reducible refine Kd.C_drewN ?_ _) | (with_reducible refine Kd.C_drew ?_)))
     (case side2 => exact HC0.out)
     rintro e w123 ⟨v318, rfl, ho0, hb⟩
     refine ⟨_, rfl, ?_⟩
     have n0_ := Aside0.mk (Kd.R_lower ho0 (below_size (by repeat (first | (with_reducible first | exact HB.out | apply below_alloc | apply pw_below_drewN | apply below_drew1) | exact HB.out))))
     have n1_ := Aside0.mk (below_step (by repeat (first | (with_reducible first | exact HB.out | apply below_alloc | apply pw_below_drewN | apply below_drew1) | exact HB.out)) hb)
     clear HB
     have HO319 := n0_
     have HB := n1_
     clear n0_ n1_
     (try clear hb)
     (try clear hb2)
     (try clear hk)
     (try clear hi)
     (try clear ho0)
     refine hK.out _ _ trivial (fun hHeld => ?_)
     clear hK K
     refine norm_ (a' := ?_) ?_ ?_
     rotate_left
     ·show Act.put _ (some 18) _ = _
      simp only [Act.put, List.setIfInBounds_toArray, List.set_cons_zero, List.set_cons_succ, i64_w, i32_w]
      rfl
     refine pure_ (i := 7) (N := some 0) (v := ?_) (a' := ?_) #[true, true, true, true, true, true, true, true, false] rfl rfl (any_of HT_.out (by kernel_rfl)) (fun _ _ _ h => h) (Or.inl ⟨by rfl, ?_⟩) ?_ ?_
     rotate_left
     ·intro w'
      go_simp
      with_reducible rfl
     rotate_left
     ·simp only [Act.put, List.setIfInBounds_toArray, List.set_cons_zero, List.set_cons_succ, i64_w, i32_w]
      rfl
     refine pure_ (i := 8) (N := some 1) (v := ?_) (a' := ?_) #[true, true, true, true, true, true, true, true, true] rfl rfl (any_of HT_.out (by kernel_rfl)) (fun _ _ _ h => h) (Or.inl ⟨by rfl, ?_⟩) ?_ ?_
     rotate_left
     ·intro w'
      go_simp
      with_reducible rfl
     rotate_left
     ·simp only [Act.put, List.setIfInBounds_toArray, List.set_cons_zero, List.set_cons_succ, i64_w, i32_w]
      rfl
     refine done_ (done_of HT_.out (by kernel_rfl)) ?_
     obtain ⟨Ao124, co124, eo124⟩ := Kd.R_slice HO319.out
     subst eo124
     try go_wp2_with (first | ((with_reducible refine gate_callee (f := 11) rfl ?_); refine goesL_ (some 28) rfl rfl Try.func11 (by kernel_rfl) rfl #[.slice Ao124 t317.length co124, .string (a1.extract 0 ((ji5) : Int).toNat), .int .i64 a2] rfl (by (try simp only [List.map_toArray, List.map_cons, List.map_nil]); first | done | (simp only [hji5]; rfl) | rfl | (simp only [List.length_drop, List.length_take]; rfl)) ?_; (with_reducible refine (stock_Hold.calls _ _ t317 (a1.extract 0 ((ji5) : Int).toNat) a2 t320 t321 _ ?side1 ?side2 A8.out).mono ?_); (case side1 => repeat (first | exact (Kd.R_reads' HO319.out).2.2 | (with_reducible refine Kd.C_alloc ?_ _) | (with_reducible refine Kd.C_drewN ?_ _) | (with_reducible refine Kd.C_drew ?_))); (case side2 => exact (Kd.R_reads' HO319.out).2.1); rintro e w125 ⟨v322, rfl, ho0, hb⟩; refine ⟨_, rfl, ?_⟩; have n0_ := Aside0.mk (Kd.R_elder' (by (with_reducible repeat (first | apply Kd.R_alloc | apply Kd.R_drewN | apply Kd.R_drew)); exact HO319.out) (Kd.R_base ho0) hb); have n1_ := Aside0.mk (Kd.R_lower (Kd.R_new' ho0 (Kd.R_lt (by (with_reducible repeat (first | apply Kd.R_alloc | apply Kd.R_drewN | apply Kd.R_drew)); exact HO319.out))) (below_size (by repeat (first | (with_reducible first | exact HB.out | apply below_alloc | apply pw_below_drewN | apply below_drew1) | exact HB.out)))); have n2_ := Aside0.mk (below_step (by repeat (first | (with_reducible first | exact HB.out | apply below_alloc | apply pw_below_drewN | apply below_drew1) | exact HB.out)) hb); clear HO319; clear HB; have HO319 := n0_; have HO323 := n1_; have HB := n2_; clear n0_ n1_ n2_; (try clear hb); (try clear hb2); (try clear hk); (try clear hi); (try clear ho0)) | ((with_reducible refine gate_callee (f := 12) rfl ?_); refine goesL_ (some 34) rfl rfl Try.func12 (by kernel_rfl) rfl #[.slice Ao124 t317.length co124, .string (a1.extract 0 ((ji5) : Int).toNat)] rfl (by (try simp only [List.map_toArray, List.map_cons, List.map_nil]); first | done | (simp only [hji5]; rfl) | rfl | (simp only [List.length_drop, List.length_take]; rfl)) ?_; (with_reducible refine (stock_Get.calls _ _ t317 (a1.extract 0 ((ji5) : Int).toNat) t324 t325 t326 t327 t328 t329 t330 _ ?side1 ?side2 A9.out).mono ?_); (case side1 => repeat (first | exact (Kd.R_reads' HO319.out).2.2 | (with_reducible refine Kd.C_alloc ?_ _) | (with_reducible refine Kd.C_drewN ?_ _) | (with_reducible refine Kd.C_drew ?_))); (case side2 => exact (Kd.R_reads' HO319.out).2.1); rintro e w126 ⟨rfl, hb⟩; refine ⟨_, rfl, ?_⟩; have n0_ := Aside0.mk (Kd.R_below (by (with_reducible repeat (first | apply Kd.R_alloc | apply Kd.R_drewN | apply Kd.R_drew)); exact HO319.out) hb); have n1_ := Aside0.mk (Kd.R_below (by (with_reducible repeat (first | apply Kd.R_alloc | apply Kd.R_drewN | apply Kd.R_drew)); exact HO323.out) hb); have n2_ := Aside0.mk (below_step (by repeat (first | (with_reducible first | exact HB.out | apply below_alloc | apply pw_below_drewN | apply below_drew1) | exact HB.out)) hb); clear HO319; clear HO323; clear HB; have HO319 := n0_; have HO323 := n1_; have HB := n2_; clear n0_ n1_ n2_; (try clear hb); (try clear hb2); (try clear hk); (try clear hi)) | ((with_reducible refine gate_dst (N := 9) rfl ?_); (try (refine gate_guard (by rfl) ?_; dsimp only)); refine box_event ?hg (N := 9) ?hd (cs := #[.string (⟨#[]⟩ : ByteArray), .int .i64 0, .int .i64 0, .int .i64 0, .int .i64 0, .int .i64 0]) (t := 33) ?hr ?_; (case hd => rfl); (case hg => rfl); (case hr => first | (go_simp; done) | (go_simp; rfl)); intro gb331 hg w127 hbox hb; have n0_ := Aside0.mk (Kd.R_below (Kd.R_elderB (by (with_reducible repeat (first | apply Kd.R_alloc | apply Kd.R_drewN | apply Kd.R_drew)); exact HO319.out) gb331 (Nat.le_of_eq hg.symm)) hb); have n1_ := Aside0.mk (Kd.R_below (Kd.R_elderB (by (with_reducible repeat (first | apply Kd.R_alloc | apply Kd.R_drewN | apply Kd.R_drew)); exact HO323.out) gb331 (Nat.le_of_eq hg.symm)) hb); have n2_ := Aside0.mk (below_step (by repeat (first | (with_reducible first | exact HB.out | apply below_alloc | apply pw_below_drewN | apply below_drew1) | exact HB.out)) hb); have n3_ := Aside0.mk (hbox); have n4_ := Aside0.mk ((by rw [hg]; exact (below_size (by repeat (first | (with_reducible first | exact HB.out | apply below_alloc | apply pw_below_drewN | apply below_drew1) | exact HB.out))) : w.heap.size ≤ gb331)); have n5_ := Aside0.mk ((by rw [hg]; exact (below_size (by repeat (first | (with_reducible first | exact HB.out | apply below_alloc | apply pw_below_drewN | apply below_drew1) | exact HB.out))) : w.heap.size ≤ gb331)); clear HO319; clear HO323; clear HB; have HO319 := n0_; have HO323 := n1_; have HB := n2_; have BK331 := n3_; have GW331 := n4_; have GE331 := n5_; clear n0_ n1_ n2_ n3_ n4_ n5_; clear hb hbox hg; have hcz128_0 : w127.cell? ⟨gb331, 0, none⟩ = some (.string (⟨#[]⟩ : ByteArray)) := (blk_cell BK331.out 0).trans rfl; have hcz128_1 : w127.cell? ⟨gb331, 1, none⟩ = some (.int .i64 0) := (blk_cell BK331.out 1).trans rfl; have hcz128_2 : w127.cell? ⟨gb331, 2, none⟩ = some (.int .i64 0) := (blk_cell BK331.out 2).trans rfl; have hcz128_3 : w127.cell? ⟨gb331, 3, none⟩ = some (.int .i64 0) := (blk_cell BK331.out 3).trans rfl; have hcz128_4 : w127.cell? ⟨gb331, 4, none⟩ = some (.int .i64 0) := (blk_cell BK331.out 4).trans rfl; have hcz128_5 : w127.cell? ⟨gb331, 5, none⟩ = some (.int .i64 0) := (blk_cell BK331.out 5).trans rfl; have hfz128_0 := blk_frozen BK331.out 0; have hfz128_1 := blk_frozen BK331.out 1; have hfz128_2 := blk_frozen BK331.out 2; have hfz128_3 := blk_frozen BK331.out 3; have hfz128_4 := blk_frozen BK331.out 4; have hfz128_5 := blk_frozen BK331.out 5) | ((with_reducible refine gate_callee (f := 7) rfl ?_); refine goesL_ (some 39) rfl rfl Try.func7 (by kernel_rfl) rfl #[] rfl (by (try simp only [List.map_toArray, List.map_cons, List.map_nil]); first | done | rfl | (simp only [List.length_drop, List.length_take]; rfl)) ?_; (with_reducible refine (tarrylaw08_alive.calls k  false _ A80.out).mono ?_); rintro e w129 ⟨rfl, hb⟩; refine ⟨_, rfl, ?_⟩; have n0_ := Aside0.mk (Kd.R_below (by (with_reducible repeat (first | apply Kd.R_alloc | apply Kd.R_drewN | apply Kd.R_drew)); exact (Kd.R_mono (Kd.R_far (p := ⟨gb331, 5, none⟩) (Kd.R_far (p := ⟨gb331, 4, none⟩) (Kd.R_far (p := ⟨gb331, 3, none⟩) (Kd.R_far (p := ⟨gb331, 2, none⟩) (Kd.R_far (p := ⟨gb331, 1, none⟩) (Kd.R_far (p := ⟨gb331, 0, none⟩) (Kd.R_mono HO319.out (fun k_ hk => (⟨hk, hk.2⟩ : _ ∧ k_ ≠ gb331))) (fun _ hk => hk.2) (.string t324)) (fun _ hk => hk.2) (.int .i64 t325)) (fun _ hk => hk.2) (.int .i64 t326)) (fun _ hk => hk.2) (.int .i64 t327)) (fun _ hk => hk.2) (.int .i64 t328)) (fun _ hk => hk.2) (.int .i64 t329)) (fun _ h_ => h_.1))) hb); have n1_ := Aside0.mk (Kd.R_below (by (with_reducible repeat (first | apply Kd.R_alloc | apply Kd.R_drewN | apply Kd.R_drew)); exact (Kd.R_mono (Kd.R_far (p := ⟨gb331, 5, none⟩) (Kd.R_far (p := ⟨gb331, 4, none⟩) (Kd.R_far (p := ⟨gb331, 3, none⟩) (Kd.R_far (p := ⟨gb331, 2, none⟩) (Kd.R_far (p := ⟨gb331, 1, none⟩) (Kd.R_far (p := ⟨gb331, 0, none⟩) (Kd.R_mono HO323.out (fun k_ hk => (⟨hk, hk.2⟩ : _ ∧ k_ ≠ gb331))) (fun _ hk => hk.2) (.string t324)) (fun _ hk => hk.2) (.int .i64 t325)) (fun _ hk => hk.2) (.int .i64 t326)) (fun _ hk => hk.2) (.int .i64 t327)) (fun _ hk => hk.2) (.int .i64 t328)) (fun _ hk => hk.2) (.int .i64 t329)) (fun _ h_ => h_.1))) hb); have n2_ := Aside0.mk (blk_below (g := gb331) (o := .cells #[.string t324, .int .i64 t325, .int .i64 t326, .int .i64 t327, .int .i64 t328, .int .i64 t329] 33 (0, 0)) (by (with_reducible repeat (first | refine blk_drewN ?_ _ | refine blk_drew ?_ | refine blk_alloc ?_ _)); refine blk_put (cs := #[.string t324, .int .i64 t325, .int .i64 t326, .int .i64 t327, .int .i64 t328, .int .i64 0]) ?_ 5 _ rfl; (with_reducible repeat (first | refine blk_drewN ?_ _ | refine blk_drew ?_ | refine blk_alloc ?_ _)); refine blk_put (cs := #[.string t324, .int .i64 t325, .int .i64 t326, .int .i64 t327, .int .i64 0, .int .i64 0]) ?_ 4 _ rfl; (with_reducible repeat (first | refine blk_drewN ?_ _ | refine blk_drew ?_ | refine blk_alloc ?_ _)); refine blk_put (cs := #[.string t324, .int .i64 t325, .int .i64 t326, .int .i64 0, .int .i64 0, .int .i64 0]) ?_ 3 _ rfl; (with_reducible repeat (first | refine blk_drewN ?_ _ | refine blk_drew ?_ | refine blk_alloc ?_ _)); refine blk_put (cs := #[.string t324, .int .i64 t325, .int .i64 0, .int .i64 0, .int .i64 0, .int .i64 0]) ?_ 2 _ rfl; (with_reducible repeat (first | refine blk_drewN ?_ _ | refine blk_drew ?_ | refine blk_alloc ?_ _)); refine blk_put (cs := #[.string t324, .int .i64 0, .int .i64 0, .int .i64 0, .int .i64 0, .int .i64 0]) ?_ 1 _ rfl; (with_reducible repeat (first | refine blk_drewN ?_ _ | refine blk_drew ?_ | refine blk_alloc ?_ _)); refine blk_put (cs := #[.string (⟨#[]⟩ : ByteArray), .int .i64 0, .int .i64 0, .int .i64 0, .int .i64 0, .int .i64 0]) ?_ 0 _ rfl; (with_reducible repeat (first | refine blk_drewN ?_ _ | refine blk_drew ?_ | refine blk_alloc ?_ _)); exact BK331.out) hb); have n3_ := Aside0.mk (below_step (by repeat (first | (with_reducible first | exact HB.out | apply below_alloc | apply pw_below_drewN | apply below_drew1 | refine below_set ?_ GE331.out) | exact HB.out)) hb); clear HO319; clear HO323; clear BK331; clear HB; have HO319 := n0_; have HO323 := n1_; have BK331 := n2_; have HB := n3_; clear n0_ n1_ n2_ n3_; (try clear hb); (try clear hb2); (try clear hk); (try clear hi)))
     go_ret
     exact ⟨by first | rfl | (simp [errW_none, errW_some] <;> rfl) | (simp only [← hji5]; first | rfl | (simp [errW_none, errW_some] <;> rfl)) | (simp [*, errW_none, errW_some] <;> rfl), by repeat (first | (with_reducible first | exact HB.out | apply below_alloc | apply pw_below_drewN | apply below_drew1 | refine below_set ?_ GE331.out) | exact HB.out)⟩
  ·rw [if_neg c7] at H
   exact absurd H (by simp)
 ·rw [if_neg c6] at H
  exact absurd H (by simp)
end Go.Proofs.Ytliablhnkoghbaa.PStock
