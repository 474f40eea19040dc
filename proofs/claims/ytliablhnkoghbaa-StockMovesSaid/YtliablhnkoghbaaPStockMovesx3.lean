-- PRINTED by print.py (a twelfth state) out of the translation. Not trusted: Lean checks it.
import Derived.Test.YtliablhnkoghbaaPStockMovesx0
import Derived.Test.YtliablhnkoghbaaPStockMovesx2
namespace Go.Proofs.Ytliablhnkoghbaa.PStockMoves
open Go.RowKit Go.Proofs.YtliablhnkoghbaaH Go.Proofs.YtliablhnkoghbaaW.PrintWords Go.Proofs.YtliablhnkoghbaaW.PrintLast Go.Proofs.YtliablhnkoghbaaW.PrintMore
attribute [local go_sem] max2_int min2_int max_two min_two max_three min_three max_four min_four   -- for this text's walks alone
set_option linter.unusedVariables false
set_option linter.unusedSimpArgs false

/-! ### cmp_Or_int: function 65 -/
def cmp_Or_int.l0 : Nat → Int → List Int → Int → Int → Option (Int)
  | 0, _, _, _, _ => none
  | k + 1, x3, x6, x7, x8 => if x8 < x7 then (if 0 ≤ x8 then (if x8 < (x6.length : Int) then (if (rd x6 x8) = x3 then (cmp_Or_int.l0 k x3 x6 x7 (wrap64 (x8 + 1))) else (some (rd x6 x8))) else (none)) else (none)) else (some x3)
def cmp_Or_int.f (k : Nat) (l0 : List Int) : Option (Int) := cmp_Or_int.l0 k 0 l0 (l0.length : Int) 0
theorem cmp_Or_int.mono_l : ∀ k, (∀ y0 y1 y2 y3, LeO (cmp_Or_int.l0 k y0 y1 y2 y3) (cmp_Or_int.l0 (k + 1) y0 y1 y2 y3))
  | 0 => fun _ _ _ _ r h => by simp [cmp_Or_int.l0] at h
  | k + 1 => by
    have ih0 := cmp_Or_int.mono_l k
    · intro y0 y1 y2 y3
      unfold cmp_Or_int.l0
      repeat' first
      | (with_reducible exact ih0 _ _ _ _)
      | (with_reducible exact LeO.refl _)
      | (with_reducible exact LeO.none _)
      | (with_reducible refine LeO.ite ?_ ?_)
      | (with_reducible refine LeO.bind ?_ (fun _ => ?_))
      | exact ih0 _ _ _ _
      | exact LeO.none _
      | refine LeO.ite ?_ ?_
      | refine LeO.bind ?_ (fun _ => ?_)
theorem cmp_Or_int.mono : ∀ a0 k, LeO (cmp_Or_int.f k a0) (cmp_Or_int.f (k + 1) a0) := by
  intro a0 k
  have ih0 := cmp_Or_int.mono_l k
  unfold cmp_Or_int.f
  repeat' first
      | (with_reducible exact ih0 _ _ _ _)
      | (with_reducible exact LeO.refl _)
      | (with_reducible exact LeO.none _)
      | (with_reducible refine LeO.ite ?_ ?_)
      | (with_reducible refine LeO.bind ?_ (fun _ => ?_))
      | exact ih0 _ _ _ _
      | exact LeO.none _
      | refine LeO.ite ?_ ?_
      | refine LeO.bind ?_ (fun _ => ?_)
set_option maxHeartbeats 8000000 in
set_option maxRecDepth 100000 in
theorem cmp_Or_int.calls (k : Nat) (A0 : Option Addr) (c0 : Nat) (l0 : List Int) (r : Int) (w : World) (hr0 : Kd.C (Kd.int .i64) w A0 l0.length l0) (hc0 : l0.length ≤ c0) (h : cmp_Or_int.f k l0 = some r) :
    Calls Try.prog 65 #[.slice A0 l0.length c0] w fun e w' => e = .returned (.int .i64 r) ∧ Drawn0 w w' := by
  have HR0 := Aside0.mk hr0
  have HC0 := Aside0.mk hc0
  clear hr0 hc0
  have H : (cmp_Or_int.l0 k 0 l0 (l0.length : Int) 0) = some r := h
  clear h
  have H' := Aside0.mk H
  clear H
  go_enter Try.func65, Try.ntmps65
  go_wp2
  go_loopg [8] k (fun kq v8 w' => ∃ (x8_1 : Int), v8 = .int .i64 x8_1 ∧ Aside0 (cmp_Or_int.l0 kq 0 l0 (l0.length : Int) x8_1 = some r) ∧ Aside0 (kq ≤ k) ∧ Drawn0 w w')
  case atStart => exact ⟨(0), (by first | rfl | (simp; done) | (simp [*]; done)), H', ⟨Nat.le_refl _⟩, by repeat (first | exact Drawn0.refl _ | apply Drawn0.step)⟩
  case round =>
    clear H'
    obtain ⟨x8_1, rfl, HA, HK1, ⟨m1, rfl⟩⟩ := hrel
    cases gk with
    | zero => exact absurd HA.out (by simp [cmp_Or_int.l0])
    | succ k1 =>
      have H := HA.out
      clear HA
      simp only [cmp_Or_int.l0] at H
      by_cases c2 : x8_1 < (l0.length : Int)
      · rw [if_pos c2] at H
        have c2b0 : decide (x8_1 < (l0.length : Int)) = true := decide_eq_true c2
        clear c2
        by_cases c3 : 0 ≤ x8_1
        · rw [if_pos c3] at H
          have c3b0 : decide (0 ≤ x8_1) = true := decide_eq_true c3
          clear c3
          by_cases c4 : x8_1 < (l0.length : Int)
          · rw [if_pos c4] at H
            have c4b0 : decide (x8_1 < (l0.length : Int)) = true := decide_eq_true c4
            clear c4
            by_cases c5 : (rd l0 x8_1) = 0
            · rw [if_pos c5] at H
              have c5b0 : ((rd l0 x8_1) == 0) = true := beq_iff_eq.mpr c5
              have c5b1 : ((rd l0 x8_1) != 0) = false := bne_eq_false_iff_eq.mpr c5
              clear c5
              have H' := Aside0.mk H
              clear H
              have p118 : 0 ≤ (x8_1 : Int) := of_decide_eq_true (by first | (with_reducible assumption) | assumption)
              have q118 : x8_1 < (l0.length : Int) := of_decide_eq_true (by first | (with_reducible assumption) | assumption)
              obtain ⟨ad118, e118, hx118_0⟩ := Kd.at_int HR0.out x8_1 p118 q118
              cases e118
              replace p118 := eq_true p118
              replace q118 := eq_true q118
              go_wp2
              go_roundg k1
              case measure => have := HK1.out; omega
              case rel => exact ⟨(wrap64 (x8_1 + 1)), (by first | rfl | (simp; done) | (simp [*]; done)), H', ⟨by have := HK1.out; omega⟩, by repeat (first | exact Drawn0.refl _ | apply Drawn0.step)⟩
            · rw [if_neg c5] at H
              have c5b0 : ((rd l0 x8_1) == 0) = false := beq_eq_false_iff_ne.mpr c5
              have c5b1 : ((rd l0 x8_1) != 0) = true := bne_iff_ne.mpr c5
              obtain rfl := Option.some.inj H
              have p118 : 0 ≤ (x8_1 : Int) := of_decide_eq_true (by first | (with_reducible assumption) | assumption)
              have q118 : x8_1 < (l0.length : Int) := of_decide_eq_true (by first | (with_reducible assumption) | assumption)
              obtain ⟨ad118, e118, hx118_0⟩ := Kd.at_int HR0.out x8_1 p118 q118
              cases e118
              replace p118 := eq_true p118
              replace q118 := eq_true q118
              go_wp2
              go_ret
              exact ⟨by first | rfl | (simp; done) | (simp [*]; done), by repeat (first | exact Drawn0.refl _ | apply Drawn0.step)⟩
          · rw [if_neg c4] at H
            exact absurd H (by simp)
        · rw [if_neg c3] at H
          exact absurd H (by simp)
      · rw [if_neg c2] at H
        have c2b0 : decide (x8_1 < (l0.length : Int)) = false := decide_eq_false c2
        clear c2
        obtain rfl := Option.some.inj H
        go_wp2
        go_ret
        exact ⟨by first | rfl | (simp; done) | (simp [*]; done), by repeat (first | exact Drawn0.refl _ | apply Drawn0.step)⟩

/-! ### cmp_isNaN_int: function 69 -/
def cmp_isNaN_int.f (a0 : Int) : Option (Bool) := some (a0 != a0)
set_option maxHeartbeats 8000000 in
set_option maxRecDepth 100000 in
theorem cmp_isNaN_int.calls (a0 : Int) (r : Bool) (w : World) (h : cmp_isNaN_int.f a0 = some r) :
    Calls Try.prog 69 #[.int .i64 a0] w fun e w' => e = .returned (.bool r) ∧ Drawn0 w w' := by
  have H : (some (a0 != a0)) = some r := h
  clear h
  obtain rfl := Option.some.inj H
  go_enter Try.func69, Try.ntmps69
  go_wp2
  go_ret
  exact ⟨by first | rfl | (simp; done) | (simp [*]; done), by repeat (first | exact Drawn0.refl _ | apply Drawn0.step)⟩

/-! ### cmp_Compare_int: function 66 -/
def cmp_Compare_int.f (a0 : Int) (a1 : Int) : Option (Int) := (cmp_isNaN_int.f a0).bind fun t119 => ((cmp_isNaN_int.f a1).bind fun t120 => (if t119 = true then (if t120 = true then (some 0) else (some (-1))) else (if t120 = true then (some 1) else (if a0 < a1 then (some (-1)) else (if a0 > a1 then (some 1) else (some 0))))))
set_option maxHeartbeats 8000000 in
set_option maxRecDepth 100000 in
theorem cmp_Compare_int.calls (a0 : Int) (a1 : Int) (r : Int) (w : World) (h : cmp_Compare_int.f a0 a1 = some r) :
    Calls Try.prog 66 #[.int .i64 a0, .int .i64 a1] w fun e w' => e = .returned (.int .i64 r) ∧ Drawn0 w w' := by
  have H : ((cmp_isNaN_int.f a0).bind fun t119 => ((cmp_isNaN_int.f a1).bind fun t120 => (if t119 = true then (if t120 = true then (some 0) else (some (-1))) else (if t120 = true then (some 1) else (if a0 < a1 then (some (-1)) else (if a0 > a1 then (some 1) else (some 0))))))) = some r := h
  clear h
  replace H := Option.bind_eq_some_iff.mp H
  obtain ⟨t119, A30, H⟩ := H
  replace H : ((cmp_isNaN_int.f a1).bind fun t120 => (if t119 = true then (if t120 = true then (some 0) else (some (-1))) else (if t120 = true then (some 1) else (if a0 < a1 then (some (-1)) else (if a0 > a1 then (some 1) else (some 0)))))) = some r := H
  have A3 := Aside0.mk A30
  clear A30
  replace H := Option.bind_eq_some_iff.mp H
  obtain ⟨t120, A40, H⟩ := H
  replace H : (if t119 = true then (if t120 = true then (some 0) else (some (-1))) else (if t120 = true then (some 1) else (if a0 < a1 then (some (-1)) else (if a0 > a1 then (some 1) else (some 0))))) = some r := H
  have A4 := Aside0.mk A40
  clear A40
  by_cases c5 : t119 = true
  · subst c5
    have H1 : (if t120 = true then (some 0) else (some (-1))) = some r := by rw [if_pos rfl] at H; exact H
    clear H
    have H := H1
    clear H1
    by_cases c6 : t120 = true
    · subst c6
      have H1 : (some 0) = some r := by rw [if_pos rfl] at H; exact H
      clear H
      have H := H1
      clear H1
      obtain rfl := Option.some.inj H
      go_enter Try.func66, Try.ntmps66
      go_wp2_with (first | ((with_reducible refine gate_callee (f := 69) rfl ?_); refine goesL_ (some 8) rfl rfl Try.func69 (by kernel_rfl) rfl #[.int .i64 a0] rfl (by (try simp only [List.map_toArray, List.map_cons, List.map_nil]); first | done | rfl | (simp only [List.length_drop, List.length_take]; rfl)) ?_; (with_reducible refine (cmp_isNaN_int.calls a0 true _ A3.out).mono ?_); rintro e w' ⟨rfl, ⟨nd, rfl⟩⟩; refine ⟨_, rfl, ?_⟩) | ((with_reducible refine gate_callee (f := 69) rfl ?_); refine goesL_ (some 10) rfl rfl Try.func69 (by kernel_rfl) rfl #[.int .i64 a1] rfl (by (try simp only [List.map_toArray, List.map_cons, List.map_nil]); first | done | rfl | (simp only [List.length_drop, List.length_take]; rfl)) ?_; (with_reducible refine (cmp_isNaN_int.calls a1 true _ A4.out).mono ?_); rintro e w' ⟨rfl, ⟨nd, rfl⟩⟩; refine ⟨_, rfl, ?_⟩))
      go_ret
      exact ⟨by first | rfl | (simp; done) | (simp [*]; done), by repeat (first | exact Drawn0.refl _ | apply Drawn0.step)⟩
    · replace c6 := Bool.eq_false_iff.mpr c6
      subst c6
      have H1 : (some (-1)) = some r := by rw [if_neg (show ¬ (false = true) by decide)] at H; exact H
      clear H
      have H := H1
      clear H1
      obtain rfl := Option.some.inj H
      go_enter Try.func66, Try.ntmps66
      go_wp2_with (first | ((with_reducible refine gate_callee (f := 69) rfl ?_); refine goesL_ (some 8) rfl rfl Try.func69 (by kernel_rfl) rfl #[.int .i64 a0] rfl (by (try simp only [List.map_toArray, List.map_cons, List.map_nil]); first | done | rfl | (simp only [List.length_drop, List.length_take]; rfl)) ?_; (with_reducible refine (cmp_isNaN_int.calls a0 true _ A3.out).mono ?_); rintro e w' ⟨rfl, ⟨nd, rfl⟩⟩; refine ⟨_, rfl, ?_⟩) | ((with_reducible refine gate_callee (f := 69) rfl ?_); refine goesL_ (some 10) rfl rfl Try.func69 (by kernel_rfl) rfl #[.int .i64 a1] rfl (by (try simp only [List.map_toArray, List.map_cons, List.map_nil]); first | done | rfl | (simp only [List.length_drop, List.length_take]; rfl)) ?_; (with_reducible refine (cmp_isNaN_int.calls a1 false _ A4.out).mono ?_); rintro e w' ⟨rfl, ⟨nd, rfl⟩⟩; refine ⟨_, rfl, ?_⟩))
      go_ret
      exact ⟨by first | rfl | (simp; done) | (simp [*]; done), by repeat (first | exact Drawn0.refl _ | apply Drawn0.step)⟩
  · replace c5 := Bool.eq_false_iff.mpr c5
    subst c5
    have H1 : (if t120 = true then (some 1) else (if a0 < a1 then (some (-1)) else (if a0 > a1 then (some 1) else (some 0)))) = some r := by rw [if_neg (show ¬ (false = true) by decide)] at H; exact H
    clear H
    have H := H1
    clear H1
    by_cases c7 : t120 = true
    · subst c7
      have H1 : (some 1) = some r := by rw [if_pos rfl] at H; exact H
      clear H
      have H := H1
      clear H1
      obtain rfl := Option.some.inj H
      go_enter Try.func66, Try.ntmps66
      go_wp2_with (first | ((with_reducible refine gate_callee (f := 69) rfl ?_); refine goesL_ (some 8) rfl rfl Try.func69 (by kernel_rfl) rfl #[.int .i64 a0] rfl (by (try simp only [List.map_toArray, List.map_cons, List.map_nil]); first | done | rfl | (simp only [List.length_drop, List.length_take]; rfl)) ?_; (with_reducible refine (cmp_isNaN_int.calls a0 false _ A3.out).mono ?_); rintro e w' ⟨rfl, ⟨nd, rfl⟩⟩; refine ⟨_, rfl, ?_⟩) | ((with_reducible refine gate_callee (f := 69) rfl ?_); refine goesL_ (some 10) rfl rfl Try.func69 (by kernel_rfl) rfl #[.int .i64 a1] rfl (by (try simp only [List.map_toArray, List.map_cons, List.map_nil]); first | done | rfl | (simp only [List.length_drop, List.length_take]; rfl)) ?_; (with_reducible refine (cmp_isNaN_int.calls a1 true _ A4.out).mono ?_); rintro e w' ⟨rfl, ⟨nd, rfl⟩⟩; refine ⟨_, rfl, ?_⟩))
      go_ret
      exact ⟨by first | rfl | (simp; done) | (simp [*]; done), by repeat (first | exact Drawn0.refl _ | apply Drawn0.step)⟩
    · replace c7 := Bool.eq_false_iff.mpr c7
      subst c7
      have H1 : (if a0 < a1 then (some (-1)) else (if a0 > a1 then (some 1) else (some 0))) = some r := by rw [if_neg (show ¬ (false = true) by decide)] at H; exact H
      clear H
      have H := H1
      clear H1
      by_cases c8 : a0 < a1
      · rw [if_pos c8] at H
        have c8b0 : decide (a0 < a1) = true := decide_eq_true c8
        clear c8
        obtain rfl := Option.some.inj H
        go_enter Try.func66, Try.ntmps66
        go_wp2_with (first | ((with_reducible refine gate_callee (f := 69) rfl ?_); refine goesL_ (some 8) rfl rfl Try.func69 (by kernel_rfl) rfl #[.int .i64 a0] rfl (by (try simp only [List.map_toArray, List.map_cons, List.map_nil]); first | done | rfl | (simp only [List.length_drop, List.length_take]; rfl)) ?_; (with_reducible refine (cmp_isNaN_int.calls a0 false _ A3.out).mono ?_); rintro e w' ⟨rfl, ⟨nd, rfl⟩⟩; refine ⟨_, rfl, ?_⟩) | ((with_reducible refine gate_callee (f := 69) rfl ?_); refine goesL_ (some 10) rfl rfl Try.func69 (by kernel_rfl) rfl #[.int .i64 a1] rfl (by (try simp only [List.map_toArray, List.map_cons, List.map_nil]); first | done | rfl | (simp only [List.length_drop, List.length_take]; rfl)) ?_; (with_reducible refine (cmp_isNaN_int.calls a1 false _ A4.out).mono ?_); rintro e w' ⟨rfl, ⟨nd, rfl⟩⟩; refine ⟨_, rfl, ?_⟩))
        go_ret
        exact ⟨by first | rfl | (simp; done) | (simp [*]; done), by repeat (first | exact Drawn0.refl _ | apply Drawn0.step)⟩
      · rw [if_neg c8] at H
        have c8b0 : decide (a0 < a1) = false := decide_eq_false c8
        clear c8
        by_cases c9 : a0 > a1
        · rw [if_pos c9] at H
          have c9b0 : decide (a1 < a0) = true := decide_eq_true c9
          clear c9
          obtain rfl := Option.some.inj H
          go_enter Try.func66, Try.ntmps66
          go_wp2_with (first | ((with_reducible refine gate_callee (f := 69) rfl ?_); refine goesL_ (some 8) rfl rfl Try.func69 (by kernel_rfl) rfl #[.int .i64 a0] rfl (by (try simp only [List.map_toArray, List.map_cons, List.map_nil]); first | done | rfl | (simp only [List.length_drop, List.length_take]; rfl)) ?_; (with_reducible refine (cmp_isNaN_int.calls a0 false _ A3.out).mono ?_); rintro e w' ⟨rfl, ⟨nd, rfl⟩⟩; refine ⟨_, rfl, ?_⟩) | ((with_reducible refine gate_callee (f := 69) rfl ?_); refine goesL_ (some 10) rfl rfl Try.func69 (by kernel_rfl) rfl #[.int .i64 a1] rfl (by (try simp only [List.map_toArray, List.map_cons, List.map_nil]); first | done | rfl | (simp only [List.length_drop, List.length_take]; rfl)) ?_; (with_reducible refine (cmp_isNaN_int.calls a1 false _ A4.out).mono ?_); rintro e w' ⟨rfl, ⟨nd, rfl⟩⟩; refine ⟨_, rfl, ?_⟩))
          go_ret
          exact ⟨by first | rfl | (simp; done) | (simp [*]; done), by repeat (first | exact Drawn0.refl _ | apply Drawn0.step)⟩
        · rw [if_neg c9] at H
          have c9b0 : decide (a1 < a0) = false := decide_eq_false c9
          clear c9
          obtain rfl := Option.some.inj H
          go_enter Try.func66, Try.ntmps66
          go_wp2_with (first | ((with_reducible refine gate_callee (f := 69) rfl ?_); refine goesL_ (some 8) rfl rfl Try.func69 (by kernel_rfl) rfl #[.int .i64 a0] rfl (by (try simp only [List.map_toArray, List.map_cons, List.map_nil]); first | done | rfl | (simp only [List.length_drop, List.length_take]; rfl)) ?_; (with_reducible refine (cmp_isNaN_int.calls a0 false _ A3.out).mono ?_); rintro e w' ⟨rfl, ⟨nd, rfl⟩⟩; refine ⟨_, rfl, ?_⟩) | ((with_reducible refine gate_callee (f := 69) rfl ?_); refine goesL_ (some 10) rfl rfl Try.func69 (by kernel_rfl) rfl #[.int .i64 a1] rfl (by (try simp only [List.map_toArray, List.map_cons, List.map_nil]); first | done | rfl | (simp only [List.length_drop, List.length_take]; rfl)) ?_; (with_reducible refine (cmp_isNaN_int.calls a1 false _ A4.out).mono ?_); rintro e w' ⟨rfl, ⟨nd, rfl⟩⟩; refine ⟨_, rfl, ?_⟩))
          go_ret
          exact ⟨by first | rfl | (simp; done) | (simp [*]; done), by repeat (first | exact Drawn0.refl _ | apply Drawn0.step)⟩

/-! ### goods_compare: function 56 -/
def goods_compare.f (k : Nat) (a0_0 : ByteArray) (a0_1 : ByteArray) (a0_2 : Int) (a0_3 : Int) (a0_4 : Int) (a1_0 : ByteArray) (a1_1 : ByteArray) (a1_2 : Int) (a1_3 : Int) (a1_4 : Int) : Option (Int) := (strings_Compare.f a0_0 a1_0).bind fun t123 => ((cmp_Compare_int.f a0_2 a1_2).bind fun t124 => ((cmp_Or_int.f k (([t123, t124] : List Int))).bind fun t128 => (some t128)))
theorem goods_compare.mono : ∀ a0 a1 a2 a3 a4 a5 a6 a7 a8 a9 k, LeO (goods_compare.f k a0 a1 a2 a3 a4 a5 a6 a7 a8 a9) (goods_compare.f (k + 1) a0 a1 a2 a3 a4 a5 a6 a7 a8 a9) := by
  intro a0 a1 a2 a3 a4 a5 a6 a7 a8 a9 k
  unfold goods_compare.f
  repeat' first
      | (with_reducible exact cmp_Or_int.mono _ _)
      | (with_reducible exact LeO.refl _)
      | (with_reducible exact LeO.none _)
      | (with_reducible refine LeO.ite ?_ ?_)
      | (with_reducible refine LeO.bind ?_ (fun _ => ?_))
      | exact cmp_Or_int.mono _ _
      | exact LeO.none _
      | refine LeO.ite ?_ ?_
      | refine LeO.bind ?_ (fun _ => ?_)
def goods_compare.T1 : Bool × List (List Nat × List Nat) := (true, [([], []), ([0], [0]), ([], []), ([2], [2]), ([1, 3], [1, 3]), ([], []), ([5], [5]), ([], []), ([7], [7]), ([6, 8, 4], [6, 8]), ([4, 9], [4, 9]), ([10, 9], [10]), ([11, 11, 0, 1, 2, 3, 4, 5, 6, 7, 8, 9, 10, 11], [11])])
def goods_compare.B1 : List Nat := [0, 1, 0, 4, 15, 0, 32, 0, 128, 511, 1023, 2047, 4095]
theorem goods_compare.tab1 : rtab .any (opsOf Try.f56 1) = goods_compare.T1 := by kernel_rfl
theorem goods_compare.bits1 : waitsOk goods_compare.T1.2 goods_compare.B1 = true := by kernel_rfl
set_option maxHeartbeats 8000000 in
set_option maxRecDepth 100000 in
theorem goods_compare.calls (k : Nat) (a0_0 : ByteArray) (a0_1 : ByteArray) (a0_2 : Int) (a0_3 : Int) (a0_4 : Int) (a1_0 : ByteArray) (a1_1 : ByteArray) (a1_2 : Int) (a1_3 : Int) (a1_4 : Int) (r : Int) (w : World) (h : goods_compare.f k a0_0 a0_1 a0_2 a0_3 a0_4 a1_0 a1_1 a1_2 a1_3 a1_4 = some r) :
    Calls Try.prog 56 #[.agg #[.string a0_0, .string a0_1, .int .i64 a0_2, .int .i64 a0_3, .int .i64 a0_4], .agg #[.string a1_0, .string a1_1, .int .i64 a1_2, .int .i64 a1_3, .int .i64 a1_4]] w fun e w' => e = .returned (.int .i64 r) ∧ Below w.heap.size w w' := by
  have hu69 := Try.underlying69
  have HB := Aside0.mk (Below.refl w.heap.size w)
  have H : ((strings_Compare.f a0_0 a1_0).bind fun t123 => ((cmp_Compare_int.f a0_2 a1_2).bind fun t124 => ((cmp_Or_int.f k (([t123, t124] : List Int))).bind fun t128 => (some t128)))) = some r := h
  clear h
  replace H := Option.bind_eq_some_iff.mp H
  obtain ⟨t123, A30, H⟩ := H
  replace H : ((cmp_Compare_int.f a0_2 a1_2).bind fun t124 => ((cmp_Or_int.f k (([t123, t124] : List Int))).bind fun t128 => (some t128))) = some r := H
  have A3 := Aside0.mk A30
  clear A30
  replace H := Option.bind_eq_some_iff.mp H
  obtain ⟨t124, A40, H⟩ := H
  replace H : ((cmp_Or_int.f k (([t123, t124] : List Int))).bind fun t128 => (some t128)) = some r := H
  have A4 := Aside0.mk A40
  clear A40
  obtain ⟨y125, hy125⟩ : ∃ y_ : List Int, y_ = (([t123, t124] : List Int)) := ⟨_, rfl⟩
  replace H : ((cmp_Or_int.f k y125).bind fun t128 => (some t128)) = some r := by first | (rw [hy125]; with_reducible exact H) | (have H2_ := (Option.bind_some _ _).symm.trans H; rw [hy125]; with_reducible exact H2_) | (have H2_ := (Option.bind_some _ _).symm.trans H; with_reducible exact H2_) | with_reducible exact H | (rw [hy125]; exact H) | exact H
  have Ny125 := Aside0.mk hy125
  clear hy125
  replace H := Option.bind_eq_some_iff.mp H
  obtain ⟨t128, A50, H⟩ := H
  replace H : (some t128) = some r := H
  have A5 := Aside0.mk A50
  clear A50
  obtain rfl := Option.some.inj H
  go_enter Try.func56, Try.ntmps56
  try go_wp2_with (first | ((with_reducible refine gate_dst (N := 2) rfl ?_); refine box_event ?hg (N := 2) ?hd (cs := #[.string a0_0, .string a0_1, .int .i64 a0_2, .int .i64 a0_3, .int .i64 a0_4]) (t := 69) ?hr ?_; (case hd => rfl); (case hg => rfl); (case hr => first | (go_simp; done) | (go_simp; rfl)); intro gb121 hg w6 hbox hb; have n0_ := Aside0.mk (below_step (by repeat (first | (with_reducible first | exact HB.out | apply below_alloc | apply pw_below_drewN | apply below_drew1) | exact HB.out)) hb); have n1_ := Aside0.mk (hbox); have n2_ := Aside0.mk ((by rw [hg]; exact (below_size (by repeat (first | (with_reducible first | exact HB.out | apply below_alloc | apply pw_below_drewN | apply below_drew1) | exact HB.out))) : w.heap.size ≤ gb121)); have n3_ := Aside0.mk ((by rw [hg]; exact (below_size (by repeat (first | (with_reducible first | exact HB.out | apply below_alloc | apply pw_below_drewN | apply below_drew1) | exact HB.out))) : w.heap.size ≤ gb121)); clear HB; have HB := n0_; have BK121 := n1_; have GW121 := n2_; have GE121 := n3_; clear n0_ n1_ n2_ n3_; clear hb hbox hg) | ((with_reducible refine gate_dst (N := 3) rfl ?_); refine box_event ?hg (N := 3) ?hd (cs := #[.string a1_0, .string a1_1, .int .i64 a1_2, .int .i64 a1_3, .int .i64 a1_4]) (t := 69) ?hr ?_; (case hd => rfl); (case hg => rfl); (case hr => first | (go_simp; done) | (go_simp; rfl)); intro gb122 hg w7 hbox hb; have n0_ := Aside0.mk (blk_below (g := gb121) (o := .cells #[.string a0_0, .string a0_1, .int .i64 a0_2, .int .i64 a0_3, .int .i64 a0_4] 69 (0, 0)) (by (with_reducible repeat (first | refine blk_drewN ?_ _ | refine blk_drew ?_ | refine blk_alloc ?_ _)); exact BK121.out) hb); have n1_ := Aside0.mk (below_step (by repeat (first | (with_reducible first | exact HB.out | apply below_alloc | apply pw_below_drewN | apply below_drew1 | refine below_set ?_ GE121.out) | exact HB.out)) hb); have n2_ := Aside0.mk (hbox); have n3_ := Aside0.mk ((by rw [hg]; exact (below_size (by repeat (first | (with_reducible first | exact HB.out | apply below_alloc | apply pw_below_drewN | apply below_drew1 | refine below_set ?_ GE121.out) | exact HB.out))) : w.heap.size ≤ gb122)); have n4_ := Aside0.mk ((by rw [hg]; exact (below_size (by repeat (first | (with_reducible first | exact HB.out | apply below_alloc | apply pw_below_drewN | apply below_drew1 | refine below_set ?_ GE121.out) | exact HB.out))) : w.heap.size ≤ gb122)); have n5_ := Aside0.mk ((by rw [hg]; exact Nat.ne_of_lt (blk_lt (g := gb121) (o := .cells #[.string a0_0, .string a0_1, .int .i64 a0_2, .int .i64 a0_3, .int .i64 a0_4] 69 (0, 0)) (by (with_reducible repeat (first | refine blk_drewN ?_ _ | refine blk_drew ?_ | refine blk_alloc ?_ _)); exact BK121.out)) : gb121 ≠ gb122)); have n6_ := Aside0.mk ((by rw [hg]; exact Nat.ne_of_gt (blk_lt (g := gb121) (o := .cells #[.string a0_0, .string a0_1, .int .i64 a0_2, .int .i64 a0_3, .int .i64 a0_4] 69 (0, 0)) (by (with_reducible repeat (first | refine blk_drewN ?_ _ | refine blk_drew ?_ | refine blk_alloc ?_ _)); exact BK121.out)) : gb122 ≠ gb121)); clear BK121; clear HB; have BK121 := n0_; have HB := n1_; have BK122 := n2_; have GW122 := n3_; have GE122 := n4_; have NB121_122 := n5_; have NB122_121 := n6_; clear n0_ n1_ n2_ n3_ n4_ n5_ n6_; clear hb hbox hg))
  have n0_ := Aside0.mk (blk_drew BK121.out)
  have n1_ := Aside0.mk (blk_drew BK122.out)
  have n2_ := Aside0.mk (below_drew1 HB.out)
  clear BK121
  clear BK122
  clear HB
  have BK121 := n0_
  have BK122 := n1_
  have HB := n2_
  clear n0_ n1_ n2_
  refine start_ (n := 13) (S := fun w' => w'.cell? ⟨gb121, 0, none⟩ = some (.string a0_0) ∧ w'.cell? ⟨gb121, 1, none⟩ = some (.string a0_1) ∧ w'.cell? ⟨gb121, 2, none⟩ = some (.int .i64 a0_2) ∧ w'.cell? ⟨gb121, 3, none⟩ = some (.int .i64 a0_3) ∧ w'.cell? ⟨gb121, 4, none⟩ = some (.int .i64 a0_4) ∧ w'.cell? ⟨gb122, 0, none⟩ = some (.string a1_0) ∧ w'.cell? ⟨gb122, 1, none⟩ = some (.string a1_1) ∧ w'.cell? ⟨gb122, 2, none⟩ = some (.int .i64 a1_2) ∧ w'.cell? ⟨gb122, 3, none⟩ = some (.int .i64 a1_3) ∧ w'.cell? ⟨gb122, 4, none⟩ = some (.int .i64 a1_4)) (ds := []) #[false, false, false, false, false, false, false, false, false, false, false, false, false] (by kernel_rfl) rfl rfl ⟨(blk_cell BK121.out 0).trans rfl, (blk_cell BK121.out 1).trans rfl, (blk_cell BK121.out 2).trans rfl, (blk_cell BK121.out 3).trans rfl, (blk_cell BK121.out 4).trans rfl, (blk_cell BK122.out 0).trans rfl, (blk_cell BK122.out 1).trans rfl, (blk_cell BK122.out 2).trans rfl, (blk_cell BK122.out 3).trans rfl, (blk_cell BK122.out 4).trans rfl⟩ (fun hHeld => ?_); refine with_tabW goods_compare.tab1 goods_compare.bits1 (fun HT_ HW_ => ?_)
  generalize w7.drew = w8 at BK121 BK122 HB hHeld ⊢
  refine pure_ (i := 0) (N := some 5) (v := ?_) (a' := ?_) #[true, false, false, false, false, false, false, false, false, false, false, false, false] rfl rfl (any_of HT_.out (by kernel_rfl)) (fun _ _ _ h => h) (Or.inl ⟨by rfl, ?_⟩) ?_ ?_
  rotate_left
  · intro w'
    go_simp
    with_reducible rfl
  rotate_left
  · simp only [Act.put, List.setIfInBounds_toArray, List.set_cons_zero, List.set_cons_succ, i64_w, i32_w]
    rfl
  refine pure_ (i := 2) (N := some 7) (v := ?_) (a' := ?_) #[true, false, true, false, false, false, false, false, false, false, false, false, false] rfl rfl (any_of HT_.out (by kernel_rfl)) (fun _ _ _ h => h) (Or.inl ⟨by rfl, ?_⟩) ?_ ?_
  rotate_left
  · intro w'
    go_simp
    with_reducible rfl
  rotate_left
  · simp only [Act.put, List.setIfInBounds_toArray, List.set_cons_zero, List.set_cons_succ, i64_w, i32_w]
    rfl
  refine pure_ (i := 5) (N := some 10) (v := ?_) (a' := ?_) #[true, false, true, false, false, true, false, false, false, false, false, false, false] rfl rfl (any_of HT_.out (by kernel_rfl)) (fun _ _ _ h => h) (Or.inl ⟨by rfl, ?_⟩) ?_ ?_
  rotate_left
  · intro w'
    go_simp
    with_reducible rfl
  rotate_left
  · simp only [Act.put, List.setIfInBounds_toArray, List.set_cons_zero, List.set_cons_succ, i64_w, i32_w]
    rfl
  refine pure_ (i := 7) (N := some 12) (v := ?_) (a' := ?_) #[true, false, true, false, false, true, false, true, false, false, false, false, false] rfl rfl (any_of HT_.out (by kernel_rfl)) (fun _ _ _ h => h) (Or.inl ⟨by rfl, ?_⟩) ?_ ?_
  rotate_left
  · intro w'
    go_simp
    with_reducible rfl
  rotate_left
  · simp only [Act.put, List.setIfInBounds_toArray, List.set_cons_zero, List.set_cons_succ, i64_w, i32_w]
    rfl
  refine take_ (i := 1) (N := some 6) (v := ?_) (a' := ?_) #[true, true, true, false, false, true, false, true, false, false, false, false, false] rfl rfl (take_ofW HT_.out HW_.out (by kernel_rfl)) (fun _ _ _ h => h) (Or.inl ⟨by rfl, ?_⟩) hHeld ?_ ?_
  rotate_left
  · rintro w' ⟨s0, s1, s2, s3, s4, s5, s6, s7, s8, s9⟩
    go_simp
    with_reducible rfl
  rotate_left
  · simp only [Act.put, List.setIfInBounds_toArray, List.set_cons_zero, List.set_cons_succ, i64_w, i32_w]
    rfl
  refine take_ (i := 3) (N := some 8) (v := ?_) (a' := ?_) #[true, true, true, true, false, true, false, true, false, false, false, false, false] rfl rfl (take_ofW HT_.out HW_.out (by kernel_rfl)) (fun _ _ _ h => h) (Or.inl ⟨by rfl, ?_⟩) hHeld ?_ ?_
  rotate_left
  · rintro w' ⟨s0, s1, s2, s3, s4, s5, s6, s7, s8, s9⟩
    go_simp
    with_reducible rfl
  rotate_left
  · simp only [Act.put, List.setIfInBounds_toArray, List.set_cons_zero, List.set_cons_succ, i64_w, i32_w]
    rfl
  refine take_ (i := 6) (N := some 11) (v := ?_) (a' := ?_) #[true, true, true, true, false, true, true, true, false, false, false, false, false] rfl rfl (take_ofW HT_.out HW_.out (by kernel_rfl)) (fun _ _ _ h => h) (Or.inl ⟨by rfl, ?_⟩) hHeld ?_ ?_
  rotate_left
  · rintro w' ⟨s0, s1, s2, s3, s4, s5, s6, s7, s8, s9⟩
    go_simp
    with_reducible rfl
  rotate_left
  · simp only [Act.put, List.setIfInBounds_toArray, List.set_cons_zero, List.set_cons_succ, i64_w, i32_w]
    rfl
  refine take_ (i := 8) (N := some 13) (v := ?_) (a' := ?_) #[true, true, true, true, false, true, true, true, true, false, false, false, false] rfl rfl (take_ofW HT_.out HW_.out (by kernel_rfl)) (fun _ _ _ h => h) (Or.inl ⟨by rfl, ?_⟩) hHeld ?_ ?_
  rotate_left
  · rintro w' ⟨s0, s1, s2, s3, s4, s5, s6, s7, s8, s9⟩
    go_simp
    with_reducible rfl
  rotate_left
  · simp only [Act.put, List.setIfInBounds_toArray, List.set_cons_zero, List.set_cons_succ, i64_w, i32_w]
    rfl
  refine one_ (i := 4) (N := some 9) #[true, true, true, true, true, true, true, true, true, false, false, false, false] rfl rfl (one_of HT_.out (by kernel_rfl)) (by decide) (fun K hK => ?_)
  refine goes_ Try.func41 (by kernel_rfl) rfl #[.string a0_0, .string a1_0] (by rfl) rfl rfl (by (try simp only [List.map_toArray, List.map_cons, List.map_nil]); first | done | rfl | (simp only [List.length_drop, List.length_take]; rfl)) ?_
  with_reducible refine (strings_Compare.calls a0_0 a1_0 t123 _ A3.out).mono ?_
  rintro e w' ⟨rfl, ⟨nd, rfl⟩⟩
  refine ⟨_, rfl, ?_⟩
  refine hK.out _ _ ⟨(blk_cell BK121.out 0).trans rfl, (blk_cell BK121.out 1).trans rfl, (blk_cell BK121.out 2).trans rfl, (blk_cell BK121.out 3).trans rfl, (blk_cell BK121.out 4).trans rfl, (blk_cell BK122.out 0).trans rfl, (blk_cell BK122.out 1).trans rfl, (blk_cell BK122.out 2).trans rfl, (blk_cell BK122.out 3).trans rfl, (blk_cell BK122.out 4).trans rfl⟩ (fun hHeld => ?_)
  clear hK K
  refine norm_ (a' := ?_) ?_ ?_
  rotate_left
  · show Act.put _ (some 9) _ = _
    simp only [Act.put, List.setIfInBounds_toArray, List.set_cons_zero, List.set_cons_succ, i64_w, i32_w]
    rfl
  refine one_ (i := 9) (N := some 14) #[true, true, true, true, true, true, true, true, true, true, false, false, false] rfl rfl (one_of HT_.out (by kernel_rfl)) (by decide) (fun K hK => ?_)
  refine goes_ Try.func66 (by kernel_rfl) rfl #[.int .i64 a0_2, .int .i64 a1_2] (by rfl) rfl rfl (by (try simp only [List.map_toArray, List.map_cons, List.map_nil]); first | done | rfl | (simp only [List.length_drop, List.length_take]; rfl)) ?_
  with_reducible refine (cmp_Compare_int.calls a0_2 a1_2 t124 _ A4.out).mono ?_
  rintro e w' ⟨rfl, ⟨nd, rfl⟩⟩
  refine ⟨_, rfl, ?_⟩
  refine hK.out _ _ ⟨(blk_cell BK121.out 0).trans rfl, (blk_cell BK121.out 1).trans rfl, (blk_cell BK121.out 2).trans rfl, (blk_cell BK121.out 3).trans rfl, (blk_cell BK121.out 4).trans rfl, (blk_cell BK122.out 0).trans rfl, (blk_cell BK122.out 1).trans rfl, (blk_cell BK122.out 2).trans rfl, (blk_cell BK122.out 3).trans rfl, (blk_cell BK122.out 4).trans rfl⟩ (fun hHeld => ?_)
  clear hK K
  refine norm_ (a' := ?_) ?_ ?_
  rotate_left
  · show Act.put _ (some 14) _ = _
    simp only [Act.put, List.setIfInBounds_toArray, List.set_cons_zero, List.set_cons_succ, i64_w, i32_w]
    rfl
  refine one_ (i := 10) (N := some 15) #[true, true, true, true, true, true, true, true, true, true, true, false, false] rfl rfl (one_of HT_.out (by kernel_rfl)) (by decide) (fun K hK => ?_)
  refine Kd.R_lit_step (Kd.int .i64) _ 3 ?hg (N := 15) ?hd (xs := ([t123, t124] : List Int)) (inner := [.int .i64 t123, .int .i64 t124]) (ok := fun _ => True) (okp := fun _ => True) ?hr ?hp (fun _ hk => hk) trivial (Below.refl _ _) (Nat.le_refl _) (by simp) ?_; (case hd => rfl); (case hg => rfl); (case hr => first | (go_simp; done) | (go_simp; rfl)); (case hp => exact (Reps.one (show Kd.M (Kd.int .i64) _ _ _ t123 [.int .i64 t123] from rfl) (Reps.one (show Kd.M (Kd.int .i64) _ _ _ t124 [.int .i64 t124] from rfl) (Reps.none _ _))))
  intro v126 w9 ho10 hb hg_ hnew_
  clear hg_ hnew_
  (first | rw [← Ny125.out] at ho10 | (simp only [Int.reduceToNat] at ho10; rw [← Ny125.out] at ho10))
  have n0_ := Aside0.mk (Kd.R_lower ho10 (below_size (by repeat (first | (with_reducible first | exact HB.out | apply below_alloc | apply pw_below_drewN | apply below_drew1 | refine below_set ?_ GE121.out | refine below_set ?_ GE122.out) | exact HB.out))))
  have n1_ := Aside0.mk (blk_below (g := gb121) (o := .cells #[.string a0_0, .string a0_1, .int .i64 a0_2, .int .i64 a0_3, .int .i64 a0_4] 69 (0, 0)) (by (with_reducible repeat (first | refine blk_drewN ?_ _ | refine blk_drew ?_ | refine blk_alloc ?_ _)); exact BK121.out) hb)
  have n2_ := Aside0.mk (blk_below (g := gb122) (o := .cells #[.string a1_0, .string a1_1, .int .i64 a1_2, .int .i64 a1_3, .int .i64 a1_4] 69 (0, 0)) (by (with_reducible repeat (first | refine blk_drewN ?_ _ | refine blk_drew ?_ | refine blk_alloc ?_ _)); exact BK122.out) hb)
  have n3_ := Aside0.mk (below_step (by repeat (first | (with_reducible first | exact HB.out | apply below_alloc | apply pw_below_drewN | apply below_drew1 | refine below_set ?_ GE121.out | refine below_set ?_ GE122.out) | exact HB.out)) hb)
  clear BK121
  clear BK122
  clear HB
  have HO127 := n0_
  have BK121 := n1_
  have BK122 := n2_
  have HB := n3_
  clear n0_ n1_ n2_ n3_
  clear hb ho10
  obtain ⟨Ao11, co11, eo11⟩ := Kd.R_slice HO127.out
  (first | subst eo11 | (injection eo11 with f1_ f2_ f3_; have f4_ := f1_.symm; have f5_ := f3_.symm; clear f1_ f2_ f3_; subst f4_; subst f5_))
  refine hK.out _ _ ⟨(blk_cell BK121.out 0).trans rfl, (blk_cell BK121.out 1).trans rfl, (blk_cell BK121.out 2).trans rfl, (blk_cell BK121.out 3).trans rfl, (blk_cell BK121.out 4).trans rfl, (blk_cell BK122.out 0).trans rfl, (blk_cell BK122.out 1).trans rfl, (blk_cell BK122.out 2).trans rfl, (blk_cell BK122.out 3).trans rfl, (blk_cell BK122.out 4).trans rfl⟩ (fun hHeld => ?_)
  clear hK K
  refine norm_ (a' := ?_) ?_ ?_
  rotate_left
  · show Act.put _ (some 15) _ = _
    simp only [Act.put, List.setIfInBounds_toArray, List.set_cons_zero, List.set_cons_succ, i64_w, i32_w]
    rfl
  refine one_ (i := 11) (N := some 16) #[true, true, true, true, true, true, true, true, true, true, true, true, false] rfl rfl (one_of HT_.out (by kernel_rfl)) (by decide) (fun K hK => ?_)
  refine goes_ Try.func65 (by kernel_rfl) rfl #[.slice Ao11 y125.length co11] (by rfl) rfl rfl (by (try simp only [List.map_toArray, List.map_cons, List.map_nil]); first | done | rfl | (simp only [List.length_drop, List.length_take]; rfl)) ?_
  with_reducible refine (cmp_Or_int.calls k _ _ y125 t128 _ ?side1 ?side2 A5.out).mono ?_
  (case side1 => repeat (first | exact (Kd.R_reads' HO127.out).2.2 | (with_reducible refine Kd.C_alloc ?_ _) | (with_reducible refine Kd.C_drewN ?_ _) | (with_reducible refine Kd.C_drew ?_)))
  (case side2 => exact (Kd.R_reads' HO127.out).2.1)
  rintro e w' ⟨rfl, ⟨nd, rfl⟩⟩
  refine ⟨_, rfl, ?_⟩
  refine hK.out _ _ ⟨(blk_cell BK121.out 0).trans rfl, (blk_cell BK121.out 1).trans rfl, (blk_cell BK121.out 2).trans rfl, (blk_cell BK121.out 3).trans rfl, (blk_cell BK121.out 4).trans rfl, (blk_cell BK122.out 0).trans rfl, (blk_cell BK122.out 1).trans rfl, (blk_cell BK122.out 2).trans rfl, (blk_cell BK122.out 3).trans rfl, (blk_cell BK122.out 4).trans rfl⟩ (fun hHeld => ?_)
  clear hK K
  refine norm_ (a' := ?_) ?_ ?_
  rotate_left
  · show Act.put _ (some 16) _ = _
    simp only [Act.put, List.setIfInBounds_toArray, List.set_cons_zero, List.set_cons_succ, i64_w, i32_w]
    rfl
  refine pure_ (i := 12) (N := some 4) (v := ?_) (a' := ?_) #[true, true, true, true, true, true, true, true, true, true, true, true, true] rfl rfl (any_of HT_.out (by kernel_rfl)) (fun _ _ _ h => h) (Or.inl ⟨by rfl, ?_⟩) ?_ ?_
  rotate_left
  · intro w'
    go_simp
    with_reducible rfl
  rotate_left
  · simp only [Act.put, List.setIfInBounds_toArray, List.set_cons_zero, List.set_cons_succ, i64_w, i32_w]
    rfl
  refine done_ (done_of HT_.out (by kernel_rfl)) ?_
  try go_wp2
  go_ret
  exact ⟨by first | rfl | (simp [errW_none, errW_some] <;> rfl) | (simp [*, errW_none, errW_some] <;> rfl), by repeat (first | (with_reducible first | exact HB.out | apply below_alloc | apply pw_below_drewN | apply below_drew1 | refine below_set ?_ GE121.out | refine below_set ?_ GE122.out) | exact HB.out)⟩

/-! ### api_Sub_55: function 55 (by hand) -/
set_option maxHeartbeats 4000000 in
theorem rising_sub.calls (c : S69 → S69 → Int) (g : Nat) (lb : Array Value) (eg : ∀ args w, (callFunc g args).run Try.prog w = .ok (.enter g args) w) (A0 : Option Addr) (c0 : Nat) (l0 : List S69) (most : Int) (w : World)
    (hr0 : Kd.C k69 w A0 l0.length l0) (hp : CmpB Try.prog g lb (fun x_ : S69 => Value.agg #[.string x_.f0, .string x_.f1, .int .i64 x_.f2, .int .i64 x_.f3, .int .i64 x_.f4]) c l0 w) :
    Calls Try.prog 55 #[.slice A0 l0.length c0, .int .i64 most, .func (.func g) #[] lb] w fun e w' => e = .returned (.bool (chainB (fun x y => decide (c x y < 0)) l0 && decide ((l0.length : Int) ≤ most))) ∧ Below w.heap.size w w' := by
  have hu69 := Try.underlying69
  have HR0 := Aside0.mk hr0
  have HP := Aside0.mk hp
  clear hr0 hp
  have hlen : l0.length ≤ 9223372036854775807 := HR0.out.2.1
  go_enter Try.func55, Try.ntmps55
  go_wp2
  go_loopg [7] l0.length (fun gg s7 wr => ∃ m : Nat, m ≤ l0.length ∧ l0.length - m ≤ gg ∧ s7 = .int .i64 ((m : Int) + 1) ∧ Aside0 (Below w.heap.size w wr) ∧ Aside0 (∀ j (hj : j + 1 < l0.length), j < m → c (l0[j]'(by omega)) l0[j + 1] < 0))
  case atStart => exact ⟨0, by omega, by omega, rfl, ⟨Below.refl _ w⟩, ⟨fun j _ hj => by omega⟩⟩
  case round =>
    obtain ⟨m, hkk, hg, rfl, BW, A⟩ := hrel
    by_cases hlt : m + 1 < l0.length
    · have hltz : (m : Int) + 1 < (l0.length : Int) := by omega
      have hltm : (m : Int) < (l0.length : Int) := by omega
      have h0m : (0 : Int) ≤ (m : Int) + 1 := by omega
      have htn : ((m : Int) + 1).toNat = m + 1 := by omega
      have hmod : IntKind.i64.wrap (m : Int) = (m : Int) := IntWalk.i64_in _ (by omega)
      obtain ⟨ad, e0, hx0, hx1, hx2, hx3, hx4⟩ := at_T69 HR0.out ((m : Int) + 1) (by omega) hltz
      obtain ⟨ad2, e2, hy0, hy1, hy2, hy3, hy4⟩ := at_T69 HR0.out (m : Int) (by omega) hltm
      obtain rfl := Option.some.inj (e0.symm.trans e2)
      subst e0
      clear e2
      replace hx0 := (BW.out.cell (World.block_lt_of_cell? w _ hx0)).trans hx0
      replace hx1 := (BW.out.cell (World.block_lt_of_cell? w _ hx1)).trans hx1
      replace hx2 := (BW.out.cell (World.block_lt_of_cell? w _ hx2)).trans hx2
      replace hx3 := (BW.out.cell (World.block_lt_of_cell? w _ hx3)).trans hx3
      replace hx4 := (BW.out.cell (World.block_lt_of_cell? w _ hx4)).trans hx4
      replace hy0 := (BW.out.cell (World.block_lt_of_cell? w _ hy0)).trans hy0
      replace hy1 := (BW.out.cell (World.block_lt_of_cell? w _ hy1)).trans hy1
      replace hy2 := (BW.out.cell (World.block_lt_of_cell? w _ hy2)).trans hy2
      replace hy3 := (BW.out.cell (World.block_lt_of_cell? w _ hy3)).trans hy3
      replace hy4 := (BW.out.cell (World.block_lt_of_cell? w _ hy4)).trans hy4
      have g1 : rd_T69 l0 ((m : Int) + 1) = l0[m + 1] := getD_get _ l0 (m + 1) hlt
      have g0 : rd_T69 l0 (m : Int) = l0[m]'(by omega) := getD_get _ l0 m (by omega)
      have hcall := HP.out wr.drew (rd_T69 l0 (m : Int)) (rd_T69 l0 ((m : Int) + 1)) (by rw [g0]; exact List.getElem_mem _) (by rw [g1]; exact List.getElem_mem hlt) (below_drew BW.out)
      simp only [Int.toNat_natCast] at hy0 hy1 hy2 hy3 hy4
      rw [htn] at hx0 hx1 hx2 hx3 hx4
      generalize hy_ : rd_T69 l0 ((m : Int) + 1) = y at hx0 hx1 hx2 hx3 hx4 hcall g1
      generalize hx_ : rd_T69 l0 (m : Int) = x at hy0 hy1 hy2 hy3 hy4 hcall g0
      have Y := Aside0.mk g1.symm
      have X := Aside0.mk g0.symm
      clear hx_ hy_ g0 g1
      by_cases hq : c x y < 0
      · have hd : decide (0 ≤ c x y) = false := by simpa using hq
        have Q := Aside0.mk hq
        clear hq
        generalize hqq : c x y = q at hd hcall Q
        have QE := Aside0.mk hqq
        clear hqq
        go_wp2
        go_still_tail 10, (by kernel_rfl)
        change wpList _ _ _ _ _ (wr.drew)
        go_wp2_with (go_at_fn g; refine hcall.mono ?_; rintro e w' ⟨rfl, hb'⟩)
        go_roundg (l0.length - (m + 1))
        case measure => omega
        case rel =>
          refine ⟨m + 1, by omega, by omega, by go_num, ⟨below_step (below_drew BW.out) hb'⟩, ⟨fun j hj hjk => ?_⟩⟩
          by_cases e : j = m
          · subst e; rw [X.out, Y.out, QE.out]; exact Q.out
          · exact A.out j hj (by omega)
      · have hd : decide (0 ≤ c x y) = true := by simpa using hq
        have Q := Aside0.mk hq
        clear hq
        generalize hqq : c x y = q at hd hcall Q
        have QE := Aside0.mk hqq
        clear hqq
        go_wp2
        go_still_tail 10, (by kernel_rfl)
        change wpList _ _ _ _ _ (wr.drew)
        go_wp2_with (go_at_fn g; refine hcall.mono ?_; rintro e w' ⟨rfl, hb'⟩)
        go_ret
        refine ⟨?_, below_step (below_drew BW.out) hb'⟩
        rw [chainB_no _ l0 m hlt (by rw [X.out, Y.out, QE.out]; simpa using Q.out)]
        rfl
    · have hltz : ¬ (m : Int) + 1 < (l0.length : Int) := by omega
      go_wp2
      go_ret
      refine ⟨?_, BW.out⟩
      rw [(chainB_iff _ l0).2 (fun i hi => by simpa using A.out i hi (by omega)), Bool.true_and]
      rfl

/-! ### goods_Right: function 42 (by hand) -/
def subMay (x : S69) : Bool := nameOk x.f0 && (nameOk x.f1 && (!(x.f0.toList == x.f1.toList) && (rng x.f2 9 && (rng x.f3 100 && rng x.f4 100))))
theorem goods_in_eq (n m : Int) : goods_in.f n m = some (rng n m) := by
  unfold goods_in.f rng
  by_cases h : 1 ≤ n <;> simp [h]
theorem goods_may_eq (x : S69) : goods_may.f x.f0 x.f1 x.f2 x.f3 x.f4 = some (subMay x) := by
  unfold goods_may.f subMay
  simp only [goods_name.f, goods_in_eq, Option.bind_some]
  cases nameOk x.f0 <;> cases nameOk x.f1 <;> by_cases h : x.f0.toList = x.f1.toList <;> cases rng x.f2 9 <;> cases rng x.f3 100 <;> simp [h]
theorem index_str_l0 (l : List ByteArray) (a : ByteArray) (hl : l.length ≤ 9223372036854775807) : ∀ d k i : Nat, i + d = l.length → d < k → ∃ r, slices_Index_string_string.l0 k l a (l.length : Int) (i : Int) = some r ∧ decide (r ≥ 0) = (l.drop i).any fun s => a.toList == s.toList
  | 0, k, i, hd, hk => by
    obtain ⟨k, rfl⟩ : ∃ m, k = m + 1 := ⟨k - 1, by omega⟩
    refine ⟨-1, ?_, ?_⟩
    · simp only [slices_Index_string_string.l0]; rw [if_neg (by omega)]
    · rw [List.drop_eq_nil_of_le (by omega)]; rfl
  | d + 1, k, i, hd, hk => by
    obtain ⟨k, rfl⟩ : ∃ m, k = m + 1 := ⟨k - 1, by omega⟩
    have hi : i < l.length := by omega
    have hg : rdOf ByteArray.empty l (i : Int) = l[i] := getD_get _ l i hi
    rw [List.drop_eq_getElem_cons hi, List.any_cons]
    simp only [slices_Index_string_string.l0]
    rw [if_pos (by omega), if_pos (by omega), if_pos (by omega), hg]
    by_cases h : a.toList = l[i].toList
    · rw [if_pos h]
      exact ⟨i, rfl, by simp [h]⟩
    · rw [if_neg h, show wrap64 ((i : Int) + 1) = ((i + 1 : Nat) : Int) by unfold wrap64; omega]
      obtain ⟨r, hr, he⟩ := index_str_l0 l a hl d k (i + 1) (by omega) (by omega)
      exact ⟨r, hr, by rw [he]; simp [h]⟩
def hasStr (l : List ByteArray) (a : ByteArray) : Bool := l.any fun s => a.toList == s.toList
theorem contains_str (l : List ByteArray) (a : ByteArray) (hl : l.length ≤ 9223372036854775807) : slices_Contains_string_string.f (l.length + 1) l a = some (hasStr l a) := by
  obtain ⟨r, hr, he⟩ := index_str_l0 l a hl l.length (l.length + 1) 0 (by omega) (by omega)
  unfold slices_Contains_string_string.f slices_Index_string_string.f
  rw [show (0 : Int) = ((0 : Nat) : Int) from rfl, hr]
  simp only [Option.bind_some]
  show some (decide (r ≥ 0)) = _
  rw [he]
  rfl
def cmpSub (x y : S69) : Int := if cmpB x.f0 y.f0 = 0 then (if x.f2 < y.f2 then -1 else if x.f2 > y.f2 then 1 else 0) else cmpB x.f0 y.f0
theorem goods_compare_eq (x y : S69) : goods_compare.f 3 x.f0 x.f1 x.f2 x.f3 x.f4 y.f0 y.f1 y.f2 y.f3 y.f4 = some (cmpSub x y) := by
  have h1 : ∀ a b : Int, cmp_Compare_int.f a b = some (if a < b then -1 else if a > b then 1 else 0) := by
    intro a b
    simp only [cmp_Compare_int.f, cmp_isNaN_int.f, Option.bind_some]
    simp
    split
    · rfl
    · split <;> rfl
  unfold goods_compare.f cmpSub
  simp only [strings_Compare.f, h1, Option.bind_some, cmp_Or_int.f]
  generalize cmpB x.f0 y.f0 = p
  generalize (if x.f2 < y.f2 then (-1 : Int) else if x.f2 > y.f2 then 1 else 0) = q
  by_cases hp : p = 0
  · by_cases hq : q = 0 <;> simp [cmp_Or_int.l0, rd, hp, hq, wrap64]
  · simp [cmp_Or_int.l0, rd, hp]
def sameSub (y x : S69) : Bool := x.f0.toList == y.f0.toList && x.f1.toList == y.f1.toList
set_option maxHeartbeats 2000000 in
theorem goods_Right_1.calls (x y : S69) (B : Nat) (w : World) (h0 : w.cell? ⟨B, 0, none⟩ = some (.string y.f0)) (h1 : w.cell? ⟨B, 1, none⟩ = some (.string y.f1)) :
    Calls Try.prog 48 #[.agg #[.string x.f0, .string x.f1, .int .i64 x.f2, .int .i64 x.f3, .int .i64 x.f4], .pointer (some ⟨B, 0, none⟩)] w fun e w' => e = .returned (.bool (sameSub y x)) ∧ Below w.heap.size w w' := by
  have hu69 := Try.underlying69
  have hB := World.block_lt_of_cell? w _ h0
  have hlt : B < w.heap.size := hB
  have hne : ¬ (w.heap.size = B) := by omega
  unfold sameSub
  by_cases hc : x.f0.toList = y.f0.toList
  · have hb : (x.f0.toList == y.f0.toList) = true := by simpa using hc
    rw [hb]
    go_enter Try.func48, Try.ntmps48
    go_wp2
    go_ret
    exact ⟨rfl, (Below.refl _ _).alloc (Nat.le_refl _) _⟩
  · have hb : (x.f0.toList == y.f0.toList) = false := by simpa using hc
    rw [hb]
    go_enter Try.func48, Try.ntmps48
    go_wp2
    go_ret
    exact ⟨rfl, (Below.refl _ _).alloc (Nat.le_refl _) _⟩
def subOk (skus : List ByteArray) (l : List S69) (i : Nat) : Bool := !((l.take i).any (sameSub (rd_T69 l i))) && (subMay (rd_T69 l i) && (hasStr skus (rd_T69 l i).f0 && hasStr skus (rd_T69 l i).f1))
def goodsOk (skus : List ByteArray) (l : List S69) : Bool :=
  (List.range l.length).all (subOk skus l) && (skus.all nameOk && ((chainB (fun x y => decide (cmpB x y < 0)) skus && decide ((skus.length : Int) ≤ 8)) && (chainB (fun x y => decide (cmpSub x y < 0)) l && decide ((l.length : Int) ≤ 16))))
theorem goods_no (skus : List ByteArray) (l : List S69) (i : Nat) (h : i < l.length) (hi : subOk skus l i = false) : goodsOk skus l = false := by
  have : (List.range l.length).all (subOk skus l) = false := by rw [List.all_eq_false]; exact ⟨i, List.mem_range.2 h, by simp [hi]⟩
  unfold goodsOk
  rw [this, Bool.false_and]
theorem goods_yes (skus : List ByteArray) (l : List S69) (h : ∀ i, i < l.length → subOk skus l i = true) : goodsOk skus l = (skus.all nameOk && ((chainB (fun x y => decide (cmpB x y < 0)) skus && decide ((skus.length : Int) ≤ 8)) && (chainB (fun x y => decide (cmpSub x y < 0)) l && decide ((l.length : Int) ≤ 16)))) := by
  have : (List.range l.length).all (subOk skus l) = true := by rw [List.all_eq_true]; exact fun i hi => h i (List.mem_range.1 hi)
  unfold goodsOk
  rw [this, Bool.true_and]
def goods_Right.f (l0_0 : List ByteArray) (l0_1 : List S69) : Option Bool := some (goodsOk l0_0 l0_1)
theorem goods_Right_2.gives (W : World) (s : ByteArray) : Calls Try.prog 52 #[.string s] W fun e w' => e = .returned (.bool (!nameOk s)) ∧ Below W.heap.size W w' := by
  have H := goods_name.calls s _ W rfl
  go_enter Try.func52, Try.ntmps52
  go_wp2_with (go_at_call 53; refine H.mono ?_; rintro e w' ⟨rfl, hb⟩)
  go_ret
  exact ⟨rfl, hb⟩
set_option maxHeartbeats 8000000 in
set_option maxRecDepth 100000 in
theorem goods_Right.calls (A0_0 : Option Addr) (c0_0 : Nat) (l0_0 : List ByteArray) (A0_1 : Option Addr) (c0_1 : Nat) (l0_1 : List S69) (r : Bool) (w : World) (hr0_0 : Kd.C Kd.string w A0_0 l0_0.length l0_0) (hc0_0 : l0_0.length ≤ c0_0) (hr0_1 : Kd.C k69 w A0_1 l0_1.length l0_1) (hc0_1 : l0_1.length ≤ c0_1) (h : goods_Right.f l0_0 l0_1 = some r) :
    Calls Try.prog 42 #[.agg #[.slice A0_0 l0_0.length c0_0, .slice A0_1 l0_1.length c0_1]] w fun e w' => e = .returned (.bool r) ∧ Below w.heap.size w w' := by
  obtain rfl := Option.some.inj h
  clear h
  have hu69 := Try.underlying69
  have hu64 := Try.underlying64
  have HR0 := Aside0.mk hr0_0
  have HR1 := Aside0.mk hr0_1
  have hl0 : l0_0.length ≤ 9223372036854775807 := hr0_0.2.1
  have hl1 : l0_1.length ≤ 9223372036854775807 := hr0_1.2.1
  have H0 := Aside0.mk hl0
  have HC0 := Aside0.mk hc0_0
  clear hr0_0 hr0_1 hc0_0 hl0
  have base : ∀ W : World, Below (w.heap.size + 1) (w.alloc (.cells #[.slice A0_0 l0_0.length c0_0, .slice A0_1 l0_1.length c0_1] 64 (0, 0))) W → W.cell? ⟨w.heap.size, 0, none⟩ = some (.slice A0_0 l0_0.length c0_0) ∧ W.cell? ⟨w.heap.size, 1, none⟩ = some (.slice A0_1 l0_1.length c0_1) ∧ Below w.heap.size w W := by
    intro W hW
    refine ⟨(hW.cell (p := ⟨w.heap.size, 0, none⟩) (by simp)).trans (by go_simp), (hW.cell (p := ⟨w.heap.size, 1, none⟩) (by simp)).trans (by go_simp), ?_⟩
    exact below_then (below_alloc (Below.refl _ _) _) (by simp) (by simpa using hW)
  have BASE := Aside0.mk base
  clear base
  go_enter Try.func42, Try.ntmps42
  go_wp2
  go_loopg [10] l0_1.length (fun gg s10 wr => ∃ kk : Nat, kk ≤ l0_1.length ∧ l0_1.length - kk ≤ gg ∧ s10 = .int .i64 kk ∧ Aside0 (Below (w.heap.size + 1) (w.alloc (.cells #[.slice A0_0 l0_0.length c0_0, .slice A0_1 l0_1.length c0_1] 64 (0, 0))) wr) ∧ Aside0 (∀ j, j < kk → subOk l0_0 l0_1 j = true))
  case atStart => exact ⟨0, Nat.zero_le _, by omega, rfl, ⟨Below.refl _ _⟩, ⟨fun j hj => absurd hj (Nat.not_lt_zero _)⟩⟩
  case round =>
    obtain ⟨kk, hkk, hg, rfl, BW, A⟩ := hrel
    obtain ⟨b0, b1, bw⟩ := BASE.out wr BW.out
    have BB := Aside0.mk bw
    clear bw
    have hsz : w.heap.size < wr.heap.size := World.block_lt_of_cell? wr _ b0
    by_cases hlt : kk < l0_1.length
    · have hltz : (kk : Int) < (l0_1.length : Int) := by omega
      obtain ⟨ad, e0, hx0, hx1, hx2, hx3, hx4⟩ := at_T69 HR1.out (kk : Int) (by omega) hltz
      subst e0
      replace hx0 := pw_cell_below BB.out hx0
      replace hx1 := pw_cell_below BB.out hx1
      replace hx2 := pw_cell_below BB.out hx2
      replace hx3 := pw_cell_below BB.out hx3
      replace hx4 := pw_cell_below BB.out hx4
      simp only [Int.toNat_natCast] at hx0 hx1 hx2 hx3 hx4
      have SO := Aside0.mk (show subOk l0_0 l0_1 kk = (!((l0_1.take kk).any (sameSub (rd_T69 l0_1 kk))) && (subMay (rd_T69 l0_1 kk) && (hasStr l0_0 (rd_T69 l0_1 kk).f0 && hasStr l0_0 (rd_T69 l0_1 kk).f1))) from rfl)
      generalize rd_T69 l0_1 (kk : Int) = y at hx0 hx1 hx2 hx3 hx4 SO
      have hcap : (kk : Int) ≤ (c0_1 : Int) := by omega
      have HCALL : Calls Try.prog 47 #[.slice (some ad) kk c0_1, .func (.func 48) #[] #[.pointer (some ⟨wr.heap.size, 0, none⟩)]] (wr.alloc (.cells #[.string y.f0, .string y.f1, .int .i64 y.f2, .int .i64 y.f3, .int .i64 y.f4] 69 (0, 0))) fun e w' => e = .returned (.bool ((l0_1.take kk).any (sameSub y))) ∧ Below (wr.heap.size + 1) (wr.alloc (.cells #[.string y.f0, .string y.f1, .int .i64 y.f2, .int .i64 y.f3, .int .i64 y.f4] 69 (0, 0))) w' := by
        have hl : (l0_1.take kk).length = kk := by rw [List.length_take]; omega
        have hr : Kd.C k69 (wr.alloc (.cells #[.string y.f0, .string y.f1, .int .i64 y.f2, .int .i64 y.f3, .int .i64 y.f4] 69 (0, 0))) (some ad) (l0_1.take kk).length (l0_1.take kk) := Kd.C_below (Kd.C_below (Kd.C_take HR1.out (by omega)) BB.out) (below_alloc (Below.refl _ _) _)
        have := slices_sub_ContainsFunc.calls (sameSub y) 48 #[.pointer (some ⟨wr.heap.size, 0, none⟩)] (enters_of Try.func48 (by kernel_rfl) rfl) (some ad) c0_1 (l0_1.take kk) _ hr (fun W x _ hb => goods_Right_1.calls x y wr.heap.size W (pw_cell_below hb (by go_simp)) (pw_cell_below hb (by go_simp)))
        rw [hl] at this
        simpa using this
      have HCALL := Aside0.mk HCALL
      have htake : ∀ tw, (l0_1.take kk).any (sameSub y) = tw → True := fun _ _ => trivial
      clear htake
      generalize (l0_1.take kk).any (sameSub y) = tw at HCALL SO
      go_wp2_with fail
      refine (HCALL.out).mono ?_
      rintro e w2 ⟨rfl, hb⟩
      have n0 : w2.cell? ⟨wr.heap.size, 0, none⟩ = some (.string y.f0) := cell_new hb (by go_simp)
      have n1 : w2.cell? ⟨wr.heap.size, 1, none⟩ = some (.string y.f1) := cell_new hb (by go_simp)
      have n2 : w2.cell? ⟨wr.heap.size, 2, none⟩ = some (.int .i64 y.f2) := cell_new hb (by go_simp)
      have n3 : w2.cell? ⟨wr.heap.size, 3, none⟩ = some (.int .i64 y.f3) := cell_new hb (by go_simp)
      have n4 : w2.cell? ⟨wr.heap.size, 4, none⟩ = some (.int .i64 y.f4) := cell_new hb (by go_simp)
      replace b0 := cell_new hb (cell_old_alloc b0)
      clear b1 hx0 hx1 hx2 hx3 hx4
      have B2 := Aside0.mk (below_new hb)
      clear hb HCALL
      have HS0 := Aside0.mk (contains_str l0_0 y.f0 H0.out)
      have HS1 := Aside0.mk (contains_str l0_0 y.f1 H0.out)
      cases tw with
      | true =>
        go_wp2
        go_ret
        refine ⟨?_, below_step BB.out B2.out⟩
        rw [goods_no l0_0 l0_1 kk hlt (by rw [SO.out]; rfl)]
        rfl
      | false =>
        have hm := Aside0.mk (fun W => goods_may.calls y.f0 y.f1 y.f2 y.f3 y.f4 (subMay y) W (goods_may_eq y))
        generalize subMay y = mm at hm SO
        go_wp2_with fail
        refine (hm.out _).mono ?_
        rintro e w3 ⟨rfl, hb3⟩
        have B3 := Aside0.mk (below_step B2.out hb3)
        replace b0 := pw_cell_below hb3 b0
        replace n0 := pw_cell_below hb3 n0
        replace n1 := pw_cell_below hb3 n1
        clear n2 n3 n4 hb3 B2 hm
        cases mm with
        | false =>
          go_wp2
          go_ret
          refine ⟨?_, below_step BB.out B3.out⟩
          rw [goods_no l0_0 l0_1 kk hlt (by rw [SO.out]; rfl)]
          rfl
        | true =>
          have hc0 := fun W h => slices_Contains_string_string.calls (l0_0.length + 1) A0_0 c0_0 l0_0 y.f0 _ W h HC0.out HS0.out
          have HC0' := Aside0.mk hc0
          have HC1' := Aside0.mk (fun W h => slices_Contains_string_string.calls (l0_0.length + 1) A0_0 c0_0 l0_0 y.f1 _ W h HC0.out HS1.out)
          clear hc0 HS0 HS1
          generalize hasStr l0_0 y.f0 = q0 at HC0' SO
          generalize hasStr l0_0 y.f1 = q1 at HC1' SO
          go_wp2_with fail
          refine (HC0'.out _ (Kd.C_below (Kd.C_below HR0.out BB.out) B3.out)).mono ?_
          rintro e w4 ⟨rfl, hd4⟩
          have hb4 := hd4.below
          have B4 := Aside0.mk (below_step B3.out hb4)
          replace b0 := pw_cell_below hb4 b0
          replace n1 := pw_cell_below hb4 n1
          clear n0 hb4 hd4 B3 HC0'
          cases q0 with
          | false =>
            go_wp2
            go_ret
            refine ⟨?_, below_step BB.out B4.out⟩
            rw [goods_no l0_0 l0_1 kk hlt (by rw [SO.out]; rfl)]
            rfl
          | true =>
            go_wp2_with fail
            refine (HC1'.out _ (Kd.C_below (Kd.C_below HR0.out BB.out) B4.out)).mono ?_
            rintro e w5 ⟨rfl, hd5⟩
            have B5 := Aside0.mk (below_step B4.out hd5.below)
            clear n1 hd5 B4 HC1'
            cases q1 with
            | false =>
              go_wp2
              go_ret
              refine ⟨?_, below_step BB.out B5.out⟩
              rw [goods_no l0_0 l0_1 kk hlt (by rw [SO.out]; rfl)]
              rfl
            | true =>
              go_wp2
              go_roundg (l0_1.length - (kk + 1))
              case measure => omega
              case rel =>
                refine ⟨kk + 1, by omega, by omega, by go_num, ⟨below_then BW.out (by have := BB.out.size; simp; omega) B5.out⟩, ⟨fun j hj => ?_⟩⟩
                by_cases e : j = kk
                · subst e; exact SO.out
                · exact A.out j (by omega)
    · have hltz : ¬ (kk : Int) < (l0_1.length : Int) := by omega
      have AA := Aside0.mk (goods_yes l0_0 l0_1 (fun i hi => A.out i (by omega)))
      have HA := Aside0.mk (fun W (hW : Below w.heap.size w W) => slices_str_ContainsFunc.calls (fun x => !nameOk x) 52 #[] (enters_of Try.func52 (by kernel_rfl) rfl) A0_0 c0_0 l0_0 W (Kd.C_below HR0.out hW) (fun W' x _ _ => goods_Right_2.gives W' x))
      have HB := Aside0.mk (fun W (hW : Below w.heap.size w W) => rising_str.calls cmpB 41 #[] (enters_of Try.func41 (by kernel_rfl) rfl) A0_0 c0_0 l0_0 8 W (Kd.C_below HR0.out hW) (fun W' x y _ _ _ => (strings_Compare.calls x y _ W' rfl).mono fun e w' ⟨he, hd⟩ => ⟨he, hd.below⟩))
      have HD := Aside0.mk (fun W (hW : Below w.heap.size w W) => rising_sub.calls cmpSub 56 #[] (enters_of Try.func56 (by kernel_rfl) rfl) A0_1 c0_1 l0_1 16 W (Kd.C_below HR1.out hW) (fun W' x y _ _ _ => goods_compare.calls 3 x.f0 x.f1 x.f2 x.f3 x.f4 y.f0 y.f1 y.f2 y.f3 y.f4 _ W' (goods_compare_eq x y)))
      have hall : l0_0.all nameOk = !(l0_0.any fun x => !nameOk x) := by simp [List.all_eq_not_any_not]
      rw [hall] at AA
      clear hall
      generalize (l0_0.any fun x => !nameOk x) = q0 at HA AA
      generalize (chainB (fun x y => decide (cmpB x y < 0)) l0_0 && decide ((l0_0.length : Int) ≤ 8)) = q1 at HB AA
      generalize (chainB (fun x y => decide (cmpSub x y < 0)) l0_1 && decide ((l0_1.length : Int) ≤ 16)) = q2 at HD AA
      clear HR0 HR1 A
      go_wp2_with fail
      refine (HA.out _ BB.out).mono ?_
      rintro e w2 ⟨rfl, hb2⟩
      replace b0 := pw_cell_below hb2 b0
      replace b1 := pw_cell_below hb2 b1
      have B2 := Aside0.mk (below_step BB.out hb2)
      clear hb2 HA BB BW
      cases q0 with
      | true =>
        go_wp2
        go_ret
        refine ⟨?_, B2.out⟩
        rw [AA.out]
        rfl
      | false =>
        go_wp2_with fail
        refine (HB.out _ B2.out).mono ?_
        rintro e w3 ⟨rfl, hb3⟩
        replace b1 := pw_cell_below hb3 b1
        have B3 := Aside0.mk (below_step B2.out hb3)
        clear hb3 HB B2 b0
        cases q1 with
        | false =>
          go_wp2
          go_ret
          refine ⟨?_, B3.out⟩
          rw [AA.out]
          rfl
        | true =>
          go_wp2_with fail
          refine (HD.out _ B3.out).mono ?_
          rintro e w4 ⟨rfl, hb4⟩
          have B4 := Aside0.mk (below_step B3.out hb4)
          clear hb4 HD B3 b1
          go_wp2
          go_ret
          refine ⟨?_, B4.out⟩
          rw [AA.out]
          cases q2 <;> rfl


/-! ### stock_name: function 28 -/
def stock_name.f (a0 : ByteArray) : Option (Bool) := (goods_Right.f (([a0] : List ByteArray)) ([] : List (S69))).bind fun t132 => (some t132)
set_option maxHeartbeats 8000000 in
set_option maxRecDepth 100000 in
theorem stock_name.calls (a0 : ByteArray) (r : Bool) (w : World) (h : stock_name.f a0 = some r) :
    Calls Try.prog 28 #[.string a0] w fun e w' => e = .returned (.bool r) ∧ Below w.heap.size w w' := by
  have hu64 := Try.underlying64
  have HB := Aside0.mk (Below.refl w.heap.size w)
  have H : ((goods_Right.f (([a0] : List ByteArray)) ([] : List (S69))).bind fun t132 => (some t132)) = some r := h
  clear h
  obtain ⟨y129, hy129⟩ : ∃ y_ : List ByteArray, y_ = (([a0] : List ByteArray)) := ⟨_, rfl⟩
  replace H : ((goods_Right.f y129 ([] : List (S69))).bind fun t132 => (some t132)) = some r := by first | (rw [hy129]; with_reducible exact H) | (have H2_ := (Option.bind_some _ _).symm.trans H; rw [hy129]; with_reducible exact H2_) | (have H2_ := (Option.bind_some _ _).symm.trans H; with_reducible exact H2_) | with_reducible exact H | (rw [hy129]; exact H) | exact H
  have Ny129 := Aside0.mk hy129
  clear hy129
  replace H := Option.bind_eq_some_iff.mp H
  obtain ⟨t132, A20, H⟩ := H
  replace H : (some t132) = some r := H
  have A2 := Aside0.mk A20
  clear A20
  obtain rfl := Option.some.inj H
  go_enter Try.func28, Try.ntmps28
  go_wp2_with (first | ((with_reducible refine gate_dst (N := 4) rfl ?_); refine Kd.R_lit Kd.string _ 9 ?hg (N := 4) ?hd (xs := ([a0] : List ByteArray)) (inner := [.string a0]) (ok := fun _ => True) (okp := fun _ => True) ?hr ?hp (fun _ hk => hk) trivial (Below.refl _ _) (Nat.le_refl _) (by simp) ?_; (case hd => rfl); (case hg => rfl); (case hr => first | (go_simp; done) | (go_simp; rfl)); (case hp => exact (Reps.one (show Kd.M Kd.string _ _ _ a0 [.string a0] from rfl) (Reps.none _ _))); intro v130 w3 ho4 hb hg_ hnew_; clear hg_ hnew_; (first | rw [← Ny129.out] at ho4 | (simp only [Int.reduceToNat] at ho4; rw [← Ny129.out] at ho4)); have n0_ := Aside0.mk (Kd.R_lower ho4 (below_size (by repeat (first | (with_reducible first | exact HB.out | apply below_alloc | apply pw_below_drewN | apply below_drew1) | exact HB.out)))); have n1_ := Aside0.mk (below_step (by repeat (first | (with_reducible first | exact HB.out | apply below_alloc | apply pw_below_drewN | apply below_drew1) | exact HB.out)) hb); clear HB; have HO131 := n0_; have HB := n1_; clear n0_ n1_; clear hb ho4; obtain ⟨Ao5, co5, eo5⟩ := Kd.R_slice HO131.out; subst eo5) | ((with_reducible refine gate_callee (f := 42) rfl ?_); refine goesL_ (some 6) rfl rfl Try.func42 (by kernel_rfl) rfl #[.agg #[.slice Ao5 y129.length co5, .slice none 0 0]] rfl (by (try simp only [List.map_toArray, List.map_cons, List.map_nil]); first | done | rfl | (simp only [List.length_drop, List.length_take]; rfl)) ?_; (refine (goods_Right.calls _ _ y129 _ _ ([] : List (S69)) t132 _ ?side1 ?side2 ?side3 ?side4 A2.out).mono ?_); (case side1 => repeat (first | exact (Kd.R_reads' HO131.out).2.2 | (with_reducible refine Kd.C_alloc ?_ _) | (with_reducible refine Kd.C_drewN ?_ _) | (with_reducible refine Kd.C_drew ?_))); (case side2 => exact (Kd.R_reads' HO131.out).2.1); (case side3 => exact Kd.C_nil _ _); (case side4 => exact Nat.le_refl _); rintro e w6 ⟨rfl, hb⟩; refine ⟨_, rfl, ?_⟩; have n0_ := Aside0.mk (Kd.R_below (by (with_reducible repeat (first | apply Kd.R_alloc | apply Kd.R_drewN | apply Kd.R_drew)); exact HO131.out) hb); have n1_ := Aside0.mk (below_step (by repeat (first | (with_reducible first | exact HB.out | apply below_alloc | apply pw_below_drewN | apply below_drew1) | exact HB.out)) hb); clear HO131; clear HB; have HO131 := n0_; have HB := n1_; clear n0_ n1_; (try clear hb); (try clear hb2); (try clear hk); (try clear hi)))
  go_ret
  exact ⟨by first | rfl | (simp [errW_none, errW_some] <;> rfl) | (simp [*, errW_none, errW_some] <;> rfl), by repeat (first | (with_reducible first | exact HB.out | apply below_alloc | apply pw_below_drewN | apply below_drew1) | exact HB.out)⟩

/-! ### stock_units: function 27 -/
def stock_units.f (a0 : Int) : Option (Bool) := if a0 ≥ 1 then (some (decide (a0 ≤ 1073741824))) else (some false)
set_option maxHeartbeats 8000000 in
set_option maxRecDepth 100000 in
theorem stock_units.calls (a0 : Int) (r : Bool) (w : World) (h : stock_units.f a0 = some r) :
    Calls Try.prog 27 #[.int .i64 a0] w fun e w' => e = .returned (.bool r) ∧ Drawn0 w w' := by
  have H : (if a0 ≥ 1 then (some (decide (a0 ≤ 1073741824))) else (some false)) = some r := h
  clear h
  by_cases c2 : a0 ≥ 1
  · rw [if_pos c2] at H
    have c2b0 : decide (1 ≤ a0) = true := decide_eq_true c2
    clear c2
    obtain rfl := Option.some.inj H
    go_enter Try.func27, Try.ntmps27
    go_wp2
    go_ret
    exact ⟨by first | rfl | (simp; done) | (simp [*]; done), by repeat (first | exact Drawn0.refl _ | apply Drawn0.step)⟩
  · rw [if_neg c2] at H
    have c2b0 : decide (1 ≤ a0) = false := decide_eq_false c2
    clear c2
    obtain rfl := Option.some.inj H
    go_enter Try.func27, Try.ntmps27
    go_wp2
    go_ret
    exact ⟨by first | rfl | (simp; done) | (simp [*]; done), by repeat (first | exact Drawn0.refl _ | apply Drawn0.step)⟩

/-! ### stock_may_1: function 37 -/
def stock_may_1.f (a0 : Int) : Option (Bool) := if a0 = 0 then (some false) else ((stock_units.f a0).bind fun t133 => (some (!t133)))
set_option maxHeartbeats 8000000 in
set_option maxRecDepth 100000 in
theorem stock_may_1.calls (a0 : Int) (r : Bool) (w : World) (h : stock_may_1.f a0 = some r) :
    Calls Try.prog 37 #[.int .i64 a0] w fun e w' => e = .returned (.bool r) ∧ Drawn0 w w' := by
  have H : (if a0 = 0 then (some false) else ((stock_units.f a0).bind fun t133 => (some (!t133)))) = some r := h
  clear h
  by_cases c2 : a0 = 0
  · rw [if_pos c2] at H
    have c2b0 : (a0 == 0) = true := beq_iff_eq.mpr c2
    have c2b1 : (a0 != 0) = false := bne_eq_false_iff_eq.mpr c2
    clear c2
    obtain rfl := Option.some.inj H
    go_enter Try.func37, Try.ntmps37
    go_wp2
    go_ret
    exact ⟨by first | rfl | (simp; done) | (simp [*]; done), by repeat (first | exact Drawn0.refl _ | apply Drawn0.step)⟩
  · rw [if_neg c2] at H
    have c2b0 : (a0 == 0) = false := beq_eq_false_iff_ne.mpr c2
    have c2b1 : (a0 != 0) = true := bne_iff_ne.mpr c2
    replace H := Option.bind_eq_some_iff.mp H
    obtain ⟨t133, A30, H⟩ := H
    replace H : (some (!t133)) = some r := H
    have A3 := Aside0.mk A30
    clear A30
    obtain rfl := Option.some.inj H
    go_enter Try.func37, Try.ntmps37
    go_wp2_with (first | (go_at_call 27; (with_reducible refine (stock_units.calls a0 t133 _ A3.out).mono ?_); rintro e w' ⟨rfl, ⟨nd, rfl⟩⟩))
    go_ret
    exact ⟨by first | rfl | (simp; done) | (simp [*]; done), by repeat (first | exact Drawn0.refl _ | apply Drawn0.step)⟩

/-! ### slices_IndexFunc_int_int: function 45 (by hand) -/


end Go.Proofs.Ytliablhnkoghbaa.PStockMoves
