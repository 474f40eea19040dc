-- PRINTED by print.py (a twelfth state) out of the translation. Not trusted: Lean checks it.
import Derived.Test.YtliablhnkoghbaaPStockMovesx0
import Derived.Test.YtliablhnkoghbaaPStockMovesx4
namespace Go.Proofs.Ytliablhnkoghbaa.PStockMoves
open Go.RowKit Go.Proofs.YtliablhnkoghbaaH Go.Proofs.YtliablhnkoghbaaW.PrintWords Go.Proofs.YtliablhnkoghbaaW.PrintLast Go.Proofs.YtliablhnkoghbaaW.PrintMore
attribute [local go_sem] max2_int min2_int max_two min_two max_three min_three max_four min_four   -- for this text's walks alone
set_option linter.unusedVariables false
set_option linter.unusedSimpArgs false

/-! ### tarryref07_Name: function 32 -/
def tarryref07_Name.l0 : Nat → ByteArray → Int → Option (Bool)
  | 0, _, _ => none
  | k + 1, x0, x3 => if x3 < (x0.size : Int) then (if 0 ≤ x3 then (if (bt x0 x3) < 97 then (if (bt x0 x3) < 48 then (some false) else (if (bt x0 x3) > 57 then (some false) else (tarryref07_Name.l0 k x0 (wrap64 (x3 + 1))))) else (if (bt x0 x3) > 122 then (if (bt x0 x3) < 48 then (some false) else (if (bt x0 x3) > 57 then (some false) else (tarryref07_Name.l0 k x0 (wrap64 (x3 + 1))))) else (tarryref07_Name.l0 k x0 (wrap64 (x3 + 1))))) else (none)) else (if (x0.size : Int) > 0 then (some (decide ((x0.size : Int) ≤ 16))) else (some false))
def tarryref07_Name.f (k : Nat) (a0 : ByteArray) : Option (Bool) := tarryref07_Name.l0 k a0 0
theorem tarryref07_Name.mono_l : ∀ k, (∀ y0 y1, LeO (tarryref07_Name.l0 k y0 y1) (tarryref07_Name.l0 (k + 1) y0 y1))
  | 0 => fun _ _ r h => by simp [tarryref07_Name.l0] at h
  | k + 1 => by
    have ih0 := tarryref07_Name.mono_l k
    · intro y0 y1
      unfold tarryref07_Name.l0
      repeat' first
      | (with_reducible exact ih0 _ _)
      | (with_reducible exact LeO.refl _)
      | (with_reducible exact LeO.none _)
      | (with_reducible refine LeO.ite ?_ ?_)
      | (with_reducible refine LeO.bind ?_ (fun _ => ?_))
      | exact ih0 _ _
      | exact LeO.none _
      | refine LeO.ite ?_ ?_
      | refine LeO.bind ?_ (fun _ => ?_)
theorem tarryref07_Name.mono : ∀ a0 k, LeO (tarryref07_Name.f k a0) (tarryref07_Name.f (k + 1) a0) := by
  intro a0 k
  have ih0 := tarryref07_Name.mono_l k
  unfold tarryref07_Name.f
  repeat' first
      | (with_reducible exact ih0 _ _)
      | (with_reducible exact LeO.refl _)
      | (with_reducible exact LeO.none _)
      | (with_reducible refine LeO.ite ?_ ?_)
      | (with_reducible refine LeO.bind ?_ (fun _ => ?_))
      | exact ih0 _ _
      | exact LeO.none _
      | refine LeO.ite ?_ ?_
      | refine LeO.bind ?_ (fun _ => ?_)
set_option maxHeartbeats 8000000 in
set_option maxRecDepth 100000 in
theorem tarryref07_Name.calls (k : Nat) (a0 : ByteArray) (r : Bool) (w : World) (h : tarryref07_Name.f k a0 = some r) :
    Calls Try.prog 32 #[.string a0] w fun e w' => e = .returned (.bool r) ∧ Drawn0 w w' := by
  have H : (tarryref07_Name.l0 k a0 0) = some r := h
  clear h
  have H' := Aside0.mk H
  clear H
  go_enter Try.func32, Try.ntmps32
  go_wp2
  go_loopg [3] k (fun kq v3 w' => ∃ (x3_1 : Int), v3 = .int .i64 x3_1 ∧ Aside0 (tarryref07_Name.l0 kq a0 x3_1 = some r) ∧ Aside0 (kq ≤ k) ∧ Drawn0 w w')
  case atStart => exact ⟨(0), (by first | rfl | (simp; done) | (simp [*]; done)), H', ⟨Nat.le_refl _⟩, by repeat (first | exact Drawn0.refl _ | apply Drawn0.step)⟩
  case round =>
    clear H'
    obtain ⟨x3_1, rfl, HA, HK1, ⟨m1, rfl⟩⟩ := hrel
    cases gk with
    | zero => exact absurd HA.out (by simp [tarryref07_Name.l0])
    | succ k1 =>
      have H := HA.out
      clear HA
      simp only [tarryref07_Name.l0] at H
      by_cases c2 : x3_1 < (a0.size : Int)
      · rw [if_pos c2] at H
        have c2b0 : decide (x3_1 < (a0.size : Int)) = true := decide_eq_true c2
        clear c2
        by_cases c3 : 0 ≤ x3_1
        · rw [if_pos c3] at H
          have c3b0 : decide (0 ≤ x3_1) = true := decide_eq_true c3
          clear c3
          by_cases c5 : (bt a0 x3_1) < 97
          · rw [if_pos c5] at H
            have c5b0 : decide ((bt a0 x3_1) < 97) = true := decide_eq_true c5
            clear c5
            by_cases c7 : (bt a0 x3_1) < 48
            · rw [if_pos c7] at H
              have c7b0 : decide ((bt a0 x3_1) < 48) = true := decide_eq_true c7
              clear c7
              obtain rfl := Option.some.inj H
              have p4 : 0 ≤ (x3_1 : Int) := of_decide_eq_true (by first | (with_reducible assumption) | assumption)
              have q4 : x3_1 < (a0.size : Int) := of_decide_eq_true (by first | (with_reducible assumption) | assumption)
              have hx4 := bt_at a0 x3_1
              replace p4 := eq_true p4
              replace q4 := eq_true q4
              have p6 : 0 ≤ (x3_1 : Int) := of_decide_eq_true (by first | (with_reducible assumption) | assumption)
              have q6 : x3_1 < (a0.size : Int) := of_decide_eq_true (by first | (with_reducible assumption) | assumption)
              have hx6 := bt_at a0 x3_1
              replace p6 := eq_true p6
              replace q6 := eq_true q6
              go_wp2
              go_ret
              exact ⟨by first | rfl | (simp; done) | (simp [*]; done), by repeat (first | exact Drawn0.refl _ | apply Drawn0.step)⟩
            · rw [if_neg c7] at H
              have c7b0 : decide ((bt a0 x3_1) < 48) = false := decide_eq_false c7
              clear c7
              by_cases c9 : (bt a0 x3_1) > 57
              · rw [if_pos c9] at H
                have c9b0 : decide (57 < (bt a0 x3_1)) = true := decide_eq_true c9
                clear c9
                obtain rfl := Option.some.inj H
                have p4 : 0 ≤ (x3_1 : Int) := of_decide_eq_true (by first | (with_reducible assumption) | assumption)
                have q4 : x3_1 < (a0.size : Int) := of_decide_eq_true (by first | (with_reducible assumption) | assumption)
                have hx4 := bt_at a0 x3_1
                replace p4 := eq_true p4
                replace q4 := eq_true q4
                have p6 : 0 ≤ (x3_1 : Int) := of_decide_eq_true (by first | (with_reducible assumption) | assumption)
                have q6 : x3_1 < (a0.size : Int) := of_decide_eq_true (by first | (with_reducible assumption) | assumption)
                have hx6 := bt_at a0 x3_1
                replace p6 := eq_true p6
                replace q6 := eq_true q6
                have p8 : 0 ≤ (x3_1 : Int) := of_decide_eq_true (by first | (with_reducible assumption) | assumption)
                have q8 : x3_1 < (a0.size : Int) := of_decide_eq_true (by first | (with_reducible assumption) | assumption)
                have hx8 := bt_at a0 x3_1
                replace p8 := eq_true p8
                replace q8 := eq_true q8
                go_wp2
                go_ret
                exact ⟨by first | rfl | (simp; done) | (simp [*]; done), by repeat (first | exact Drawn0.refl _ | apply Drawn0.step)⟩
              · rw [if_neg c9] at H
                have c9b0 : decide (57 < (bt a0 x3_1)) = false := decide_eq_false c9
                clear c9
                have H' := Aside0.mk H
                clear H
                have p4 : 0 ≤ (x3_1 : Int) := of_decide_eq_true (by first | (with_reducible assumption) | assumption)
                have q4 : x3_1 < (a0.size : Int) := of_decide_eq_true (by first | (with_reducible assumption) | assumption)
                have hx4 := bt_at a0 x3_1
                replace p4 := eq_true p4
                replace q4 := eq_true q4
                have p6 : 0 ≤ (x3_1 : Int) := of_decide_eq_true (by first | (with_reducible assumption) | assumption)
                have q6 : x3_1 < (a0.size : Int) := of_decide_eq_true (by first | (with_reducible assumption) | assumption)
                have hx6 := bt_at a0 x3_1
                replace p6 := eq_true p6
                replace q6 := eq_true q6
                have p8 : 0 ≤ (x3_1 : Int) := of_decide_eq_true (by first | (with_reducible assumption) | assumption)
                have q8 : x3_1 < (a0.size : Int) := of_decide_eq_true (by first | (with_reducible assumption) | assumption)
                have hx8 := bt_at a0 x3_1
                replace p8 := eq_true p8
                replace q8 := eq_true q8
                go_wp2
                go_roundg k1
                case measure => have := HK1.out; omega
                case rel => exact ⟨(wrap64 (x3_1 + 1)), (by first | rfl | (simp; done) | (simp [*]; done)), H', ⟨by have := HK1.out; omega⟩, by repeat (first | exact Drawn0.refl _ | apply Drawn0.step)⟩
          · rw [if_neg c5] at H
            have c5b0 : decide ((bt a0 x3_1) < 97) = false := decide_eq_false c5
            clear c5
            by_cases c11 : (bt a0 x3_1) > 122
            · rw [if_pos c11] at H
              have c11b0 : decide (122 < (bt a0 x3_1)) = true := decide_eq_true c11
              clear c11
              by_cases c13 : (bt a0 x3_1) < 48
              · rw [if_pos c13] at H
                have c13b0 : decide ((bt a0 x3_1) < 48) = true := decide_eq_true c13
                clear c13
                obtain rfl := Option.some.inj H
                have p4 : 0 ≤ (x3_1 : Int) := of_decide_eq_true (by first | (with_reducible assumption) | assumption)
                have q4 : x3_1 < (a0.size : Int) := of_decide_eq_true (by first | (with_reducible assumption) | assumption)
                have hx4 := bt_at a0 x3_1
                replace p4 := eq_true p4
                replace q4 := eq_true q4
                have p10 : 0 ≤ (x3_1 : Int) := of_decide_eq_true (by first | (with_reducible assumption) | assumption)
                have q10 : x3_1 < (a0.size : Int) := of_decide_eq_true (by first | (with_reducible assumption) | assumption)
                have hx10 := bt_at a0 x3_1
                replace p10 := eq_true p10
                replace q10 := eq_true q10
                have p12 : 0 ≤ (x3_1 : Int) := of_decide_eq_true (by first | (with_reducible assumption) | assumption)
                have q12 : x3_1 < (a0.size : Int) := of_decide_eq_true (by first | (with_reducible assumption) | assumption)
                have hx12 := bt_at a0 x3_1
                replace p12 := eq_true p12
                replace q12 := eq_true q12
                go_wp2
                go_ret
                exact ⟨by first | rfl | (simp; done) | (simp [*]; done), by repeat (first | exact Drawn0.refl _ | apply Drawn0.step)⟩
              · rw [if_neg c13] at H
                have c13b0 : decide ((bt a0 x3_1) < 48) = false := decide_eq_false c13
                clear c13
                by_cases c15 : (bt a0 x3_1) > 57
                · rw [if_pos c15] at H
                  have c15b0 : decide (57 < (bt a0 x3_1)) = true := decide_eq_true c15
                  clear c15
                  obtain rfl := Option.some.inj H
                  have p4 : 0 ≤ (x3_1 : Int) := of_decide_eq_true (by first | (with_reducible assumption) | assumption)
                  have q4 : x3_1 < (a0.size : Int) := of_decide_eq_true (by first | (with_reducible assumption) | assumption)
                  have hx4 := bt_at a0 x3_1
                  replace p4 := eq_true p4
                  replace q4 := eq_true q4
                  have p10 : 0 ≤ (x3_1 : Int) := of_decide_eq_true (by first | (with_reducible assumption) | assumption)
                  have q10 : x3_1 < (a0.size : Int) := of_decide_eq_true (by first | (with_reducible assumption) | assumption)
                  have hx10 := bt_at a0 x3_1
                  replace p10 := eq_true p10
                  replace q10 := eq_true q10
                  have p12 : 0 ≤ (x3_1 : Int) := of_decide_eq_true (by first | (with_reducible assumption) | assumption)
                  have q12 : x3_1 < (a0.size : Int) := of_decide_eq_true (by first | (with_reducible assumption) | assumption)
                  have hx12 := bt_at a0 x3_1
                  replace p12 := eq_true p12
                  replace q12 := eq_true q12
                  have p14 : 0 ≤ (x3_1 : Int) := of_decide_eq_true (by first | (with_reducible assumption) | assumption)
                  have q14 : x3_1 < (a0.size : Int) := of_decide_eq_true (by first | (with_reducible assumption) | assumption)
                  have hx14 := bt_at a0 x3_1
                  replace p14 := eq_true p14
                  replace q14 := eq_true q14
                  go_wp2
                  go_ret
                  exact ⟨by first | rfl | (simp; done) | (simp [*]; done), by repeat (first | exact Drawn0.refl _ | apply Drawn0.step)⟩
                · rw [if_neg c15] at H
                  have c15b0 : decide (57 < (bt a0 x3_1)) = false := decide_eq_false c15
                  clear c15
                  have H' := Aside0.mk H
                  clear H
                  have p4 : 0 ≤ (x3_1 : Int) := of_decide_eq_true (by first | (with_reducible assumption) | assumption)
                  have q4 : x3_1 < (a0.size : Int) := of_decide_eq_true (by first | (with_reducible assumption) | assumption)
                  have hx4 := bt_at a0 x3_1
                  replace p4 := eq_true p4
                  replace q4 := eq_true q4
                  have p10 : 0 ≤ (x3_1 : Int) := of_decide_eq_true (by first | (with_reducible assumption) | assumption)
                  have q10 : x3_1 < (a0.size : Int) := of_decide_eq_true (by first | (with_reducible assumption) | assumption)
                  have hx10 := bt_at a0 x3_1
                  replace p10 := eq_true p10
                  replace q10 := eq_true q10
                  have p12 : 0 ≤ (x3_1 : Int) := of_decide_eq_true (by first | (with_reducible assumption) | assumption)
                  have q12 : x3_1 < (a0.size : Int) := of_decide_eq_true (by first | (with_reducible assumption) | assumption)
                  have hx12 := bt_at a0 x3_1
                  replace p12 := eq_true p12
                  replace q12 := eq_true q12
                  have p14 : 0 ≤ (x3_1 : Int) := of_decide_eq_true (by first | (with_reducible assumption) | assumption)
                  have q14 : x3_1 < (a0.size : Int) := of_decide_eq_true (by first | (with_reducible assumption) | assumption)
                  have hx14 := bt_at a0 x3_1
                  replace p14 := eq_true p14
                  replace q14 := eq_true q14
                  go_wp2
                  go_roundg k1
                  case measure => have := HK1.out; omega
                  case rel => exact ⟨(wrap64 (x3_1 + 1)), (by first | rfl | (simp; done) | (simp [*]; done)), H', ⟨by have := HK1.out; omega⟩, by repeat (first | exact Drawn0.refl _ | apply Drawn0.step)⟩
            · rw [if_neg c11] at H
              have c11b0 : decide (122 < (bt a0 x3_1)) = false := decide_eq_false c11
              clear c11
              have H' := Aside0.mk H
              clear H
              have p4 : 0 ≤ (x3_1 : Int) := of_decide_eq_true (by first | (with_reducible assumption) | assumption)
              have q4 : x3_1 < (a0.size : Int) := of_decide_eq_true (by first | (with_reducible assumption) | assumption)
              have hx4 := bt_at a0 x3_1
              replace p4 := eq_true p4
              replace q4 := eq_true q4
              have p10 : 0 ≤ (x3_1 : Int) := of_decide_eq_true (by first | (with_reducible assumption) | assumption)
              have q10 : x3_1 < (a0.size : Int) := of_decide_eq_true (by first | (with_reducible assumption) | assumption)
              have hx10 := bt_at a0 x3_1
              replace p10 := eq_true p10
              replace q10 := eq_true q10
              go_wp2
              go_roundg k1
              case measure => have := HK1.out; omega
              case rel => exact ⟨(wrap64 (x3_1 + 1)), (by first | rfl | (simp; done) | (simp [*]; done)), H', ⟨by have := HK1.out; omega⟩, by repeat (first | exact Drawn0.refl _ | apply Drawn0.step)⟩
        · rw [if_neg c3] at H
          exact absurd H (by simp)
      · rw [if_neg c2] at H
        have c2b0 : decide (x3_1 < (a0.size : Int)) = false := decide_eq_false c2
        clear c2
        by_cases c16 : (a0.size : Int) > 0
        · rw [if_pos c16] at H
          have c16b0 : decide (0 < (a0.size : Int)) = true := decide_eq_true c16
          have c16b1 : decide (0 < a0.size) = true := decide_eq_true (by omega)
          clear c16
          obtain rfl := Option.some.inj H
          go_wp2
          go_ret
          exact ⟨by first | rfl | (simp; done) | (simp [*]; done), by repeat (first | exact Drawn0.refl _ | apply Drawn0.step)⟩
        · rw [if_neg c16] at H
          have c16b0 : decide (0 < (a0.size : Int)) = false := decide_eq_false c16
          have c16b1 : decide (0 < a0.size) = false := decide_eq_false (by omega)
          clear c16
          obtain rfl := Option.some.inj H
          go_wp2
          go_ret
          exact ⟨by first | rfl | (simp; done) | (simp [*]; done), by repeat (first | exact Drawn0.refl _ | apply Drawn0.step)⟩

/-! ### tarryref07_Less: function 34 -/
mutual
def tarryref07_Less.l0 : Nat → ByteArray → ByteArray → Int → Option (Bool)
  | 0, _, _, _ => none
  | k + 1, x0, x1, x5 => if x5 < (x0.size : Int) then (tarryref07_Less.j1 k x0 x1 x5 (decide (x5 < (x1.size : Int)))) else (tarryref07_Less.j1 k x0 x1 x5 false)
def tarryref07_Less.j1 : Nat → ByteArray → ByteArray → Int → Bool → Option (Bool)
  | 0, _, _, _, _ => none
  | k + 1, x0, x1, x5, x15 => if x15 = true then (if 0 ≤ x5 then (if x5 < (x0.size : Int) then (if x5 < (x1.size : Int) then (if (bt x0 x5) = (bt x1 x5) then (tarryref07_Less.l0 k x0 x1 (wrap64 (x5 + 1))) else (some (decide ((bt x0 x5) < (bt x1 x5))))) else (none)) else (none)) else (none)) else (some (decide ((x0.size : Int) < (x1.size : Int))))
end
def tarryref07_Less.f (k : Nat) (a0 : ByteArray) (a1 : ByteArray) : Option (Bool) := tarryref07_Less.l0 k a0 a1 0
theorem tarryref07_Less.mono_l : ∀ k, (∀ y0 y1 y2, LeO (tarryref07_Less.l0 k y0 y1 y2) (tarryref07_Less.l0 (k + 1) y0 y1 y2)) ∧ (∀ y0 y1 y2 y3, LeO (tarryref07_Less.j1 k y0 y1 y2 y3) (tarryref07_Less.j1 (k + 1) y0 y1 y2 y3))
  | 0 => ⟨fun _ _ _ r h => by simp [tarryref07_Less.l0] at h, fun _ _ _ _ r h => by simp [tarryref07_Less.j1] at h⟩
  | k + 1 => by
    obtain ⟨ih0, ih1⟩ := tarryref07_Less.mono_l k
    refine ⟨?_, ?_⟩
    · intro y0 y1 y2
      unfold tarryref07_Less.l0
      repeat' first
      | (with_reducible exact ih0 _ _ _)
      | (with_reducible exact ih1 _ _ _ _)
      | (with_reducible exact LeO.refl _)
      | (with_reducible exact LeO.none _)
      | (with_reducible refine LeO.ite ?_ ?_)
      | (with_reducible refine LeO.bind ?_ (fun _ => ?_))
      | exact ih0 _ _ _
      | exact ih1 _ _ _ _
      | exact LeO.none _
      | refine LeO.ite ?_ ?_
      | refine LeO.bind ?_ (fun _ => ?_)
    · intro y0 y1 y2 y3
      unfold tarryref07_Less.j1
      repeat' first
      | (with_reducible exact ih0 _ _ _)
      | (with_reducible exact ih1 _ _ _ _)
      | (with_reducible exact LeO.refl _)
      | (with_reducible exact LeO.none _)
      | (with_reducible refine LeO.ite ?_ ?_)
      | (with_reducible refine LeO.bind ?_ (fun _ => ?_))
      | exact ih0 _ _ _
      | exact ih1 _ _ _ _
      | exact LeO.none _
      | refine LeO.ite ?_ ?_
      | refine LeO.bind ?_ (fun _ => ?_)
theorem tarryref07_Less.mono : ∀ a0 a1 k, LeO (tarryref07_Less.f k a0 a1) (tarryref07_Less.f (k + 1) a0 a1) := by
  intro a0 a1 k
  obtain ⟨ih0, ih1⟩ := tarryref07_Less.mono_l k
  unfold tarryref07_Less.f
  repeat' first
      | (with_reducible exact ih0 _ _ _)
      | (with_reducible exact ih1 _ _ _ _)
      | (with_reducible exact LeO.refl _)
      | (with_reducible exact LeO.none _)
      | (with_reducible refine LeO.ite ?_ ?_)
      | (with_reducible refine LeO.bind ?_ (fun _ => ?_))
      | exact ih0 _ _ _
      | exact ih1 _ _ _ _
      | exact LeO.none _
      | refine LeO.ite ?_ ?_
      | refine LeO.bind ?_ (fun _ => ?_)
set_option maxHeartbeats 8000000 in
set_option maxRecDepth 100000 in
theorem tarryref07_Less.calls (k : Nat) (a0 : ByteArray) (a1 : ByteArray) (r : Bool) (w : World) (h : tarryref07_Less.f k a0 a1 = some r) :
    Calls Try.prog 34 #[.string a0, .string a1] w fun e w' => e = .returned (.bool r) ∧ Drawn0 w w' := by
  have H : (tarryref07_Less.l0 k a0 a1 0) = some r := h
  clear h
  have H' := Aside0.mk H
  clear H
  go_enter Try.func34, Try.ntmps34
  go_wp2
  repeat (go_quiet (fail); try go_wp2)
  go_loopg [5] k (fun kq v5 w' => ∃ (x5_1 : Int), v5 = .int .i64 x5_1 ∧ Aside0 (tarryref07_Less.l0 kq a0 a1 x5_1 = some r) ∧ Aside0 (kq ≤ k) ∧ Drawn0 w w')
  case atStart => exact ⟨(0), (by first | rfl | (simp; done) | (simp [*]; done)), H', ⟨Nat.le_refl _⟩, by repeat (first | exact Drawn0.refl _ | apply Drawn0.step)⟩
  case round =>
    clear H'
    try clear p2
    obtain ⟨x5_1, rfl, HA, HK1, ⟨m1, rfl⟩⟩ := hrel
    cases gk with
    | zero => exact absurd HA.out (by simp [tarryref07_Less.l0])
    | succ k1 =>
      have H := HA.out
      clear HA
      simp only [tarryref07_Less.l0] at H
      have HC3 := Aside0.mk H
      clear H
      go_upto_region 2 with (fail)
      repeat (go_quiet (fail); go_upto_region 2 with (fail))
      go_cut [15] (fun v15 wc => ∃ (kq : Nat) (x15_2 : Bool), v15 = .bool x15_2 ∧ Aside0 (tarryref07_Less.j1 kq a0 a1 x5_1 x15_2 = some r) ∧ Aside0 (kq ≤ k1) ∧ Drawn0 w wc)
      case first =>
        have H := HC3.out
        clear HC3
        by_cases c4 : x5_1 < (a0.size : Int)
        · rw [if_pos c4] at H
          have c4b0 : decide (x5_1 < (a0.size : Int)) = true := decide_eq_true c4
          clear c4
          (first | rw [c4b0] | (simp only [i64_w, i32_w]; rw [c4b0]) | skip)
          have H' := Aside0.mk H
          clear H
          go_wp2
          repeat (go_quiet (fail); try go_wp2)
          go_meet
          case rel => exact ⟨_, (decide (x5_1 < (a1.size : Int))), (by first | rfl | (simp; done) | (simp [*]; done)), H', ⟨by have := HK1.out; first | omega | exact Nat.le_refl _⟩, by repeat (first | exact Drawn0.refl _ | apply Drawn0.step)⟩
        · rw [if_neg c4] at H
          have c4b0 : decide (x5_1 < (a0.size : Int)) = false := decide_eq_false c4
          clear c4
          (first | rw [c4b0] | (simp only [i64_w, i32_w]; rw [c4b0]) | skip)
          have H' := Aside0.mk H
          clear H
          go_wp2
          repeat (go_quiet (fail); try go_wp2)
          go_meet
          case rel => exact ⟨_, (false), (by first | rfl | (simp; done) | (simp [*]; done)), H', ⟨by have := HK1.out; first | omega | exact Nat.le_refl _⟩, by repeat (first | exact Drawn0.refl _ | apply Drawn0.step)⟩
      case rest =>
        clear HC3
        try clear p2
        try clear c3
        try clear c4
        try clear c4b0
        try clear p2
        obtain ⟨kq, x15_2, rfl, HA, HJ2, ⟨mc2, rfl⟩⟩ := hcut
        cases kq with
        | zero => exact absurd HA.out (by simp [tarryref07_Less.j1])
        | succ kj2 =>
          have H := HA.out
          clear HA
          simp only [tarryref07_Less.j1] at H
          by_cases c5 : x15_2 = true
          · subst c5
            have H1 : (if 0 ≤ x5_1 then (if x5_1 < (a0.size : Int) then (if x5_1 < (a1.size : Int) then (if (bt a0 x5_1) = (bt a1 x5_1) then (tarryref07_Less.l0 kj2 a0 a1 (wrap64 (x5_1 + 1))) else (some (decide ((bt a0 x5_1) < (bt a1 x5_1))))) else (none)) else (none)) else (none)) = some r := by rw [if_pos rfl] at H; exact H
            clear H
            have H := H1
            clear H1
            by_cases c6 : 0 ≤ x5_1
            · rw [if_pos c6] at H
              have c6b0 : decide (0 ≤ x5_1) = true := decide_eq_true c6
              clear c6
              by_cases c7 : x5_1 < (a0.size : Int)
              · rw [if_pos c7] at H
                have c7b0 : decide (x5_1 < (a0.size : Int)) = true := decide_eq_true c7
                clear c7
                by_cases c9 : x5_1 < (a1.size : Int)
                · rw [if_pos c9] at H
                  have c9b0 : decide (x5_1 < (a1.size : Int)) = true := decide_eq_true c9
                  clear c9
                  by_cases c11 : (bt a0 x5_1) = (bt a1 x5_1)
                  · rw [if_pos c11] at H
                    have c11b0 : ((bt a0 x5_1) == (bt a1 x5_1)) = true := beq_iff_eq.mpr c11
                    have c11b1 : ((bt a0 x5_1) != (bt a1 x5_1)) = false := bne_eq_false_iff_eq.mpr c11
                    clear c11
                    have H' := Aside0.mk H
                    clear H
                    have p8 : 0 ≤ (x5_1 : Int) := of_decide_eq_true (by first | (with_reducible assumption) | assumption)
                    have q8 : x5_1 < (a0.size : Int) := of_decide_eq_true (by first | (with_reducible assumption) | assumption)
                    have hx8 := bt_at a0 x5_1
                    replace p8 := eq_true p8
                    replace q8 := eq_true q8
                    have p10 : 0 ≤ (x5_1 : Int) := of_decide_eq_true (by first | (with_reducible assumption) | assumption)
                    have q10 : x5_1 < (a1.size : Int) := of_decide_eq_true (by first | (with_reducible assumption) | assumption)
                    have hx10 := bt_at a1 x5_1
                    replace p10 := eq_true p10
                    replace q10 := eq_true q10
                    go_wp2
                    repeat (go_quiet (fail); try go_wp2)
                    go_roundg kj2
                    case measure => have := HK1.out; have := HJ2.out; omega
                    case rel => exact ⟨(wrap64 (x5_1 + 1)), (by first | rfl | (simp; done) | (simp [*]; done)), H', ⟨by have := HK1.out; have := HJ2.out; omega⟩, by repeat (first | exact Drawn0.refl _ | apply Drawn0.step)⟩
                  · rw [if_neg c11] at H
                    have c11b0 : ((bt a0 x5_1) == (bt a1 x5_1)) = false := beq_eq_false_iff_ne.mpr c11
                    have c11b1 : ((bt a0 x5_1) != (bt a1 x5_1)) = true := bne_iff_ne.mpr c11
                    obtain rfl := Option.some.inj H
                    have p8 : 0 ≤ (x5_1 : Int) := of_decide_eq_true (by first | (with_reducible assumption) | assumption)
                    have q8 : x5_1 < (a0.size : Int) := of_decide_eq_true (by first | (with_reducible assumption) | assumption)
                    have hx8 := bt_at a0 x5_1
                    replace p8 := eq_true p8
                    replace q8 := eq_true q8
                    have p10 : 0 ≤ (x5_1 : Int) := of_decide_eq_true (by first | (with_reducible assumption) | assumption)
                    have q10 : x5_1 < (a1.size : Int) := of_decide_eq_true (by first | (with_reducible assumption) | assumption)
                    have hx10 := bt_at a1 x5_1
                    replace p10 := eq_true p10
                    replace q10 := eq_true q10
                    have p12 : 0 ≤ (x5_1 : Int) := of_decide_eq_true (by first | (with_reducible assumption) | assumption)
                    have q12 : x5_1 < (a0.size : Int) := of_decide_eq_true (by first | (with_reducible assumption) | assumption)
                    have hx12 := bt_at a0 x5_1
                    replace p12 := eq_true p12
                    replace q12 := eq_true q12
                    have p13 : 0 ≤ (x5_1 : Int) := of_decide_eq_true (by first | (with_reducible assumption) | assumption)
                    have q13 : x5_1 < (a1.size : Int) := of_decide_eq_true (by first | (with_reducible assumption) | assumption)
                    have hx13 := bt_at a1 x5_1
                    replace p13 := eq_true p13
                    replace q13 := eq_true q13
                    go_wp2
                    repeat (go_quiet (fail); try go_wp2)
                    go_ret
                    exact ⟨by first | rfl | (simp; done) | (simp [*]; done), by repeat (first | exact Drawn0.refl _ | apply Drawn0.step)⟩
                · rw [if_neg c9] at H
                  exact absurd H (by simp)
              · rw [if_neg c7] at H
                exact absurd H (by simp)
            · rw [if_neg c6] at H
              exact absurd H (by simp)
          · replace c5 := Bool.eq_false_iff.mpr c5
            subst c5
            have H1 : (some (decide ((a0.size : Int) < (a1.size : Int)))) = some r := by rw [if_neg (show ¬ (false = true) by decide)] at H; exact H
            clear H
            have H := H1
            clear H1
            obtain rfl := Option.some.inj H
            go_wp2
            repeat (go_quiet (fail); try go_wp2)
            go_ret
            exact ⟨by first | rfl | (simp; done) | (simp [*]; done), by repeat (first | exact Drawn0.refl _ | apply Drawn0.step)⟩

/-! ### tarryref08_in: function 35 -/
def tarryref08_in.f (a0 : Int) : Option (Bool) := if a0 ≥ 0 then (some (decide (a0 ≤ 1073741824))) else (some false)
set_option maxHeartbeats 8000000 in
set_option maxRecDepth 100000 in
theorem tarryref08_in.calls (a0 : Int) (r : Bool) (w : World) (h : tarryref08_in.f a0 = some r) :
    Calls Try.prog 35 #[.int .i64 a0] w fun e w' => e = .returned (.bool r) ∧ Drawn0 w w' := by
  have H : (if a0 ≥ 0 then (some (decide (a0 ≤ 1073741824))) else (some false)) = some r := h
  clear h
  by_cases c2 : a0 ≥ 0
  · rw [if_pos c2] at H
    have c2b0 : decide (0 ≤ a0) = true := decide_eq_true c2
    clear c2
    obtain rfl := Option.some.inj H
    go_enter Try.func35, Try.ntmps35
    go_wp2
    go_ret
    exact ⟨by first | rfl | (simp; done) | (simp [*]; done), by repeat (first | exact Drawn0.refl _ | apply Drawn0.step)⟩
  · rw [if_neg c2] at H
    have c2b0 : decide (0 ≤ a0) = false := decide_eq_false c2
    clear c2
    obtain rfl := Option.some.inj H
    go_enter Try.func35, Try.ntmps35
    go_wp2
    go_ret
    exact ⟨by first | rfl | (simp; done) | (simp [*]; done), by repeat (first | exact Drawn0.refl _ | apply Drawn0.step)⟩

/-! ### tarryref08_Right: function 17 (by hand) -/
theorem ref_Name_l0 (s : ByteArray) (hs : s.size ≤ 4611686018427387904) : ∀ d k i : Nat, i + d = s.size → d < k → tarryref07_Name.l0 k s (i : Int) = some (((bytesOf s).drop i).all okc && (decide (0 < s.size) && decide (s.size ≤ 16)))
  | 0, k, i, hd, hk => by
    obtain ⟨k, rfl⟩ : ∃ m, k = m + 1 := ⟨k - 1, by omega⟩
    simp only [tarryref07_Name.l0]
    rw [if_neg (by omega), List.drop_eq_nil_of_le (by rw [bytesOf_length]; omega), List.all_nil, Bool.true_and]
    by_cases h : 0 < s.size
    · rw [if_pos (by omega)]
      simp only [h, decide_true, Bool.true_and, Option.some.injEq, decide_eq_decide]
      omega
    · rw [if_neg (by omega)]
      simp [h]
  | d + 1, k, i, hd, hk => by
    obtain ⟨k, rfl⟩ : ∃ m, k = m + 1 := ⟨k - 1, by omega⟩
    have hi : i < (bytesOf s).length := by rw [bytesOf_length]; omega
    have e1 : wrap64 ((i : Int) + 1) = ((i + 1 : Nat) : Int) := by unfold wrap64; omega
    have hb : bt s (i : Int) = (bytesOf s)[i] := by rw [← rd_bytesOf]; exact getD_get 0 _ i hi
    rw [List.drop_eq_getElem_cons hi, List.all_cons]
    simp only [tarryref07_Name.l0]
    rw [if_pos (by omega), if_pos (by omega), hb, e1]
    have ih := ref_Name_l0 s hs d k (i + 1) (by omega) (by omega)
    rw [ih]
    generalize (bytesOf s)[i] = c
    generalize ((bytesOf s).drop (i + 1)).all okc = q
    have a1 : decide (97 ≤ c) = decide (¬ c < 97) := by simp
    have a2 : decide (c ≤ 122) = decide (¬ c > 122) := by simp
    have a3 : decide (48 ≤ c) = decide (¬ c < 48) := by simp
    have a4 : decide (c ≤ 57) = decide (¬ c > 57) := by simp
    unfold okc
    rw [a1, a2, a3, a4]
    clear a1 a2 a3 a4
    by_cases h1 : c < 97 <;> by_cases h2 : c > 122 <;> by_cases h3 : c < 48 <;> by_cases h4 : c > 57 <;> simp [h1, h2, h3, h4]
theorem ref_Name_eq (s : ByteArray) (hs : s.size ≤ 4611686018427387904) : tarryref07_Name.f (s.size + 1) s = some (nameOk s) := by
  have := ref_Name_l0 s hs s.size (s.size + 1) 0 (by omega) (by omega)
  unfold tarryref07_Name.f
  rw [show (0 : Int) = ((0 : Nat) : Int) from rfl, this, List.drop_zero]
  unfold nameOk
  congr 1
  have h : s.toList.isEmpty = decide (s.size = 0) := by
    have hl : s.toList.length = s.size := by rw [ByteArray.toList_eq, data_length]
    cases he : s.toList with
    | nil => rw [he] at hl; simp [← hl]
    | cons a l => rw [he] at hl; simp [← hl]
  rw [h]
  by_cases h0 : s.size = 0
  · simp [h0]
  · have : 0 < s.size := by omega
    simp [h0, this, Bool.and_comm]
theorem bt_toList (s : ByteArray) (i : Nat) (h : i < s.toList.length) : bt s (i : Int) = ((s.toList[i]).toNat : Int) := by
  have hl : s.toList.length = s.size := by rw [ByteArray.toList_eq, data_length]
  have h2 : i < (bytesOf s).length := by rw [bytesOf_length]; omega
  have e : bt s (i : Int) = (bytesOf s)[i] := by rw [← rd_bytesOf]; exact getD_get 0 _ i h2
  rw [e]
  simp [bytesOf, ByteArray.toList_eq]
theorem ref_Less_l0 (a b : ByteArray) (ha : a.size ≤ 4611686018427387904) : ∀ d k i : Nat, i + d = a.size → i ≤ b.size → 2 * d + 1 < k → tarryref07_Less.l0 k a b (i : Int) = some (Op.bytesLess (a.toList.drop i) (b.toList.drop i))
  | 0, k, i, hd, hb, hk => by
    obtain ⟨k, rfl⟩ : ∃ m, k = m + 2 := ⟨k - 2, by omega⟩
    have hla : a.toList.length = a.size := by rw [ByteArray.toList_eq, data_length]
    have hlb : b.toList.length = b.size := by rw [ByteArray.toList_eq, data_length]
    simp only [tarryref07_Less.l0]
    rw [if_neg (by omega)]
    simp only [tarryref07_Less.j1]
    rw [if_neg (by simp), List.drop_eq_nil_of_le (by omega : a.toList.length ≤ i)]
    by_cases h : i < b.size
    · rw [List.drop_eq_getElem_cons (by omega : i < b.toList.length)]
      simp only [Op.bytesLess, Option.some.injEq, decide_eq_true_eq]
      omega
    · rw [List.drop_eq_nil_of_le (by omega : b.toList.length ≤ i)]
      simp only [Op.bytesLess, Option.some.injEq, decide_eq_false_iff_not]
      omega
  | d + 1, k, i, hd, hb, hk => by
    obtain ⟨k, rfl⟩ : ∃ m, k = m + 2 := ⟨k - 2, by omega⟩
    have hla : a.toList.length = a.size := by rw [ByteArray.toList_eq, data_length]
    have hlb : b.toList.length = b.size := by rw [ByteArray.toList_eq, data_length]
    have e1 : wrap64 ((i : Int) + 1) = ((i + 1 : Nat) : Int) := by unfold wrap64; omega
    simp only [tarryref07_Less.l0]
    rw [if_pos (by omega)]
    simp only [tarryref07_Less.j1]
    rw [List.drop_eq_getElem_cons (by omega : i < a.toList.length)]
    by_cases h : i < b.size
    · rw [if_pos (by simpa using h), if_pos (by omega), if_pos (by omega), if_pos (by omega), bt_toList a i (by omega), bt_toList b i (by omega), e1, List.drop_eq_getElem_cons (by omega : i < b.toList.length)]
      simp only [Op.bytesLess]
      rw [ref_Less_l0 a b ha d k (i + 1) (by omega) (by omega) (by omega)]
      generalize a.toList[i] = x
      generalize b.toList[i] = y
      by_cases he : x = y
      · subst he
        simp
      · have hn : ¬ ((x.toNat : Int) = (y.toNat : Int)) := fun h => he (UInt8.toNat_inj.1 (by omega))
        rw [if_neg hn]
        have hbe : (x == y) = false := by simpa using he
        rw [hbe, Bool.false_and, Bool.or_false]
        simp only [Option.some.injEq, decide_eq_decide, UInt8.lt_iff_toNat_lt]
        omega
    · rw [if_neg (by simpa using h), List.drop_eq_nil_of_le (by omega : b.toList.length ≤ i)]
      simp only [Op.bytesLess, Option.some.injEq, decide_eq_false_iff_not]
      omega
theorem ref_Less_eq (a b : ByteArray) (ha : a.size ≤ 4611686018427387904) : tarryref07_Less.f (2 * a.size + 2) a b = some (Op.bytesLess a.toList b.toList) := by
  have := ref_Less_l0 a b ha a.size (2 * a.size + 2) 0 (by omega) (by omega) (by omega)
  unfold tarryref07_Less.f
  rw [show (0 : Int) = ((0 : Nat) : Int) from rfl, this, List.drop_zero, List.drop_zero]
theorem ref_in_eq (n : Int) : tarryref08_in.f n = some (numOk n) := by
  unfold tarryref08_in.f numOk
  by_cases h : n ≥ 0
  · have : 0 ≤ n := h
    simp [h, this]
  · have : ¬ 0 ≤ n := h
    simp [h, this]
def smallB (l : List S33) : Bool := l.all fun x => decide (x.f0.size ≤ 4611686018427387904)
def tarryref08_Right.f (l0 : List S33) : Option Bool := if smallB l0 = true then some (rightB l0) else none
set_option maxHeartbeats 8000000 in
set_option maxRecDepth 100000 in
theorem tarryref08_Right.calls (A0 : Option Addr) (c0 : Nat) (l0 : List S33) (r : Bool) (w : World) (hr0 : Kd.C k33 w A0 l0.length l0) (hc0 : l0.length ≤ c0) (h : tarryref08_Right.f l0 = some r) :
    Calls Try.prog 17 #[.slice A0 l0.length c0] w fun e w' => e = .returned (.bool r) ∧ Below w.heap.size w w' := by
  unfold tarryref08_Right.f at h
  by_cases hsm : smallB l0 = true
  case neg => rw [if_neg hsm] at h; cases h
  rw [if_pos hsm] at h
  obtain rfl := Option.some.inj h
  clear h
  have SM := Aside0.mk (fun i (hi : i < l0.length) => (by
    unfold smallB at hsm
    rw [List.all_eq_true] at hsm
    have := hsm _ (List.getElem_mem hi)
    rw [getD_get z33 l0 i hi]
    simpa using this : (l0.getD i z33).f0.size ≤ 4611686018427387904))
  clear hsm
  have hu33 := Try.underlying33
  have HR := Aside0.mk hr0
  have hl : l0.length ≤ 9223372036854775807 := hr0.2.1
  clear hr0 hc0
  go_enter Try.func17, Try.ntmps17
  go_wp2
  go_loopg [7] l0.length (fun gg s7 wr => ∃ kk : Nat, kk ≤ l0.length ∧ l0.length - kk ≤ gg ∧ s7 = .int .i64 kk ∧ Aside0 (Below w.heap.size w wr) ∧ Aside0 (∀ j, j < kk → rowUp l0 j = true))
  case atStart => exact ⟨0, Nat.zero_le _, by omega, rfl, ⟨Below.refl _ _⟩, ⟨fun j hj => absurd hj (Nat.not_lt_zero _)⟩⟩
  case round =>
    obtain ⟨kk, hkk, hg, rfl, BW, A⟩ := hrel
    by_cases hlt : kk < l0.length
    · have hltz : (kk : Int) < (l0.length : Int) := by omega
      obtain ⟨ad, e0, hx0, hx1, hx2, hx3, hx4, hx5⟩ := at_T33 HR.out (kk : Int) (by omega) hltz
      subst e0
      replace hx0 := pw_cell_below BW.out hx0
      replace hx1 := pw_cell_below BW.out hx1
      replace hx2 := pw_cell_below BW.out hx2
      replace hx3 := pw_cell_below BW.out hx3
      replace hx4 := pw_cell_below BW.out hx4
      replace hx5 := pw_cell_below BW.out hx5
      simp only [Int.toNat_natCast] at hx0 hx1 hx2 hx3 hx4 hx5
      have g1 : rd_T33 l0 (kk : Int) = l0.getD kk z33 := rfl
      rw [g1] at hx0 hx1 hx2 hx3 hx4 hx5
      have SO := Aside0.mk (show rowUp l0 kk = ((nameOk (l0.getD kk z33).f0 && ((numOk (l0.getD kk z33).f1 && (numOk (l0.getD kk z33).f2 && (numOk (l0.getD kk z33).f3 && (numOk (l0.getD kk z33).f4 && numOk (l0.getD kk z33).f5)))) && decide ((l0.getD kk z33).f1 = (l0.getD kk z33).f2 + (l0.getD kk z33).f3 + (l0.getD kk z33).f4 + (l0.getD kk z33).f5))) && (decide (kk = 0) || Op.bytesLess (l0.getD (kk - 1) z33).f0.toList (l0.getD kk z33).f0.toList)) from rfl)
      have sy := SM.out kk hlt
      clear g1
      generalize l0.getD kk z33 = y at hx0 hx1 hx2 hx3 hx4 hx5 SO sy
      have HM := Aside0.mk (fun W => tarryref07_Name.calls (y.f0.size + 1) y.f0 _ W (ref_Name_eq y.f0 sy))
      have H1 := Aside0.mk (fun W => tarryref08_in.calls y.f1 _ W (ref_in_eq y.f1))
      have H2 := Aside0.mk (fun W => tarryref08_in.calls y.f2 _ W (ref_in_eq y.f2))
      have H3 := Aside0.mk (fun W => tarryref08_in.calls y.f3 _ W (ref_in_eq y.f3))
      have H4 := Aside0.mk (fun W => tarryref08_in.calls y.f4 _ W (ref_in_eq y.f4))
      have H5 := Aside0.mk (fun W => tarryref08_in.calls y.f5 _ W (ref_in_eq y.f5))
      have RNG := Aside0.mk (show numOk y.f1 = true → numOk y.f2 = true → numOk y.f3 = true → numOk y.f4 = true → numOk y.f5 = true → 0 ≤ y.f1 ∧ y.f1 ≤ 1073741824 ∧ 0 ≤ y.f2 ∧ y.f2 ≤ 1073741824 ∧ 0 ≤ y.f3 ∧ y.f3 ≤ 1073741824 ∧ 0 ≤ y.f4 ∧ y.f4 ≤ 1073741824 ∧ 0 ≤ y.f5 ∧ y.f5 ≤ 1073741824 by
        simp only [numOk, Bool.and_eq_true, decide_eq_true_eq]
        intros
        omega)
      clear sy
      generalize nameOk y.f0 = mm at HM SO
      generalize numOk y.f1 = b1 at H1 SO RNG
      generalize numOk y.f2 = b2 at H2 SO RNG
      generalize numOk y.f3 = b3 at H3 SO RNG
      generalize numOk y.f4 = b4 at H4 SO RNG
      generalize numOk y.f5 = b5 at H5 SO RNG
      go_wp2_with fail
      have n0 : (wr.alloc (.cells #[.string y.f0, .int .i64 y.f1, .int .i64 y.f2, .int .i64 y.f3, .int .i64 y.f4, .int .i64 y.f5] 33 (0, 0))).cell? ⟨wr.heap.size, 0, none⟩ = some (.string y.f0) := by go_simp
      have n1 : (wr.alloc (.cells #[.string y.f0, .int .i64 y.f1, .int .i64 y.f2, .int .i64 y.f3, .int .i64 y.f4, .int .i64 y.f5] 33 (0, 0))).cell? ⟨wr.heap.size, 1, none⟩ = some (.int .i64 y.f1) := by go_simp
      have n2 : (wr.alloc (.cells #[.string y.f0, .int .i64 y.f1, .int .i64 y.f2, .int .i64 y.f3, .int .i64 y.f4, .int .i64 y.f5] 33 (0, 0))).cell? ⟨wr.heap.size, 2, none⟩ = some (.int .i64 y.f2) := by go_simp
      have n3 : (wr.alloc (.cells #[.string y.f0, .int .i64 y.f1, .int .i64 y.f2, .int .i64 y.f3, .int .i64 y.f4, .int .i64 y.f5] 33 (0, 0))).cell? ⟨wr.heap.size, 3, none⟩ = some (.int .i64 y.f3) := by go_simp
      have n4 : (wr.alloc (.cells #[.string y.f0, .int .i64 y.f1, .int .i64 y.f2, .int .i64 y.f3, .int .i64 y.f4, .int .i64 y.f5] 33 (0, 0))).cell? ⟨wr.heap.size, 4, none⟩ = some (.int .i64 y.f4) := by go_simp
      have n5 : (wr.alloc (.cells #[.string y.f0, .int .i64 y.f1, .int .i64 y.f2, .int .i64 y.f3, .int .i64 y.f4, .int .i64 y.f5] 33 (0, 0))).cell? ⟨wr.heap.size, 5, none⟩ = some (.int .i64 y.f5) := by go_simp
      have B0 := Aside0.mk (below_alloc BW.out (.cells #[.string y.f0, .int .i64 y.f1, .int .i64 y.f2, .int .i64 y.f3, .int .i64 y.f4, .int .i64 y.f5] 33 (0, 0)))
      generalize wr.alloc (.cells #[.string y.f0, .int .i64 y.f1, .int .i64 y.f2, .int .i64 y.f3, .int .i64 y.f4, .int .i64 y.f5] 33 (0, 0)) = W0 at n0 n1 n2 n3 n4 n5 B0 ⊢
      clear hx0 hx1 hx2 hx3 hx4 hx5 BW
      generalize wr.heap.size = bb at n0 n1 n2 n3 n4 n5 ⊢
      cases mm with
      | false =>
        refine wp_region_below (by kernel_rfl) (by kernel_rfl) ?_
        repeat (first | go_big_quiet_skip | (go_big_quiet_want; go_big_quiet_op; go_big_quiet_on) | (go_big_quiet_want; apply Exists.intro; refine ⟨fun W hW => ?_, ?_⟩; (focus (have m0_ := pw_cell_below hW n0; have m1_ := pw_cell_below hW n1; have m2_ := pw_cell_below hW n2; have m3_ := pw_cell_below hW n3; have m4_ := pw_cell_below hW n4; have m5_ := pw_cell_below hW n5; unfold Oper.quietAt; go_simp; first | rfl | done | ((with_reducible refine (HM.out _).mono ?_); rintro e w2 ⟨rfl, hb⟩; exact ⟨rfl, below_step hW hb.below⟩))); (try simp only [Act.put, List.setIfInBounds_toArray, List.set_cons_zero, List.set_cons_succ]); go_big_quiet_on))
        refine wpQuiet_nil ?_
        intro W2 hW2
        have B2 := Aside0.mk (below_step B0.out hW2)
        clear hW2
        go_wp2
        go_ret
        refine ⟨?_, B2.out⟩
        rw [rightB_no l0 kk hlt (by rw [SO.out]; rfl)]
        rfl
      | true =>
        by_cases hk0 : kk = 0
        · subst hk0
          refine wp_region_below (by kernel_rfl) (by kernel_rfl) ?_
          repeat (first | go_big_quiet_skip | (go_big_quiet_want; go_big_quiet_op; go_big_quiet_on) | (go_big_quiet_want; apply Exists.intro; refine ⟨fun W hW => ?_, ?_⟩; (focus (have m0_ := pw_cell_below hW n0; have m1_ := pw_cell_below hW n1; have m2_ := pw_cell_below hW n2; have m3_ := pw_cell_below hW n3; have m4_ := pw_cell_below hW n4; have m5_ := pw_cell_below hW n5; unfold Oper.quietAt; go_simp; first | rfl | done | ((with_reducible refine (HM.out _).mono ?_); rintro e w2 ⟨rfl, hb⟩; exact ⟨rfl, below_step hW hb.below⟩))); (try simp only [Act.put, List.setIfInBounds_toArray, List.set_cons_zero, List.set_cons_succ]); go_big_quiet_on))
          refine wpQuiet_nil ?_
          intro W2 hW2
          have B2 := Aside0.mk (below_step B0.out hW2)
          replace n0 := pw_cell_below hW2 n0
          replace n1 := pw_cell_below hW2 n1
          replace n2 := pw_cell_below hW2 n2
          replace n3 := pw_cell_below hW2 n3
          replace n4 := pw_cell_below hW2 n4
          replace n5 := pw_cell_below hW2 n5
          clear hW2
          cases b1 with
          | false =>
            go_wp2_with (go_at_call 35; first | ((with_reducible refine (H1.out _).mono ?_); rintro e w' ⟨rfl, hd⟩; have hb_ := hd.below; have B2' := Aside0.mk (below_step B2.out hb_); replace n1 := pw_cell_below hb_ n1; replace n2 := pw_cell_below hb_ n2; replace n3 := pw_cell_below hb_ n3; replace n4 := pw_cell_below hb_ n4; replace n5 := pw_cell_below hb_ n5; clear hd hb_ B2; have B2 := B2'; clear B2') | ((with_reducible refine (H2.out _).mono ?_); rintro e w' ⟨rfl, hd⟩; have hb_ := hd.below; have B2' := Aside0.mk (below_step B2.out hb_); replace n1 := pw_cell_below hb_ n1; replace n2 := pw_cell_below hb_ n2; replace n3 := pw_cell_below hb_ n3; replace n4 := pw_cell_below hb_ n4; replace n5 := pw_cell_below hb_ n5; clear hd hb_ B2; have B2 := B2'; clear B2') | ((with_reducible refine (H3.out _).mono ?_); rintro e w' ⟨rfl, hd⟩; have hb_ := hd.below; have B2' := Aside0.mk (below_step B2.out hb_); replace n1 := pw_cell_below hb_ n1; replace n2 := pw_cell_below hb_ n2; replace n3 := pw_cell_below hb_ n3; replace n4 := pw_cell_below hb_ n4; replace n5 := pw_cell_below hb_ n5; clear hd hb_ B2; have B2 := B2'; clear B2') | ((with_reducible refine (H4.out _).mono ?_); rintro e w' ⟨rfl, hd⟩; have hb_ := hd.below; have B2' := Aside0.mk (below_step B2.out hb_); replace n1 := pw_cell_below hb_ n1; replace n2 := pw_cell_below hb_ n2; replace n3 := pw_cell_below hb_ n3; replace n4 := pw_cell_below hb_ n4; replace n5 := pw_cell_below hb_ n5; clear hd hb_ B2; have B2 := B2'; clear B2') | ((with_reducible refine (H5.out _).mono ?_); rintro e w' ⟨rfl, hd⟩; have hb_ := hd.below; have B2' := Aside0.mk (below_step B2.out hb_); replace n1 := pw_cell_below hb_ n1; replace n2 := pw_cell_below hb_ n2; replace n3 := pw_cell_below hb_ n3; replace n4 := pw_cell_below hb_ n4; replace n5 := pw_cell_below hb_ n5; clear hd hb_ B2; have B2 := B2'; clear B2') )
            go_ret
            refine ⟨?_, B2.out⟩
            rw [rightB_no l0 0 hlt (by rw [SO.out]; simp)]
            rfl
          | true =>
            cases b2 with
            | false =>
              go_wp2_with (go_at_call 35; first | ((with_reducible refine (H1.out _).mono ?_); rintro e w' ⟨rfl, hd⟩; have hb_ := hd.below; have B2' := Aside0.mk (below_step B2.out hb_); replace n1 := pw_cell_below hb_ n1; replace n2 := pw_cell_below hb_ n2; replace n3 := pw_cell_below hb_ n3; replace n4 := pw_cell_below hb_ n4; replace n5 := pw_cell_below hb_ n5; clear hd hb_ B2; have B2 := B2'; clear B2') | ((with_reducible refine (H2.out _).mono ?_); rintro e w' ⟨rfl, hd⟩; have hb_ := hd.below; have B2' := Aside0.mk (below_step B2.out hb_); replace n1 := pw_cell_below hb_ n1; replace n2 := pw_cell_below hb_ n2; replace n3 := pw_cell_below hb_ n3; replace n4 := pw_cell_below hb_ n4; replace n5 := pw_cell_below hb_ n5; clear hd hb_ B2; have B2 := B2'; clear B2') | ((with_reducible refine (H3.out _).mono ?_); rintro e w' ⟨rfl, hd⟩; have hb_ := hd.below; have B2' := Aside0.mk (below_step B2.out hb_); replace n1 := pw_cell_below hb_ n1; replace n2 := pw_cell_below hb_ n2; replace n3 := pw_cell_below hb_ n3; replace n4 := pw_cell_below hb_ n4; replace n5 := pw_cell_below hb_ n5; clear hd hb_ B2; have B2 := B2'; clear B2') | ((with_reducible refine (H4.out _).mono ?_); rintro e w' ⟨rfl, hd⟩; have hb_ := hd.below; have B2' := Aside0.mk (below_step B2.out hb_); replace n1 := pw_cell_below hb_ n1; replace n2 := pw_cell_below hb_ n2; replace n3 := pw_cell_below hb_ n3; replace n4 := pw_cell_below hb_ n4; replace n5 := pw_cell_below hb_ n5; clear hd hb_ B2; have B2 := B2'; clear B2') | ((with_reducible refine (H5.out _).mono ?_); rintro e w' ⟨rfl, hd⟩; have hb_ := hd.below; have B2' := Aside0.mk (below_step B2.out hb_); replace n1 := pw_cell_below hb_ n1; replace n2 := pw_cell_below hb_ n2; replace n3 := pw_cell_below hb_ n3; replace n4 := pw_cell_below hb_ n4; replace n5 := pw_cell_below hb_ n5; clear hd hb_ B2; have B2 := B2'; clear B2') )
              go_ret
              refine ⟨?_, B2.out⟩
              rw [rightB_no l0 0 hlt (by rw [SO.out]; simp)]
              rfl
            | true =>
              cases b3 with
              | false =>
                go_wp2_with (go_at_call 35; first | ((with_reducible refine (H1.out _).mono ?_); rintro e w' ⟨rfl, hd⟩; have hb_ := hd.below; have B2' := Aside0.mk (below_step B2.out hb_); replace n1 := pw_cell_below hb_ n1; replace n2 := pw_cell_below hb_ n2; replace n3 := pw_cell_below hb_ n3; replace n4 := pw_cell_below hb_ n4; replace n5 := pw_cell_below hb_ n5; clear hd hb_ B2; have B2 := B2'; clear B2') | ((with_reducible refine (H2.out _).mono ?_); rintro e w' ⟨rfl, hd⟩; have hb_ := hd.below; have B2' := Aside0.mk (below_step B2.out hb_); replace n1 := pw_cell_below hb_ n1; replace n2 := pw_cell_below hb_ n2; replace n3 := pw_cell_below hb_ n3; replace n4 := pw_cell_below hb_ n4; replace n5 := pw_cell_below hb_ n5; clear hd hb_ B2; have B2 := B2'; clear B2') | ((with_reducible refine (H3.out _).mono ?_); rintro e w' ⟨rfl, hd⟩; have hb_ := hd.below; have B2' := Aside0.mk (below_step B2.out hb_); replace n1 := pw_cell_below hb_ n1; replace n2 := pw_cell_below hb_ n2; replace n3 := pw_cell_below hb_ n3; replace n4 := pw_cell_below hb_ n4; replace n5 := pw_cell_below hb_ n5; clear hd hb_ B2; have B2 := B2'; clear B2') | ((with_reducible refine (H4.out _).mono ?_); rintro e w' ⟨rfl, hd⟩; have hb_ := hd.below; have B2' := Aside0.mk (below_step B2.out hb_); replace n1 := pw_cell_below hb_ n1; replace n2 := pw_cell_below hb_ n2; replace n3 := pw_cell_below hb_ n3; replace n4 := pw_cell_below hb_ n4; replace n5 := pw_cell_below hb_ n5; clear hd hb_ B2; have B2 := B2'; clear B2') | ((with_reducible refine (H5.out _).mono ?_); rintro e w' ⟨rfl, hd⟩; have hb_ := hd.below; have B2' := Aside0.mk (below_step B2.out hb_); replace n1 := pw_cell_below hb_ n1; replace n2 := pw_cell_below hb_ n2; replace n3 := pw_cell_below hb_ n3; replace n4 := pw_cell_below hb_ n4; replace n5 := pw_cell_below hb_ n5; clear hd hb_ B2; have B2 := B2'; clear B2') )
                go_ret
                refine ⟨?_, B2.out⟩
                rw [rightB_no l0 0 hlt (by rw [SO.out]; simp)]
                rfl
              | true =>
                cases b4 with
                | false =>
                  go_wp2_with (go_at_call 35; first | ((with_reducible refine (H1.out _).mono ?_); rintro e w' ⟨rfl, hd⟩; have hb_ := hd.below; have B2' := Aside0.mk (below_step B2.out hb_); replace n1 := pw_cell_below hb_ n1; replace n2 := pw_cell_below hb_ n2; replace n3 := pw_cell_below hb_ n3; replace n4 := pw_cell_below hb_ n4; replace n5 := pw_cell_below hb_ n5; clear hd hb_ B2; have B2 := B2'; clear B2') | ((with_reducible refine (H2.out _).mono ?_); rintro e w' ⟨rfl, hd⟩; have hb_ := hd.below; have B2' := Aside0.mk (below_step B2.out hb_); replace n1 := pw_cell_below hb_ n1; replace n2 := pw_cell_below hb_ n2; replace n3 := pw_cell_below hb_ n3; replace n4 := pw_cell_below hb_ n4; replace n5 := pw_cell_below hb_ n5; clear hd hb_ B2; have B2 := B2'; clear B2') | ((with_reducible refine (H3.out _).mono ?_); rintro e w' ⟨rfl, hd⟩; have hb_ := hd.below; have B2' := Aside0.mk (below_step B2.out hb_); replace n1 := pw_cell_below hb_ n1; replace n2 := pw_cell_below hb_ n2; replace n3 := pw_cell_below hb_ n3; replace n4 := pw_cell_below hb_ n4; replace n5 := pw_cell_below hb_ n5; clear hd hb_ B2; have B2 := B2'; clear B2') | ((with_reducible refine (H4.out _).mono ?_); rintro e w' ⟨rfl, hd⟩; have hb_ := hd.below; have B2' := Aside0.mk (below_step B2.out hb_); replace n1 := pw_cell_below hb_ n1; replace n2 := pw_cell_below hb_ n2; replace n3 := pw_cell_below hb_ n3; replace n4 := pw_cell_below hb_ n4; replace n5 := pw_cell_below hb_ n5; clear hd hb_ B2; have B2 := B2'; clear B2') | ((with_reducible refine (H5.out _).mono ?_); rintro e w' ⟨rfl, hd⟩; have hb_ := hd.below; have B2' := Aside0.mk (below_step B2.out hb_); replace n1 := pw_cell_below hb_ n1; replace n2 := pw_cell_below hb_ n2; replace n3 := pw_cell_below hb_ n3; replace n4 := pw_cell_below hb_ n4; replace n5 := pw_cell_below hb_ n5; clear hd hb_ B2; have B2 := B2'; clear B2') )
                  go_ret
                  refine ⟨?_, B2.out⟩
                  rw [rightB_no l0 0 hlt (by rw [SO.out]; simp)]
                  rfl
                | true =>
                  cases b5 with
                  | false =>
                    go_wp2_with (go_at_call 35; first | ((with_reducible refine (H1.out _).mono ?_); rintro e w' ⟨rfl, hd⟩; have hb_ := hd.below; have B2' := Aside0.mk (below_step B2.out hb_); replace n1 := pw_cell_below hb_ n1; replace n2 := pw_cell_below hb_ n2; replace n3 := pw_cell_below hb_ n3; replace n4 := pw_cell_below hb_ n4; replace n5 := pw_cell_below hb_ n5; clear hd hb_ B2; have B2 := B2'; clear B2') | ((with_reducible refine (H2.out _).mono ?_); rintro e w' ⟨rfl, hd⟩; have hb_ := hd.below; have B2' := Aside0.mk (below_step B2.out hb_); replace n1 := pw_cell_below hb_ n1; replace n2 := pw_cell_below hb_ n2; replace n3 := pw_cell_below hb_ n3; replace n4 := pw_cell_below hb_ n4; replace n5 := pw_cell_below hb_ n5; clear hd hb_ B2; have B2 := B2'; clear B2') | ((with_reducible refine (H3.out _).mono ?_); rintro e w' ⟨rfl, hd⟩; have hb_ := hd.below; have B2' := Aside0.mk (below_step B2.out hb_); replace n1 := pw_cell_below hb_ n1; replace n2 := pw_cell_below hb_ n2; replace n3 := pw_cell_below hb_ n3; replace n4 := pw_cell_below hb_ n4; replace n5 := pw_cell_below hb_ n5; clear hd hb_ B2; have B2 := B2'; clear B2') | ((with_reducible refine (H4.out _).mono ?_); rintro e w' ⟨rfl, hd⟩; have hb_ := hd.below; have B2' := Aside0.mk (below_step B2.out hb_); replace n1 := pw_cell_below hb_ n1; replace n2 := pw_cell_below hb_ n2; replace n3 := pw_cell_below hb_ n3; replace n4 := pw_cell_below hb_ n4; replace n5 := pw_cell_below hb_ n5; clear hd hb_ B2; have B2 := B2'; clear B2') | ((with_reducible refine (H5.out _).mono ?_); rintro e w' ⟨rfl, hd⟩; have hb_ := hd.below; have B2' := Aside0.mk (below_step B2.out hb_); replace n1 := pw_cell_below hb_ n1; replace n2 := pw_cell_below hb_ n2; replace n3 := pw_cell_below hb_ n3; replace n4 := pw_cell_below hb_ n4; replace n5 := pw_cell_below hb_ n5; clear hd hb_ B2; have B2 := B2'; clear B2') )
                    go_ret
                    refine ⟨?_, B2.out⟩
                    rw [rightB_no l0 0 hlt (by rw [SO.out]; simp)]
                    rfl
                  | true =>
                    obtain ⟨i1, i2, i3, i4, i5, i6, i7, i8, i9, i10⟩ := RNG.out rfl rfl rfl rfl rfl
                    clear RNG
                    by_cases hs : y.f1 - y.f2 - y.f3 - y.f4 = y.f5
                    · have hsb : (y.f1 - y.f2 - y.f3 - y.f4 != y.f5) = false := by simpa using hs
                      have HS := Aside0.mk (show y.f1 = y.f2 + y.f3 + y.f4 + y.f5 by omega)
                      clear hs
                      go_wp2_with (go_at_call 35; first | ((with_reducible refine (H1.out _).mono ?_); rintro e w' ⟨rfl, hd⟩; have hb_ := hd.below; have B2' := Aside0.mk (below_step B2.out hb_); replace n1 := pw_cell_below hb_ n1; replace n2 := pw_cell_below hb_ n2; replace n3 := pw_cell_below hb_ n3; replace n4 := pw_cell_below hb_ n4; replace n5 := pw_cell_below hb_ n5; clear hd hb_ B2; have B2 := B2'; clear B2') | ((with_reducible refine (H2.out _).mono ?_); rintro e w' ⟨rfl, hd⟩; have hb_ := hd.below; have B2' := Aside0.mk (below_step B2.out hb_); replace n1 := pw_cell_below hb_ n1; replace n2 := pw_cell_below hb_ n2; replace n3 := pw_cell_below hb_ n3; replace n4 := pw_cell_below hb_ n4; replace n5 := pw_cell_below hb_ n5; clear hd hb_ B2; have B2 := B2'; clear B2') | ((with_reducible refine (H3.out _).mono ?_); rintro e w' ⟨rfl, hd⟩; have hb_ := hd.below; have B2' := Aside0.mk (below_step B2.out hb_); replace n1 := pw_cell_below hb_ n1; replace n2 := pw_cell_below hb_ n2; replace n3 := pw_cell_below hb_ n3; replace n4 := pw_cell_below hb_ n4; replace n5 := pw_cell_below hb_ n5; clear hd hb_ B2; have B2 := B2'; clear B2') | ((with_reducible refine (H4.out _).mono ?_); rintro e w' ⟨rfl, hd⟩; have hb_ := hd.below; have B2' := Aside0.mk (below_step B2.out hb_); replace n1 := pw_cell_below hb_ n1; replace n2 := pw_cell_below hb_ n2; replace n3 := pw_cell_below hb_ n3; replace n4 := pw_cell_below hb_ n4; replace n5 := pw_cell_below hb_ n5; clear hd hb_ B2; have B2 := B2'; clear B2') | ((with_reducible refine (H5.out _).mono ?_); rintro e w' ⟨rfl, hd⟩; have hb_ := hd.below; have B2' := Aside0.mk (below_step B2.out hb_); replace n1 := pw_cell_below hb_ n1; replace n2 := pw_cell_below hb_ n2; replace n3 := pw_cell_below hb_ n3; replace n4 := pw_cell_below hb_ n4; replace n5 := pw_cell_below hb_ n5; clear hd hb_ B2; have B2 := B2'; clear B2') )
                      go_roundg (l0.length - 1)
                      case measure => omega
                      case rel =>
                        refine ⟨1, by omega, by omega, by go_num, B2, ⟨fun j hj => ?_⟩⟩
                        obtain rfl : j = 0 := by omega
                        rw [SO.out]
                        simp [← HS.out]
                    · have hsb : (y.f1 - y.f2 - y.f3 - y.f4 != y.f5) = true := by simpa using hs
                      have HS := Aside0.mk (show ¬ y.f1 = y.f2 + y.f3 + y.f4 + y.f5 by omega)
                      clear hs
                      go_wp2_with (go_at_call 35; first | ((with_reducible refine (H1.out _).mono ?_); rintro e w' ⟨rfl, hd⟩; have hb_ := hd.below; have B2' := Aside0.mk (below_step B2.out hb_); replace n1 := pw_cell_below hb_ n1; replace n2 := pw_cell_below hb_ n2; replace n3 := pw_cell_below hb_ n3; replace n4 := pw_cell_below hb_ n4; replace n5 := pw_cell_below hb_ n5; clear hd hb_ B2; have B2 := B2'; clear B2') | ((with_reducible refine (H2.out _).mono ?_); rintro e w' ⟨rfl, hd⟩; have hb_ := hd.below; have B2' := Aside0.mk (below_step B2.out hb_); replace n1 := pw_cell_below hb_ n1; replace n2 := pw_cell_below hb_ n2; replace n3 := pw_cell_below hb_ n3; replace n4 := pw_cell_below hb_ n4; replace n5 := pw_cell_below hb_ n5; clear hd hb_ B2; have B2 := B2'; clear B2') | ((with_reducible refine (H3.out _).mono ?_); rintro e w' ⟨rfl, hd⟩; have hb_ := hd.below; have B2' := Aside0.mk (below_step B2.out hb_); replace n1 := pw_cell_below hb_ n1; replace n2 := pw_cell_below hb_ n2; replace n3 := pw_cell_below hb_ n3; replace n4 := pw_cell_below hb_ n4; replace n5 := pw_cell_below hb_ n5; clear hd hb_ B2; have B2 := B2'; clear B2') | ((with_reducible refine (H4.out _).mono ?_); rintro e w' ⟨rfl, hd⟩; have hb_ := hd.below; have B2' := Aside0.mk (below_step B2.out hb_); replace n1 := pw_cell_below hb_ n1; replace n2 := pw_cell_below hb_ n2; replace n3 := pw_cell_below hb_ n3; replace n4 := pw_cell_below hb_ n4; replace n5 := pw_cell_below hb_ n5; clear hd hb_ B2; have B2 := B2'; clear B2') | ((with_reducible refine (H5.out _).mono ?_); rintro e w' ⟨rfl, hd⟩; have hb_ := hd.below; have B2' := Aside0.mk (below_step B2.out hb_); replace n1 := pw_cell_below hb_ n1; replace n2 := pw_cell_below hb_ n2; replace n3 := pw_cell_below hb_ n3; replace n4 := pw_cell_below hb_ n4; replace n5 := pw_cell_below hb_ n5; clear hd hb_ B2; have B2 := B2'; clear B2') )
                      go_ret
                      refine ⟨?_, B2.out⟩
                      rw [rightB_no l0 0 hlt (by rw [SO.out]; simp [HS.out])]
                      rfl
        · obtain ⟨m, rfl⟩ : ∃ m, kk = m + 1 := ⟨kk - 1, by omega⟩
          have hltm : (m : Int) < (l0.length : Int) := by omega
          have hmod : IntKind.i64.wrap (m : Int) = (m : Int) := IntWalk.i64_in _ (by omega)
          have hmod2 : IntKind.i64.wrap ((m : Int) + 1 - 1) = (m : Int) := by rw [IntWalk.i64_in _ (by omega)]; omega
          obtain ⟨ad2, e2, q0, _⟩ := at_T33 HR.out (m : Int) (by omega) hltm
          cases e2
          replace q0 := pw_cell_below B0.out q0
          simp only [Int.toNat_natCast] at q0
          have g2 : rd_T33 l0 (m : Int) = l0.getD m z33 := rfl
          rw [g2] at q0
          clear g2
          have sp := SM.out m (by omega)
          rw [show l0.getD (m + 1 - 1) z33 = l0.getD m z33 from rfl] at SO
          generalize (l0.getD m z33).f0 = pf at q0 SO sp
          have HL := Aside0.mk (fun W => tarryref07_Less.calls (2 * pf.size + 2) pf y.f0 _ W (ref_Less_eq pf y.f0 sp))
          clear sp
          have hm0 : (0 : Int) ≤ (m : Int) := by omega
          generalize Op.bytesLess pf.toList y.f0.toList = bl at HL SO
          cases bl with
          | true =>
            refine wp_region_below (by kernel_rfl) (by kernel_rfl) ?_
            repeat (first | go_big_quiet_skip | (go_big_quiet_want; go_big_quiet_op; go_big_quiet_on) | (go_big_quiet_want; apply Exists.intro; refine ⟨fun W hW => ?_, ?_⟩; (focus (have m0_ := pw_cell_below hW n0; have m1_ := pw_cell_below hW n1; have m2_ := pw_cell_below hW n2; have m3_ := pw_cell_below hW n3; have m4_ := pw_cell_below hW n4; have m5_ := pw_cell_below hW n5; have q0_ := pw_cell_below hW q0; unfold Oper.quietAt; go_simp; first | rfl | done | (first | ((with_reducible refine (HM.out _).mono ?_); rintro e w2 ⟨rfl, hb⟩; exact ⟨rfl, below_step hW hb.below⟩) | ((with_reducible refine (HL.out _).mono ?_); rintro e w2 ⟨rfl, hb⟩; exact ⟨rfl, below_step hW hb.below⟩)))); (try simp only [Act.put, List.setIfInBounds_toArray, List.set_cons_zero, List.set_cons_succ]); go_big_quiet_on))
            refine wpQuiet_nil ?_
            intro W2 hW2
            have B2 := Aside0.mk (below_step B0.out hW2)
            replace n0 := pw_cell_below hW2 n0
            replace n1 := pw_cell_below hW2 n1
            replace n2 := pw_cell_below hW2 n2
            replace n3 := pw_cell_below hW2 n3
            replace n4 := pw_cell_below hW2 n4
            replace n5 := pw_cell_below hW2 n5
            clear hW2
            cases b1 with
            | false =>
              go_wp2_with (go_at_call 35; first | ((with_reducible refine (H1.out _).mono ?_); rintro e w' ⟨rfl, hd⟩; have hb_ := hd.below; have B2' := Aside0.mk (below_step B2.out hb_); replace n1 := pw_cell_below hb_ n1; replace n2 := pw_cell_below hb_ n2; replace n3 := pw_cell_below hb_ n3; replace n4 := pw_cell_below hb_ n4; replace n5 := pw_cell_below hb_ n5; clear hd hb_ B2; have B2 := B2'; clear B2') | ((with_reducible refine (H2.out _).mono ?_); rintro e w' ⟨rfl, hd⟩; have hb_ := hd.below; have B2' := Aside0.mk (below_step B2.out hb_); replace n1 := pw_cell_below hb_ n1; replace n2 := pw_cell_below hb_ n2; replace n3 := pw_cell_below hb_ n3; replace n4 := pw_cell_below hb_ n4; replace n5 := pw_cell_below hb_ n5; clear hd hb_ B2; have B2 := B2'; clear B2') | ((with_reducible refine (H3.out _).mono ?_); rintro e w' ⟨rfl, hd⟩; have hb_ := hd.below; have B2' := Aside0.mk (below_step B2.out hb_); replace n1 := pw_cell_below hb_ n1; replace n2 := pw_cell_below hb_ n2; replace n3 := pw_cell_below hb_ n3; replace n4 := pw_cell_below hb_ n4; replace n5 := pw_cell_below hb_ n5; clear hd hb_ B2; have B2 := B2'; clear B2') | ((with_reducible refine (H4.out _).mono ?_); rintro e w' ⟨rfl, hd⟩; have hb_ := hd.below; have B2' := Aside0.mk (below_step B2.out hb_); replace n1 := pw_cell_below hb_ n1; replace n2 := pw_cell_below hb_ n2; replace n3 := pw_cell_below hb_ n3; replace n4 := pw_cell_below hb_ n4; replace n5 := pw_cell_below hb_ n5; clear hd hb_ B2; have B2 := B2'; clear B2') | ((with_reducible refine (H5.out _).mono ?_); rintro e w' ⟨rfl, hd⟩; have hb_ := hd.below; have B2' := Aside0.mk (below_step B2.out hb_); replace n1 := pw_cell_below hb_ n1; replace n2 := pw_cell_below hb_ n2; replace n3 := pw_cell_below hb_ n3; replace n4 := pw_cell_below hb_ n4; replace n5 := pw_cell_below hb_ n5; clear hd hb_ B2; have B2 := B2'; clear B2') )
              go_ret
              refine ⟨?_, B2.out⟩
              rw [rightB_no l0 (m + 1) hlt (by rw [SO.out]; simp)]
              rfl
            | true =>
              cases b2 with
              | false =>
                go_wp2_with (go_at_call 35; first | ((with_reducible refine (H1.out _).mono ?_); rintro e w' ⟨rfl, hd⟩; have hb_ := hd.below; have B2' := Aside0.mk (below_step B2.out hb_); replace n1 := pw_cell_below hb_ n1; replace n2 := pw_cell_below hb_ n2; replace n3 := pw_cell_below hb_ n3; replace n4 := pw_cell_below hb_ n4; replace n5 := pw_cell_below hb_ n5; clear hd hb_ B2; have B2 := B2'; clear B2') | ((with_reducible refine (H2.out _).mono ?_); rintro e w' ⟨rfl, hd⟩; have hb_ := hd.below; have B2' := Aside0.mk (below_step B2.out hb_); replace n1 := pw_cell_below hb_ n1; replace n2 := pw_cell_below hb_ n2; replace n3 := pw_cell_below hb_ n3; replace n4 := pw_cell_below hb_ n4; replace n5 := pw_cell_below hb_ n5; clear hd hb_ B2; have B2 := B2'; clear B2') | ((with_reducible refine (H3.out _).mono ?_); rintro e w' ⟨rfl, hd⟩; have hb_ := hd.below; have B2' := Aside0.mk (below_step B2.out hb_); replace n1 := pw_cell_below hb_ n1; replace n2 := pw_cell_below hb_ n2; replace n3 := pw_cell_below hb_ n3; replace n4 := pw_cell_below hb_ n4; replace n5 := pw_cell_below hb_ n5; clear hd hb_ B2; have B2 := B2'; clear B2') | ((with_reducible refine (H4.out _).mono ?_); rintro e w' ⟨rfl, hd⟩; have hb_ := hd.below; have B2' := Aside0.mk (below_step B2.out hb_); replace n1 := pw_cell_below hb_ n1; replace n2 := pw_cell_below hb_ n2; replace n3 := pw_cell_below hb_ n3; replace n4 := pw_cell_below hb_ n4; replace n5 := pw_cell_below hb_ n5; clear hd hb_ B2; have B2 := B2'; clear B2') | ((with_reducible refine (H5.out _).mono ?_); rintro e w' ⟨rfl, hd⟩; have hb_ := hd.below; have B2' := Aside0.mk (below_step B2.out hb_); replace n1 := pw_cell_below hb_ n1; replace n2 := pw_cell_below hb_ n2; replace n3 := pw_cell_below hb_ n3; replace n4 := pw_cell_below hb_ n4; replace n5 := pw_cell_below hb_ n5; clear hd hb_ B2; have B2 := B2'; clear B2') )
                go_ret
                refine ⟨?_, B2.out⟩
                rw [rightB_no l0 (m + 1) hlt (by rw [SO.out]; simp)]
                rfl
              | true =>
                cases b3 with
                | false =>
                  go_wp2_with (go_at_call 35; first | ((with_reducible refine (H1.out _).mono ?_); rintro e w' ⟨rfl, hd⟩; have hb_ := hd.below; have B2' := Aside0.mk (below_step B2.out hb_); replace n1 := pw_cell_below hb_ n1; replace n2 := pw_cell_below hb_ n2; replace n3 := pw_cell_below hb_ n3; replace n4 := pw_cell_below hb_ n4; replace n5 := pw_cell_below hb_ n5; clear hd hb_ B2; have B2 := B2'; clear B2') | ((with_reducible refine (H2.out _).mono ?_); rintro e w' ⟨rfl, hd⟩; have hb_ := hd.below; have B2' := Aside0.mk (below_step B2.out hb_); replace n1 := pw_cell_below hb_ n1; replace n2 := pw_cell_below hb_ n2; replace n3 := pw_cell_below hb_ n3; replace n4 := pw_cell_below hb_ n4; replace n5 := pw_cell_below hb_ n5; clear hd hb_ B2; have B2 := B2'; clear B2') | ((with_reducible refine (H3.out _).mono ?_); rintro e w' ⟨rfl, hd⟩; have hb_ := hd.below; have B2' := Aside0.mk (below_step B2.out hb_); replace n1 := pw_cell_below hb_ n1; replace n2 := pw_cell_below hb_ n2; replace n3 := pw_cell_below hb_ n3; replace n4 := pw_cell_below hb_ n4; replace n5 := pw_cell_below hb_ n5; clear hd hb_ B2; have B2 := B2'; clear B2') | ((with_reducible refine (H4.out _).mono ?_); rintro e w' ⟨rfl, hd⟩; have hb_ := hd.below; have B2' := Aside0.mk (below_step B2.out hb_); replace n1 := pw_cell_below hb_ n1; replace n2 := pw_cell_below hb_ n2; replace n3 := pw_cell_below hb_ n3; replace n4 := pw_cell_below hb_ n4; replace n5 := pw_cell_below hb_ n5; clear hd hb_ B2; have B2 := B2'; clear B2') | ((with_reducible refine (H5.out _).mono ?_); rintro e w' ⟨rfl, hd⟩; have hb_ := hd.below; have B2' := Aside0.mk (below_step B2.out hb_); replace n1 := pw_cell_below hb_ n1; replace n2 := pw_cell_below hb_ n2; replace n3 := pw_cell_below hb_ n3; replace n4 := pw_cell_below hb_ n4; replace n5 := pw_cell_below hb_ n5; clear hd hb_ B2; have B2 := B2'; clear B2') )
                  go_ret
                  refine ⟨?_, B2.out⟩
                  rw [rightB_no l0 (m + 1) hlt (by rw [SO.out]; simp)]
                  rfl
                | true =>
                  cases b4 with
                  | false =>
                    go_wp2_with (go_at_call 35; first | ((with_reducible refine (H1.out _).mono ?_); rintro e w' ⟨rfl, hd⟩; have hb_ := hd.below; have B2' := Aside0.mk (below_step B2.out hb_); replace n1 := pw_cell_below hb_ n1; replace n2 := pw_cell_below hb_ n2; replace n3 := pw_cell_below hb_ n3; replace n4 := pw_cell_below hb_ n4; replace n5 := pw_cell_below hb_ n5; clear hd hb_ B2; have B2 := B2'; clear B2') | ((with_reducible refine (H2.out _).mono ?_); rintro e w' ⟨rfl, hd⟩; have hb_ := hd.below; have B2' := Aside0.mk (below_step B2.out hb_); replace n1 := pw_cell_below hb_ n1; replace n2 := pw_cell_below hb_ n2; replace n3 := pw_cell_below hb_ n3; replace n4 := pw_cell_below hb_ n4; replace n5 := pw_cell_below hb_ n5; clear hd hb_ B2; have B2 := B2'; clear B2') | ((with_reducible refine (H3.out _).mono ?_); rintro e w' ⟨rfl, hd⟩; have hb_ := hd.below; have B2' := Aside0.mk (below_step B2.out hb_); replace n1 := pw_cell_below hb_ n1; replace n2 := pw_cell_below hb_ n2; replace n3 := pw_cell_below hb_ n3; replace n4 := pw_cell_below hb_ n4; replace n5 := pw_cell_below hb_ n5; clear hd hb_ B2; have B2 := B2'; clear B2') | ((with_reducible refine (H4.out _).mono ?_); rintro e w' ⟨rfl, hd⟩; have hb_ := hd.below; have B2' := Aside0.mk (below_step B2.out hb_); replace n1 := pw_cell_below hb_ n1; replace n2 := pw_cell_below hb_ n2; replace n3 := pw_cell_below hb_ n3; replace n4 := pw_cell_below hb_ n4; replace n5 := pw_cell_below hb_ n5; clear hd hb_ B2; have B2 := B2'; clear B2') | ((with_reducible refine (H5.out _).mono ?_); rintro e w' ⟨rfl, hd⟩; have hb_ := hd.below; have B2' := Aside0.mk (below_step B2.out hb_); replace n1 := pw_cell_below hb_ n1; replace n2 := pw_cell_below hb_ n2; replace n3 := pw_cell_below hb_ n3; replace n4 := pw_cell_below hb_ n4; replace n5 := pw_cell_below hb_ n5; clear hd hb_ B2; have B2 := B2'; clear B2') )
                    go_ret
                    refine ⟨?_, B2.out⟩
                    rw [rightB_no l0 (m + 1) hlt (by rw [SO.out]; simp)]
                    rfl
                  | true =>
                    cases b5 with
                    | false =>
                      go_wp2_with (go_at_call 35; first | ((with_reducible refine (H1.out _).mono ?_); rintro e w' ⟨rfl, hd⟩; have hb_ := hd.below; have B2' := Aside0.mk (below_step B2.out hb_); replace n1 := pw_cell_below hb_ n1; replace n2 := pw_cell_below hb_ n2; replace n3 := pw_cell_below hb_ n3; replace n4 := pw_cell_below hb_ n4; replace n5 := pw_cell_below hb_ n5; clear hd hb_ B2; have B2 := B2'; clear B2') | ((with_reducible refine (H2.out _).mono ?_); rintro e w' ⟨rfl, hd⟩; have hb_ := hd.below; have B2' := Aside0.mk (below_step B2.out hb_); replace n1 := pw_cell_below hb_ n1; replace n2 := pw_cell_below hb_ n2; replace n3 := pw_cell_below hb_ n3; replace n4 := pw_cell_below hb_ n4; replace n5 := pw_cell_below hb_ n5; clear hd hb_ B2; have B2 := B2'; clear B2') | ((with_reducible refine (H3.out _).mono ?_); rintro e w' ⟨rfl, hd⟩; have hb_ := hd.below; have B2' := Aside0.mk (below_step B2.out hb_); replace n1 := pw_cell_below hb_ n1; replace n2 := pw_cell_below hb_ n2; replace n3 := pw_cell_below hb_ n3; replace n4 := pw_cell_below hb_ n4; replace n5 := pw_cell_below hb_ n5; clear hd hb_ B2; have B2 := B2'; clear B2') | ((with_reducible refine (H4.out _).mono ?_); rintro e w' ⟨rfl, hd⟩; have hb_ := hd.below; have B2' := Aside0.mk (below_step B2.out hb_); replace n1 := pw_cell_below hb_ n1; replace n2 := pw_cell_below hb_ n2; replace n3 := pw_cell_below hb_ n3; replace n4 := pw_cell_below hb_ n4; replace n5 := pw_cell_below hb_ n5; clear hd hb_ B2; have B2 := B2'; clear B2') | ((with_reducible refine (H5.out _).mono ?_); rintro e w' ⟨rfl, hd⟩; have hb_ := hd.below; have B2' := Aside0.mk (below_step B2.out hb_); replace n1 := pw_cell_below hb_ n1; replace n2 := pw_cell_below hb_ n2; replace n3 := pw_cell_below hb_ n3; replace n4 := pw_cell_below hb_ n4; replace n5 := pw_cell_below hb_ n5; clear hd hb_ B2; have B2 := B2'; clear B2') )
                      go_ret
                      refine ⟨?_, B2.out⟩
                      rw [rightB_no l0 (m + 1) hlt (by rw [SO.out]; simp)]
                      rfl
                    | true =>
                      obtain ⟨i1, i2, i3, i4, i5, i6, i7, i8, i9, i10⟩ := RNG.out rfl rfl rfl rfl rfl
                      clear RNG
                      by_cases hs : y.f1 - y.f2 - y.f3 - y.f4 = y.f5
                      · have hsb : (y.f1 - y.f2 - y.f3 - y.f4 != y.f5) = false := by simpa using hs
                        have HS := Aside0.mk (show y.f1 = y.f2 + y.f3 + y.f4 + y.f5 by omega)
                        clear hs
                        go_wp2_with (go_at_call 35; first | ((with_reducible refine (H1.out _).mono ?_); rintro e w' ⟨rfl, hd⟩; have hb_ := hd.below; have B2' := Aside0.mk (below_step B2.out hb_); replace n1 := pw_cell_below hb_ n1; replace n2 := pw_cell_below hb_ n2; replace n3 := pw_cell_below hb_ n3; replace n4 := pw_cell_below hb_ n4; replace n5 := pw_cell_below hb_ n5; clear hd hb_ B2; have B2 := B2'; clear B2') | ((with_reducible refine (H2.out _).mono ?_); rintro e w' ⟨rfl, hd⟩; have hb_ := hd.below; have B2' := Aside0.mk (below_step B2.out hb_); replace n1 := pw_cell_below hb_ n1; replace n2 := pw_cell_below hb_ n2; replace n3 := pw_cell_below hb_ n3; replace n4 := pw_cell_below hb_ n4; replace n5 := pw_cell_below hb_ n5; clear hd hb_ B2; have B2 := B2'; clear B2') | ((with_reducible refine (H3.out _).mono ?_); rintro e w' ⟨rfl, hd⟩; have hb_ := hd.below; have B2' := Aside0.mk (below_step B2.out hb_); replace n1 := pw_cell_below hb_ n1; replace n2 := pw_cell_below hb_ n2; replace n3 := pw_cell_below hb_ n3; replace n4 := pw_cell_below hb_ n4; replace n5 := pw_cell_below hb_ n5; clear hd hb_ B2; have B2 := B2'; clear B2') | ((with_reducible refine (H4.out _).mono ?_); rintro e w' ⟨rfl, hd⟩; have hb_ := hd.below; have B2' := Aside0.mk (below_step B2.out hb_); replace n1 := pw_cell_below hb_ n1; replace n2 := pw_cell_below hb_ n2; replace n3 := pw_cell_below hb_ n3; replace n4 := pw_cell_below hb_ n4; replace n5 := pw_cell_below hb_ n5; clear hd hb_ B2; have B2 := B2'; clear B2') | ((with_reducible refine (H5.out _).mono ?_); rintro e w' ⟨rfl, hd⟩; have hb_ := hd.below; have B2' := Aside0.mk (below_step B2.out hb_); replace n1 := pw_cell_below hb_ n1; replace n2 := pw_cell_below hb_ n2; replace n3 := pw_cell_below hb_ n3; replace n4 := pw_cell_below hb_ n4; replace n5 := pw_cell_below hb_ n5; clear hd hb_ B2; have B2 := B2'; clear B2') )
                        go_roundg (l0.length - (m + 1 + 1))
                        case measure => omega
                        case rel =>
                          refine ⟨m + 1 + 1, by omega, by omega, by go_num, B2, ⟨fun j hj => ?_⟩⟩
                          by_cases e : j = m + 1
                          · subst e
                            rw [SO.out]
                            simp [← HS.out]
                          · exact A.out j (by omega)
                      · have hsb : (y.f1 - y.f2 - y.f3 - y.f4 != y.f5) = true := by simpa using hs
                        have HS := Aside0.mk (show ¬ y.f1 = y.f2 + y.f3 + y.f4 + y.f5 by omega)
                        clear hs
                        go_wp2_with (go_at_call 35; first | ((with_reducible refine (H1.out _).mono ?_); rintro e w' ⟨rfl, hd⟩; have hb_ := hd.below; have B2' := Aside0.mk (below_step B2.out hb_); replace n1 := pw_cell_below hb_ n1; replace n2 := pw_cell_below hb_ n2; replace n3 := pw_cell_below hb_ n3; replace n4 := pw_cell_below hb_ n4; replace n5 := pw_cell_below hb_ n5; clear hd hb_ B2; have B2 := B2'; clear B2') | ((with_reducible refine (H2.out _).mono ?_); rintro e w' ⟨rfl, hd⟩; have hb_ := hd.below; have B2' := Aside0.mk (below_step B2.out hb_); replace n1 := pw_cell_below hb_ n1; replace n2 := pw_cell_below hb_ n2; replace n3 := pw_cell_below hb_ n3; replace n4 := pw_cell_below hb_ n4; replace n5 := pw_cell_below hb_ n5; clear hd hb_ B2; have B2 := B2'; clear B2') | ((with_reducible refine (H3.out _).mono ?_); rintro e w' ⟨rfl, hd⟩; have hb_ := hd.below; have B2' := Aside0.mk (below_step B2.out hb_); replace n1 := pw_cell_below hb_ n1; replace n2 := pw_cell_below hb_ n2; replace n3 := pw_cell_below hb_ n3; replace n4 := pw_cell_below hb_ n4; replace n5 := pw_cell_below hb_ n5; clear hd hb_ B2; have B2 := B2'; clear B2') | ((with_reducible refine (H4.out _).mono ?_); rintro e w' ⟨rfl, hd⟩; have hb_ := hd.below; have B2' := Aside0.mk (below_step B2.out hb_); replace n1 := pw_cell_below hb_ n1; replace n2 := pw_cell_below hb_ n2; replace n3 := pw_cell_below hb_ n3; replace n4 := pw_cell_below hb_ n4; replace n5 := pw_cell_below hb_ n5; clear hd hb_ B2; have B2 := B2'; clear B2') | ((with_reducible refine (H5.out _).mono ?_); rintro e w' ⟨rfl, hd⟩; have hb_ := hd.below; have B2' := Aside0.mk (below_step B2.out hb_); replace n1 := pw_cell_below hb_ n1; replace n2 := pw_cell_below hb_ n2; replace n3 := pw_cell_below hb_ n3; replace n4 := pw_cell_below hb_ n4; replace n5 := pw_cell_below hb_ n5; clear hd hb_ B2; have B2 := B2'; clear B2') )
                        go_ret
                        refine ⟨?_, B2.out⟩
                        rw [rightB_no l0 (m + 1) hlt (by rw [SO.out]; simp [HS.out])]
                        rfl
          | false =>
            refine wp_region_below (by kernel_rfl) (by kernel_rfl) ?_
            repeat (first | go_big_quiet_skip | (go_big_quiet_want; go_big_quiet_op; go_big_quiet_on) | (go_big_quiet_want; apply Exists.intro; refine ⟨fun W hW => ?_, ?_⟩; (focus (have m0_ := pw_cell_below hW n0; have m1_ := pw_cell_below hW n1; have m2_ := pw_cell_below hW n2; have m3_ := pw_cell_below hW n3; have m4_ := pw_cell_below hW n4; have m5_ := pw_cell_below hW n5; have q0_ := pw_cell_below hW q0; unfold Oper.quietAt; go_simp; first | rfl | done | (first | ((with_reducible refine (HM.out _).mono ?_); rintro e w2 ⟨rfl, hb⟩; exact ⟨rfl, below_step hW hb.below⟩) | ((with_reducible refine (HL.out _).mono ?_); rintro e w2 ⟨rfl, hb⟩; exact ⟨rfl, below_step hW hb.below⟩)))); (try simp only [Act.put, List.setIfInBounds_toArray, List.set_cons_zero, List.set_cons_succ]); go_big_quiet_on))
            refine wpQuiet_nil ?_
            intro W2 hW2
            have B2 := Aside0.mk (below_step B0.out hW2)
            clear hW2
            go_wp2
            go_ret
            refine ⟨?_, B2.out⟩
            rw [rightB_no l0 (m + 1) hlt (by rw [SO.out]; simp)]
            rfl
    · have hltz : ¬ (kk : Int) < (l0.length : Int) := by omega
      go_wp2
      go_ret
      refine ⟨?_, BW.out⟩
      rw [rightB_yes l0 (fun j hj => A.out j (by omega))]
      first | rfl | (show Ending.returned (.bool (decide ((l0.length : Int) ≤ 8))) = _; congr 2; simp only [decide_eq_decide]; omega)


end Go.Proofs.Ytliablhnkoghbaa.PStockMoves
