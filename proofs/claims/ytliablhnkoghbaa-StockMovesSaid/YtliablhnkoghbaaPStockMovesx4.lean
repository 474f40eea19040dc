-- PRINTED by print.py (a twelfth state) out of the translation. Not trusted: Lean checks it.
import Derived.Test.YtliablhnkoghbaaPStockMovesx0
import Derived.Test.YtliablhnkoghbaaPStockMovesx2
import Derived.Test.YtliablhnkoghbaaPStockMovesx3
namespace Go.Proofs.Ytliablhnkoghbaa.PStockMoves
open Go.RowKit Go.Proofs.YtliablhnkoghbaaH Go.Proofs.YtliablhnkoghbaaW.PrintWords Go.Proofs.YtliablhnkoghbaaW.PrintLast Go.Proofs.YtliablhnkoghbaaW.PrintMore
attribute [local go_sem] max2_int min2_int max_two min_two max_three min_three max_four min_four   -- for this text's walks alone
set_option linter.unusedVariables false
set_option linter.unusedSimpArgs false

/-! ### slices_ContainsFunc_int_int: function 38 (by hand) -/
set_option maxHeartbeats 2000000 in
theorem slices_int_IndexFunc.calls (p : Int → Bool) (g : Nat) (lb : Array Value) (eg : ∀ args w, (callFunc g args).run Try.prog w = .ok (.enter g args) w) (A0 : Option Addr) (c0 : Nat) (l0 : List Int) (w : World)
    (hr0 : Kd.C (Kd.int .i64) w A0 l0.length l0) (hp : PredB Try.prog g lb (Value.int .i64) p l0 w) :
    Calls Try.prog 45 #[.slice A0 l0.length c0, .func (.func g) #[] lb] w fun e w' => e = .returned (.int .i64 (idxP p l0)) ∧ Below w.heap.size w w' := by
  have HR0 := Aside0.mk hr0
  have HP := Aside0.mk hp
  clear hr0 hp
  have hlen : l0.length ≤ 9223372036854775807 := HR0.out.2.1
  go_enter Try.func45, Try.ntmps45
  go_wp2
  go_loopg [5, 8] l0.length (fun gg _ s8 wr => ∃ kk : Nat, kk ≤ l0.length ∧ l0.length - kk ≤ gg ∧ s8 = .int .i64 kk ∧ Aside0 (Below w.heap.size w wr) ∧ Aside0 (∀ j (hj : j < l0.length), j < kk → p l0[j] = false))
  case atStart => exact ⟨0, Nat.zero_le _, by omega, rfl, ⟨Below.refl _ w⟩, ⟨fun j _ hj => absurd hj (Nat.not_lt_zero _)⟩⟩
  case round =>
    obtain ⟨kk, hkk, hg, rfl, BW, A⟩ := hrel
    by_cases hlt : kk < l0.length
    · have hltz : (kk : Int) < (l0.length : Int) := by omega
      obtain ⟨ad, e0, hx0⟩ := at_int HR0.out (kk : Int) (by omega) hltz
      subst e0
      replace hx0 := (BW.out.cell (World.block_lt_of_cell? w _ hx0)).trans hx0
      have hcall := HP.out wr (rd l0 (kk : Int)) (by rw [show rd l0 (kk : Int) = l0[kk] from getD_get _ l0 kk hlt]; exact List.getElem_mem hlt) BW.out
      simp only [Int.toNat_natCast] at hx0
      generalize hy : rd l0 (kk : Int) = y at hx0 hcall
      have Y : Aside0 (l0[kk] = y) := ⟨(getD_get _ l0 kk hlt).symm.trans hy⟩
      clear hy
      cases hq : p y with
      | true =>
        rw [hq] at hcall
        have Q := Aside0.mk hq
        clear hq
        go_wp2_with (go_at_fn g; refine hcall.mono ?_; rintro e w' ⟨rfl, hb'⟩)
        go_ret
        refine ⟨?_, below_step BW.out hb'⟩
        rw [idxP_hit p l0 kk hlt (by rw [Y.out]; exact Q.out) (fun j hj => A.out j (by omega) hj)]
        rfl
      | false =>
        rw [hq] at hcall
        have Q := Aside0.mk hq
        clear hq
        go_wp2_with (go_at_fn g; refine hcall.mono ?_; rintro e w' ⟨rfl, hb'⟩)
        go_roundg (l0.length - (kk + 1))
        case measure => omega
        case rel =>
          refine ⟨kk + 1, by omega, by omega, by go_num, ⟨below_step BW.out hb'⟩, ⟨fun j hj hjk => ?_⟩⟩
          by_cases e : j = kk
          · subst e
            rw [Y.out]; exact Q.out
          · exact A.out j hj (by omega)
    · have hltz : ¬ (kk : Int) < (l0.length : Int) := by omega
      have E0 : kk = l0.length := by omega
      subst E0
      go_wp2
      go_ret
      refine ⟨?_, BW.out⟩
      rw [idxP_miss p l0 (fun j hj => A.out j hj hj)]
      rfl
set_option maxHeartbeats 2000000 in
theorem slices_int_ContainsFunc.calls (p : Int → Bool) (g : Nat) (lb : Array Value) (eg : ∀ args w, (callFunc g args).run Try.prog w = .ok (.enter g args) w) (A0 : Option Addr) (c0 : Nat) (l0 : List Int) (w : World)
    (hr0 : Kd.C (Kd.int .i64) w A0 l0.length l0) (hp : PredB Try.prog g lb (Value.int .i64) p l0 w) :
    Calls Try.prog 38 #[.slice A0 l0.length c0, .func (.func g) #[] lb] w fun e w' => e = .returned (.bool (l0.any p)) ∧ Below w.heap.size w w' := by
  have H := slices_int_IndexFunc.calls p g lb eg A0 c0 l0 w hr0 hp
  have E := Aside0.mk (idxP_any p l0)
  clear hr0 hp
  generalize idxP p l0 = x at H E
  go_enter Try.func38, Try.ntmps38
  go_wp2_with (go_at_call 45; refine H.mono ?_; rintro e w' ⟨rfl, hb⟩)
  go_ret
  refine ⟨?_, hb⟩
  rw [← E.out]
  rfl

/-! ### stock_may: function 21 (by hand) -/
def numOk (n : Int) : Bool := decide (0 ≤ n) && decide (n ≤ 1073741824)
def rowMay (a0_0 : ByteArray) (a0_1 a0_2 a0_3 a0_4 a0_5 : Int) : Bool := nameOk a0_0 && ((numOk a0_1 && (numOk a0_2 && (numOk a0_3 && (numOk a0_4 && numOk a0_5)))) && decide (a0_1 = a0_2 + a0_3 + a0_4 + a0_5))
theorem stock_name_eq (s : ByteArray) : stock_name.f s = some (nameOk s) := by
  unfold stock_name.f
  simp only [goods_Right.f, Option.bind_some]
  congr 1
  simp [goodsOk, chainB]
theorem stock_may_odd (x : Int) : stock_may_1.f x = some (!numOk x) := by
  unfold stock_may_1.f stock_units.f numOk
  by_cases h0 : x = 0
  · simp [h0]
  · by_cases h1 : x ≥ 1
    · have : 0 ≤ x := by omega
      simp [h0, h1, this]
    · have : ¬ 0 ≤ x := by omega
      simp [h0, h1, this]
def stock_may.f (a0_0 : ByteArray) (a0_1 : Int) (a0_2 : Int) (a0_3 : Int) (a0_4 : Int) (a0_5 : Int) : Option Bool := some (rowMay a0_0 a0_1 a0_2 a0_3 a0_4 a0_5)
set_option maxHeartbeats 4000000 in
set_option maxRecDepth 100000 in
theorem stock_may.calls (a0_0 : ByteArray) (a0_1 : Int) (a0_2 : Int) (a0_3 : Int) (a0_4 : Int) (a0_5 : Int) (r : Bool) (w : World) (h : stock_may.f a0_0 a0_1 a0_2 a0_3 a0_4 a0_5 = some r) :
    Calls Try.prog 21 #[.agg #[.string a0_0, .int .i64 a0_1, .int .i64 a0_2, .int .i64 a0_3, .int .i64 a0_4, .int .i64 a0_5]] w fun e w' => e = .returned (.bool r) ∧ Below w.heap.size w w' := by
  obtain rfl := Option.some.inj h
  clear h
  have hu33 := Try.underlying33
  have HN := Aside0.mk (fun W => stock_name.calls a0_0 _ W (stock_name_eq a0_0))
  have SO := Aside0.mk (show rowMay a0_0 a0_1 a0_2 a0_3 a0_4 a0_5 = (nameOk a0_0 && ((numOk a0_1 && (numOk a0_2 && (numOk a0_3 && (numOk a0_4 && numOk a0_5)))) && decide (a0_1 = a0_2 + a0_3 + a0_4 + a0_5))) from rfl)
  generalize nameOk a0_0 = q0 at HN SO
  have HC : ∀ W : World, W.cell? ⟨w.heap.size + 1, 0, none⟩ = some (.int .i64 a0_1) → W.cell? ⟨w.heap.size + 1, 1, none⟩ = some (.int .i64 a0_2) → W.cell? ⟨w.heap.size + 1, 2, none⟩ = some (.int .i64 a0_3) → W.cell? ⟨w.heap.size + 1, 3, none⟩ = some (.int .i64 a0_4) → W.cell? ⟨w.heap.size + 1, 4, none⟩ = some (.int .i64 a0_5) →
      Calls Try.prog 38 #[.slice (some ⟨w.heap.size + 1, 0, none⟩) 5 5, .func (.func 37) #[] #[]] W fun e w' => e = .returned (.bool (!(numOk a0_1 && (numOk a0_2 && (numOk a0_3 && (numOk a0_4 && numOk a0_5)))))) ∧ Below W.heap.size W w' := by
    intro W h0 h1 h2 h3 h4
    have hr : Kd.C (Kd.int .i64) W (some ⟨w.heap.size + 1, 0, none⟩) [a0_1, a0_2, a0_3, a0_4, a0_5].length [a0_1, a0_2, a0_3, a0_4, a0_5] := C_ints [a0_1, a0_2, a0_3, a0_4, a0_5] (by simp) (fun j hj => by
      rw [add_plain]
      match j, hj with
      | 0, _ => exact h0
      | 1, _ => exact h1
      | 2, _ => exact h2
      | 3, _ => exact h3
      | 4, _ => exact h4
      | j + 5, hj => simp at hj; omega)
    have := slices_int_ContainsFunc.calls (fun x => !numOk x) 37 #[] (enters_of Try.func37 (by kernel_rfl) rfl) (some ⟨w.heap.size + 1, 0, none⟩) 5 [a0_1, a0_2, a0_3, a0_4, a0_5] W hr (fun W' x _ _ => (stock_may_1.calls x _ W' (stock_may_odd x)).mono fun e w' ⟨he, hd⟩ => ⟨he, hd.below⟩)
    refine this.mono fun e w' ⟨he, hb⟩ => ⟨?_, hb⟩
    rw [he]
    simp [List.any_cons]
  have HC := Aside0.mk HC
  go_enter Try.func21, Try.ntmps21
  go_wp2_with fail
  refine (HN.out _).mono ?_
  rintro e w2 ⟨rfl, hb⟩
  have b1 : w2.cell? ⟨w.heap.size, 1, none⟩ = some (.int .i64 a0_1) := (hb.cell (p := ⟨w.heap.size, 1, none⟩) (by simp; omega)).trans (by go_simp)
  have b2 : w2.cell? ⟨w.heap.size, 2, none⟩ = some (.int .i64 a0_2) := (hb.cell (p := ⟨w.heap.size, 2, none⟩) (by simp; omega)).trans (by go_simp)
  have b3 : w2.cell? ⟨w.heap.size, 3, none⟩ = some (.int .i64 a0_3) := (hb.cell (p := ⟨w.heap.size, 3, none⟩) (by simp; omega)).trans (by go_simp)
  have b4 : w2.cell? ⟨w.heap.size, 4, none⟩ = some (.int .i64 a0_4) := (hb.cell (p := ⟨w.heap.size, 4, none⟩) (by simp; omega)).trans (by go_simp)
  have b5 : w2.cell? ⟨w.heap.size, 5, none⟩ = some (.int .i64 a0_5) := (hb.cell (p := ⟨w.heap.size, 5, none⟩) (by simp; omega)).trans (by go_simp)
  have s1 : w2.cell? ⟨w.heap.size + 1, 0, none⟩ = some (.int .i64 a0_1) := (hb.cell (p := ⟨w.heap.size + 1, 0, none⟩) (by simp)).trans (by go_simp)
  have s2 : w2.cell? ⟨w.heap.size + 1, 1, none⟩ = some (.int .i64 a0_2) := (hb.cell (p := ⟨w.heap.size + 1, 1, none⟩) (by simp)).trans (by go_simp)
  have s3 : w2.cell? ⟨w.heap.size + 1, 2, none⟩ = some (.int .i64 a0_3) := (hb.cell (p := ⟨w.heap.size + 1, 2, none⟩) (by simp)).trans (by go_simp)
  have s4 : w2.cell? ⟨w.heap.size + 1, 3, none⟩ = some (.int .i64 a0_4) := (hb.cell (p := ⟨w.heap.size + 1, 3, none⟩) (by simp)).trans (by go_simp)
  have s5 : w2.cell? ⟨w.heap.size + 1, 4, none⟩ = some (.int .i64 a0_5) := (hb.cell (p := ⟨w.heap.size + 1, 4, none⟩) (by simp)).trans (by go_simp)
  have B2 : Aside0 (Below w.heap.size w w2) := ⟨below_then (below_alloc (below_alloc (Below.refl _ _) _) _) (by simp; omega) (by simpa using hb)⟩
  clear hb HN
  cases q0 with
  | false =>
    go_wp2
    go_ret
    refine ⟨?_, B2.out⟩
    rw [SO.out]
    rfl
  | true =>
    have hr := HC.out w2 s1 s2 s3 s4 s5
    clear s1 s2 s3 s4 s5
    have IN := Aside0.mk (show (numOk a0_1 && (numOk a0_2 && (numOk a0_3 && (numOk a0_4 && numOk a0_5)))) = true → 0 ≤ a0_1 ∧ a0_1 ≤ 1073741824 ∧ 0 ≤ a0_2 ∧ a0_2 ≤ 1073741824 ∧ 0 ≤ a0_3 ∧ a0_3 ≤ 1073741824 ∧ 0 ≤ a0_4 ∧ a0_4 ≤ 1073741824 ∧ 0 ≤ a0_5 ∧ a0_5 ≤ 1073741824 by
      simp only [numOk, Bool.and_eq_true, decide_eq_true_eq]
      intro h
      omega)
    generalize (numOk a0_1 && (numOk a0_2 && (numOk a0_3 && (numOk a0_4 && numOk a0_5)))) = q1 at hr SO IN
    go_wp2_with fail
    refine hr.mono ?_
    rintro e w3 ⟨rfl, hb3⟩
    replace b1 := pw_cell_below hb3 b1
    replace b2 := pw_cell_below hb3 b2
    replace b3 := pw_cell_below hb3 b3
    replace b4 := pw_cell_below hb3 b4
    replace b5 := pw_cell_below hb3 b5
    have B3 := Aside0.mk (below_step B2.out hb3)
    clear hb3 hr B2 HC
    cases q1 with
    | false =>
      go_wp2
      go_ret
      refine ⟨?_, B3.out⟩
      rw [SO.out]
      rfl
    | true =>
      obtain ⟨i1, i2, i3, i4, i5, i6, i7, i8, i9, i10⟩ := IN.out rfl
      clear IN
      go_wp2
      go_ret
      refine ⟨?_, B3.out⟩
      rw [SO.out]
      show Ending.returned (.bool (a0_1 == a0_2 + a0_3 + a0_4 + a0_5)) = _
      by_cases hs : a0_1 = a0_2 + a0_3 + a0_4 + a0_5
      · rw [beq_iff_eq.2 hs]; simp [hs]
      · rw [beq_eq_false_iff_ne.2 hs]; simp [hs]


/-! ### stock_Right: function 10 (by hand) -/
/-- stock.Right, as one Bool. -/
def rowUp (l : List S33) (i : Nat) : Bool := rowMay (l.getD i z33).f0 (l.getD i z33).f1 (l.getD i z33).f2 (l.getD i z33).f3 (l.getD i z33).f4 (l.getD i z33).f5 && (decide (i = 0) || Op.bytesLess (l.getD (i - 1) z33).f0.toList (l.getD i z33).f0.toList)
def rightB (l : List S33) : Bool := (List.range l.length).all (rowUp l) && decide (l.length ≤ 8)
def stock_Right.f (l0 : List S33) : Option Bool := some (rightB l0)
theorem rightB_no (l : List S33) (i : Nat) (h : i < l.length) (hi : rowUp l i = false) : rightB l = false := by
  have : (List.range l.length).all (rowUp l) = false := by rw [List.all_eq_false]; exact ⟨i, List.mem_range.2 h, by simp [hi]⟩
  unfold rightB
  rw [this, Bool.false_and]
theorem rightB_yes (l : List S33) (h : ∀ i, i < l.length → rowUp l i = true) : rightB l = decide (l.length ≤ 8) := by
  have : (List.range l.length).all (rowUp l) = true := by rw [List.all_eq_true]; exact fun i hi => h i (List.mem_range.1 hi)
  unfold rightB
  rw [this, Bool.true_and]
theorem rightB_len (l : List S33) (h : rightB l = true) : l.length ≤ 8 := by
  unfold rightB at h
  rw [Bool.and_eq_true, decide_eq_true_eq] at h
  exact h.2
theorem rightB_row (l : List S33) (h : rightB l = true) (i : Nat) (hi : i < l.length) : rowUp l i = true := by
  unfold rightB at h
  rw [Bool.and_eq_true, List.all_eq_true] at h
  exact h.1 i (List.mem_range.2 hi)
theorem rowMay_in {a : ByteArray} {b c d e f : Int} (h : rowMay a b c d e f = true) : 0 ≤ b ∧ b ≤ 1073741824 ∧ 0 ≤ c ∧ c ≤ 1073741824 ∧ 0 ≤ d ∧ d ≤ 1073741824 ∧ 0 ≤ e ∧ e ≤ 1073741824 ∧ 0 ≤ f ∧ f ≤ 1073741824 ∧ b = c + d + e + f := by
  simp only [rowMay, numOk, Bool.and_eq_true, decide_eq_true_eq] at h
  omega
set_option maxHeartbeats 4000000 in
set_option maxRecDepth 100000 in
theorem stock_Right.calls (A0 : Option Addr) (c0 : Nat) (l0 : List S33) (r : Bool) (w : World) (hr0 : Kd.C k33 w A0 l0.length l0) (hc0 : l0.length ≤ c0) (h : stock_Right.f l0 = some r) :
    Calls Try.prog 10 #[.slice A0 l0.length c0] w fun e w' => e = .returned (.bool r) ∧ Below w.heap.size w w' := by
  obtain rfl := Option.some.inj h
  clear h
  have hu33 := Try.underlying33
  have HR := Aside0.mk hr0
  have hl : l0.length ≤ 9223372036854775807 := hr0.2.1
  clear hr0 hc0
  go_enter Try.func10, Try.ntmps10
  go_wp2
  go_loopg [7] l0.length (fun gg s7 wr => ∃ kk : Nat, kk ≤ l0.length ∧ l0.length - kk ≤ gg ∧ s7 = .int .i64 kk ∧ Aside0 (Below w.heap.size w wr) ∧ Aside0 (∀ j, j < kk → rowUp l0 j = true))
  case atStart => exact ⟨0, Nat.zero_le _, by omega, rfl, ⟨Below.refl _ _⟩, ⟨fun j hj => absurd hj (Nat.not_lt_zero _)⟩⟩
  case round =>
    obtain ⟨kk, hkk, hg, rfl, BW, A⟩ := hrel
    by_cases hlt : kk < l0.length
    · have hltz : (kk : Int) < (l0.length : Int) := by omega
      obtain ⟨ad, e0, hx0, hx1, hx2, hx3, hx4, hx5⟩ := at_T33 HR.out (kk : Int) (by omega) hltz
      subst e0
      replace hx0 := pw_cell_below BW.out hx0
      replace hx1 := pw_cell_below BW.out hx1
      replace hx2 := pw_cell_below BW.out hx2
      replace hx3 := pw_cell_below BW.out hx3
      replace hx4 := pw_cell_below BW.out hx4
      replace hx5 := pw_cell_below BW.out hx5
      simp only [Int.toNat_natCast] at hx0 hx1 hx2 hx3 hx4 hx5
      have g1 : rd_T33 l0 (kk : Int) = l0.getD kk z33 := rfl
      rw [g1] at hx0 hx1 hx2 hx3 hx4 hx5
      have SO := Aside0.mk (show rowUp l0 kk = (rowMay (l0.getD kk z33).f0 (l0.getD kk z33).f1 (l0.getD kk z33).f2 (l0.getD kk z33).f3 (l0.getD kk z33).f4 (l0.getD kk z33).f5 && (decide (kk = 0) || Op.bytesLess (l0.getD (kk - 1) z33).f0.toList (l0.getD kk z33).f0.toList)) from rfl)
      clear g1
      generalize l0.getD kk z33 = y at hx0 hx1 hx2 hx3 hx4 hx5 SO
      have HM := Aside0.mk (fun W => stock_may.calls y.f0 y.f1 y.f2 y.f3 y.f4 y.f5 _ W rfl)
      generalize rowMay y.f0 y.f1 y.f2 y.f3 y.f4 y.f5 = mm at HM SO
      go_wp2_with fail
      have n0 : (wr.alloc (.cells #[.string y.f0, .int .i64 y.f1, .int .i64 y.f2, .int .i64 y.f3, .int .i64 y.f4, .int .i64 y.f5] 33 (0, 0))).cell? ⟨wr.heap.size, 0, none⟩ = some (.string y.f0) := by go_simp
      have n1 : (wr.alloc (.cells #[.string y.f0, .int .i64 y.f1, .int .i64 y.f2, .int .i64 y.f3, .int .i64 y.f4, .int .i64 y.f5] 33 (0, 0))).cell? ⟨wr.heap.size, 1, none⟩ = some (.int .i64 y.f1) := by go_simp
      have n2 : (wr.alloc (.cells #[.string y.f0, .int .i64 y.f1, .int .i64 y.f2, .int .i64 y.f3, .int .i64 y.f4, .int .i64 y.f5] 33 (0, 0))).cell? ⟨wr.heap.size, 2, none⟩ = some (.int .i64 y.f2) := by go_simp
      have n3 : (wr.alloc (.cells #[.string y.f0, .int .i64 y.f1, .int .i64 y.f2, .int .i64 y.f3, .int .i64 y.f4, .int .i64 y.f5] 33 (0, 0))).cell? ⟨wr.heap.size, 3, none⟩ = some (.int .i64 y.f3) := by go_simp
      have n4 : (wr.alloc (.cells #[.string y.f0, .int .i64 y.f1, .int .i64 y.f2, .int .i64 y.f3, .int .i64 y.f4, .int .i64 y.f5] 33 (0, 0))).cell? ⟨wr.heap.size, 4, none⟩ = some (.int .i64 y.f4) := by go_simp
      have n5 : (wr.alloc (.cells #[.string y.f0, .int .i64 y.f1, .int .i64 y.f2, .int .i64 y.f3, .int .i64 y.f4, .int .i64 y.f5] 33 (0, 0))).cell? ⟨wr.heap.size, 5, none⟩ = some (.int .i64 y.f5) := by go_simp
      have B0 := Aside0.mk (below_alloc BW.out (.cells #[.string y.f0, .int .i64 y.f1, .int .i64 y.f2, .int .i64 y.f3, .int .i64 y.f4, .int .i64 y.f5] 33 (0, 0)))
      generalize wr.alloc (.cells #[.string y.f0, .int .i64 y.f1, .int .i64 y.f2, .int .i64 y.f3, .int .i64 y.f4, .int .i64 y.f5] 33 (0, 0)) = W0 at n0 n1 n2 n3 n4 n5 B0 ⊢
      clear hx0 hx1 hx2 hx3 hx4 hx5 BW
      generalize wr.heap.size = bb at n0 n1 n2 n3 n4 n5 ⊢
      cases mm with
      | false =>
        refine wp_region_below (by kernel_rfl) (by kernel_rfl) ?_
        repeat (first | go_big_quiet_skip | (go_big_quiet_want; go_big_quiet_op; go_big_quiet_on) | (go_big_quiet_want; apply Exists.intro; refine ⟨fun W hW => ?_, ?_⟩; (focus (have m0_ := pw_cell_below hW n0; have m1_ := pw_cell_below hW n1; have m2_ := pw_cell_below hW n2; have m3_ := pw_cell_below hW n3; have m4_ := pw_cell_below hW n4; have m5_ := pw_cell_below hW n5; unfold Oper.quietAt; go_simp; first | rfl | done | (refine (HM.out _).mono ?_; rintro e w2 ⟨rfl, hb⟩; exact ⟨rfl, below_step hW hb⟩))); (try simp only [Act.put, List.setIfInBounds_toArray, List.set_cons_zero, List.set_cons_succ]); go_big_quiet_on))
        refine wpQuiet_nil ?_
        intro W2 hW2
        have B2 := Aside0.mk (below_step B0.out hW2)
        clear hW2
        go_wp2
        go_ret
        refine ⟨?_, B2.out⟩
        rw [rightB_no l0 kk hlt (by rw [SO.out]; rfl)]
        rfl
      | true =>
        by_cases hk0 : kk = 0
        · subst hk0
          refine wp_region_below (by kernel_rfl) (by kernel_rfl) ?_
          repeat (first | go_big_quiet_skip | (go_big_quiet_want; go_big_quiet_op; go_big_quiet_on) | (go_big_quiet_want; apply Exists.intro; refine ⟨fun W hW => ?_, ?_⟩; (focus (have m0_ := pw_cell_below hW n0; have m1_ := pw_cell_below hW n1; have m2_ := pw_cell_below hW n2; have m3_ := pw_cell_below hW n3; have m4_ := pw_cell_below hW n4; have m5_ := pw_cell_below hW n5; unfold Oper.quietAt; go_simp; first | rfl | done | (refine (HM.out _).mono ?_; rintro e w2 ⟨rfl, hb⟩; exact ⟨rfl, below_step hW hb⟩))); (try simp only [Act.put, List.setIfInBounds_toArray, List.set_cons_zero, List.set_cons_succ]); go_big_quiet_on))
          refine wpQuiet_nil ?_
          intro W2 hW2
          have B2 := Aside0.mk (below_step B0.out hW2)
          clear hW2
          go_wp2
          go_roundg (l0.length - 1)
          case measure => omega
          case rel =>
            refine ⟨1, by omega, by omega, by go_num, B2, ⟨fun j hj => ?_⟩⟩
            obtain rfl : j = 0 := by omega
            rw [SO.out]
            rfl
        · obtain ⟨m, rfl⟩ : ∃ m, kk = m + 1 := ⟨kk - 1, by omega⟩
          have hltm : (m : Int) < (l0.length : Int) := by omega
          have hmod : IntKind.i64.wrap (m : Int) = (m : Int) := IntWalk.i64_in _ (by omega)
          have hmod2 : IntKind.i64.wrap ((m : Int) + 1 - 1) = (m : Int) := by rw [IntWalk.i64_in _ (by omega)]; omega
          obtain ⟨ad2, e2, q0, _⟩ := at_T33 HR.out (m : Int) (by omega) hltm
          cases e2
          replace q0 := pw_cell_below B0.out q0
          simp only [Int.toNat_natCast] at q0
          have g2 : rd_T33 l0 (m : Int) = l0.getD m z33 := rfl
          rw [g2] at q0
          clear g2
          have SO2 := Aside0.mk (show rowUp l0 (m + 1) = Op.bytesLess (l0.getD m z33).f0.toList y.f0.toList by rw [SO.out]; rfl)
          generalize (l0.getD m z33).f0 = pf at q0 SO2
          have hm0 : (0 : Int) ≤ (m : Int) := by omega
          cases hbl : Op.bytesLess pf.toList y.f0.toList with
          | true =>
            rw [hbl] at SO2
            refine wp_region_below (by kernel_rfl) (by kernel_rfl) ?_
            repeat (first | go_big_quiet_skip | (go_big_quiet_want; go_big_quiet_op; go_big_quiet_on) | (go_big_quiet_want; apply Exists.intro; refine ⟨fun W hW => ?_, ?_⟩; (focus (have m0_ := pw_cell_below hW n0; have m1_ := pw_cell_below hW n1; have m2_ := pw_cell_below hW n2; have m3_ := pw_cell_below hW n3; have m4_ := pw_cell_below hW n4; have m5_ := pw_cell_below hW n5; have q0_ := pw_cell_below hW q0; unfold Oper.quietAt; go_simp; first | rfl | done | (refine (HM.out _).mono ?_; rintro e w2 ⟨rfl, hb⟩; exact ⟨rfl, below_step hW hb⟩))); (try simp only [Act.put, List.setIfInBounds_toArray, List.set_cons_zero, List.set_cons_succ]); go_big_quiet_on))
            refine wpQuiet_nil ?_
            intro W2 hW2
            have B2 := Aside0.mk (below_step B0.out hW2)
            clear hW2
            go_wp2
            go_roundg (l0.length - (m + 1 + 1))
            case measure => omega
            case rel =>
              refine ⟨m + 1 + 1, by omega, by omega, by go_num, B2, ⟨fun j hj => ?_⟩⟩
              by_cases e : j = m + 1
              · subst e; exact SO2.out
              · exact A.out j (by omega)
          | false =>
            rw [hbl] at SO2
            refine wp_region_below (by kernel_rfl) (by kernel_rfl) ?_
            repeat (first | go_big_quiet_skip | (go_big_quiet_want; go_big_quiet_op; go_big_quiet_on) | (go_big_quiet_want; apply Exists.intro; refine ⟨fun W hW => ?_, ?_⟩; (focus (have m0_ := pw_cell_below hW n0; have m1_ := pw_cell_below hW n1; have m2_ := pw_cell_below hW n2; have m3_ := pw_cell_below hW n3; have m4_ := pw_cell_below hW n4; have m5_ := pw_cell_below hW n5; have q0_ := pw_cell_below hW q0; unfold Oper.quietAt; go_simp; first | rfl | done | (refine (HM.out _).mono ?_; rintro e w2 ⟨rfl, hb⟩; exact ⟨rfl, below_step hW hb⟩))); (try simp only [Act.put, List.setIfInBounds_toArray, List.set_cons_zero, List.set_cons_succ]); go_big_quiet_on))
            refine wpQuiet_nil ?_
            intro W2 hW2
            have B2 := Aside0.mk (below_step B0.out hW2)
            clear hW2
            go_wp2
            go_ret
            refine ⟨?_, B2.out⟩
            rw [rightB_no l0 (m + 1) hlt SO2.out]
            rfl
    · have hltz : ¬ (kk : Int) < (l0.length : Int) := by omega
      go_wp2
      go_ret
      refine ⟨?_, BW.out⟩
      rw [rightB_yes l0 (fun j hj => A.out j (by omega))]
      first | rfl | (show Ending.returned (.bool (decide ((l0.length : Int) ≤ 8))) = _; congr 2; simp only [decide_eq_decide]; omega)


/-! ### api_Row_string: function 39 (by hand) -/
set_option maxHeartbeats 4000000 in
set_option maxRecDepth 100000 in
theorem slices_row_BinarySearchFunc.calls (c : S33 → Int) (tv : Value) (g : Nat) (lb : Array Value) (eg : ∀ args w, (callFunc g args).run Try.prog w = .ok (.enter g args) w) (A0 : Option Addr) (c0 : Nat) (l0 : List S33) (w : World)
    (hr0 : Kd.C k33 w A0 l0.length l0) (hbig : l0.length < 4611686018427387904) (hp : CmpT Try.prog g lb (fun x_ : S33 => Value.agg #[.string x_.f0, .int .i64 x_.f1, .int .i64 x_.f2, .int .i64 x_.f3, .int .i64 x_.f4, .int .i64 x_.f5]) tv c l0 w) :
    Calls Try.prog 39 #[.slice A0 l0.length c0, tv, .func (.func g) #[] lb] w fun e w' => e = .returned (.tuple #[.int .i64 (bsAt c z33 l0 : Nat), .bool (bsIs c z33 l0)]) ∧ Below w.heap.size w w' := by
  have hu33 := Try.underlying33
  have HR0 := Aside0.mk hr0
  have HP := Aside0.mk hp
  clear hr0 hp
  have R0 : Aside0 (bsP c z33 l0 (l0.length + 1) 0 l0.length = bsAt c z33 l0) := ⟨rfl⟩
  have R1 : Aside0 (bsIs c z33 l0 = (decide (bsAt c z33 l0 < l0.length) && decide (c (l0.getD (bsAt c z33 l0) z33) = 0))) := ⟨rfl⟩
  generalize bsIs c z33 l0 = fd at R1
  generalize bsAt c z33 l0 = R at R0 R1
  go_enter Try.func39, Try.ntmps39
  go_wp2
  go_loopg [9, 10] l0.length (fun gg s9 s10 wr => ∃ lo hi : Nat, s9 = .int .i64 lo ∧ s10 = .int .i64 hi ∧ lo ≤ hi ∧ hi ≤ l0.length ∧ hi - lo ≤ gg ∧ Aside0 (bsP c z33 l0 (gg + 1) lo hi = R) ∧ Aside0 (Below w.heap.size w wr))
  case atStart => exact ⟨0, l0.length, rfl, rfl, Nat.zero_le _, Nat.le_refl _, by omega, R0, ⟨Below.refl _ w⟩⟩
  case round =>
    clear R0
    obtain ⟨lo, hi, rfl, rfl, hlh, hin, hg, RR, BW⟩ := hrel
    by_cases hlt : lo < hi
    · obtain ⟨ad, e0, hx0, hx1, hx2, hx3, hx4, hx5⟩ := at_T33 HR0.out (((lo : Int) + (hi : Int)) / 2) (by omega) (by omega)
      subst e0
      replace hx0 := pw_cell_below BW.out hx0
      replace hx1 := pw_cell_below BW.out hx1
      replace hx2 := pw_cell_below BW.out hx2
      replace hx3 := pw_cell_below BW.out hx3
      replace hx4 := pw_cell_below BW.out hx4
      replace hx5 := pw_cell_below BW.out hx5
      have etn : (((lo : Int) + (hi : Int)) / 2).toNat = (lo + hi) / 2 := by omega
      have g1 : rd_T33 l0 (((lo : Int) + (hi : Int)) / 2) = l0.getD ((lo + hi) / 2) z33 := by unfold rd_T33; rw [etn]
      have hcall := HP.out wr (rd_T33 l0 (((lo : Int) + (hi : Int)) / 2)) (by rw [g1, getD_get _ _ _ (show (lo + hi) / 2 < l0.length by omega)]; exact List.getElem_mem _) BW.out
      rw [etn] at hx0 hx1 hx2 hx3 hx4 hx5
      clear etn
      generalize hy_ : rd_T33 l0 (((lo : Int) + (hi : Int)) / 2) = y at hx0 hx1 hx2 hx3 hx4 hx5 hcall g1
      have Y := Aside0.mk g1
      clear hy_ g1
      have RR' := RR.out
      unfold bsP at RR'
      rw [if_pos hlt, ← Y.out] at RR'
      have RQ := Aside0.mk RR'
      clear RR' RR
      generalize hq : c y = q at hcall RQ
      clear hq
      have m0 : (0 : Int) ≤ ((lo : Int) + (hi : Int)) / 2 := by omega
      have m1 : ((lo : Int) + (hi : Int)) / 2 < (l0.length : Int) := by omega
      by_cases hn : q < 0
      · rw [if_pos hn] at RQ
        go_wp2_with (go_at_fn g; refine hcall.mono ?_; rintro e w' ⟨rfl, hb'⟩)
        obtain ⟨gk', rfl⟩ : ∃ m, gk = m + 1 := ⟨gk - 1, by omega⟩
        go_roundg gk'
        case measure => omega
        case rel => exact ⟨(lo + hi) / 2 + 1, hi, by rw [show ((lo : Int) + (hi : Int)) / 2 + 1 = (((lo + hi) / 2 + 1 : Nat) : Int) by omega], rfl, by omega, by omega, by omega, RQ, ⟨below_step BW.out hb'⟩⟩
      · rw [if_neg hn] at RQ
        go_wp2_with (go_at_fn g; refine hcall.mono ?_; rintro e w' ⟨rfl, hb'⟩)
        obtain ⟨gk', rfl⟩ : ∃ m, gk = m + 1 := ⟨gk - 1, by omega⟩
        go_roundg gk'
        case measure => omega
        case rel => exact ⟨lo, (lo + hi) / 2, by rw [show (lo : Int) = (lo : Int) by omega], by rw [show ((lo : Int) + (hi : Int)) / 2 = (((lo + hi) / 2 : Nat) : Int) by omega], by omega, by omega, by omega, RQ, ⟨below_step BW.out hb'⟩⟩
    · have RR' := RR.out
      unfold bsP at RR'
      rw [if_neg hlt] at RR'
      subst RR'
      clear RR
      have he : lo = hi := by omega
      subst he
      by_cases hln : lo < l0.length
      · have hlnz : (lo : Int) < (l0.length : Int) := by omega
        obtain ⟨ad, e0, hx0, hx1, hx2, hx3, hx4, hx5⟩ := at_T33 HR0.out (lo : Int) (by omega) hlnz
        subst e0
        replace hx0 := pw_cell_below BW.out hx0
        replace hx1 := pw_cell_below BW.out hx1
        replace hx2 := pw_cell_below BW.out hx2
        replace hx3 := pw_cell_below BW.out hx3
        replace hx4 := pw_cell_below BW.out hx4
        replace hx5 := pw_cell_below BW.out hx5
        simp only [Int.toNat_natCast] at hx0 hx1 hx2 hx3 hx4 hx5
        have g1 : rd_T33 l0 (lo : Int) = l0.getD lo z33 := rfl
        have hcall := HP.out wr (rd_T33 l0 (lo : Int)) (by rw [g1, getD_get _ _ _ hln]; exact List.getElem_mem _) BW.out
        have R2 := R1.out
        rw [← g1, decide_eq_true hln, Bool.true_and] at R2
        have R3 := Aside0.mk R2
        clear R1 R2
        generalize hy_ : rd_T33 l0 (lo : Int) = y at hx0 hx1 hx2 hx3 hx4 hx5 hcall g1 R3
        clear hy_ g1
        generalize hq : c y = q at hcall R3
        clear hq
        go_wp2_with (go_at_fn g; refine hcall.mono ?_; rintro e w' ⟨rfl, hb'⟩)
        go_ret2
        refine ⟨?_, below_step BW.out hb'⟩
        rw [R3.out]
        by_cases h0 : q = 0 <;> simp [h0]
      · have hlnz : ¬ (lo : Int) < (l0.length : Int) := by omega
        have hdl : decide ((lo : Int) < (l0.length : Int)) = false := by simpa using hln
        go_wp2
        go_ret2
        refine ⟨?_, BW.out⟩
        rw [R1.out, decide_eq_false hln]
        rfl

/-! ### stock_at: function 24 (by hand) -/
def rowAt (l : List S33) (sku : ByteArray) : Nat := bsAt (fun x => cmpB x.f0 sku) z33 l
def rowIs (l : List S33) (sku : ByteArray) : Bool := bsIs (fun x => cmpB x.f0 sku) z33 l
def stock_at.f (l0 : List S33) (a1 : ByteArray) : Option (Int × Bool) := if l0.length < 4611686018427387904 then some ((rowAt l0 a1 : Int), rowIs l0 a1) else none
theorem stock_at_1.calls (x : S33) (a : ByteArray) (w : World) : Calls Try.prog 40 #[.agg #[.string x.f0, .int .i64 x.f1, .int .i64 x.f2, .int .i64 x.f3, .int .i64 x.f4, .int .i64 x.f5], .string a] w fun e w' => e = .returned (.int .i64 (cmpB x.f0 a)) ∧ Below w.heap.size w w' := by
  have hu33 := Try.underlying33
  have H := Aside0.mk (fun W => strings_Compare.calls x.f0 a _ W rfl)
  generalize cmpB x.f0 a = q at H
  go_enter Try.func40, Try.ntmps40
  go_wp2_with (go_at_call 41; refine (H.out _).mono ?_; rintro e w' ⟨rfl, hd⟩)
  go_ret
  exact ⟨rfl, below_then (below_alloc (Below.refl _ _) _) (by simp) (by simpa using hd.below)⟩
set_option maxHeartbeats 4000000 in
theorem stock_at.calls (A0 : Option Addr) (c0 : Nat) (l0 : List S33) (a1 : ByteArray) (r1 : Int) (r2 : Bool) (w : World) (hr0 : Kd.C k33 w A0 l0.length l0) (hc0 : l0.length ≤ c0) (h : stock_at.f l0 a1 = some (r1, r2)) :
    Calls Try.prog 24 #[.slice A0 l0.length c0, .string a1] w fun e w' => e = .returned (.tuple #[.int .i64 r1, .bool r2]) ∧ Below w.heap.size w w' := by
  unfold stock_at.f at h
  by_cases hb : l0.length < 4611686018427387904
  · rw [if_pos hb] at h
    simp only [Option.some.injEq, Prod.mk.injEq] at h
    obtain ⟨rfl, rfl⟩ := h
    have H := slices_row_BinarySearchFunc.calls (fun x => cmpB x.f0 a1) (.string a1) 40 #[] (enters_of Try.func40 (by kernel_rfl) rfl) A0 c0 l0 w hr0 hb (fun W x _ _ => stock_at_1.calls x a1 W)
    unfold rowAt rowIs
    generalize (bsAt (fun x => cmpB x.f0 a1) z33 l0 : Nat) = p at H
    generalize bsIs (fun x => cmpB x.f0 a1) z33 l0 = q at H
    have H := Aside0.mk H
    clear hr0 hc0 hb
    go_enter Try.func24, Try.ntmps24
    go_wp2_with (go_at_call 39; refine H.out.mono ?_; rintro e w' ⟨rfl, hb⟩)
    go_ret2
    exact ⟨rfl, hb⟩
  · rw [if_neg hb] at h
    cases h


/-! ### api_Row_29: function 29 (by hand) -/
def api_Row_29.f (l0 : List S33) : Option (List S33) := if l0.length < 2513169434916 then some l0 else none
set_option maxHeartbeats 4000000 in
set_option maxRecDepth 100000 in
theorem api_Row_29.calls (A0 : Option Addr) (c0 : Nat) (l0 : List S33) (r : List S33) (w : World) (hr0 : Kd.C k33 w A0 l0.length l0) (hc0 : l0.length ≤ c0) (h : api_Row_29.f l0 = some r) :
    Calls Try.prog 29 #[.slice A0 l0.length c0] w fun e w' => ∃ v0_ : Value, e = .returned v0_ ∧ Kd.R k33 33 w' w.heap.size (fun _ => True) v0_ r ∧ Below w.heap.size w w' := by
  have hu33 := Try.underlying33
  unfold api_Row_29.f at h
  by_cases hb : l0.length < 2513169434916
  · rw [if_pos hb] at h
    obtain rfl := Option.some.inj h
    clear h
    have qT : ∀ (w : World) (a : Option Addr) (n c n' c' : Nat), (binOp .eql 22 (.slice a n c) (.slice none n' c')).run Try.prog w = .ok (.bool a.isNone) w := fun w a n c n' c' => Lib.run_eql_slice_nil w _ _ a n c n' c' Try.underlying22
    have HR := Aside0.mk hr0
    clear hr0 hc0
    cases A0 with
    | none =>
      have h0 : l0.length = 0 := by
        rcases Nat.eq_zero_or_pos l0.length with h0 | h0
        · exact h0
        · obtain ⟨ad, h, _⟩ := HR.out.2.2 h0
          cases h
      obtain rfl : l0 = [] := List.eq_nil_of_length_eq_zero h0
      clear HR
      go_enter Try.func29, Try.ntmps29
      go_wp2
      go_ret
      exact ⟨_, rfl, Kd.R_nil _ _ _ _ _, Below.refl _ _⟩
    | some ad =>
      have hlim : (0 + l0.length) * 56 ≤ 140737488355328 := by omega
      have HL := Aside0.mk hlim
      clear hlim hb
      go_enter Try.func29, Try.ntmps29
      go_wp2_with (first | ((with_reducible refine gate_dst (N := 5) rfl ?_); refine Kd.R_lit k33 w.heap.size 33 ?hg (N := 5) ?hd (xs := ([] : List S33)) (inner := []) (ok := fun _ => True) (okp := fun _ => True) ?hr ?hp (fun _ hk => hk) trivial (Below.refl _ _) (Nat.le_refl _) (by simp) ?_; (case hd => rfl); (case hg => rfl); (case hr => first | (go_simp; done) | (go_simp; rfl)); (case hp => exact (Reps.none _ _)); intro v1 w1 ho hb hg_ hn_; have HO := Aside0.mk ho; have HB := Aside0.mk hb; clear ho hb hg_ hn_) | ((with_reducible refine gate_builtin (b := .append) (xs := #[.tmp 5, .tmp 6]) rfl ?_); at_builtin; refine Kd.R_append_rows k33 (w0 := w) w.heap.size rfl (.tmp 5) (.tmp 6) 22 33 (Value.agg #[(.string ⟨#[]⟩), (.int .i64 0), (.int .i64 0), (.int .i64 0), (.int .i64 0), (.int .i64 0)]) 56 rfl Try.underlying22 info33 rfl (by decide) (by omega) v1 ([] : List S33) l0 _ _ _ (fun _ => True) (fun _ => False) rfl rfl ?aO ?aR (fun _ _ h => h) (fun _ h => h.elim) ?aF ?aB ?aS ?aL ?_; (case aO => exact HO.out); (case aR => exact Kd.C_below HR.out HB.out); (case aF => exact fun _ _ => trivial); (case aB => exact HB.out); (case aS => exact HB.out.size); (case aL => exact HL.out); intro v2 w2 ho2 hb2 hg2 _; have HO2 := Aside0.mk ho2; have HB2 := Aside0.mk hb2; clear ho2 hb2 hg2))
      go_ret
      exact ⟨_, rfl, by simpa using HO2.out, HB2.out⟩
  · rw [if_neg hb] at h
    cases h

/-! ### stock_Hold: function 11 (by hand) -/
def rowGet (x : S33) : Nat → Int
  | 1 => x.f1
  | 2 => x.f2
  | 3 => x.f3
  | 4 => x.f4
  | _ => x.f5
def rowSet (x : S33) (v : Int) : Nat → S33
  | 1 => ⟨x.f0, v, x.f2, x.f3, x.f4, x.f5⟩
  | 2 => ⟨x.f0, x.f1, v, x.f3, x.f4, x.f5⟩
  | 3 => ⟨x.f0, x.f1, x.f2, v, x.f4, x.f5⟩
  | 4 => ⟨x.f0, x.f1, x.f2, x.f3, v, x.f5⟩
  | _ => ⟨x.f0, x.f1, x.f2, x.f3, x.f4, v⟩
def unitsB (n : Int) : Bool := decide (1 ≤ n) && decide (n ≤ 1073741824)
theorem stock_units_eq (n : Int) : stock_units.f n = some (unitsB n) := by
  unfold stock_units.f unitsB
  by_cases h : n ≥ 1
  · have : 1 ≤ n := h
    simp [h, this]
  · have : ¬ 1 ≤ n := h
    simp [h, this]
def moveF (fr tt : Nat) (l : List S33) (sku : ByteArray) (n : Int) : List S33 × Int :=
  if (!(rightB l && unitsB n)) = true then ([], 1) else if rowIs l sku = false then ([], 8) else
    if rowGet (l.getD (rowAt l sku) z33) fr < n then ([], 11) else
      (l.set (rowAt l sku) (rowSet (rowSet (l.getD (rowAt l sku) z33) (rowGet (l.getD (rowAt l sku) z33) fr - n) fr) (rowGet (l.getD (rowAt l sku) z33) tt + n) tt), 0)
theorem stock_Hold_1.calls (g o : Nat) (w : World) : Calls Try.prog 23 #[.pointer (some ⟨g, o, none⟩)] w fun e w' => e = .returned (.tuple #[.pointer (some ⟨g, o + 2, none⟩), .pointer (some ⟨g, o + 3, none⟩)]) ∧ Below w.heap.size w w' := by
  have hu33 := Try.underlying33
  go_enter Try.func23, Try.ntmps23
  go_wp2
  go_quiet (fail)
  go_wp2
  go_ret2
  exact ⟨rfl, pw_below_drewN (Below.refl _ _) _⟩
def stock_Hold.f (l0 : List S33) (a1 : ByteArray) (a2 : Int) : Option (List S33 × Int) := some (moveF 2 3 l0 a1 a2)
set_option maxHeartbeats 8000000 in
set_option maxRecDepth 100000 in
theorem stock_Hold_move.calls (A0 : Option Addr) (c0 : Nat) (l0 : List S33) (a1 : ByteArray) (a2 : Int) (r1 : List S33) (r2 : Int) (w : World) (hr0 : Kd.C k33 w A0 l0.length l0) (hc0 : l0.length ≤ c0) (h : moveF 2 3 l0 a1 a2 = (r1, r2)) :
    Calls Try.prog 22 #[.slice A0 l0.length c0, .string a1, .int .i64 a2, .func (.func 23) #[] #[]] w fun e w' => ∃ v0_ : Value, e = .returned (.tuple #[v0_, .int .i64 r2]) ∧ Kd.R k33 33 w' w.heap.size (fun _ => True) v0_ r1 ∧ Below w.heap.size w w' := by
  have hu33 := Try.underlying33
  have HR := Aside0.mk hr0
  have HC := Aside0.mk hc0
  have H := Aside0.mk h
  have h1 := Aside0.mk (stock_Right.calls A0 c0 l0 _ w hr0 hc0 rfl)
  have RI := Aside0.mk (show rightB l0 = true → l0.length ≤ 8 ∧ ∀ i, i < l0.length → rowUp l0 i = true from fun h => ⟨rightB_len l0 h, rightB_row l0 h⟩)
  have UI := Aside0.mk (show unitsB a2 = true → 1 ≤ a2 ∧ a2 ≤ 1073741824 by simp only [unitsB, Bool.and_eq_true, decide_eq_true_eq]; exact id)
  have h2 := Aside0.mk (fun W => stock_units.calls a2 _ W (stock_units_eq a2))
  clear hr0 hc0 h
  unfold moveF at H
  generalize rightB l0 = qr at h1 H RI
  generalize unitsB a2 = qu at h2 H UI
  go_enter Try.func22, Try.ntmps22
  go_wp2_with fail
  refine h1.out.mono ?_
  rintro e w2 ⟨rfl, hb2⟩
  have B2 := Aside0.mk hb2
  clear hb2 h1
  cases qr with
  | false =>
    go_wp2
    go_ret2
    have H2 := H.out
    simp at H2
    obtain ⟨rfl, rfl⟩ := H2
    exact ⟨_, rfl, Kd.R_nil _ _ _ _ _, B2.out⟩
  | true =>
    go_wp2_with fail
    refine (h2.out _).mono ?_
    rintro e w3 ⟨rfl, hd3⟩
    have B3 := Aside0.mk (below_step B2.out hd3.below)
    clear hd3 h2 B2
    cases qu with
    | false =>
      go_wp2
      go_ret2
      have H2 := H.out
      simp at H2
      obtain ⟨rfl, rfl⟩ := H2
      exact ⟨_, rfl, Kd.R_nil _ _ _ _ _, B3.out⟩
    | true =>
      obtain ⟨hlen, hup⟩ := RI.out (by first | rfl | trivial)
      obtain ⟨hn1, hn2⟩ := UI.out (by first | rfl | trivial)
      have UP := Aside0.mk hup
      clear hup RI UI
      have hat : stock_at.f l0 a1 = some ((rowAt l0 a1 : Int), rowIs l0 a1) := by unfold stock_at.f; rw [if_pos (by omega)]
      have IS := Aside0.mk (show rowIs l0 a1 = true → rowAt l0 a1 < l0.length by
        unfold rowIs bsIs rowAt
        intro h
        rw [Bool.and_eq_true, decide_eq_true_eq] at h
        exact h.1)
      have h4 := Aside0.mk (stock_at.calls A0 c0 l0 a1 _ _ w3 (Kd.C_below HR.out B3.out) HC.out hat)
      clear hat
      generalize rowAt l0 a1 = p at h4 H IS
      generalize rowIs l0 a1 = qi at h4 H IS
      go_wp2_with fail
      refine h4.out.mono ?_
      rintro e w4 ⟨rfl, hb4⟩
      have B4 := Aside0.mk (below_step B3.out hb4)
      clear hb4 h4 B3
      cases qi with
      | false =>
        go_wp2
        go_ret2
        have H2 := H.out
        simp at H2
        obtain ⟨rfl, rfl⟩ := H2
        exact ⟨_, rfl, Kd.R_nil _ _ _ _ _, B4.out⟩
      | true =>
        have hp : p < l0.length := IS.out (by first | rfl | trivial)
        clear IS
        go_wp2_with fail
        refine (api_Row_29.calls A0 c0 l0 l0 w4 (Kd.C_below HR.out B4.out) HC.out (by unfold api_Row_29.f; rw [if_pos (by omega)])).mono ?_
        rintro e w5 ⟨v5, rfl, ho5, hb5⟩
        obtain ⟨g, cap, rfl, hgb, hgl, _⟩ := Kd.R_form ho5 (by omega)
        obtain ⟨cs, hcl, hcm, hcc, hcf⟩ := Kd.R_elem ho5 z33 (p : Int) (by omega) (by omega)
        have B5 := Aside0.mk (below_step B4.out hb5)
        have O5 := Aside0.mk ho5
        rw [show l0.getD (p : Int).toNat z33 = l0.getD p z33 from rfl] at hcm
        have U := UP.out p hp
        unfold rowUp at U
        rw [Bool.and_eq_true] at U
        have MI := rowMay_in U.1
        clear U UP
        obtain ⟨x, hx⟩ : ∃ x, x = l0.getD p z33 := ⟨_, rfl⟩
        have HX := Aside0.mk hx
        rw [← hx] at hcm MI
        have H3 := H.out
        simp only [Bool.true_and, Bool.not_true, Bool.and_self, Bool.false_eq_true, if_false, ← hx] at H3
        have H4 := Aside0.mk H3
        have SZ : Aside0 (w.heap.size ≤ g) := ⟨Nat.le_trans B4.out.size hgb⟩
        have SZ2 : Aside0 (w.heap.size ≤ w4.heap.size) := ⟨B4.out.size⟩
        clear H3 H B4 hb5 ho5 hx
        obtain rfl := k33_openM hcm
        have c0_ : w5.cell? ⟨g, p * 6 + 2, none⟩ = some (.int .i64 x.f2) := hcc 2 _ rfl
        have c1_ : w5.cell? ⟨g, p * 6 + 3, none⟩ = some (.int .i64 x.f3) := hcc 3 _ rfl
        clear hcc hcf hcm hcl
        have hpz : (p : Int) < (l0.length : Int) := by omega
        have HG := Aside0.mk hgb
        have hc1 := stock_Hold_1.calls g (p * 6) w5
        go_wp2_with fail
        refine hc1.mono ?_
        rintro e w6 ⟨rfl, hb6⟩
        have f0_ : w6.frozen? ⟨g, p * 6 + 2, none⟩ = false := (hb6.frozen (p := ⟨g, p * 6 + 2, none⟩) hgl).trans (by
          obtain ⟨_, _, _, _, hf⟩ := Kd.R_elem O5.out z33 (p : Int) (by omega) (by omega)
          exact hf 2)
        have f1_ : w6.frozen? ⟨g, p * 6 + 3, none⟩ = false := (hb6.frozen (p := ⟨g, p * 6 + 3, none⟩) hgl).trans (by
          obtain ⟨_, _, _, _, hf⟩ := Kd.R_elem O5.out z33 (p : Int) (by omega) (by omega)
          exact hf 3)
        replace c0_ := pw_cell_below hb6 c0_
        replace c1_ := pw_cell_below hb6 c1_
        have O6 := Aside0.mk (Kd.R_below O5.out hb6)
        have B6 := Aside0.mk (below_step B5.out hb6)
        have HGL := Aside0.mk (show g < w6.heap.size by have := hb6.size; omega)
        clear hb6 hc1 O5 B5 hgl hgb
        obtain ⟨m1, m2, m3, m4, m5, m6, m7, m8, m9, m10, m11⟩ := MI
        by_cases hlt : x.f2 < a2
        · go_wp2
          go_ret2
          have H5 := H4.out
          simp only [rowGet, hlt, if_true, Prod.mk.injEq] at H5
          obtain ⟨rfl, rfl⟩ := H5
          exact ⟨_, rfl, Kd.R_nil _ _ _ _ _, B6.out⟩
        · have H5 := H4.out
          simp only [rowGet, rowSet, hlt, if_false, Prod.mk.injEq] at H5
          have H6 := Aside0.mk H5
          clear H5 H4
          have s0 : IntKind.i64.wrap (x.f2 - a2) = x.f2 - a2 := IntWalk.i64_in _ (by omega)
          have s1 : IntKind.i64.wrap (x.f3 + a2) = x.f3 + a2 := IntWalk.i64_in _ (by omega)
          have hltb : decide (x.f2 < a2) = false := by simpa using hlt
          go_wp2
          go_ret2
          obtain ⟨rfl, rfl⟩ := H6.out
          obtain ⟨cs6, l6, m6_, cc6, _⟩ := Kd.R_elem O6.out z33 (p : Int) (by omega) hpz
          rw [show l0.getD (p : Int).toNat z33 = x from HX.out.symm] at m6_
          obtain rfl := k33_openM m6_
          have O7 := (Kd.R_seg O6.out (p : Int) (by omega) hpz (seg := [.int .i64 (x.f2 - a2)]) (j := 2) (x' := rowSet x (x.f2 - a2) 2) (okp := fun _ => False) l6 cc6 (show 2 + 1 ≤ 6 by omega) (k33_mkM _ _ _ (rowSet x (x.f2 - a2) 2)) (fun _ h => h.elim)).1
          obtain ⟨cs7, l7, m7_, cc7, _⟩ := Kd.R_elem O7 z33 (p : Int) (by omega) hpz
          rw [show (l0.set (p : Int).toNat (rowSet x (x.f2 - a2) 2)).getD (p : Int).toNat z33 = rowSet x (x.f2 - a2) 2 by simp [List.getD_eq_getElem?_getD, hp]] at m7_
          obtain rfl := k33_openM m7_
          have O8 := (Kd.R_seg O7 (p : Int) (by omega) hpz (seg := [.int .i64 (x.f3 + a2)]) (j := 3) (x' := rowSet (rowSet x (x.f2 - a2) 2) (x.f3 + a2) 3) (okp := fun _ => False) l7 cc7 (show 3 + 1 ≤ 6 by omega) (k33_mkM _ _ _ (rowSet (rowSet x (x.f2 - a2) 2) (x.f3 + a2) 3)) (fun _ h => h.elim)).1
          rw [List.set_set] at O8
          refine ⟨_, rfl, Kd.R_lower (Kd.R_mono O8 (fun _ _ => trivial)) ?_, ?_⟩
          · exact SZ2.out
          · exact below_set (below_set B6.out SZ.out) SZ.out
theorem stock_Hold.calls (A0 : Option Addr) (c0 : Nat) (l0 : List S33) (a1 : ByteArray) (a2 : Int) (r1 : List S33) (r2 : Int) (w : World) (hr0 : Kd.C k33 w A0 l0.length l0) (hc0 : l0.length ≤ c0) (h : stock_Hold.f l0 a1 a2 = some (r1, r2)) :
    Calls Try.prog 11 #[.slice A0 l0.length c0, .string a1, .int .i64 a2] w fun e w' => ∃ v0_ : Value, e = .returned (.tuple #[v0_, .int .i64 r2]) ∧ Kd.R k33 33 w' w.heap.size (fun _ => True) v0_ r1 ∧ Below w.heap.size w w' := by
  have H := Aside0.mk (stock_Hold_move.calls A0 c0 l0 a1 a2 r1 r2 w hr0 hc0 (Option.some.inj h))
  clear hr0 hc0 h
  go_enter Try.func11, Try.ntmps11
  go_wp2_with (go_at_call 22; refine H.out.mono ?_; rintro e w' ⟨v, rfl, ho, hb⟩; have HO := Aside0.mk ho; have HB := Aside0.mk hb; clear ho hb)
  go_ret2
  exact ⟨_, rfl, HO.out, HB.out⟩


end Go.Proofs.Ytliablhnkoghbaa.PStockMoves
