-- PRINTED by print.py (a twelfth state) out of the translation. Not trusted: Lean checks it.
import Derived.Test.YtliablhnkoghbaaPStockMovesx0
import Derived.Test.YtliablhnkoghbaaPStockMovesx1
import Derived.Test.YtliablhnkoghbaaPStockMovesx3
import Derived.Test.YtliablhnkoghbaaPStockMovesx4
namespace Go.Proofs.Ytliablhnkoghbaa.PStockMoves
open Go.RowKit Go.Proofs.YtliablhnkoghbaaH Go.Proofs.YtliablhnkoghbaaW.PrintWords Go.Proofs.YtliablhnkoghbaaW.PrintLast Go.Proofs.YtliablhnkoghbaaW.PrintMore
attribute [local go_sem] max2_int min2_int max_two min_two max_three min_three max_four min_four   -- for this text's walks alone
set_option linter.unusedVariables false
set_option linter.unusedSimpArgs false

attribute [local go_sem high] eqA33
/-! ### api_Row_30: function 30 (by hand) -/
set_option maxHeartbeats 4000000 in
set_option maxRecDepth 100000 in
theorem api_Row_30_shift (g m cap i vc : Nat) (L vs : List Value) (ad : Addr) (w : World) (hi : i < m) (hm : m + 1 ≤ cap) (hc63 : cap ≤ 9223372036854775807)
    (hg : w.heap[g]? = some (.cells L.toArray 33 (0, 0))) (hL : L.length = cap * 6) (hv : vs.length = 6) (hvs : ∀ j u, vs[j]? = some u → w.cell? (ad.add j) = some u) (hne : ad.block ≠ g) (h1 : ∀ v ∈ L.take (m * 6), v.oneCell' = true) (h1v : ∀ v ∈ vs, v.oneCell' = true) :
    Calls Try.prog 30 #[.slice (some ⟨g, 0, none⟩) m cap, .int .i64 i, .slice (some ad) 1 vc] w fun e w' =>
      e = .returned (.slice (some ⟨g, 0, none⟩) (m + 1) cap) ∧ ∃ q, w' = (w.drewN q).setRow g (L.take (i * 6) ++ vs ++ (L.drop (i * 6)).take ((m - i) * 6) ++ L.drop ((m + 1) * 6)).toArray := by
  have hu33 := Try.underlying33
  obtain ⟨tA, kA, hsa, hkA⟩ := shape_of_cell (hvs 0 _ (List.getElem?_eq_getElem (by omega)))
  have hsb : w.shape? g = some (33, cap * 6) := by simp [World.shape?, hg, hL]
  have hfb : ∀ o, w.frozen? ⟨g, o, none⟩ = false := fun o => by simp [World.frozen?, hg]
  have hsz : (Try.prog.info? 33).map (·.size) = some 6 := by
    have := info33
    obtain ⟨i0, hi0, hz⟩ := Option.map_eq_some_iff.1 this
    simp only [Prod.mk.injEq] at hz
    rw [hi0]; simp [hz.2.1]
  have hzz : ∀ w, (Go.sizeOf 33).run Try.prog w = .ok 6 w := fun w => by
    obtain ⟨i0, hi0, hz⟩ := Option.map_eq_some_iff.1 hsz
    simp [Go.sizeOf, typeInfo, hi0, hz]
  have adE : ad.add 0 = ad := rfl
  have hsa' : w.shape? ad.block = some (tA, kA) := hsa
  have hov : ∀ (q : Nat) lb cb o, (callFunc 43 #[.slice (some ad) 1 vc, .slice (some ⟨g, o, none⟩) lb cb]).run Try.prog (w.drewN q) = .ok (.value (.bool false)) (w.drewN q) := fun q lb cb o => by
    rw [run_callFunc_extern Try.func43 (by kernel_rfl) (by kernel_rfl) (by kernel_rfl) (e := Extern.SlicesOverlaps.overlaps #[22, 22] #[4]) (by kernel_rfl),
      run_overlaps_apart' (w.drewN q) 22 4 33 Try.underlying22 6 hzz ad ⟨g, o, none⟩ 1 vc lb cb hne tA 33 kA (cap * 6) hsa' hkA hsb (hfb o) (hfb _)]
    rfl
  have hov0 : ∀ lb cb o, (callFunc 43 #[.slice (some ad) 1 vc, .slice (some ⟨g, o, none⟩) lb cb]).run Try.prog w = .ok (.value (.bool false)) w := hov 0
  clear hov
  have hw1 : IntKind.i64.wrap ((m : Int) + 1) = (m : Int) + 1 := by rw [IntKind.wrap_i64]; omega
  have hw2 : IntKind.i64.wrap ((i : Int) + 1) = (i : Int) + 1 := by rw [IntKind.wrap_i64]; omega
  have hb1 : (0 : Int) ≤ (i : Int) + 1 := by omega
  have hz2 : ((i : Int) == (m : Int)) = false := by simp; omega
  have hz3 : decide ((cap : Int) < (m : Int) + 1) = false := by simp; omega
  have hin : i ≤ m := by omega
  have hic : i ≤ cap := by omega
  have him : i + 1 ≤ m + 1 := by omega
  have hmc : m + 1 ≤ cap := by omega
  have hb3 : (i : Int) ≤ (m : Int) + 1 := by omega
  have htn : ((i : Int) + 1).toNat = i + 1 := by omega
  have htm : ((m : Int) + 1).toNat = m + 1 := by omega
  have hb2 : ¬ (cap = i + 1) := by omega
  have hb4 : ¬ (cap = i) := by omega
  have hmin1 : Nat.min (m + 1 - i) (m - i) = m - i := Nat.min_eq_right (by omega)
  have hcl : ((L.drop (i * 6)).take ((m - i) * 6)).length = (m - i) * 6 := by rw [List.length_take, List.length_drop]; omega
  have hcp1 : ∀ ty, (Builtin.copy_ #[22, 22] ty #[.slice (some ⟨g, (i + 1) * 6, none⟩) (m - i) (cap - (i + 1)), .slice (some ⟨g, i * 6, none⟩) (m + 1 - i) (cap - i)]).run Try.prog w.drew = .ok (goInt (Nat.min (m + 1 - i) (m - i))) (w.drew.setRow g (L.take ((i + 1) * 6) ++ (L.drop (i * 6)).take ((m - i) * 6) ++ L.drop ((i + 1) * 6 + ((L.drop (i * 6)).take ((m - i) * 6)).length)).toArray) := fun ty =>
    run_copy_row_k w.drew 22 22 ty 33 g ((i + 1) * 6) (m - i) (cap - (i + 1)) ⟨g, i * 6, none⟩ (m + 1 - i) (cap - i) L.toArray 33 ((L.drop (i * 6)).take ((m - i) * 6)) 6 Try.underlying22 hsz hg (by rw [hcl, hmin1])
      (fun j v hj => by
        rw [Addr.add_lit]
        have h2 : L[i * 6 + j]? = some v := by
          rw [List.getElem?_take] at hj
          split at hj
          · rwa [List.getElem?_drop] at hj
          · cases hj
        show w.cell? _ = _
        simp [World.cell?, hg, h2])
      (by rw [hcl]; simp only [List.size_toArray]; omega) (fun v hv => h1 v (List.mem_of_mem_drop (by rw [List.drop_take]; rwa [← Nat.sub_mul])))
  obtain ⟨L1, hL1⟩ : ∃ L1, L1 = L.take ((i + 1) * 6) ++ (L.drop (i * 6)).take ((m - i) * 6) ++ L.drop ((i + 1) * 6 + ((L.drop (i * 6)).take ((m - i) * 6)).length) := ⟨_, rfl⟩
  rw [← hL1] at hcp1
  have hg1 : (w.drew.setRow g L1.toArray).heap[g]? = some (.cells L1.toArray 33 (0, 0)) := setRow_heap w.drew g L.toArray _ 33 (0, 0) hg
  have hL1l : L1.length = cap * 6 := by rw [hL1]; simp only [List.length_append, List.length_take, List.length_drop]; omega
  have hmin2 : Nat.min 1 (m + 1 - i) = 1 := Nat.min_eq_left (by omega)
  have hcp2 : ∀ ty, (Builtin.copy_ #[22, 22] ty #[.slice (some ⟨g, i * 6, none⟩) (m + 1 - i) (cap - i), .slice (some ad) 1 vc]).run Try.prog (w.drew.setRow g L1.toArray) = .ok (goInt (Nat.min 1 (m + 1 - i))) ((w.drew.setRow g L1.toArray).setRow g (L1.take (i * 6) ++ vs ++ L1.drop (i * 6 + vs.length)).toArray) := fun ty =>
    run_copy_row_k (w.drew.setRow g L1.toArray) 22 22 ty 33 g (i * 6) (m + 1 - i) (cap - i) ad 1 vc L1.toArray 33 vs 6 Try.underlying22 hsz hg1 (by rw [hv, hmin2])
      (fun j v hj => by
        have := hvs j v hj
        unfold World.cell? at this ⊢
        rw [setRow_other _ _ _ _ (show (ad.add j).block ≠ g by unfold Addr.add; split <;> exact hne)]
        exact this)
      (by rw [hv]; simp only [List.size_toArray]; omega) h1v
  rw [setRow_setRow] at hcp2
  have hfin : L1.take (i * 6) ++ vs ++ L1.drop (i * 6 + vs.length) = L.take (i * 6) ++ vs ++ (L.drop (i * 6)).take ((m - i) * 6) ++ L.drop ((m + 1) * 6) := by
    have e1 : L1.take (i * 6) = L.take (i * 6) := by
      rw [hL1, List.append_assoc, List.take_append_of_le_length (by rw [List.length_take]; omega), List.take_take]
      congr 1; omega
    have e2 : L1.drop (i * 6 + vs.length) = (L.drop (i * 6)).take ((m - i) * 6) ++ L.drop ((m + 1) * 6) := by
      rw [hL1, hv, List.append_assoc, List.drop_append, List.drop_eq_nil_of_le (by rw [List.length_take]; omega), List.nil_append, List.length_take, show i * 6 + 6 - min ((i + 1) * 6) L.length = 0 by omega, List.drop_zero, hcl]
      congr 2; omega
    rw [e1, e2, List.append_assoc, List.append_assoc, List.append_assoc]
  rw [hfin] at hcp2
  have HF := Aside0.mk hcp2
  have HG := Aside0.mk hcp1
  clear hcp1 hcp2 hfin hL1 hg1 hL1l hcl hg hL hvs hsa hsa' hsb hfb adE hv
  go_enter Try.func30, Try.ntmps30
  go_wp2_with fail
  go_region_law (refine step_copy_run rfl _ _ 22 22 rfl _ _ (by simp [Act.eval, Act.put]) (by simp [Act.eval, Act.put]) (HG.out _) ?_)
  go_wp2_with ((with_reducible refine gate_builtin (b := .copy) (xs := #[.tmp 80, .tmp 81]) rfl ?_); refine wpList_copy_run _ rfl (.tmp 80) (.tmp 81) 22 22 rfl _ _ rfl rfl (HF.out _) ?_)
  go_ret
  exact ⟨rfl, 1, by simp only [List.append_assoc]; rfl⟩
set_option maxHeartbeats 4000000 in
set_option maxRecDepth 100000 in
theorem api_Row_30_grow (g m i vc : Nat) (L vs : List Value) (ad : Addr) (w : World) (hi : i < m) (hbig : (m + 1) * 56 ≤ 140737488355328)
    (hg : w.heap[g]? = some (.cells L.toArray 33 (0, 0))) (hL : L.length = m * 6) (hv : vs.length = 6) (hvs : ∀ j u, vs[j]? = some u → w.cell? (ad.add j) = some u) (h1 : ∀ v ∈ L.take (m * 6), v.oneCell' = true) (h1v : ∀ v ∈ vs, v.oneCell' = true) :
    Calls Try.prog 30 #[.slice (some ⟨g, 0, none⟩) m m, .int .i64 i, .slice (some ad) 1 vc] w fun e w' =>
      ∃ (cap' : Nat) (R : List Value), e = .returned (.slice (some ⟨w.heap.size, 0, none⟩) (m + 1) cap') ∧ m + 1 ≤ cap' ∧ cap' ≤ maxLen ∧ R.length = cap' * 6 ∧ R.take ((m + 1) * 6) = L.take (i * 6) ++ vs ++ (L.drop (i * 6)).take ((m - i) * 6) ∧
        w'.heap[w.heap.size]? = some (.cells R.toArray 33 (0, 0)) ∧ Below w.heap.size w w' := by
  have hu33 := Try.underlying33
  obtain ⟨i0, hi0, hz⟩ := Option.map_eq_some_iff.1 info33
  simp only [Prod.mk.injEq] at hz
  obtain ⟨hz0, hz1, hz2⟩ := hz
  have hsz : (Try.prog.info? 33).map (·.size) = some 6 := by rw [hi0]; simp [hz1]
  have hglt : g < w.heap.size := (Array.getElem?_eq_some_iff.1 hg).1
  have halt : ad.block < w.heap.size := World.block_lt_of_cell? w _ (hvs 0 _ (List.getElem?_eq_getElem (by omega)))
  have hik : i + (m + 1 - i) = m + 1 := by omega
  have hkk : (m : Int) + 1 - (i : Int) = ((m + 1 - i : Nat) : Int) := by omega
  have hold : (Builtin.firstCells i0.size i (.slice (some ⟨g, 0, none⟩) i m)).run Try.prog w.drew = .ok (L.take (i * 6)).toArray w.drew := by
    rw [hz1]
    exact run_firstCells_some w.drew 6 i ⟨g, 0, none⟩ i m (L.take (i * 6)) (by rw [List.length_take]; omega) (fun j v hj => by
      rw [add_plain]
      have h2 : L[j]? = some v := by
        rw [List.getElem?_take] at hj
        split at hj
        · exact hj
        · cases hj
      show w.cell? _ = _
      simp [World.cell?, hg, h2])
  have hrz : ∀ ty, (Builtin.append_ #[22, 3] ty #[.slice (some ⟨g, 0, none⟩) i m, .int .i64 ((m : Int) + 1 - (i : Int))]).run Try.prog w = .ok (.slice (some ⟨w.heap.size, 0, none⟩) (m + 1) (grownCap w (m + 1) m 33)) (w.drew.alloc (.cells ((L.take (i * 6)).toArray ++ Builtin.zeroCells (Value.agg #[(.string ⟨#[]⟩), (.int .i64 0), (.int .i64 0), (.int .i64 0), (.int .i64 0), (.int .i64 0)]).cells (m + 1 - i) ++ Builtin.zeroCells (Value.agg #[(.string ⟨#[]⟩), (.int .i64 0), (.int .i64 0), (.int .i64 0), (.int .i64 0), (.int .i64 0)]).cells (grownCap w (m + 1) m 33 - (m + 1))) 33)) := fun ty => by
    have h := Lib.run_append_grow_zeros w 22 3 ty 33 i0 (Value.agg #[(.string ⟨#[]⟩), (.int .i64 0), (.int .i64 0), (.int .i64 0), (.int .i64 0), (.int .i64 0)]) .i64 .i64 Try.underlying22 Try.underlying3 hi0 hz0 (some ⟨g, 0, none⟩) i m (L.take (i * 6)) hold (m + 1 - i) (by omega) (by omega) (by omega) (by omega) (by rw [hz2]; omega) (by rw [hz2, hik]; exact growslice_fits (by omega) hbig)
    rw [hik] at h
    rw [hkk]
    exact h
  have hGn := grownCap_ge w (m + 1) m 33
  have hG63 := grownCap_le_maxLen w (m + 1) m 33 (by unfold maxLen; omega)
  generalize grownCap w (m + 1) m 33 = G at hrz hGn hG63
  obtain ⟨R0, hR0⟩ : ∃ R0 : List Value, R0 = (((L.take (i * 6)).toArray ++ Builtin.zeroCells (Value.agg #[(.string ⟨#[]⟩), (.int .i64 0), (.int .i64 0), (.int .i64 0), (.int .i64 0), (.int .i64 0)]).cells (m + 1 - i) ++ Builtin.zeroCells (Value.agg #[(.string ⟨#[]⟩), (.int .i64 0), (.int .i64 0), (.int .i64 0), (.int .i64 0), (.int .i64 0)]).cells (G - (m + 1)))).toList := ⟨_, rfl⟩
  have hRa : (L.take (i * 6)).toArray ++ Builtin.zeroCells (Value.agg #[(.string ⟨#[]⟩), (.int .i64 0), (.int .i64 0), (.int .i64 0), (.int .i64 0), (.int .i64 0)]).cells (m + 1 - i) ++ Builtin.zeroCells (Value.agg #[(.string ⟨#[]⟩), (.int .i64 0), (.int .i64 0), (.int .i64 0), (.int .i64 0), (.int .i64 0)]).cells (G - (m + 1)) = R0.toArray := by rw [hR0]
  rw [hRa] at hrz
  have hzc : (Value.cells (Value.agg #[(.string ⟨#[]⟩), (.int .i64 0), (.int .i64 0), (.int .i64 0), (.int .i64 0), (.int .i64 0)])).size = 6 := by rfl
  have hR0l : R0.length = G * 6 := by
    rw [hR0]
    simp only [Array.toList_append, List.length_append, Array.length_toList, size_zeroCells, hzc, List.length_take]
    omega
  have hR0t : R0.take (i * 6) = L.take (i * 6) := by
    rw [hR0]
    simp only [Array.toList_append, List.append_assoc]
    rw [List.take_append_of_le_length (by simp only [List.length_take]; omega), List.take_take]
    congr 1; omega
  clear hRa hR0 hold hi0 hz0 hz1 hz2 hzc
  generalize hN : w.heap.size = N at *
  have hgN : (w.drew.alloc (.cells R0.toArray 33)).heap[N]? = some (.cells R0.toArray 33 (0, 0)) := by rw [← hN]; exact heap_alloc_new w.drew _
  have hBW : Below N w (w.drew.alloc (.cells R0.toArray 33)) := by rw [← hN]; exact below_alloc (below_drew (Below.refl _ _)) _
  obtain ⟨W1, hW1⟩ : ∃ W1, W1 = w.drew.alloc (.cells R0.toArray 33) := ⟨_, rfl⟩
  have hW1' : w.drew.alloc (.cells R0.toArray 33) = (w.alloc (.cells R0.toArray 33)).drew := rfl
  rw [← hW1] at hgN hBW
  have hmin2 : Nat.min 1 (m + 1 - i) = 1 := Nat.min_eq_left (by omega)
  have hmin1 : Nat.min (m - i) (m - i) = m - i := Nat.min_self _
  have hcl : ((L.drop (i * 6)).take ((m - i) * 6)).length = (m - i) * 6 := by rw [List.length_take, List.length_drop]; omega
  have hcp1 : ∀ ty, (Builtin.copy_ #[22, 22] ty #[.slice (some ⟨N, i * 6, none⟩) (m + 1 - i) (G - i), .slice (some ad) 1 vc]).run Try.prog W1 = .ok (goInt (Nat.min 1 (m + 1 - i))) (W1.setRow N (R0.take (i * 6) ++ vs ++ R0.drop (i * 6 + vs.length)).toArray) := fun ty =>
    run_copy_row_k W1 22 22 ty 33 N (i * 6) (m + 1 - i) (G - i) ad 1 vc R0.toArray 33 vs 6 Try.underlying22 hsz hgN (by rw [hv, hmin2])
      (fun j v hj => (hBW.cell (by show (ad.add j).block < N; unfold Addr.add; split <;> exact halt)).trans (hvs j v hj))
      (by rw [hv]; simp only [List.size_toArray]; omega) h1v
  obtain ⟨R1, hR1⟩ : ∃ R1, R1 = R0.take (i * 6) ++ vs ++ R0.drop (i * 6 + vs.length) := ⟨_, rfl⟩
  rw [← hR1] at hcp1
  have hR1l : R1.length = G * 6 := by rw [hR1]; simp only [List.length_append, List.length_take, List.length_drop]; omega
  have hgN1 : (W1.setRow N R1.toArray).drew.heap[N]? = some (.cells R1.toArray 33 (0, 0)) := setRow_heap W1 N R0.toArray _ 33 (0, 0) hgN
  have hBW1 : Below N w (W1.setRow N R1.toArray).drew := by
    have := below_setRow hBW (Nat.le_refl N) R1.toArray
    exact below_drew this
  have hcp2 : ∀ ty sc, (Builtin.copy_ #[22, 22] ty #[.slice (some ⟨N, (i + 1) * 6, none⟩) (m - i) (G - (i + 1)), .slice (some ⟨g, i * 6, none⟩) (m - i) sc]).run Try.prog (W1.setRow N R1.toArray).drew = .ok (goInt (Nat.min (m - i) (m - i))) ((W1.setRow N R1.toArray).drew.setRow N (R1.take ((i + 1) * 6) ++ (L.drop (i * 6)).take ((m - i) * 6) ++ R1.drop ((i + 1) * 6 + ((L.drop (i * 6)).take ((m - i) * 6)).length)).toArray) := fun ty sc =>
    run_copy_row_k (W1.setRow N R1.toArray).drew 22 22 ty 33 N ((i + 1) * 6) (m - i) (G - (i + 1)) ⟨g, i * 6, none⟩ (m - i) sc R1.toArray 33 ((L.drop (i * 6)).take ((m - i) * 6)) 6 Try.underlying22 hsz hgN1 (by rw [hcl, hmin1])
      (fun j v hj => by
        rw [Addr.add_lit]
        have h2 : L[i * 6 + j]? = some v := by
          rw [List.getElem?_take] at hj
          split at hj
          · rwa [List.getElem?_drop] at hj
          · cases hj
        rw [hBW1.cell (p := ⟨g, i * 6 + j, none⟩) hglt]
        simp [World.cell?, hg, h2])
      (by rw [hcl]; simp only [List.size_toArray]; omega) (fun v hv => h1 v (List.mem_of_mem_drop (by rw [List.drop_take]; rwa [← Nat.sub_mul])))
  obtain ⟨R2, hR2⟩ : ∃ R2, R2 = R1.take ((i + 1) * 6) ++ (L.drop (i * 6)).take ((m - i) * 6) ++ R1.drop ((i + 1) * 6 + ((L.drop (i * 6)).take ((m - i) * 6)).length) := ⟨_, rfl⟩
  rw [← hR2] at hcp2
  have hR2l : R2.length = G * 6 := by rw [hR2]; simp only [List.length_append, List.length_take, List.length_drop]; omega
  have hR2t : R2.take ((m + 1) * 6) = L.take (i * 6) ++ vs ++ (L.drop (i * 6)).take ((m - i) * 6) := by
    have e1 : R1.take ((i + 1) * 6) = L.take (i * 6) ++ vs := by
      rw [hR1, hR0t, List.take_append_of_le_length (by simp only [List.length_append, List.length_take]; omega), List.take_of_length_le (by simp only [List.length_append, List.length_take]; omega)]
    rw [hR2, e1, List.take_append_of_le_length (by simp only [List.length_append, List.length_take, List.length_drop]; omega), List.take_of_length_le (by simp only [List.length_append, List.length_take, List.length_drop]; omega)]
  have hgN2 : ((W1.setRow N R1.toArray).drew.setRow N R2.toArray).heap[N]? = some (.cells R2.toArray 33 (0, 0)) := setRow_heap _ N R1.toArray _ 33 (0, 0) hgN1
  have hBW2 : Below N w ((W1.setRow N R1.toArray).drew.setRow N R2.toArray) := below_setRow hBW1 (Nat.le_refl N) R2.toArray
  have H0 := Aside0.mk hrz
  have H1 := Aside0.mk hcp1
  have H2 := Aside0.mk hcp2
  have FIN := Aside0.mk (show ((W1.setRow N R1.toArray).drew.setRow N R2.toArray).heap[N]? = some (.cells R2.toArray 33 (0, 0)) ∧ Below N w ((W1.setRow N R1.toArray).drew.setRow N R2.toArray) ∧ R2.length = G * 6 ∧ R2.take ((m + 1) * 6) = L.take (i * 6) ++ vs ++ (L.drop (i * 6)).take ((m - i) * 6) from ⟨hgN2, hBW2, hR2l, hR2t⟩)
  have HW := Aside0.mk hW1
  clear hrz hcp1 hcp2 hgN2 hBW2 hR2l hR2t hR2 hgN1 hBW1 hR1 hR1l hgN hBW hW1 hW1' hR0l hR0t hcl hmin1 hmin2 hg hL hvs hv hkk hik
  have hw1 : IntKind.i64.wrap ((m : Int) + 1) = (m : Int) + 1 := by rw [IntKind.wrap_i64]; unfold maxLen at hG63; omega
  have hw2 : IntKind.i64.wrap ((i : Int) + 1) = (i : Int) + 1 := by rw [IntKind.wrap_i64]; unfold maxLen at hG63; omega
  have hw3 : IntKind.i64.wrap ((m : Int) + 1 - (i : Int)) = (m : Int) + 1 - (i : Int) := by rw [IntKind.wrap_i64]; unfold maxLen at hG63; omega
  have hb1 : (0 : Int) ≤ (i : Int) + 1 := by omega
  have hz2 : ((i : Int) == (m : Int)) = false := by simp; omega
  have hz3 : decide ((m : Int) < (m : Int) + 1) = true := decide_eq_true (by omega)
  have hin : i ≤ m := by omega
  have hic : i ≤ G := by omega
  have him : i + 1 ≤ m + 1 := by omega
  have hb3 : (i : Int) ≤ (m : Int) + 1 := by omega
  have htn : ((i : Int) + 1).toNat = i + 1 := by omega
  have hb2 : ¬ (G = i + 1) := by omega
  have hb4 : ¬ (G = i) := by omega
  have hb5 : ¬ (m = i) := by omega
  go_enter Try.func30, Try.ntmps30
  go_wp2_with (first | ((with_reducible refine gate_builtin (b := .append) (xs := #[.tmp 34, .tmp 39]) rfl ?_); at_builtin; refine Lib.wpList_append_run _ rfl (.tmp 34) (.tmp 39) _ _ rfl _ _ rfl rfl _ _ (H0.out _) ?_; rw [← HW.out]) | ((with_reducible refine gate_builtin (b := .copy) (xs := #[.tmp 43, .tmp 44]) rfl ?_); refine wpList_copy_run _ rfl (.tmp 43) (.tmp 44) 22 22 rfl _ _ rfl rfl (H1.out _) ?_))
  go_region_law (refine step_copy_run rfl _ _ 22 22 rfl (.slice (some ⟨N, (i + 1) * 6, none⟩) (m - i) (G - (i + 1))) (.slice (some ⟨g, i * 6, none⟩) (m - i) (m - i)) (by simp [Act.eval, Act.put]) (by simp [Act.eval, Act.put]) (H2.out _ _) ?_)
  go_wp2
  go_ret
  exact ⟨G, R2, rfl, hGn, hG63, FIN.out.2.2.1, FIN.out.2.2.2, FIN.out.1, FIN.out.2.1⟩
def api_Row_30.f (l0 : List S33) (a1 : Int) (l2 : List S33) : Option (List S33) := if l2.length = 1 ∧ 0 ≤ a1 ∧ a1 ≤ l0.length ∧ (l0.length + 1) * 56 ≤ 140737488355328 then some (l0.take a1.toNat ++ (l2 ++ l0.drop a1.toNat)) else none
theorem api_Row_30_rep {w w' : World} {b b' : Nat} {ok ok' : Nat → Prop} {x : S33} {cs : List Value} (h : k33.M w b ok x cs) : k33.M w' b' ok' x cs := by
  rw [k33_openM h]
  exact k33_mkM _ _ _ _
set_option maxHeartbeats 4000000 in
set_option maxRecDepth 100000 in
theorem api_Row_30.calls (P0_ : Nat → Prop) (u9000_ : Value) (l0 : List S33) (a1 : Int) (A2 : Option Addr) (c2 : Nat) (l2 : List S33) (r : List S33) (w0 w : World) (hB : Below w0.heap.size w0 w) (ho0 : Kd.R k33 33 w w0.heap.size P0_ u9000_ l0) (hr2 : ∀ W_, Kept w W_ (fun k_ => P0_ k_) → Kd.C k33 W_ A2 l2.length l2) (hc2 : l2.length ≤ c2) (h : api_Row_30.f l0 a1 l2 = some r) :
    Calls Try.prog 30 #[u9000_, .int .i64 a1, .slice A2 l2.length c2] w fun e w' => ∃ v0_ : Value, e = .returned (v0_) ∧ Kd.R k33 33 w' w0.heap.size (fun k_ => (P0_ k_ ∨ w.heap.size ≤ k_)) v0_ r ∧ Below w0.heap.size w0 w' ∧ Kept w w' (fun k_ => P0_ k_) := by
  have hu33 := Try.underlying33
  unfold api_Row_30.f at h
  split at h
  case isFalse => cases h
  rename_i hh
  obtain ⟨hl2, h0, h1, hbig⟩ := hh
  obtain rfl := Option.some.inj h
  clear h
  obtain ⟨i, rfl⟩ := Int.eq_ofNat_of_zero_le h0
  rw [Int.toNat_natCast]
  have hi : i ≤ l0.length := by omega
  have hC := hr2 w (Kept.refl _ _)
  obtain ⟨ad, vs, hA, hvl, hvk, hvc⟩ := Kd.C_get hC z33 0 (by omega) (by omega)
  subst hA
  have hvl6 : vs.length = 6 := hvl
  have hvs : ∀ j u, vs[j]? = some u → w.cell? (ad.add j) = some u := fun j u hj => by simpa using hvc j u hj
  obtain ⟨hok, inner, hown, hrep⟩ := ho0
  have hinl : inner.length = l0.length * 6 := hown.1
  have hl63 : l0.length ≤ 140737488355328 := by omega
  by_cases he : i = l0.length
  · subst he
    have hrr : Kd.R k33 33 w w0.heap.size P0_ u9000_ l0 := ⟨hok, inner, hown, hrep⟩
    have HO := Aside0.mk (Kd.R_mono (ok' := fun k_ => (P0_ k_ ∨ w.heap.size ≤ k_)) hrr (fun _ hk => .inl hk))
    have HC := Aside0.mk hC
    have HBB := Aside0.mk hB
    have HOK := Aside0.mk hok
    have HL := Aside0.mk (show (l0.length + l2.length) * 56 ≤ 140737488355328 by rw [hl2]; exact hbig)
    have hvv : u9000_ = .slice none 0 0 ∧ l0.length = 0 ∨ ∃ g cap, u9000_ = .slice (some ⟨g, 0, none⟩) l0.length cap ∧ l0.length ≤ cap := by
      rcases hown.2 with h | ⟨g, cap, cur, h, _, _, h3, _⟩
      · exact .inl h
      · exact .inr ⟨g, cap, h, h3⟩
    have hz1 : ((l2.length : Int) == 0) = false := by rw [hl2]; rfl
    have E : l0.take l0.length ++ (l2 ++ l0.drop l0.length) = l0 ++ l2 := by simp
    rw [E]
    clear E hr2 hC hvc hvs hvk hvl hvl6 hrep hown hinl hrr hB hok
    rcases hvv with ⟨rfl, hz⟩ | ⟨g, cap, rfl, hnc⟩
    · rw [hz]
      have HZ := Aside0.mk hz
      clear hz
      go_enter Try.func30, Try.ntmps30
      go_wp2_with ((with_reducible refine gate_builtin (b := .append) (xs := #[.tmp 23, .tmp 24]) rfl ?_); at_builtin; refine Kd.R_append_rows k33 (w0 := w0) w0.heap.size rfl (.tmp 23) (.tmp 24) 22 33 (Value.agg #[(.string ⟨#[]⟩), (.int .i64 0), (.int .i64 0), (.int .i64 0), (.int .i64 0), (.int .i64 0)]) 56 rfl Try.underlying22 info33 rfl (by decide) (by omega) (.slice none 0 0) l0 l2 _ _ _ (fun k_ => (P0_ k_ ∨ w.heap.size ≤ k_)) (fun _ => False) rfl rfl ?aO ?aR (fun _ _ h => h) (fun _ h => h.elim) ?aF ?aB ?aS ?aL ?_; (case aO => exact HO.out); (case aR => exact HC.out); (case aF => exact fun _ h => .inr h); (case aB => exact HBB.out); (case aS => exact HBB.out.size); (case aL => exact HL.out); intro v2 w2 ho2 hb2 hg2 _; have HO2 := Aside0.mk ho2; have HB2 := Aside0.mk hb2; have HG2 := Aside0.mk hg2; clear ho2 hb2 hg2)
      go_ret
      exact ⟨_, rfl, HO2.out, HB2.out, Kept.of_grown HG2.out (Kept.refl _ _) (fun k hk => by simp [Value.ownBlock] at hk)⟩
    · by_cases hcn : cap = l0.length
      all_goals
        go_enter Try.func30, Try.ntmps30
        go_wp2_with ((with_reducible refine gate_builtin (b := .append) (xs := #[.tmp 23, .tmp 24]) rfl ?_); at_builtin; refine Kd.R_append_rows k33 (w0 := w0) w0.heap.size rfl (.tmp 23) (.tmp 24) 22 33 (Value.agg #[(.string ⟨#[]⟩), (.int .i64 0), (.int .i64 0), (.int .i64 0), (.int .i64 0), (.int .i64 0)]) 56 rfl Try.underlying22 info33 rfl (by decide) (by omega) (.slice (some ⟨g, 0, none⟩) l0.length cap) l0 l2 _ _ _ (fun k_ => (P0_ k_ ∨ w.heap.size ≤ k_)) (fun _ => False) rfl rfl ?aO ?aR (fun _ _ h => h) (fun _ h => h.elim) ?aF ?aB ?aS ?aL ?_; (case aO => exact HO.out); (case aR => exact HC.out); (case aF => exact fun _ h => .inr h); (case aB => exact HBB.out); (case aS => exact HBB.out.size); (case aL => exact HL.out); intro v2 w2 ho2 hb2 hg2 _; have HO2 := Aside0.mk ho2; have HB2 := Aside0.mk hb2; have HG2 := Aside0.mk hg2; clear ho2 hb2 hg2)
        go_ret
        exact ⟨_, rfl, HO2.out, HB2.out, Kept.of_grown HG2.out (Kept.refl _ _) (fun k hk => .inl (HOK.out k hk))⟩
  · have hil : i < l0.length := by omega
    rcases hown.2 with ⟨_, hz⟩ | ⟨g, cap, cur, rfl, hgb, hg, hnc, hcm, hcs, hct⟩
    · omega
    replace hcs : cur.size = cap * 6 := hcs
    replace hct : cur.toList.take (l0.length * 6) = inner := hct
    have hPg : P0_ g := hok g (by simp [Value.ownBlock])
    have hglt : g < w.heap.size := (Array.getElem?_eq_some_iff.1 hg).1
    have hne : ad.block ≠ g := by
      intro e
      have hk : Kept w (w.setRow g #[]) (fun k_ => P0_ k_) := ⟨by simp [World.setRow], fun j hj hn => setRow_other w g j #[] (fun e2 => hn (by rw [e2]; exact hPg))⟩
      obtain ⟨ad', c', ha', hl', _, hc'⟩ := Kd.C_get (hr2 _ hk) z33 0 (by omega) (by omega)
      cases ha'
      have h3 := hc' 0 (c'[0]'(by rw [hl']; decide)) (List.getElem?_eq_getElem _)
      have h4 : (w.setRow g #[]).heap[ad.block]? = some (.cells #[] 33 (0, 0)) := by rw [e]; exact setRow_heap w g cur #[] 33 (0, 0) hg
      have h5 : (ad.add (Int.toNat 0 * (Kd.sz k33) + 0)) = ad := by rfl
      rw [h5] at h3
      simp [World.cell?, h4] at h3
    have hg' : w.heap[g]? = some (.cells cur.toList.toArray 33 (0, 0)) := by simpa using hg
    have hL : cur.toList.length = cap * 6 := by simpa using hcs
    have hone : ∀ v ∈ cur.toList.take (l0.length * 6), v.oneCell' = true := by
      rw [hct]
      exact reps_cells_one hrep (by decide) (fun p c hp => k33.K_one (k33.K_of_M hp))
    have hone1 : ∀ v ∈ vs, v.oneCell' = true := k33.K_one hvk
    have ht1 : cur.toList.take (i * 6) = inner.take (i * 6) := by
      rw [← hct, List.take_take, Nat.min_eq_left (Nat.mul_le_mul_right _ (by omega))]
    have ht2 : (cur.toList.drop (i * 6)).take ((l0.length - i) * 6) = inner.drop (i * 6) := by
      rw [← hct, List.drop_take]
      congr 1
      show _ = l0.length * 6 - i * 6
      rw [Nat.sub_mul]
    have hl1 : l2 = [l2.getD (Int.toNat 0) z33] := by
      match l2, hl2 with
      | [x], _ => rfl
    have hrepf : ∀ W b ok, Reps (k33.M W b ok) (Kd.sz k33) (l0.take i ++ (l2 ++ l0.drop i)) (inner.take (i * 6) ++ vs ++ inner.drop (i * 6)) := by
      intro W b ok
      have r1 : Reps (k33.M W b ok) (Kd.sz k33) (l0.take i) (inner.take (i * 6)) := (Kd.reps_take hrep hi).imp_ (fun _ _ h => api_Row_30_rep h)
      have r3 : Reps (k33.M W b ok) (Kd.sz k33) (l0.drop i) (inner.drop (i * 6)) := (Kd.reps_drop hrep).imp_ (fun _ _ h => api_Row_30_rep h)
      have r2 : Reps (k33.M W b ok) (Kd.sz k33) l2 vs := by
        rw [hl1]
        have := Reps.snoc (Reps.none (k33.M W b ok) (Kd.sz k33)) (p := l2.getD (Int.toNat 0) z33) (c := vs) (by rw [k33_open hvk]; exact k33_mkM _ _ _ _) hvl
        simpa using this
      rw [List.append_assoc]
      exact Kd.reps_append r1 (Kd.reps_append r2 r3)
    have hfl : (inner.take (i * 6) ++ vs ++ inner.drop (i * 6)).length = (l0.length + 1) * 6 := by
      simp only [List.length_append, List.length_take, List.length_drop, hvl6, hinl]
      omega
    have hrl : (l0.take i ++ (l2 ++ l0.drop i)).length = l0.length + 1 := by
      simp only [List.length_append, List.length_take, List.length_drop, hl2]
      omega
    by_cases hroom : l0.length + 1 ≤ cap
    · rw [hl2]
      refine (api_Row_30_shift g l0.length cap i c2 cur.toList vs ad w hil hroom (by unfold maxLen at hcm; exact hcm) hg' hL hvl6 hvs hne hone hone1).mono ?_
      rintro e w' ⟨rfl, q, rfl⟩
      rw [ht1, ht2]
      refine ⟨_, rfl, ⟨fun k hk => ?_, inner.take (i * 6) ++ vs ++ inner.drop (i * 6), ⟨by rw [hrl]; exact hfl, .inr ⟨g, cap, (inner.take (i * 6) ++ vs ++ inner.drop (i * 6) ++ cur.toList.drop ((l0.length + 1) * 6)).toArray, by rw [hrl], hgb, setRow_heap (w.drewN q) g cur _ 33 (0, 0) hg, by rw [hrl]; exact hroom, hcm, ?_, ?_⟩⟩, hrepf _ _ _⟩, below_setRow (pw_below_drewN hB q) hgb _, ?_⟩
      · have : g = k := by simpa [Value.ownBlock] using hk
        subst this
        exact .inl hPg
      · simp only [List.size_toArray, List.length_append, List.length_drop, List.length_take, hvl6, hinl, hL]
        show _ = cap * 6
        omega
      · show List.take ((l0.take i ++ (l2 ++ l0.drop i)).length * 6) (inner.take (i * 6) ++ vs ++ inner.drop (i * 6) ++ cur.toList.drop ((l0.length + 1) * 6)) = _
        rw [hrl, ← hfl]
        exact List.take_left
      · exact ⟨by simp [World.setRow], fun j hj hn => (setRow_other _ g j _ (fun e2 => hn (by rw [e2]; exact hPg)))⟩
    · have hcl : cap = l0.length := by omega
      subst hcl
      rw [hl2]
      refine (api_Row_30_grow g l0.length i c2 cur.toList vs ad w hil hbig hg' hL hvl6 hvs hone hone1).mono ?_
      rintro e w' ⟨cap', R, rfl, hc1, hc2', hRl, hRt, hgN, hbN⟩
      rw [ht1, ht2] at hRt
      refine ⟨_, rfl, ⟨fun k hk => ?_, inner.take (i * 6) ++ vs ++ inner.drop (i * 6), ⟨by rw [hrl]; exact hfl, .inr ⟨w.heap.size, cap', R.toArray, by rw [hrl], hB.size, hgN, by rw [hrl]; exact hc1, hc2', (show R.toArray.size = cap' * 6 by simpa using hRl), ?_⟩⟩, hrepf _ _ _⟩, below_then hB hB.size hbN, Kept.of_below hbN _⟩
      · have : w.heap.size = k := by simpa [Value.ownBlock] using hk
        subst this
        exact .inr (Nat.le_refl _)
      · show List.take (_ * 6) _ = _
        rw [hrl]
        simpa using hRt

/-! ### stock_Receive: function 15 -/
def stock_Receive.j0 : Nat → List (S33) → ByteArray → Int → Bool → Option ((List (S33)) × Int)
  | 0, _, _, _, _ => none
  | k + 1, x0, x1, x2, x22 => if x22 = true then (some (([] : List (S33)), 1)) else ((stock_at.f x0 x1).bind fun bt137 => ((api_Row_29.f x0).bind fun t139 => (if bt137.2 = true then (if 0 ≤ bt137.1 then (if bt137.1 < (t139.length : Int) then (if ((rd_T33 t139 bt137.1).f1) > (wrap64 (1073741824 - x2)) then (some (([] : List (S33)), 2)) else ((some (t139.set (bt137.1 : Int).toNat (⟨(rd_T33 t139 bt137.1).f0, wrap64 (((rd_T33 t139 bt137.1).f1) + x2), (rd_T33 t139 bt137.1).f2, (rd_T33 t139 bt137.1).f3, (rd_T33 t139 bt137.1).f4, (rd_T33 t139 bt137.1).f5⟩ : S33) : List (S33))).bind fun y144 => (some ((y144.set (bt137.1 : Int).toNat (⟨(rd_T33 y144 bt137.1).f0, (rd_T33 y144 bt137.1).f1, wrap64 (((rd_T33 y144 bt137.1).f2) + x2), (rd_T33 y144 bt137.1).f3, (rd_T33 y144 bt137.1).f4, (rd_T33 y144 bt137.1).f5⟩ : S33)), 0)))) else (none)) else (none)) else (if (t139.length : Int) = 8 then (some (([] : List (S33)), 7)) else ((api_Row_30.f t139 bt137.1 (([(⟨x1, 0, 0, 0, 0, 0⟩ : S33)] : List (S33)))).bind fun t150 => (if 0 ≤ bt137.1 then (if bt137.1 < (t150.length : Int) then (if ((rd_T33 t150 bt137.1).f1) > (wrap64 (1073741824 - x2)) then (some (([] : List (S33)), 2)) else ((some (t150.set (bt137.1 : Int).toNat (⟨(rd_T33 t150 bt137.1).f0, wrap64 (((rd_T33 t150 bt137.1).f1) + x2), (rd_T33 t150 bt137.1).f2, (rd_T33 t150 bt137.1).f3, (rd_T33 t150 bt137.1).f4, (rd_T33 t150 bt137.1).f5⟩ : S33) : List (S33))).bind fun y155 => (some ((y155.set (bt137.1 : Int).toNat (⟨(rd_T33 y155 bt137.1).f0, (rd_T33 y155 bt137.1).f1, wrap64 (((rd_T33 y155 bt137.1).f2) + x2), (rd_T33 y155 bt137.1).f3, (rd_T33 y155 bt137.1).f4, (rd_T33 y155 bt137.1).f5⟩ : S33)), 0)))) else (none)) else (none)))))))
def stock_Receive.f (k : Nat) (l0 : List (S33)) (a1 : ByteArray) (a2 : Int) : Option ((List (S33)) × Int) := (stock_Right.f l0).bind fun t134 => (if t134 = true then ((stock_units.f a2).bind fun t135 => (if t135 = true then ((stock_name.f a1).bind fun t136 => (stock_Receive.j0 k l0 a1 a2 (!t136))) else (stock_Receive.j0 k l0 a1 a2 true))) else (stock_Receive.j0 k l0 a1 a2 true))
theorem stock_Receive.mono_l : ∀ k, (∀ y0 y1 y2 y3, LeO (stock_Receive.j0 k y0 y1 y2 y3) (stock_Receive.j0 (k + 1) y0 y1 y2 y3))
  | 0 => fun _ _ _ _ r h => by simp [stock_Receive.j0] at h
  | k + 1 => by
    have ih0 := stock_Receive.mono_l k
    · intro y0 y1 y2 y3
      unfold stock_Receive.j0
      repeat' first
      | (with_reducible exact ih0 _ _ _ _)
      | (with_reducible exact LeO.refl _)
      | (with_reducible exact LeO.none _)
      | (with_reducible refine LeO.ite ?_ ?_)
      | (with_reducible refine LeO.bind ?_ (fun _ => ?_))
      | exact ih0 _ _ _ _
      | exact LeO.none _
      | refine LeO.ite ?_ ?_
      | refine LeO.bind ?_ (fun _ => ?_)
theorem stock_Receive.mono : ∀ a0 a1 a2 k, LeO (stock_Receive.f k a0 a1 a2) (stock_Receive.f (k + 1) a0 a1 a2) := by
  intro a0 a1 a2 k
  have ih0 := stock_Receive.mono_l k
  unfold stock_Receive.f
  repeat' first
      | (with_reducible exact ih0 _ _ _ _)
      | (with_reducible exact LeO.refl _)
      | (with_reducible exact LeO.none _)
      | (with_reducible refine LeO.ite ?_ ?_)
      | (with_reducible refine LeO.bind ?_ (fun _ => ?_))
      | exact ih0 _ _ _ _
      | exact LeO.none _
      | refine LeO.ite ?_ ?_
      | refine LeO.bind ?_ (fun _ => ?_)
set_option maxHeartbeats 8000000 in
set_option maxRecDepth 100000 in
theorem stock_Receive.calls (k : Nat) (A0 : Option Addr) (c0 : Nat) (l0 : List (S33)) (a1 : ByteArray) (a2 : Int) (r1 : List (S33)) (r2 : Int) (w : World) (hr0 : Kd.C k33 w A0 l0.length l0) (hc0 : l0.length ≤ c0) (h : stock_Receive.f k l0 a1 a2 = some (r1, r2)) :
    Calls Try.prog 15 #[.slice A0 l0.length c0, .string a1, .int .i64 a2] w fun e w' => ∃ v0_ : Value, e = .returned (.tuple #[v0_, .int .i64 r2]) ∧ Kd.R k33 33 w' w.heap.size (fun _ => True) v0_ r1 ∧ Below w.heap.size w w' := by
  have hu33 := Try.underlying33
  have HR0 := Aside0.mk hr0
  have HC0 := Aside0.mk hc0
  clear hr0 hc0
  have HB := Aside0.mk (Below.refl w.heap.size w)
  have H : ((stock_Right.f l0).bind fun t134 => (if t134 = true then ((stock_units.f a2).bind fun t135 => (if t135 = true then ((stock_name.f a1).bind fun t136 => (stock_Receive.j0 k l0 a1 a2 (!t136))) else (stock_Receive.j0 k l0 a1 a2 true))) else (stock_Receive.j0 k l0 a1 a2 true))) = some (r1, r2) := h
  clear h
  have HC4 := Aside0.mk H
  clear H
  go_enter Try.func15, Try.ntmps15
  go_upto_region 1 with (fail)
  go_cut [22] (fun v22 wc => ∃ (kq : Nat) (x22_3 : Bool), v22 = .bool x22_3 ∧ Aside0 (stock_Receive.j0 kq l0 a1 a2 x22_3 = some (r1, r2)) ∧ Aside0 (kq ≤ k) ∧ Aside0 (Below w.heap.size w wc))
  case first =>
    have H := HC4.out
    clear HC4
    replace H := Option.bind_eq_some_iff.mp H
    obtain ⟨t134, A50, H⟩ := H
    replace H : (if t134 = true then ((stock_units.f a2).bind fun t135 => (if t135 = true then ((stock_name.f a1).bind fun t136 => (stock_Receive.j0 k l0 a1 a2 (!t136))) else (stock_Receive.j0 k l0 a1 a2 true))) else (stock_Receive.j0 k l0 a1 a2 true)) = some (r1, r2) := H
    have A5 := Aside0.mk A50
    clear A50
    by_cases c6 : t134 = true
    · subst c6
      have H1 : ((stock_units.f a2).bind fun t135 => (if t135 = true then ((stock_name.f a1).bind fun t136 => (stock_Receive.j0 k l0 a1 a2 (!t136))) else (stock_Receive.j0 k l0 a1 a2 true))) = some (r1, r2) := by rw [if_pos rfl] at H; exact H
      clear H
      have H := H1
      clear H1
      replace H := Option.bind_eq_some_iff.mp H
      obtain ⟨t135, A70, H⟩ := H
      replace H : (if t135 = true then ((stock_name.f a1).bind fun t136 => (stock_Receive.j0 k l0 a1 a2 (!t136))) else (stock_Receive.j0 k l0 a1 a2 true)) = some (r1, r2) := H
      have A7 := Aside0.mk A70
      clear A70
      by_cases c8 : t135 = true
      · subst c8
        have H1 : ((stock_name.f a1).bind fun t136 => (stock_Receive.j0 k l0 a1 a2 (!t136))) = some (r1, r2) := by rw [if_pos rfl] at H; exact H
        clear H
        have H := H1
        clear H1
        replace H := Option.bind_eq_some_iff.mp H
        obtain ⟨t136, A90, H⟩ := H
        replace H : (stock_Receive.j0 k l0 a1 a2 (!t136)) = some (r1, r2) := H
        have A9 := Aside0.mk A90
        clear A90
        have H' := Aside0.mk H
        clear H
        go_wp2_with (first | ((with_reducible refine gate_callee (f := 10) rfl ?_); refine goesL_ (some 11) rfl rfl Try.func10 (by kernel_rfl) rfl #[.slice A0 l0.length c0] rfl (by (try simp only [List.map_toArray, List.map_cons, List.map_nil]); first | done | rfl | (simp only [List.length_drop, List.length_take]; rfl)) ?_; (with_reducible refine (stock_Right.calls _ _ l0 true _ ?side1 ?side2 A5.out).mono ?_); (case side1 => repeat (first | exact (Kd.C_below HR0.out HB.out) | (with_reducible refine Kd.C_alloc ?_ _) | (with_reducible refine Kd.C_drewN ?_ _) | (with_reducible refine Kd.C_drew ?_))); (case side2 => exact HC0.out); rintro e w10 ⟨rfl, hb⟩; refine ⟨_, rfl, ?_⟩; have n0_ := Aside0.mk (below_step (by repeat (first | (with_reducible first | exact HB.out | apply below_alloc | apply pw_below_drewN | apply below_drew1) | exact HB.out)) hb); clear HB; have HB := n0_; clear n0_; (try clear hb); (try clear hb2); (try clear hk); (try clear hi)) | (go_at_call 27; (with_reducible refine (stock_units.calls a2 true _ A7.out).mono ?_); rintro e w' ⟨rfl, ⟨nd, rfl⟩⟩) | (go_at_call 28; (with_reducible refine (stock_name.calls a1 t136 _ A9.out).mono ?_); rintro e w11 ⟨rfl, hb⟩; have n0_ := Aside0.mk (below_step (by repeat (first | (with_reducible first | exact HB.out | apply below_alloc | apply pw_below_drewN | apply below_drew1) | exact HB.out)) hb); clear HB; have HB := n0_; clear n0_; (try clear hb); (try clear hb2); (try clear hk); (try clear hi)))
        go_meet
        case rel => exact ⟨_, (!t136), (by first | rfl | (simp; done) | (simp [*]; done)), H', ⟨by first | omega | exact Nat.le_refl _⟩, ⟨by repeat (first | (with_reducible first | exact HB.out | apply below_alloc | apply pw_below_drewN | apply below_drew1) | exact HB.out)⟩⟩
      · replace c8 := Bool.eq_false_iff.mpr c8
        subst c8
        have H1 : (stock_Receive.j0 k l0 a1 a2 true) = some (r1, r2) := by rw [if_neg (show ¬ (false = true) by decide)] at H; exact H
        clear H
        have H := H1
        clear H1
        have H' := Aside0.mk H
        clear H
        go_wp2_with (first | ((with_reducible refine gate_callee (f := 10) rfl ?_); refine goesL_ (some 11) rfl rfl Try.func10 (by kernel_rfl) rfl #[.slice A0 l0.length c0] rfl (by (try simp only [List.map_toArray, List.map_cons, List.map_nil]); first | done | rfl | (simp only [List.length_drop, List.length_take]; rfl)) ?_; (with_reducible refine (stock_Right.calls _ _ l0 true _ ?side1 ?side2 A5.out).mono ?_); (case side1 => repeat (first | exact (Kd.C_below HR0.out HB.out) | (with_reducible refine Kd.C_alloc ?_ _) | (with_reducible refine Kd.C_drewN ?_ _) | (with_reducible refine Kd.C_drew ?_))); (case side2 => exact HC0.out); rintro e w12 ⟨rfl, hb⟩; refine ⟨_, rfl, ?_⟩; have n0_ := Aside0.mk (below_step (by repeat (first | (with_reducible first | exact HB.out | apply below_alloc | apply pw_below_drewN | apply below_drew1) | exact HB.out)) hb); clear HB; have HB := n0_; clear n0_; (try clear hb); (try clear hb2); (try clear hk); (try clear hi)) | (go_at_call 27; (with_reducible refine (stock_units.calls a2 false _ A7.out).mono ?_); rintro e w' ⟨rfl, ⟨nd, rfl⟩⟩))
        go_meet
        case rel => exact ⟨_, (true), (by first | rfl | (simp; done) | (simp [*]; done)), H', ⟨by first | omega | exact Nat.le_refl _⟩, ⟨by repeat (first | (with_reducible first | exact HB.out | apply below_alloc | apply pw_below_drewN | apply below_drew1) | exact HB.out)⟩⟩
    · replace c6 := Bool.eq_false_iff.mpr c6
      subst c6
      have H1 : (stock_Receive.j0 k l0 a1 a2 true) = some (r1, r2) := by rw [if_neg (show ¬ (false = true) by decide)] at H; exact H
      clear H
      have H := H1
      clear H1
      have H' := Aside0.mk H
      clear H
      go_wp2_with (first | ((with_reducible refine gate_callee (f := 10) rfl ?_); refine goesL_ (some 11) rfl rfl Try.func10 (by kernel_rfl) rfl #[.slice A0 l0.length c0] rfl (by (try simp only [List.map_toArray, List.map_cons, List.map_nil]); first | done | rfl | (simp only [List.length_drop, List.length_take]; rfl)) ?_; (with_reducible refine (stock_Right.calls _ _ l0 false _ ?side1 ?side2 A5.out).mono ?_); (case side1 => repeat (first | exact (Kd.C_below HR0.out HB.out) | (with_reducible refine Kd.C_alloc ?_ _) | (with_reducible refine Kd.C_drewN ?_ _) | (with_reducible refine Kd.C_drew ?_))); (case side2 => exact HC0.out); rintro e w13 ⟨rfl, hb⟩; refine ⟨_, rfl, ?_⟩; have n0_ := Aside0.mk (below_step (by repeat (first | (with_reducible first | exact HB.out | apply below_alloc | apply pw_below_drewN | apply below_drew1) | exact HB.out)) hb); clear HB; have HB := n0_; clear n0_; (try clear hb); (try clear hb2); (try clear hk); (try clear hi)))
      go_meet
      case rel => exact ⟨_, (true), (by first | rfl | (simp; done) | (simp [*]; done)), H', ⟨by first | omega | exact Nat.le_refl _⟩, ⟨by repeat (first | (with_reducible first | exact HB.out | apply below_alloc | apply pw_below_drewN | apply below_drew1) | exact HB.out)⟩⟩
  case rest =>
    clear HC4
    try clear c1
    try clear p2
    try clear c6
    try clear c8
    try clear c10
    obtain ⟨kq, x22_3, rfl, HA, HJ3, HB⟩ := hcut
    cases kq with
    | zero => exact absurd HA.out (by simp [stock_Receive.j0])
    | succ kj3 =>
      have H := HA.out
      clear HA
      simp only [stock_Receive.j0] at H
      by_cases c14 : x22_3 = true
      · subst c14
        have H1 : (some (([] : List (S33)), 1)) = some (r1, r2) := by rw [if_pos rfl] at H; exact H
        clear H
        have H := H1
        clear H1
        simp only [Option.some.injEq, Prod.mk.injEq] at H
        obtain ⟨rfl, rfl⟩ := H
        go_wp2
        go_ret2
        exact ⟨_, by first | rfl | (simp [errW_none, errW_some] <;> rfl) | (simp [*, errW_none, errW_some] <;> rfl), by first | exact Kd.R_nil _ _ _ _ _ | exact Kd.N_nil _ _ _ _ _ | exact Kd.V_nil _ _ _ _ _ | exact Kd.Q_nil _ _ _ _ _ | exact Kd.S_nil _ _ _ _ _, by repeat (first | (with_reducible first | exact HB.out | apply below_alloc | apply pw_below_drewN | apply below_drew1) | exact HB.out)⟩
      · replace c14 := Bool.eq_false_iff.mpr c14
        subst c14
        have H1 : ((stock_at.f l0 a1).bind fun bt137 => ((api_Row_29.f l0).bind fun t139 => (if bt137.2 = true then (if 0 ≤ bt137.1 then (if bt137.1 < (t139.length : Int) then (if ((rd_T33 t139 bt137.1).f1) > (wrap64 (1073741824 - a2)) then (some (([] : List (S33)), 2)) else ((some (t139.set (bt137.1 : Int).toNat (⟨(rd_T33 t139 bt137.1).f0, wrap64 (((rd_T33 t139 bt137.1).f1) + a2), (rd_T33 t139 bt137.1).f2, (rd_T33 t139 bt137.1).f3, (rd_T33 t139 bt137.1).f4, (rd_T33 t139 bt137.1).f5⟩ : S33) : List (S33))).bind fun y144 => (some ((y144.set (bt137.1 : Int).toNat (⟨(rd_T33 y144 bt137.1).f0, (rd_T33 y144 bt137.1).f1, wrap64 (((rd_T33 y144 bt137.1).f2) + a2), (rd_T33 y144 bt137.1).f3, (rd_T33 y144 bt137.1).f4, (rd_T33 y144 bt137.1).f5⟩ : S33)), 0)))) else (none)) else (none)) else (if (t139.length : Int) = 8 then (some (([] : List (S33)), 7)) else ((api_Row_30.f t139 bt137.1 (([(⟨a1, 0, 0, 0, 0, 0⟩ : S33)] : List (S33)))).bind fun t150 => (if 0 ≤ bt137.1 then (if bt137.1 < (t150.length : Int) then (if ((rd_T33 t150 bt137.1).f1) > (wrap64 (1073741824 - a2)) then (some (([] : List (S33)), 2)) else ((some (t150.set (bt137.1 : Int).toNat (⟨(rd_T33 t150 bt137.1).f0, wrap64 (((rd_T33 t150 bt137.1).f1) + a2), (rd_T33 t150 bt137.1).f2, (rd_T33 t150 bt137.1).f3, (rd_T33 t150 bt137.1).f4, (rd_T33 t150 bt137.1).f5⟩ : S33) : List (S33))).bind fun y155 => (some ((y155.set (bt137.1 : Int).toNat (⟨(rd_T33 y155 bt137.1).f0, (rd_T33 y155 bt137.1).f1, wrap64 (((rd_T33 y155 bt137.1).f2) + a2), (rd_T33 y155 bt137.1).f3, (rd_T33 y155 bt137.1).f4, (rd_T33 y155 bt137.1).f5⟩ : S33)), 0)))) else (none)) else (none))))))) = some (r1, r2) := by rw [if_neg (show ¬ (false = true) by decide)] at H; exact H
        clear H
        have H := H1
        clear H1
        replace H := Option.bind_eq_some_iff.mp H
        obtain ⟨⟨t137, t138⟩, A150, H⟩ := H
        replace H : ((api_Row_29.f l0).bind fun t139 => (if t138 = true then (if 0 ≤ t137 then (if t137 < (t139.length : Int) then (if ((rd_T33 t139 t137).f1) > (wrap64 (1073741824 - a2)) then (some (([] : List (S33)), 2)) else ((some (t139.set (t137 : Int).toNat (⟨(rd_T33 t139 t137).f0, wrap64 (((rd_T33 t139 t137).f1) + a2), (rd_T33 t139 t137).f2, (rd_T33 t139 t137).f3, (rd_T33 t139 t137).f4, (rd_T33 t139 t137).f5⟩ : S33) : List (S33))).bind fun y144 => (some ((y144.set (t137 : Int).toNat (⟨(rd_T33 y144 t137).f0, (rd_T33 y144 t137).f1, wrap64 (((rd_T33 y144 t137).f2) + a2), (rd_T33 y144 t137).f3, (rd_T33 y144 t137).f4, (rd_T33 y144 t137).f5⟩ : S33)), 0)))) else (none)) else (none)) else (if (t139.length : Int) = 8 then (some (([] : List (S33)), 7)) else ((api_Row_30.f t139 t137 (([(⟨a1, 0, 0, 0, 0, 0⟩ : S33)] : List (S33)))).bind fun t150 => (if 0 ≤ t137 then (if t137 < (t150.length : Int) then (if ((rd_T33 t150 t137).f1) > (wrap64 (1073741824 - a2)) then (some (([] : List (S33)), 2)) else ((some (t150.set (t137 : Int).toNat (⟨(rd_T33 t150 t137).f0, wrap64 (((rd_T33 t150 t137).f1) + a2), (rd_T33 t150 t137).f2, (rd_T33 t150 t137).f3, (rd_T33 t150 t137).f4, (rd_T33 t150 t137).f5⟩ : S33) : List (S33))).bind fun y155 => (some ((y155.set (t137 : Int).toNat (⟨(rd_T33 y155 t137).f0, (rd_T33 y155 t137).f1, wrap64 (((rd_T33 y155 t137).f2) + a2), (rd_T33 y155 t137).f3, (rd_T33 y155 t137).f4, (rd_T33 y155 t137).f5⟩ : S33)), 0)))) else (none)) else (none)))))) = some (r1, r2) := H
        have A15 := Aside0.mk A150
        clear A150
        replace H := Option.bind_eq_some_iff.mp H
        obtain ⟨t139, A160, H⟩ := H
        replace H : (if t138 = true then (if 0 ≤ t137 then (if t137 < (t139.length : Int) then (if ((rd_T33 t139 t137).f1) > (wrap64 (1073741824 - a2)) then (some (([] : List (S33)), 2)) else ((some (t139.set (t137 : Int).toNat (⟨(rd_T33 t139 t137).f0, wrap64 (((rd_T33 t139 t137).f1) + a2), (rd_T33 t139 t137).f2, (rd_T33 t139 t137).f3, (rd_T33 t139 t137).f4, (rd_T33 t139 t137).f5⟩ : S33) : List (S33))).bind fun y144 => (some ((y144.set (t137 : Int).toNat (⟨(rd_T33 y144 t137).f0, (rd_T33 y144 t137).f1, wrap64 (((rd_T33 y144 t137).f2) + a2), (rd_T33 y144 t137).f3, (rd_T33 y144 t137).f4, (rd_T33 y144 t137).f5⟩ : S33)), 0)))) else (none)) else (none)) else (if (t139.length : Int) = 8 then (some (([] : List (S33)), 7)) else ((api_Row_30.f t139 t137 (([(⟨a1, 0, 0, 0, 0, 0⟩ : S33)] : List (S33)))).bind fun t150 => (if 0 ≤ t137 then (if t137 < (t150.length : Int) then (if ((rd_T33 t150 t137).f1) > (wrap64 (1073741824 - a2)) then (some (([] : List (S33)), 2)) else ((some (t150.set (t137 : Int).toNat (⟨(rd_T33 t150 t137).f0, wrap64 (((rd_T33 t150 t137).f1) + a2), (rd_T33 t150 t137).f2, (rd_T33 t150 t137).f3, (rd_T33 t150 t137).f4, (rd_T33 t150 t137).f5⟩ : S33) : List (S33))).bind fun y155 => (some ((y155.set (t137 : Int).toNat (⟨(rd_T33 y155 t137).f0, (rd_T33 y155 t137).f1, wrap64 (((rd_T33 y155 t137).f2) + a2), (rd_T33 y155 t137).f3, (rd_T33 y155 t137).f4, (rd_T33 y155 t137).f5⟩ : S33)), 0)))) else (none)) else (none))))) = some (r1, r2) := H
        have A16 := Aside0.mk A160
        clear A160
        by_cases c17 : t138 = true
        · subst c17
          have H1 : (if 0 ≤ t137 then (if t137 < (t139.length : Int) then (if ((rd_T33 t139 t137).f1) > (wrap64 (1073741824 - a2)) then (some (([] : List (S33)), 2)) else ((some (t139.set (t137 : Int).toNat (⟨(rd_T33 t139 t137).f0, wrap64 (((rd_T33 t139 t137).f1) + a2), (rd_T33 t139 t137).f2, (rd_T33 t139 t137).f3, (rd_T33 t139 t137).f4, (rd_T33 t139 t137).f5⟩ : S33) : List (S33))).bind fun y144 => (some ((y144.set (t137 : Int).toNat (⟨(rd_T33 y144 t137).f0, (rd_T33 y144 t137).f1, wrap64 (((rd_T33 y144 t137).f2) + a2), (rd_T33 y144 t137).f3, (rd_T33 y144 t137).f4, (rd_T33 y144 t137).f5⟩ : S33)), 0)))) else (none)) else (none)) = some (r1, r2) := by rw [if_pos rfl] at H; exact H
          clear H
          have H := H1
          clear H1
          by_cases c18 : 0 ≤ t137
          · rw [if_pos c18] at H
            have c18b0 : decide (0 ≤ t137) = true := decide_eq_true c18
            clear c18
            by_cases c19 : t137 < (t139.length : Int)
            · rw [if_pos c19] at H
              have c19b0 : decide (t137 < (t139.length : Int)) = true := decide_eq_true c19
              clear c19
              by_cases c20 : ((rd_T33 t139 t137).f1) > (wrap64 (1073741824 - a2))
              · rw [if_pos c20] at H
                have c20b0 : decide ((wrap64 (1073741824 - a2)) < ((rd_T33 t139 t137).f1)) = true := decide_eq_true c20
                clear c20
                simp only [Option.some.injEq, Prod.mk.injEq] at H
                obtain ⟨rfl, rfl⟩ := H
                go_wp2_with (first | ((with_reducible refine gate_callee (f := 24) rfl ?_); refine goesL_ (some 26) rfl rfl Try.func24 (by kernel_rfl) rfl #[.slice A0 l0.length c0, .string a1] rfl (by (try simp only [List.map_toArray, List.map_cons, List.map_nil]); first | done | rfl | (simp only [List.length_drop, List.length_take]; rfl)) ?_; (with_reducible refine (stock_at.calls _ _ l0 a1 t137 true _ ?side1 ?side2 A15.out).mono ?_); (case side1 => repeat (first | exact (Kd.C_below HR0.out HB.out) | (with_reducible refine Kd.C_alloc ?_ _) | (with_reducible refine Kd.C_drewN ?_ _) | (with_reducible refine Kd.C_drew ?_))); (case side2 => exact HC0.out); rintro e w21 ⟨rfl, hb⟩; refine ⟨_, rfl, ?_⟩; have n0_ := Aside0.mk (below_step (by repeat (first | (with_reducible first | exact HB.out | apply below_alloc | apply pw_below_drewN | apply below_drew1) | exact HB.out)) hb); clear HB; have HB := n0_; clear n0_; (try clear hb); (try clear hb2); (try clear hk); (try clear hi)) | ((with_reducible refine gate_callee (f := 29) rfl ?_); refine goesL_ (some 30) rfl rfl Try.func29 (by kernel_rfl) rfl #[.slice A0 l0.length c0] rfl (by (try simp only [List.map_toArray, List.map_cons, List.map_nil]); first | done | rfl | (simp only [List.length_drop, List.length_take]; rfl)) ?_; (with_reducible refine (api_Row_29.calls _ _ l0 t139 _ ?side1 ?side2 A16.out).mono ?_); (case side1 => repeat (first | exact (Kd.C_below HR0.out HB.out) | (with_reducible refine Kd.C_alloc ?_ _) | (with_reducible refine Kd.C_drewN ?_ _) | (with_reducible refine Kd.C_drew ?_))); (case side2 => exact HC0.out); rintro e w22 ⟨v140, rfl, ho0, hb⟩; refine ⟨_, rfl, ?_⟩; have n0_ := Aside0.mk (Kd.R_lower ho0 (below_size (by repeat (first | (with_reducible first | exact HB.out | apply below_alloc | apply pw_below_drewN | apply below_drew1) | exact HB.out)))); have n1_ := Aside0.mk (below_step (by repeat (first | (with_reducible first | exact HB.out | apply below_alloc | apply pw_below_drewN | apply below_drew1) | exact HB.out)) hb); clear HB; have HO141 := n0_; have HB := n1_; clear n0_ n1_; (try clear hb); (try clear hb2); (try clear hk); (try clear hi); (try clear ho0); obtain ⟨Ao23, co23, eo23⟩ := Kd.R_slice HO141.out; subst eo23; have p142 : 0 ≤ (t137 : Int) := of_decide_eq_true (by first | (with_reducible assumption) | assumption); have q142 : t137 < (t139.length : Int) := of_decide_eq_true (by first | (with_reducible assumption) | assumption); obtain ⟨ad142, e142, hx142_0, hx142_1, hx142_2, hx142_3, hx142_4, hx142_5⟩ := at_T33 (Kd.R_reads' HO141.out).2.2 t137 p142 q142; cases e142; replace p142 := eq_true p142; replace q142 := eq_true q142))
                go_ret2
                exact ⟨_, by first | rfl | (simp [errW_none, errW_some] <;> rfl) | (simp [*, errW_none, errW_some] <;> rfl), by first | exact Kd.R_nil _ _ _ _ _ | exact Kd.N_nil _ _ _ _ _ | exact Kd.V_nil _ _ _ _ _ | exact Kd.Q_nil _ _ _ _ _ | exact Kd.S_nil _ _ _ _ _, by repeat (first | (with_reducible first | exact HB.out | apply below_alloc | apply pw_below_drewN | apply below_drew1) | exact HB.out)⟩
              · rw [if_neg c20] at H
                have c20b0 : decide ((wrap64 (1073741824 - a2)) < ((rd_T33 t139 t137).f1)) = false := decide_eq_false c20
                clear c20
                obtain ⟨y144, hy144⟩ : ∃ y_ : List (S33), y_ = (t139.set (t137 : Int).toNat (⟨(rd_T33 t139 t137).f0, wrap64 (((rd_T33 t139 t137).f1) + a2), (rd_T33 t139 t137).f2, (rd_T33 t139 t137).f3, (rd_T33 t139 t137).f4, (rd_T33 t139 t137).f5⟩ : S33)) := ⟨_, rfl⟩
                replace H : (some ((y144.set (t137 : Int).toNat (⟨(rd_T33 y144 t137).f0, (rd_T33 y144 t137).f1, wrap64 (((rd_T33 y144 t137).f2) + a2), (rd_T33 y144 t137).f3, (rd_T33 y144 t137).f4, (rd_T33 y144 t137).f5⟩ : S33)), 0)) = some (r1, r2) := by first | (rw [hy144]; with_reducible exact H) | (have H2_ := (Option.bind_some _ _).symm.trans H; rw [hy144]; with_reducible exact H2_) | (have H2_ := (Option.bind_some _ _).symm.trans H; with_reducible exact H2_) | with_reducible exact H | (rw [hy144]; exact H) | exact H
                have Ny144 := Aside0.mk hy144
                clear hy144
                obtain ⟨y146, hy146⟩ : ∃ y_ : List (S33), y_ = (y144.set (t137 : Int).toNat (⟨(rd_T33 y144 t137).f0, (rd_T33 y144 t137).f1, wrap64 (((rd_T33 y144 t137).f2) + a2), (rd_T33 y144 t137).f3, (rd_T33 y144 t137).f4, (rd_T33 y144 t137).f5⟩ : S33)) := ⟨_, rfl⟩
                replace H : (some (y146, 0)) = some (r1, r2) := by first | (rw [hy146]; with_reducible exact H) | (have H2_ := (Option.bind_some _ _).symm.trans H; rw [hy146]; with_reducible exact H2_) | (have H2_ := (Option.bind_some _ _).symm.trans H; with_reducible exact H2_) | with_reducible exact H | (rw [hy146]; exact H) | exact H
                have Ny146 := Aside0.mk hy146
                clear hy146
                simp only [Option.some.injEq, Prod.mk.injEq] at H
                obtain ⟨rfl, rfl⟩ := H
                go_wp2_with (first | ((with_reducible refine gate_callee (f := 24) rfl ?_); refine goesL_ (some 26) rfl rfl Try.func24 (by kernel_rfl) rfl #[.slice A0 l0.length c0, .string a1] rfl (by (try simp only [List.map_toArray, List.map_cons, List.map_nil]); first | done | rfl | (simp only [List.length_drop, List.length_take]; rfl)) ?_; (with_reducible refine (stock_at.calls _ _ l0 a1 t137 true _ ?side1 ?side2 A15.out).mono ?_); (case side1 => repeat (first | exact (Kd.C_below HR0.out HB.out) | (with_reducible refine Kd.C_alloc ?_ _) | (with_reducible refine Kd.C_drewN ?_ _) | (with_reducible refine Kd.C_drew ?_))); (case side2 => exact HC0.out); rintro e w26 ⟨rfl, hb⟩; refine ⟨_, rfl, ?_⟩; have n0_ := Aside0.mk (below_step (by repeat (first | (with_reducible first | exact HB.out | apply below_alloc | apply pw_below_drewN | apply below_drew1) | exact HB.out)) hb); clear HB; have HB := n0_; clear n0_; (try clear hb); (try clear hb2); (try clear hk); (try clear hi)) | ((with_reducible refine gate_callee (f := 29) rfl ?_); refine goesL_ (some 30) rfl rfl Try.func29 (by kernel_rfl) rfl #[.slice A0 l0.length c0] rfl (by (try simp only [List.map_toArray, List.map_cons, List.map_nil]); first | done | rfl | (simp only [List.length_drop, List.length_take]; rfl)) ?_; (with_reducible refine (api_Row_29.calls _ _ l0 t139 _ ?side1 ?side2 A16.out).mono ?_); (case side1 => repeat (first | exact (Kd.C_below HR0.out HB.out) | (with_reducible refine Kd.C_alloc ?_ _) | (with_reducible refine Kd.C_drewN ?_ _) | (with_reducible refine Kd.C_drew ?_))); (case side2 => exact HC0.out); rintro e w27 ⟨v140, rfl, ho0, hb⟩; refine ⟨_, rfl, ?_⟩; have n0_ := Aside0.mk (Kd.R_lower ho0 (below_size (by repeat (first | (with_reducible first | exact HB.out | apply below_alloc | apply pw_below_drewN | apply below_drew1) | exact HB.out)))); have n1_ := Aside0.mk (below_step (by repeat (first | (with_reducible first | exact HB.out | apply below_alloc | apply pw_below_drewN | apply below_drew1) | exact HB.out)) hb); clear HB; have HO141 := n0_; have HB := n1_; clear n0_ n1_; (try clear hb); (try clear hb2); (try clear hk); (try clear hi); (try clear ho0); obtain ⟨Ao28, co28, eo28⟩ := Kd.R_slice HO141.out; subst eo28; have p142 : 0 ≤ (t137 : Int) := of_decide_eq_true (by first | (with_reducible assumption) | assumption); have q142 : t137 < (t139.length : Int) := of_decide_eq_true (by first | (with_reducible assumption) | assumption); obtain ⟨ad142, e142, hx142_0, hx142_1, hx142_2, hx142_3, hx142_4, hx142_5⟩ := at_T33 (Kd.R_reads' HO141.out).2.2 t137 p142 q142; cases e142; replace p142 := eq_true p142; replace q142 := eq_true q142; have p143 : 0 ≤ (t137 : Int) := of_decide_eq_true (by first | (with_reducible assumption) | assumption); have q143 : t137 < (t139.length : Int) := of_decide_eq_true (by first | (with_reducible assumption) | assumption); obtain ⟨ad143, e143, hx143_0, hx143_1, hx143_2, hx143_3, hx143_4, hx143_5⟩ := at_T33 (Kd.R_reads' HO141.out).2.2 t137 p143 q143; obtain rfl : ad142 = ad143 := (by injection e143); replace p143 := eq_true p143; replace q143 := eq_true q143; have p24 : 0 ≤ (t137 : Int) := of_decide_eq_true (by first | (with_reducible assumption) | assumption); have q24 : (t137 : Int) < ((t139.length : Int) : Int) := of_decide_eq_true (by first | (with_reducible assumption) | assumption); obtain ⟨go24, co24, eo24, gb24, gl24, cl24, HG24⟩ := Kd.R_form HO141.out (by omega); (first | cases eo24 | (injection eo24 with ea_ en_ ec_; (first | subst ea_ | (injection ea_ with ea_; subst ea_)); subst ec_; clear en_)); have GB24 := Aside0.mk gb24; have GG24 := Aside0.mk HG24; clear gb24 gl24 HG24; (first | simp only [add_plain] at hx142_0 | skip); (first | simp only [add_plain] at hx142_1 | skip); (first | simp only [add_plain] at hx142_2 | skip); (first | simp only [add_plain] at hx142_3 | skip); (first | simp only [add_plain] at hx142_4 | skip); (first | simp only [add_plain] at hx142_5 | skip); (first | simp only [add_plain] at hx143_0 | skip); (first | simp only [add_plain] at hx143_1 | skip); (first | simp only [add_plain] at hx143_2 | skip); (first | simp only [add_plain] at hx143_3 | skip); (first | simp only [add_plain] at hx143_4 | skip); (first | simp only [add_plain] at hx143_5 | skip); obtain ⟨ce24, hcl24, hM24, hcc24, hfr24⟩ := Kd.R_elem HO141.out z33 (t137 : Int) p24 q24; obtain rfl := k33_openM hM24; have hx24_0 : w27.cell? ⟨go24, (t137 : Int).toNat * 6, none⟩ = some (.string ((rd_T33 t139 t137).f0)) := hcc24 0 _ rfl; have hx24_1 : w27.cell? ⟨go24, (t137 : Int).toNat * 6 + 1, none⟩ = some (.int .i64 ((rd_T33 t139 t137).f1)) := hcc24 1 _ rfl; have hx24_2 : w27.cell? ⟨go24, (t137 : Int).toNat * 6 + 2, none⟩ = some (.int .i64 ((rd_T33 t139 t137).f2)) := hcc24 2 _ rfl; have hx24_3 : w27.cell? ⟨go24, (t137 : Int).toNat * 6 + 3, none⟩ = some (.int .i64 ((rd_T33 t139 t137).f3)) := hcc24 3 _ rfl; have hx24_4 : w27.cell? ⟨go24, (t137 : Int).toNat * 6 + 4, none⟩ = some (.int .i64 ((rd_T33 t139 t137).f4)) := hcc24 4 _ rfl; have hx24_5 : w27.cell? ⟨go24, (t137 : Int).toNat * 6 + 5, none⟩ = some (.int .i64 ((rd_T33 t139 t137).f5)) := hcc24 5 _ rfl; have hf24_0 : w27.frozen? ⟨go24, (t137 : Int).toNat * 6, none⟩ = false := hfr24 0; have hf24_1 : w27.frozen? ⟨go24, (t137 : Int).toNat * 6 + 1, none⟩ = false := hfr24 1; have hf24_2 : w27.frozen? ⟨go24, (t137 : Int).toNat * 6 + 2, none⟩ = false := hfr24 2; have hf24_3 : w27.frozen? ⟨go24, (t137 : Int).toNat * 6 + 3, none⟩ = false := hfr24 3; have hf24_4 : w27.frozen? ⟨go24, (t137 : Int).toNat * 6 + 4, none⟩ = false := hfr24 4; have hf24_5 : w27.frozen? ⟨go24, (t137 : Int).toNat * 6 + 5, none⟩ = false := hfr24 5; clear hcl24 hcc24 hfr24 hM24; replace p24 := eq_true p24; replace q24 := eq_true q24; have HX29 := Aside0.mk (show Kd.R k33 33 w27 w.heap.size (fun _ => True) (.slice (some ⟨go24, 0, none⟩) t139.length co28) t139 from (by (with_reducible repeat (first | apply Kd.R_alloc | apply Kd.R_drewN | apply Kd.R_drew)); exact HO141.out)); obtain ⟨ce29, hcl29, hM29, hcc29, hfr29⟩ := Kd.R_elem HX29.out z33 (t137 : Int) (of_decide_eq_true (by first | (with_reducible assumption) | assumption)) (by have h_ : (t137 : Int) < ((t139.length : Int) : Int) := of_decide_eq_true (by first | (with_reducible assumption) | assumption); first | exact h_ | (have e_ := (Kd.R_reads' HO141.out).1; omega) | simpa using h_); obtain rfl := k33_openM hM29; have HP29 := Kd.R_seg HX29.out (t137 : Int) (of_decide_eq_true (by first | (with_reducible assumption) | assumption)) (by have h_ : (t137 : Int) < ((t139.length : Int) : Int) := of_decide_eq_true (by first | (with_reducible assumption) | assumption); first | exact h_ | (have e_ := (Kd.R_reads' HO141.out).1; omega) | simpa using h_) (seg := [.int .i64 (wrap64 (((rd_T33 t139 t137).f1) + a2))]) (j := 1) hcl29 hcc29 (show 2 ≤ 6 from by decide) (x' := (⟨(rd_T33 t139 t137).f0, wrap64 (((rd_T33 t139 t137).f1) + a2), (rd_T33 t139 t137).f2, (rd_T33 t139 t137).f3, (rd_T33 t139 t137).f4, (rd_T33 t139 t137).f5⟩ : S33)) (k33_mkM _ _ _ (⟨(rd_T33 t139 t137).f0, wrap64 (((rd_T33 t139 t137).f1) + a2), (rd_T33 t139 t137).f2, (rd_T33 t139 t137).f3, (rd_T33 t139 t137).f4, (rd_T33 t139 t137).f5⟩ : S33) ) (fun _ hk => hk); have hx29_1 := hcc29 1 _ rfl; (try simp only [show (k33).sz = 6 from rfl, Nat.mul_one, Nat.add_zero] at hx29_1); have hf29_1 := hfr29 1; (try simp only [show (k33).sz = 6 from rfl, Nat.mul_one, Nat.add_zero] at hf29_1); clear hcl29 hcc29 hfr29 hM29) | ((with_reducible refine gate_store (t := 3) (p := 58) rfl ?_); refine store_event (t := 3) (p := 58) (v := ?vo_w30) (w1 := (w27.setCell ⟨go24, (t137 : Int).toNat * 6 + 1, none⟩ (.int .i64 (wrap64 (((rd_T33 t139 t137).f1) + a2))))) ?hg ?ho ?hn ?hr ?_; (case ho => rfl); (case hg => rfl); (case hn => rfl); (case hr => first | (go_simp; done) | (go_simp; rfl)); intro w30 hw; have hg : w27.grownBy w30 (some go24) := (by rw [hw]; exact HP29.2); have hp_ : Kd.R k33 33 w30 w.heap.size (fun _ => True) (.slice (some ⟨go24, 0, none⟩) t139.length co28) y144 := (by rw [hw, Ny144.out]; exact HP29.1); clear HP29; have n0_ := Aside0.mk (hp_); have n1_ := Aside0.mk ((by rw [hw]; exact below_set (HB.out) GB24.out : Below w.heap.size w w30)); clear HO141; clear HB; have HO141 := n0_; have HB := n1_; clear n0_ n1_; clear hg hw hp_; have p145 : 0 ≤ (t137 : Int) := of_decide_eq_true (by first | (with_reducible assumption) | assumption); have q145 : t137 < (y144.length : Int) := (by have h_ : (t137 : Int) < ((t139.length : Int) : Int) := of_decide_eq_true (by first | (with_reducible assumption) | assumption); first | (have e_ := (Kd.R_reads' HO141.out).1; omega) | simpa only [Ny144.out, List.length_set] using h_); have ql145 : ((t137 : Int) < ((t139.length : Int) : Int)) = True := eq_true (of_decide_eq_true (by first | (with_reducible assumption) | assumption)); obtain ⟨ad145, e145, hx145_0, hx145_1, hx145_2, hx145_3, hx145_4, hx145_5⟩ := at_T33 (Kd.R_reads' HO141.out).2.2 t137 p145 q145; obtain rfl : (⟨go24, 0, none⟩ : Addr) = ad145 := (by injection e145); (first | simp only [add_plain] at hx145_0 | simp only [add_at] at hx145_0 | simp only [Addr.add, Nat.zero_add] at hx145_0 | skip); (first | simp only [add_plain] at hx145_1 | simp only [add_at] at hx145_1 | simp only [Addr.add, Nat.zero_add] at hx145_1 | skip); (first | simp only [add_plain] at hx145_2 | simp only [add_at] at hx145_2 | simp only [Addr.add, Nat.zero_add] at hx145_2 | skip); (first | simp only [add_plain] at hx145_3 | simp only [add_at] at hx145_3 | simp only [Addr.add, Nat.zero_add] at hx145_3 | skip); (first | simp only [add_plain] at hx145_4 | simp only [add_at] at hx145_4 | simp only [Addr.add, Nat.zero_add] at hx145_4 | skip); (first | simp only [add_plain] at hx145_5 | simp only [add_at] at hx145_5 | simp only [Addr.add, Nat.zero_add] at hx145_5 | skip); replace p145 := eq_true p145; replace q145 := eq_true q145; have p25 : 0 ≤ (t137 : Int) := of_decide_eq_true (by first | (with_reducible assumption) | assumption); have q25 : (t137 : Int) < ((t139.length : Int) : Int) := of_decide_eq_true (by first | (with_reducible assumption) | assumption); obtain ⟨ce25, hcl25, hM25, hcc25, hfr25⟩ := Kd.R_elem HO141.out z33 (t137 : Int) p25 q25; obtain rfl := k33_openM hM25; have hx25_0 : w30.cell? ⟨go24, (t137 : Int).toNat * 6, none⟩ = some (.string ((rd_T33 y144 t137).f0)) := hcc25 0 _ rfl; have hx25_1 : w30.cell? ⟨go24, (t137 : Int).toNat * 6 + 1, none⟩ = some (.int .i64 ((rd_T33 y144 t137).f1)) := hcc25 1 _ rfl; have hx25_2 : w30.cell? ⟨go24, (t137 : Int).toNat * 6 + 2, none⟩ = some (.int .i64 ((rd_T33 y144 t137).f2)) := hcc25 2 _ rfl; have hx25_3 : w30.cell? ⟨go24, (t137 : Int).toNat * 6 + 3, none⟩ = some (.int .i64 ((rd_T33 y144 t137).f3)) := hcc25 3 _ rfl; have hx25_4 : w30.cell? ⟨go24, (t137 : Int).toNat * 6 + 4, none⟩ = some (.int .i64 ((rd_T33 y144 t137).f4)) := hcc25 4 _ rfl; have hx25_5 : w30.cell? ⟨go24, (t137 : Int).toNat * 6 + 5, none⟩ = some (.int .i64 ((rd_T33 y144 t137).f5)) := hcc25 5 _ rfl; have hf25_0 : w30.frozen? ⟨go24, (t137 : Int).toNat * 6, none⟩ = false := hfr25 0; have hf25_1 : w30.frozen? ⟨go24, (t137 : Int).toNat * 6 + 1, none⟩ = false := hfr25 1; have hf25_2 : w30.frozen? ⟨go24, (t137 : Int).toNat * 6 + 2, none⟩ = false := hfr25 2; have hf25_3 : w30.frozen? ⟨go24, (t137 : Int).toNat * 6 + 3, none⟩ = false := hfr25 3; have hf25_4 : w30.frozen? ⟨go24, (t137 : Int).toNat * 6 + 4, none⟩ = false := hfr25 4; have hf25_5 : w30.frozen? ⟨go24, (t137 : Int).toNat * 6 + 5, none⟩ = false := hfr25 5; clear hcl25 hcc25 hfr25 hM25; replace p25 := eq_true p25; replace q25 := eq_true q25; have HX31 := Aside0.mk (show Kd.R k33 33 w30 w.heap.size (fun _ => True) (.slice (some ⟨go24, 0, none⟩) t139.length co28) y144 from (by (with_reducible repeat (first | apply Kd.R_alloc | apply Kd.R_drewN | apply Kd.R_drew)); exact HO141.out)); obtain ⟨ce31, hcl31, hM31, hcc31, hfr31⟩ := Kd.R_elem HX31.out z33 (t137 : Int) (of_decide_eq_true (by first | (with_reducible assumption) | assumption)) (by have h_ : (t137 : Int) < ((t139.length : Int) : Int) := of_decide_eq_true (by first | (with_reducible assumption) | assumption); first | exact h_ | (have e_ := (Kd.R_reads' HO141.out).1; omega) | simpa using h_); obtain rfl := k33_openM hM31; have HP31 := Kd.R_seg HX31.out (t137 : Int) (of_decide_eq_true (by first | (with_reducible assumption) | assumption)) (by have h_ : (t137 : Int) < ((t139.length : Int) : Int) := of_decide_eq_true (by first | (with_reducible assumption) | assumption); first | exact h_ | (have e_ := (Kd.R_reads' HO141.out).1; omega) | simpa using h_) (seg := [.int .i64 (wrap64 (((rd_T33 y144 t137).f2) + a2))]) (j := 2) hcl31 hcc31 (show 3 ≤ 6 from by decide) (x' := (⟨(rd_T33 y144 t137).f0, (rd_T33 y144 t137).f1, wrap64 (((rd_T33 y144 t137).f2) + a2), (rd_T33 y144 t137).f3, (rd_T33 y144 t137).f4, (rd_T33 y144 t137).f5⟩ : S33)) (k33_mkM _ _ _ (⟨(rd_T33 y144 t137).f0, (rd_T33 y144 t137).f1, wrap64 (((rd_T33 y144 t137).f2) + a2), (rd_T33 y144 t137).f3, (rd_T33 y144 t137).f4, (rd_T33 y144 t137).f5⟩ : S33) ) (fun _ hk => hk); have hx31_2 := hcc31 2 _ rfl; (try simp only [show (k33).sz = 6 from rfl, Nat.mul_one, Nat.add_zero] at hx31_2); have hf31_2 := hfr31 2; (try simp only [show (k33).sz = 6 from rfl, Nat.mul_one, Nat.add_zero] at hf31_2); clear hcl31 hcc31 hfr31 hM31) | ((with_reducible refine gate_store (t := 3) (p := 67) rfl ?_); refine store_event (t := 3) (p := 67) (v := ?vo_w32) (w1 := (w30.setCell ⟨go24, (t137 : Int).toNat * 6 + 2, none⟩ (.int .i64 (wrap64 (((rd_T33 y144 t137).f2) + a2))))) ?hg ?ho ?hn ?hr ?_; (case ho => rfl); (case hg => rfl); (case hn => rfl); (case hr => first | (go_simp; done) | (go_simp; rfl)); intro w32 hw; have hg : w30.grownBy w32 (some go24) := (by rw [hw]; exact HP31.2); have hp_ : Kd.R k33 33 w32 w.heap.size (fun _ => True) (.slice (some ⟨go24, 0, none⟩) t139.length co28) y146 := (by rw [hw, Ny146.out]; exact HP31.1); clear HP31; have n0_ := Aside0.mk (hp_); have n1_ := Aside0.mk ((by rw [hw]; exact below_set (HB.out) GB24.out : Below w.heap.size w w32)); clear HO141; clear HB; have HO141 := n0_; have HB := n1_; clear n0_ n1_; clear hg hw hp_))
                go_ret2
                exact ⟨_, by first | rfl | (simp [errW_none, errW_some] <;> rfl) | (simp [*, errW_none, errW_some] <;> rfl), by (with_reducible repeat (first | apply Kd.R_alloc | apply Kd.R_drewN | apply Kd.R_drew)); exact HO141.out, by repeat (first | (with_reducible first | exact HB.out | apply below_alloc | apply pw_below_drewN | apply below_drew1) | exact HB.out)⟩
            · rw [if_neg c19] at H
              exact absurd H (by simp)
          · rw [if_neg c18] at H
            exact absurd H (by simp)
        · replace c17 := Bool.eq_false_iff.mpr c17
          subst c17
          have H1 : (if (t139.length : Int) = 8 then (some (([] : List (S33)), 7)) else ((api_Row_30.f t139 t137 (([(⟨a1, 0, 0, 0, 0, 0⟩ : S33)] : List (S33)))).bind fun t150 => (if 0 ≤ t137 then (if t137 < (t150.length : Int) then (if ((rd_T33 t150 t137).f1) > (wrap64 (1073741824 - a2)) then (some (([] : List (S33)), 2)) else ((some (t150.set (t137 : Int).toNat (⟨(rd_T33 t150 t137).f0, wrap64 (((rd_T33 t150 t137).f1) + a2), (rd_T33 t150 t137).f2, (rd_T33 t150 t137).f3, (rd_T33 t150 t137).f4, (rd_T33 t150 t137).f5⟩ : S33) : List (S33))).bind fun y155 => (some ((y155.set (t137 : Int).toNat (⟨(rd_T33 y155 t137).f0, (rd_T33 y155 t137).f1, wrap64 (((rd_T33 y155 t137).f2) + a2), (rd_T33 y155 t137).f3, (rd_T33 y155 t137).f4, (rd_T33 y155 t137).f5⟩ : S33)), 0)))) else (none)) else (none)))) = some (r1, r2) := by rw [if_neg (show ¬ (false = true) by decide)] at H; exact H
          clear H
          have H := H1
          clear H1
          by_cases c33 : (t139.length : Int) = 8
          · rw [if_pos c33] at H
            have c33b0 : ((t139.length : Int) == 8) = true := beq_iff_eq.mpr c33
            have c33b1 : ((t139.length : Int) != 8) = false := bne_eq_false_iff_eq.mpr c33
            clear c33
            simp only [Option.some.injEq, Prod.mk.injEq] at H
            obtain ⟨rfl, rfl⟩ := H
            go_wp2_with (first | ((with_reducible refine gate_callee (f := 24) rfl ?_); refine goesL_ (some 26) rfl rfl Try.func24 (by kernel_rfl) rfl #[.slice A0 l0.length c0, .string a1] rfl (by (try simp only [List.map_toArray, List.map_cons, List.map_nil]); first | done | rfl | (simp only [List.length_drop, List.length_take]; rfl)) ?_; (with_reducible refine (stock_at.calls _ _ l0 a1 t137 false _ ?side1 ?side2 A15.out).mono ?_); (case side1 => repeat (first | exact (Kd.C_below HR0.out HB.out) | (with_reducible refine Kd.C_alloc ?_ _) | (with_reducible refine Kd.C_drewN ?_ _) | (with_reducible refine Kd.C_drew ?_))); (case side2 => exact HC0.out); rintro e w34 ⟨rfl, hb⟩; refine ⟨_, rfl, ?_⟩; have n0_ := Aside0.mk (below_step (by repeat (first | (with_reducible first | exact HB.out | apply below_alloc | apply pw_below_drewN | apply below_drew1) | exact HB.out)) hb); clear HB; have HB := n0_; clear n0_; (try clear hb); (try clear hb2); (try clear hk); (try clear hi)) | ((with_reducible refine gate_callee (f := 29) rfl ?_); refine goesL_ (some 30) rfl rfl Try.func29 (by kernel_rfl) rfl #[.slice A0 l0.length c0] rfl (by (try simp only [List.map_toArray, List.map_cons, List.map_nil]); first | done | rfl | (simp only [List.length_drop, List.length_take]; rfl)) ?_; (with_reducible refine (api_Row_29.calls _ _ l0 t139 _ ?side1 ?side2 A16.out).mono ?_); (case side1 => repeat (first | exact (Kd.C_below HR0.out HB.out) | (with_reducible refine Kd.C_alloc ?_ _) | (with_reducible refine Kd.C_drewN ?_ _) | (with_reducible refine Kd.C_drew ?_))); (case side2 => exact HC0.out); rintro e w35 ⟨v140, rfl, ho0, hb⟩; refine ⟨_, rfl, ?_⟩; have n0_ := Aside0.mk (Kd.R_lower ho0 (below_size (by repeat (first | (with_reducible first | exact HB.out | apply below_alloc | apply pw_below_drewN | apply below_drew1) | exact HB.out)))); have n1_ := Aside0.mk (below_step (by repeat (first | (with_reducible first | exact HB.out | apply below_alloc | apply pw_below_drewN | apply below_drew1) | exact HB.out)) hb); clear HB; have HO141 := n0_; have HB := n1_; clear n0_ n1_; (try clear hb); (try clear hb2); (try clear hk); (try clear hi); (try clear ho0); obtain ⟨Ao36, co36, eo36⟩ := Kd.R_slice HO141.out; subst eo36))
            go_ret2
            exact ⟨_, by first | rfl | (simp [errW_none, errW_some] <;> rfl) | (simp [*, errW_none, errW_some] <;> rfl), by first | exact Kd.R_nil _ _ _ _ _ | exact Kd.N_nil _ _ _ _ _ | exact Kd.V_nil _ _ _ _ _ | exact Kd.Q_nil _ _ _ _ _ | exact Kd.S_nil _ _ _ _ _, by repeat (first | (with_reducible first | exact HB.out | apply below_alloc | apply pw_below_drewN | apply below_drew1) | exact HB.out)⟩
          · rw [if_neg c33] at H
            have c33b0 : ((t139.length : Int) == 8) = false := beq_eq_false_iff_ne.mpr c33
            have c33b1 : ((t139.length : Int) != 8) = true := bne_iff_ne.mpr c33
            obtain ⟨y147, hy147⟩ : ∃ y_ : List (S33), y_ = (([(⟨a1, 0, 0, 0, 0, 0⟩ : S33)] : List (S33))) := ⟨_, rfl⟩
            replace H : ((api_Row_30.f t139 t137 y147).bind fun t150 => (if 0 ≤ t137 then (if t137 < (t150.length : Int) then (if ((rd_T33 t150 t137).f1) > (wrap64 (1073741824 - a2)) then (some (([] : List (S33)), 2)) else ((some (t150.set (t137 : Int).toNat (⟨(rd_T33 t150 t137).f0, wrap64 (((rd_T33 t150 t137).f1) + a2), (rd_T33 t150 t137).f2, (rd_T33 t150 t137).f3, (rd_T33 t150 t137).f4, (rd_T33 t150 t137).f5⟩ : S33) : List (S33))).bind fun y155 => (some ((y155.set (t137 : Int).toNat (⟨(rd_T33 y155 t137).f0, (rd_T33 y155 t137).f1, wrap64 (((rd_T33 y155 t137).f2) + a2), (rd_T33 y155 t137).f3, (rd_T33 y155 t137).f4, (rd_T33 y155 t137).f5⟩ : S33)), 0)))) else (none)) else (none))) = some (r1, r2) := by first | (rw [hy147]; with_reducible exact H) | (have H2_ := (Option.bind_some _ _).symm.trans H; rw [hy147]; with_reducible exact H2_) | (have H2_ := (Option.bind_some _ _).symm.trans H; with_reducible exact H2_) | with_reducible exact H | (rw [hy147]; exact H) | exact H
            have Ny147 := Aside0.mk hy147
            clear hy147
            replace H := Option.bind_eq_some_iff.mp H
            obtain ⟨t150, A370, H⟩ := H
            replace H : (if 0 ≤ t137 then (if t137 < (t150.length : Int) then (if ((rd_T33 t150 t137).f1) > (wrap64 (1073741824 - a2)) then (some (([] : List (S33)), 2)) else ((some (t150.set (t137 : Int).toNat (⟨(rd_T33 t150 t137).f0, wrap64 (((rd_T33 t150 t137).f1) + a2), (rd_T33 t150 t137).f2, (rd_T33 t150 t137).f3, (rd_T33 t150 t137).f4, (rd_T33 t150 t137).f5⟩ : S33) : List (S33))).bind fun y155 => (some ((y155.set (t137 : Int).toNat (⟨(rd_T33 y155 t137).f0, (rd_T33 y155 t137).f1, wrap64 (((rd_T33 y155 t137).f2) + a2), (rd_T33 y155 t137).f3, (rd_T33 y155 t137).f4, (rd_T33 y155 t137).f5⟩ : S33)), 0)))) else (none)) else (none)) = some (r1, r2) := H
            have A37 := Aside0.mk A370
            clear A370
            by_cases c38 : 0 ≤ t137
            · rw [if_pos c38] at H
              have c38b0 : decide (0 ≤ t137) = true := decide_eq_true c38
              clear c38
              by_cases c39 : t137 < (t150.length : Int)
              · rw [if_pos c39] at H
                have c39b0 : decide (t137 < (t150.length : Int)) = true := decide_eq_true c39
                clear c39
                by_cases c40 : ((rd_T33 t150 t137).f1) > (wrap64 (1073741824 - a2))
                · rw [if_pos c40] at H
                  have c40b0 : decide ((wrap64 (1073741824 - a2)) < ((rd_T33 t150 t137).f1)) = true := decide_eq_true c40
                  clear c40
                  simp only [Option.some.injEq, Prod.mk.injEq] at H
                  obtain ⟨rfl, rfl⟩ := H
                  go_wp2_with (first | ((with_reducible refine gate_callee (f := 24) rfl ?_); refine goesL_ (some 26) rfl rfl Try.func24 (by kernel_rfl) rfl #[.slice A0 l0.length c0, .string a1] rfl (by (try simp only [List.map_toArray, List.map_cons, List.map_nil]); first | done | rfl | (simp only [List.length_drop, List.length_take]; rfl)) ?_; (with_reducible refine (stock_at.calls _ _ l0 a1 t137 false _ ?side1 ?side2 A15.out).mono ?_); (case side1 => repeat (first | exact (Kd.C_below HR0.out HB.out) | (with_reducible refine Kd.C_alloc ?_ _) | (with_reducible refine Kd.C_drewN ?_ _) | (with_reducible refine Kd.C_drew ?_))); (case side2 => exact HC0.out); rintro e w41 ⟨rfl, hb⟩; refine ⟨_, rfl, ?_⟩; have n0_ := Aside0.mk (below_step (by repeat (first | (with_reducible first | exact HB.out | apply below_alloc | apply pw_below_drewN | apply below_drew1) | exact HB.out)) hb); clear HB; have HB := n0_; clear n0_; (try clear hb); (try clear hb2); (try clear hk); (try clear hi)) | ((with_reducible refine gate_callee (f := 29) rfl ?_); refine goesL_ (some 30) rfl rfl Try.func29 (by kernel_rfl) rfl #[.slice A0 l0.length c0] rfl (by (try simp only [List.map_toArray, List.map_cons, List.map_nil]); first | done | rfl | (simp only [List.length_drop, List.length_take]; rfl)) ?_; (with_reducible refine (api_Row_29.calls _ _ l0 t139 _ ?side1 ?side2 A16.out).mono ?_); (case side1 => repeat (first | exact (Kd.C_below HR0.out HB.out) | (with_reducible refine Kd.C_alloc ?_ _) | (with_reducible refine Kd.C_drewN ?_ _) | (with_reducible refine Kd.C_drew ?_))); (case side2 => exact HC0.out); rintro e w42 ⟨v140, rfl, ho0, hb⟩; refine ⟨_, rfl, ?_⟩; have n0_ := Aside0.mk (Kd.R_lower ho0 (below_size (by repeat (first | (with_reducible first | exact HB.out | apply below_alloc | apply pw_below_drewN | apply below_drew1) | exact HB.out)))); have n1_ := Aside0.mk (below_step (by repeat (first | (with_reducible first | exact HB.out | apply below_alloc | apply pw_below_drewN | apply below_drew1) | exact HB.out)) hb); clear HB; have HO141 := n0_; have HB := n1_; clear n0_ n1_; (try clear hb); (try clear hb2); (try clear hk); (try clear hi); (try clear ho0); obtain ⟨Ao43, co43, eo43⟩ := Kd.R_slice HO141.out; subst eo43) | ((with_reducible refine gate_dst (N := 40) rfl ?_); refine Kd.R_lit k33 _ 33 ?hg (N := 40) ?hd (xs := ([(⟨a1, 0, 0, 0, 0, 0⟩ : S33)] : List (S33))) (inner := [.string a1, .int .i64 0, .int .i64 0, .int .i64 0, .int .i64 0, .int .i64 0]) (ok := fun _ => True) (okp := fun _ => True) ?hr ?hp (fun _ hk => hk) trivial (Below.refl _ _) (Nat.le_refl _) (by simp) ?_; (case hd => rfl); (case hg => rfl); (case hr => first | (go_simp; done) | (go_simp; rfl)); (case hp => exact (Reps.c6 (show Kd.M k33 _ _ _ (⟨a1, 0, 0, 0, 0, 0⟩ : S33) [.string a1, .int .i64 0, .int .i64 0, .int .i64 0, .int .i64 0, .int .i64 0] from (k33_mkM _ _ _ (⟨a1, 0, 0, 0, 0, 0⟩ : S33) )) (Reps.none _ _))); intro v148 w44 ho45 hb hg_ hnew_; clear hg_ hnew_; (first | rw [← Ny147.out] at ho45 | (simp only [Int.reduceToNat] at ho45; rw [← Ny147.out] at ho45)); have n0_ := Aside0.mk (Kd.R_elder' (by (with_reducible repeat (first | apply Kd.R_alloc | apply Kd.R_drewN | apply Kd.R_drew)); exact HO141.out) (Kd.R_base ho45) hb); have n1_ := Aside0.mk (Kd.R_lower (Kd.R_new' ho45 (Kd.R_lt (by (with_reducible repeat (first | apply Kd.R_alloc | apply Kd.R_drewN | apply Kd.R_drew)); exact HO141.out))) (below_size (by repeat (first | (with_reducible first | exact HB.out | apply below_alloc | apply pw_below_drewN | apply below_drew1) | exact HB.out)))); have n2_ := Aside0.mk (below_step (by repeat (first | (with_reducible first | exact HB.out | apply below_alloc | apply pw_below_drewN | apply below_drew1) | exact HB.out)) hb); clear HO141; clear HB; have HO141 := n0_; have HO149 := n1_; have HB := n2_; clear n0_ n1_ n2_; clear hb ho45; obtain ⟨Ao46, co46, eo46⟩ := Kd.R_slice HO149.out; subst eo46) | ((with_reducible refine gate_callee (f := 30) rfl ?_); refine goesL_ (some 41) rfl rfl Try.func30 (by kernel_rfl) rfl #[.slice Ao43 t139.length co43, .int .i64 t137, .slice Ao46 y147.length co46] rfl (by (try simp only [List.map_toArray, List.map_cons, List.map_nil]); first | done | rfl | (simp only [List.length_drop, List.length_take]; rfl)) ?_; (with_reducible refine (api_Row_30.calls (fun k_ => some k_ = (.slice Ao43 t139.length co43 : Value).ownBlock) (.slice Ao43 t139.length co43) t139 t137 _ _ y147 t150 w _ ?side1 ?side2 ?side3 ?side4 A37.out).mono ?_); (case side1 => repeat (first | (with_reducible first | exact HB.out | apply below_alloc | apply pw_below_drewN | apply below_drew1) | exact HB.out)); (case side2 => exact Kd.R_tight rfl HO141.out); (case side3 => exact Kd.C_kept_own (HO149.out) (fun k_ hk_ hs_ => (hk_.2) hs_)); (case side4 => exact (Kd.R_reads' HO149.out).2.1); rintro e w47 ⟨v151, rfl, ho0, hb, hkp⟩; refine ⟨_, rfl, ?_⟩; have n0_ := Aside0.mk (Kd.R_mono (ok' := fun k_ => some k_ ≠ (v151 : Value).ownBlock) (Kd.R_keptB (HO149.out) hkp (fun k_ hk_ hs_ => (hk_.2) hs_)) (fun k_ hk_ => fun e_ => Or.elim (ho0.1 k_ e_.symm) (fun hs_ => hk_.2.1 hs_) (fun hn_ => Nat.not_le.2 hk_.2.2 hn_))); have n1_ := Aside0.mk (Kd.R_mono (ok' := fun k_ => some k_ ≠ (.slice Ao46 y147.length co46 : Value).ownBlock) ho0 (fun k_ hk_ => Or.elim hk_ (fun hs_ => fun e_ => (((HO149.out).1 k_ e_.symm).2) hs_) (fun hn_ => (Kd.fresh' (Kd.R_lt (by (with_reducible repeat (first | apply Kd.R_alloc | apply Kd.R_drewN | apply Kd.R_drew)); exact HO149.out)) k_ hn_)))); have n2_ := Aside0.mk (hb); clear HO149; clear HB; clear HO141; have HO149 := n0_; have HO152 := n1_; have HB := n2_; clear n0_ n1_ n2_; (try clear hb); (try clear hkp); (try clear ho0); obtain ⟨Ao48, co48, eo48⟩ := Kd.R_slice HO152.out; subst eo48; have p153 : 0 ≤ (t137 : Int) := of_decide_eq_true (by first | (with_reducible assumption) | assumption); have q153 : t137 < (t150.length : Int) := of_decide_eq_true (by first | (with_reducible assumption) | assumption); obtain ⟨ad153, e153, hx153_0, hx153_1, hx153_2, hx153_3, hx153_4, hx153_5⟩ := at_T33 (Kd.R_reads' HO152.out).2.2 t137 p153 q153; cases e153; replace p153 := eq_true p153; replace q153 := eq_true q153))
                  go_ret2
                  exact ⟨_, by first | rfl | (simp [errW_none, errW_some] <;> rfl) | (simp [*, errW_none, errW_some] <;> rfl), by first | exact Kd.R_nil _ _ _ _ _ | exact Kd.N_nil _ _ _ _ _ | exact Kd.V_nil _ _ _ _ _ | exact Kd.Q_nil _ _ _ _ _ | exact Kd.S_nil _ _ _ _ _, by repeat (first | (with_reducible first | exact HB.out | apply below_alloc | apply pw_below_drewN | apply below_drew1) | exact HB.out)⟩
                · rw [if_neg c40] at H
                  have c40b0 : decide ((wrap64 (1073741824 - a2)) < ((rd_T33 t150 t137).f1)) = false := decide_eq_false c40
                  clear c40
                  obtain ⟨y155, hy155⟩ : ∃ y_ : List (S33), y_ = (t150.set (t137 : Int).toNat (⟨(rd_T33 t150 t137).f0, wrap64 (((rd_T33 t150 t137).f1) + a2), (rd_T33 t150 t137).f2, (rd_T33 t150 t137).f3, (rd_T33 t150 t137).f4, (rd_T33 t150 t137).f5⟩ : S33)) := ⟨_, rfl⟩
                  replace H : (some ((y155.set (t137 : Int).toNat (⟨(rd_T33 y155 t137).f0, (rd_T33 y155 t137).f1, wrap64 (((rd_T33 y155 t137).f2) + a2), (rd_T33 y155 t137).f3, (rd_T33 y155 t137).f4, (rd_T33 y155 t137).f5⟩ : S33)), 0)) = some (r1, r2) := by first | (rw [hy155]; with_reducible exact H) | (have H2_ := (Option.bind_some _ _).symm.trans H; rw [hy155]; with_reducible exact H2_) | (have H2_ := (Option.bind_some _ _).symm.trans H; with_reducible exact H2_) | with_reducible exact H | (rw [hy155]; exact H) | exact H
                  have Ny155 := Aside0.mk hy155
                  clear hy155
                  obtain ⟨y157, hy157⟩ : ∃ y_ : List (S33), y_ = (y155.set (t137 : Int).toNat (⟨(rd_T33 y155 t137).f0, (rd_T33 y155 t137).f1, wrap64 (((rd_T33 y155 t137).f2) + a2), (rd_T33 y155 t137).f3, (rd_T33 y155 t137).f4, (rd_T33 y155 t137).f5⟩ : S33)) := ⟨_, rfl⟩
                  replace H : (some (y157, 0)) = some (r1, r2) := by first | (rw [hy157]; with_reducible exact H) | (have H2_ := (Option.bind_some _ _).symm.trans H; rw [hy157]; with_reducible exact H2_) | (have H2_ := (Option.bind_some _ _).symm.trans H; with_reducible exact H2_) | with_reducible exact H | (rw [hy157]; exact H) | exact H
                  have Ny157 := Aside0.mk hy157
                  clear hy157
                  simp only [Option.some.injEq, Prod.mk.injEq] at H
                  obtain ⟨rfl, rfl⟩ := H
                  go_wp2_with (first | ((with_reducible refine gate_callee (f := 24) rfl ?_); refine goesL_ (some 26) rfl rfl Try.func24 (by kernel_rfl) rfl #[.slice A0 l0.length c0, .string a1] rfl (by (try simp only [List.map_toArray, List.map_cons, List.map_nil]); first | done | rfl | (simp only [List.length_drop, List.length_take]; rfl)) ?_; (with_reducible refine (stock_at.calls _ _ l0 a1 t137 false _ ?side1 ?side2 A15.out).mono ?_); (case side1 => repeat (first | exact (Kd.C_below HR0.out HB.out) | (with_reducible refine Kd.C_alloc ?_ _) | (with_reducible refine Kd.C_drewN ?_ _) | (with_reducible refine Kd.C_drew ?_))); (case side2 => exact HC0.out); rintro e w51 ⟨rfl, hb⟩; refine ⟨_, rfl, ?_⟩; have n0_ := Aside0.mk (below_step (by repeat (first | (with_reducible first | exact HB.out | apply below_alloc | apply pw_below_drewN | apply below_drew1) | exact HB.out)) hb); clear HB; have HB := n0_; clear n0_; (try clear hb); (try clear hb2); (try clear hk); (try clear hi)) | ((with_reducible refine gate_callee (f := 29) rfl ?_); refine goesL_ (some 30) rfl rfl Try.func29 (by kernel_rfl) rfl #[.slice A0 l0.length c0] rfl (by (try simp only [List.map_toArray, List.map_cons, List.map_nil]); first | done | rfl | (simp only [List.length_drop, List.length_take]; rfl)) ?_; (with_reducible refine (api_Row_29.calls _ _ l0 t139 _ ?side1 ?side2 A16.out).mono ?_); (case side1 => repeat (first | exact (Kd.C_below HR0.out HB.out) | (with_reducible refine Kd.C_alloc ?_ _) | (with_reducible refine Kd.C_drewN ?_ _) | (with_reducible refine Kd.C_drew ?_))); (case side2 => exact HC0.out); rintro e w52 ⟨v140, rfl, ho0, hb⟩; refine ⟨_, rfl, ?_⟩; have n0_ := Aside0.mk (Kd.R_lower ho0 (below_size (by repeat (first | (with_reducible first | exact HB.out | apply below_alloc | apply pw_below_drewN | apply below_drew1) | exact HB.out)))); have n1_ := Aside0.mk (below_step (by repeat (first | (with_reducible first | exact HB.out | apply below_alloc | apply pw_below_drewN | apply below_drew1) | exact HB.out)) hb); clear HB; have HO141 := n0_; have HB := n1_; clear n0_ n1_; (try clear hb); (try clear hb2); (try clear hk); (try clear hi); (try clear ho0); obtain ⟨Ao53, co53, eo53⟩ := Kd.R_slice HO141.out; subst eo53) | ((with_reducible refine gate_dst (N := 40) rfl ?_); refine Kd.R_lit k33 _ 33 ?hg (N := 40) ?hd (xs := ([(⟨a1, 0, 0, 0, 0, 0⟩ : S33)] : List (S33))) (inner := [.string a1, .int .i64 0, .int .i64 0, .int .i64 0, .int .i64 0, .int .i64 0]) (ok := fun _ => True) (okp := fun _ => True) ?hr ?hp (fun _ hk => hk) trivial (Below.refl _ _) (Nat.le_refl _) (by simp) ?_; (case hd => rfl); (case hg => rfl); (case hr => first | (go_simp; done) | (go_simp; rfl)); (case hp => exact (Reps.c6 (show Kd.M k33 _ _ _ (⟨a1, 0, 0, 0, 0, 0⟩ : S33) [.string a1, .int .i64 0, .int .i64 0, .int .i64 0, .int .i64 0, .int .i64 0] from (k33_mkM _ _ _ (⟨a1, 0, 0, 0, 0, 0⟩ : S33) )) (Reps.none _ _))); intro v148 w54 ho55 hb hg_ hnew_; clear hg_ hnew_; (first | rw [← Ny147.out] at ho55 | (simp only [Int.reduceToNat] at ho55; rw [← Ny147.out] at ho55)); have n0_ := Aside0.mk (Kd.R_elder' (by (with_reducible repeat (first | apply Kd.R_alloc | apply Kd.R_drewN | apply Kd.R_drew)); exact HO141.out) (Kd.R_base ho55) hb); have n1_ := Aside0.mk (Kd.R_lower (Kd.R_new' ho55 (Kd.R_lt (by (with_reducible repeat (first | apply Kd.R_alloc | apply Kd.R_drewN | apply Kd.R_drew)); exact HO141.out))) (below_size (by repeat (first | (with_reducible first | exact HB.out | apply below_alloc | apply pw_below_drewN | apply below_drew1) | exact HB.out)))); have n2_ := Aside0.mk (below_step (by repeat (first | (with_reducible first | exact HB.out | apply below_alloc | apply pw_below_drewN | apply below_drew1) | exact HB.out)) hb); clear HO141; clear HB; have HO141 := n0_; have HO149 := n1_; have HB := n2_; clear n0_ n1_ n2_; clear hb ho55; obtain ⟨Ao56, co56, eo56⟩ := Kd.R_slice HO149.out; subst eo56) | ((with_reducible refine gate_callee (f := 30) rfl ?_); refine goesL_ (some 41) rfl rfl Try.func30 (by kernel_rfl) rfl #[.slice Ao53 t139.length co53, .int .i64 t137, .slice Ao56 y147.length co56] rfl (by (try simp only [List.map_toArray, List.map_cons, List.map_nil]); first | done | rfl | (simp only [List.length_drop, List.length_take]; rfl)) ?_; (with_reducible refine (api_Row_30.calls (fun k_ => some k_ = (.slice Ao53 t139.length co53 : Value).ownBlock) (.slice Ao53 t139.length co53) t139 t137 _ _ y147 t150 w _ ?side1 ?side2 ?side3 ?side4 A37.out).mono ?_); (case side1 => repeat (first | (with_reducible first | exact HB.out | apply below_alloc | apply pw_below_drewN | apply below_drew1) | exact HB.out)); (case side2 => exact Kd.R_tight rfl HO141.out); (case side3 => exact Kd.C_kept_own (HO149.out) (fun k_ hk_ hs_ => (hk_.2) hs_)); (case side4 => exact (Kd.R_reads' HO149.out).2.1); rintro e w57 ⟨v151, rfl, ho0, hb, hkp⟩; refine ⟨_, rfl, ?_⟩; have n0_ := Aside0.mk (Kd.R_mono (ok' := fun k_ => some k_ ≠ (v151 : Value).ownBlock) (Kd.R_keptB (HO149.out) hkp (fun k_ hk_ hs_ => (hk_.2) hs_)) (fun k_ hk_ => fun e_ => Or.elim (ho0.1 k_ e_.symm) (fun hs_ => hk_.2.1 hs_) (fun hn_ => Nat.not_le.2 hk_.2.2 hn_))); have n1_ := Aside0.mk (Kd.R_mono (ok' := fun k_ => some k_ ≠ (.slice Ao56 y147.length co56 : Value).ownBlock) ho0 (fun k_ hk_ => Or.elim hk_ (fun hs_ => fun e_ => (((HO149.out).1 k_ e_.symm).2) hs_) (fun hn_ => (Kd.fresh' (Kd.R_lt (by (with_reducible repeat (first | apply Kd.R_alloc | apply Kd.R_drewN | apply Kd.R_drew)); exact HO149.out)) k_ hn_)))); have n2_ := Aside0.mk (hb); clear HO149; clear HB; clear HO141; have HO149 := n0_; have HO152 := n1_; have HB := n2_; clear n0_ n1_ n2_; (try clear hb); (try clear hkp); (try clear ho0); obtain ⟨Ao58, co58, eo58⟩ := Kd.R_slice HO152.out; subst eo58; have p153 : 0 ≤ (t137 : Int) := of_decide_eq_true (by first | (with_reducible assumption) | assumption); have q153 : t137 < (t150.length : Int) := of_decide_eq_true (by first | (with_reducible assumption) | assumption); obtain ⟨ad153, e153, hx153_0, hx153_1, hx153_2, hx153_3, hx153_4, hx153_5⟩ := at_T33 (Kd.R_reads' HO152.out).2.2 t137 p153 q153; cases e153; replace p153 := eq_true p153; replace q153 := eq_true q153; have p154 : 0 ≤ (t137 : Int) := of_decide_eq_true (by first | (with_reducible assumption) | assumption); have q154 : t137 < (t150.length : Int) := of_decide_eq_true (by first | (with_reducible assumption) | assumption); obtain ⟨ad154, e154, hx154_0, hx154_1, hx154_2, hx154_3, hx154_4, hx154_5⟩ := at_T33 (Kd.R_reads' HO152.out).2.2 t137 p154 q154; obtain rfl : ad153 = ad154 := (by injection e154); replace p154 := eq_true p154; replace q154 := eq_true q154; have p49 : 0 ≤ (t137 : Int) := of_decide_eq_true (by first | (with_reducible assumption) | assumption); have q49 : (t137 : Int) < ((t150.length : Int) : Int) := of_decide_eq_true (by first | (with_reducible assumption) | assumption); obtain ⟨go49, co49, eo49, gb49, gl49, cl49, HG49⟩ := Kd.R_form HO152.out (by omega); (first | cases eo49 | (injection eo49 with ea_ en_ ec_; (first | subst ea_ | (injection ea_ with ea_; subst ea_)); subst ec_; clear en_)); have GB49 := Aside0.mk gb49; have GG49 := Aside0.mk HG49; clear gb49 gl49 HG49; (first | simp only [add_plain] at hx153_0 | skip); (first | simp only [add_plain] at hx153_1 | skip); (first | simp only [add_plain] at hx153_2 | skip); (first | simp only [add_plain] at hx153_3 | skip); (first | simp only [add_plain] at hx153_4 | skip); (first | simp only [add_plain] at hx153_5 | skip); (first | simp only [add_plain] at hx154_0 | skip); (first | simp only [add_plain] at hx154_1 | skip); (first | simp only [add_plain] at hx154_2 | skip); (first | simp only [add_plain] at hx154_3 | skip); (first | simp only [add_plain] at hx154_4 | skip); (first | simp only [add_plain] at hx154_5 | skip); obtain ⟨ce49, hcl49, hM49, hcc49, hfr49⟩ := Kd.R_elem HO152.out z33 (t137 : Int) p49 q49; obtain rfl := k33_openM hM49; have hx49_0 : w57.cell? ⟨go49, (t137 : Int).toNat * 6, none⟩ = some (.string ((rd_T33 t150 t137).f0)) := hcc49 0 _ rfl; have hx49_1 : w57.cell? ⟨go49, (t137 : Int).toNat * 6 + 1, none⟩ = some (.int .i64 ((rd_T33 t150 t137).f1)) := hcc49 1 _ rfl; have hx49_2 : w57.cell? ⟨go49, (t137 : Int).toNat * 6 + 2, none⟩ = some (.int .i64 ((rd_T33 t150 t137).f2)) := hcc49 2 _ rfl; have hx49_3 : w57.cell? ⟨go49, (t137 : Int).toNat * 6 + 3, none⟩ = some (.int .i64 ((rd_T33 t150 t137).f3)) := hcc49 3 _ rfl; have hx49_4 : w57.cell? ⟨go49, (t137 : Int).toNat * 6 + 4, none⟩ = some (.int .i64 ((rd_T33 t150 t137).f4)) := hcc49 4 _ rfl; have hx49_5 : w57.cell? ⟨go49, (t137 : Int).toNat * 6 + 5, none⟩ = some (.int .i64 ((rd_T33 t150 t137).f5)) := hcc49 5 _ rfl; have hf49_0 : w57.frozen? ⟨go49, (t137 : Int).toNat * 6, none⟩ = false := hfr49 0; have hf49_1 : w57.frozen? ⟨go49, (t137 : Int).toNat * 6 + 1, none⟩ = false := hfr49 1; have hf49_2 : w57.frozen? ⟨go49, (t137 : Int).toNat * 6 + 2, none⟩ = false := hfr49 2; have hf49_3 : w57.frozen? ⟨go49, (t137 : Int).toNat * 6 + 3, none⟩ = false := hfr49 3; have hf49_4 : w57.frozen? ⟨go49, (t137 : Int).toNat * 6 + 4, none⟩ = false := hfr49 4; have hf49_5 : w57.frozen? ⟨go49, (t137 : Int).toNat * 6 + 5, none⟩ = false := hfr49 5; clear hcl49 hcc49 hfr49 hM49; replace p49 := eq_true p49; replace q49 := eq_true q49; have HX59 := Aside0.mk (show Kd.R k33 33 w57 w.heap.size (fun k_ => some k_ ≠ (.slice Ao56 y147.length co56 : Value).ownBlock) (.slice (some ⟨go49, 0, none⟩) t150.length co58) t150 from (by (with_reducible repeat (first | apply Kd.R_alloc | apply Kd.R_drewN | apply Kd.R_drew)); exact HO152.out)); obtain ⟨ce59, hcl59, hM59, hcc59, hfr59⟩ := Kd.R_elem HX59.out z33 (t137 : Int) (of_decide_eq_true (by first | (with_reducible assumption) | assumption)) (by have h_ : (t137 : Int) < ((t150.length : Int) : Int) := of_decide_eq_true (by first | (with_reducible assumption) | assumption); first | exact h_ | (have e_ := (Kd.R_reads' HO152.out).1; omega) | simpa using h_); obtain rfl := k33_openM hM59; have HP59 := Kd.R_seg HX59.out (t137 : Int) (of_decide_eq_true (by first | (with_reducible assumption) | assumption)) (by have h_ : (t137 : Int) < ((t150.length : Int) : Int) := of_decide_eq_true (by first | (with_reducible assumption) | assumption); first | exact h_ | (have e_ := (Kd.R_reads' HO152.out).1; omega) | simpa using h_) (seg := [.int .i64 (wrap64 (((rd_T33 t150 t137).f1) + a2))]) (j := 1) hcl59 hcc59 (show 2 ≤ 6 from by decide) (x' := (⟨(rd_T33 t150 t137).f0, wrap64 (((rd_T33 t150 t137).f1) + a2), (rd_T33 t150 t137).f2, (rd_T33 t150 t137).f3, (rd_T33 t150 t137).f4, (rd_T33 t150 t137).f5⟩ : S33)) (k33_mkM _ _ _ (⟨(rd_T33 t150 t137).f0, wrap64 (((rd_T33 t150 t137).f1) + a2), (rd_T33 t150 t137).f2, (rd_T33 t150 t137).f3, (rd_T33 t150 t137).f4, (rd_T33 t150 t137).f5⟩ : S33) ) (fun _ hk => hk); have hx59_1 := hcc59 1 _ rfl; (try simp only [show (k33).sz = 6 from rfl, Nat.mul_one, Nat.add_zero] at hx59_1); have hf59_1 := hfr59 1; (try simp only [show (k33).sz = 6 from rfl, Nat.mul_one, Nat.add_zero] at hf59_1); clear hcl59 hcc59 hfr59 hM59) | ((with_reducible refine gate_store (t := 3) (p := 58) rfl ?_); refine store_event (t := 3) (p := 58) (v := ?vo_w60) (w1 := (w57.setCell ⟨go49, (t137 : Int).toNat * 6 + 1, none⟩ (.int .i64 (wrap64 (((rd_T33 t150 t137).f1) + a2))))) ?hg ?ho ?hn ?hr ?_; (case ho => rfl); (case hg => rfl); (case hn => rfl); (case hr => first | (go_simp; done) | (go_simp; rfl)); intro w60 hw; have hg : w57.grownBy w60 (some go49) := (by rw [hw]; exact HP59.2); have hp_ : Kd.R k33 33 w60 w.heap.size (fun k_ => some k_ ≠ (.slice Ao56 y147.length co56 : Value).ownBlock) (.slice (some ⟨go49, 0, none⟩) t150.length co58) y155 := (by rw [hw, Ny155.out]; exact HP59.1); clear HP59; have n0_ := Aside0.mk (Kd.R_after (v := (.slice (some ⟨go49, 0, none⟩) t150.length co58)) (v1 := (.slice (some ⟨go49, 0, none⟩) t150.length co58)) (ok := (fun _ => True)) (by (with_reducible repeat (first | apply Kd.R_alloc | apply Kd.R_drewN | apply Kd.R_drew)); exact Kd.R_mono HO149.out (fun _ hk => ⟨trivial, hk⟩)) hg (.inl rfl)); have n1_ := Aside0.mk (hp_); have n2_ := Aside0.mk ((by rw [hw]; exact below_set (HB.out) GB49.out : Below w.heap.size w w60)); clear HO149; clear HO152; clear HB; have HO149 := n0_; have HO152 := n1_; have HB := n2_; clear n0_ n1_ n2_; clear hg hw hp_; have p156 : 0 ≤ (t137 : Int) := of_decide_eq_true (by first | (with_reducible assumption) | assumption); have q156 : t137 < (y155.length : Int) := (by have h_ : (t137 : Int) < ((t150.length : Int) : Int) := of_decide_eq_true (by first | (with_reducible assumption) | assumption); first | (have e_ := (Kd.R_reads' HO152.out).1; omega) | simpa only [Ny155.out, List.length_set] using h_); have ql156 : ((t137 : Int) < ((t150.length : Int) : Int)) = True := eq_true (of_decide_eq_true (by first | (with_reducible assumption) | assumption)); obtain ⟨ad156, e156, hx156_0, hx156_1, hx156_2, hx156_3, hx156_4, hx156_5⟩ := at_T33 (Kd.R_reads' HO152.out).2.2 t137 p156 q156; obtain rfl : (⟨go49, 0, none⟩ : Addr) = ad156 := (by injection e156); (first | simp only [add_plain] at hx156_0 | simp only [add_at] at hx156_0 | simp only [Addr.add, Nat.zero_add] at hx156_0 | skip); (first | simp only [add_plain] at hx156_1 | simp only [add_at] at hx156_1 | simp only [Addr.add, Nat.zero_add] at hx156_1 | skip); (first | simp only [add_plain] at hx156_2 | simp only [add_at] at hx156_2 | simp only [Addr.add, Nat.zero_add] at hx156_2 | skip); (first | simp only [add_plain] at hx156_3 | simp only [add_at] at hx156_3 | simp only [Addr.add, Nat.zero_add] at hx156_3 | skip); (first | simp only [add_plain] at hx156_4 | simp only [add_at] at hx156_4 | simp only [Addr.add, Nat.zero_add] at hx156_4 | skip); (first | simp only [add_plain] at hx156_5 | simp only [add_at] at hx156_5 | simp only [Addr.add, Nat.zero_add] at hx156_5 | skip); replace p156 := eq_true p156; replace q156 := eq_true q156; have p50 : 0 ≤ (t137 : Int) := of_decide_eq_true (by first | (with_reducible assumption) | assumption); have q50 : (t137 : Int) < ((t150.length : Int) : Int) := of_decide_eq_true (by first | (with_reducible assumption) | assumption); obtain ⟨ce50, hcl50, hM50, hcc50, hfr50⟩ := Kd.R_elem HO152.out z33 (t137 : Int) p50 q50; obtain rfl := k33_openM hM50; have hx50_0 : w60.cell? ⟨go49, (t137 : Int).toNat * 6, none⟩ = some (.string ((rd_T33 y155 t137).f0)) := hcc50 0 _ rfl; have hx50_1 : w60.cell? ⟨go49, (t137 : Int).toNat * 6 + 1, none⟩ = some (.int .i64 ((rd_T33 y155 t137).f1)) := hcc50 1 _ rfl; have hx50_2 : w60.cell? ⟨go49, (t137 : Int).toNat * 6 + 2, none⟩ = some (.int .i64 ((rd_T33 y155 t137).f2)) := hcc50 2 _ rfl; have hx50_3 : w60.cell? ⟨go49, (t137 : Int).toNat * 6 + 3, none⟩ = some (.int .i64 ((rd_T33 y155 t137).f3)) := hcc50 3 _ rfl; have hx50_4 : w60.cell? ⟨go49, (t137 : Int).toNat * 6 + 4, none⟩ = some (.int .i64 ((rd_T33 y155 t137).f4)) := hcc50 4 _ rfl; have hx50_5 : w60.cell? ⟨go49, (t137 : Int).toNat * 6 + 5, none⟩ = some (.int .i64 ((rd_T33 y155 t137).f5)) := hcc50 5 _ rfl; have hf50_0 : w60.frozen? ⟨go49, (t137 : Int).toNat * 6, none⟩ = false := hfr50 0; have hf50_1 : w60.frozen? ⟨go49, (t137 : Int).toNat * 6 + 1, none⟩ = false := hfr50 1; have hf50_2 : w60.frozen? ⟨go49, (t137 : Int).toNat * 6 + 2, none⟩ = false := hfr50 2; have hf50_3 : w60.frozen? ⟨go49, (t137 : Int).toNat * 6 + 3, none⟩ = false := hfr50 3; have hf50_4 : w60.frozen? ⟨go49, (t137 : Int).toNat * 6 + 4, none⟩ = false := hfr50 4; have hf50_5 : w60.frozen? ⟨go49, (t137 : Int).toNat * 6 + 5, none⟩ = false := hfr50 5; clear hcl50 hcc50 hfr50 hM50; replace p50 := eq_true p50; replace q50 := eq_true q50; have HX61 := Aside0.mk (show Kd.R k33 33 w60 w.heap.size (fun k_ => some k_ ≠ (.slice Ao56 y147.length co56 : Value).ownBlock) (.slice (some ⟨go49, 0, none⟩) t150.length co58) y155 from (by (with_reducible repeat (first | apply Kd.R_alloc | apply Kd.R_drewN | apply Kd.R_drew)); exact HO152.out)); obtain ⟨ce61, hcl61, hM61, hcc61, hfr61⟩ := Kd.R_elem HX61.out z33 (t137 : Int) (of_decide_eq_true (by first | (with_reducible assumption) | assumption)) (by have h_ : (t137 : Int) < ((t150.length : Int) : Int) := of_decide_eq_true (by first | (with_reducible assumption) | assumption); first | exact h_ | (have e_ := (Kd.R_reads' HO152.out).1; omega) | simpa using h_); obtain rfl := k33_openM hM61; have HP61 := Kd.R_seg HX61.out (t137 : Int) (of_decide_eq_true (by first | (with_reducible assumption) | assumption)) (by have h_ : (t137 : Int) < ((t150.length : Int) : Int) := of_decide_eq_true (by first | (with_reducible assumption) | assumption); first | exact h_ | (have e_ := (Kd.R_reads' HO152.out).1; omega) | simpa using h_) (seg := [.int .i64 (wrap64 (((rd_T33 y155 t137).f2) + a2))]) (j := 2) hcl61 hcc61 (show 3 ≤ 6 from by decide) (x' := (⟨(rd_T33 y155 t137).f0, (rd_T33 y155 t137).f1, wrap64 (((rd_T33 y155 t137).f2) + a2), (rd_T33 y155 t137).f3, (rd_T33 y155 t137).f4, (rd_T33 y155 t137).f5⟩ : S33)) (k33_mkM _ _ _ (⟨(rd_T33 y155 t137).f0, (rd_T33 y155 t137).f1, wrap64 (((rd_T33 y155 t137).f2) + a2), (rd_T33 y155 t137).f3, (rd_T33 y155 t137).f4, (rd_T33 y155 t137).f5⟩ : S33) ) (fun _ hk => hk); have hx61_2 := hcc61 2 _ rfl; (try simp only [show (k33).sz = 6 from rfl, Nat.mul_one, Nat.add_zero] at hx61_2); have hf61_2 := hfr61 2; (try simp only [show (k33).sz = 6 from rfl, Nat.mul_one, Nat.add_zero] at hf61_2); clear hcl61 hcc61 hfr61 hM61) | ((with_reducible refine gate_store (t := 3) (p := 67) rfl ?_); refine store_event (t := 3) (p := 67) (v := ?vo_w62) (w1 := (w60.setCell ⟨go49, (t137 : Int).toNat * 6 + 2, none⟩ (.int .i64 (wrap64 (((rd_T33 y155 t137).f2) + a2))))) ?hg ?ho ?hn ?hr ?_; (case ho => rfl); (case hg => rfl); (case hn => rfl); (case hr => first | (go_simp; done) | (go_simp; rfl)); intro w62 hw; have hg : w60.grownBy w62 (some go49) := (by rw [hw]; exact HP61.2); have hp_ : Kd.R k33 33 w62 w.heap.size (fun k_ => some k_ ≠ (.slice Ao56 y147.length co56 : Value).ownBlock) (.slice (some ⟨go49, 0, none⟩) t150.length co58) y157 := (by rw [hw, Ny157.out]; exact HP61.1); clear HP61; have n0_ := Aside0.mk (Kd.R_after (v := (.slice (some ⟨go49, 0, none⟩) t150.length co58)) (v1 := (.slice (some ⟨go49, 0, none⟩) t150.length co58)) (ok := (fun _ => True)) (by (with_reducible repeat (first | apply Kd.R_alloc | apply Kd.R_drewN | apply Kd.R_drew)); exact HO149.out) hg (.inl rfl)); have n1_ := Aside0.mk (hp_); have n2_ := Aside0.mk ((by rw [hw]; exact below_set (HB.out) GB49.out : Below w.heap.size w w62)); clear HO149; clear HO152; clear HB; have HO149 := n0_; have HO152 := n1_; have HB := n2_; clear n0_ n1_ n2_; clear hg hw hp_))
                  go_ret2
                  exact ⟨_, by first | rfl | (simp [errW_none, errW_some] <;> rfl) | (simp [*, errW_none, errW_some] <;> rfl), by (with_reducible repeat (first | apply Kd.R_alloc | apply Kd.R_drewN | apply Kd.R_drew)); exact Kd.R_mono HO152.out (fun _ hk => trivial), by repeat (first | (with_reducible first | exact HB.out | apply below_alloc | apply pw_below_drewN | apply below_drew1) | exact HB.out)⟩
              · rw [if_neg c39] at H
                exact absurd H (by simp)
            · rw [if_neg c38] at H
              exact absurd H (by simp)

/-! ### tarrylaw08_alive: function 7 -/
def tarrylaw08_alive.f (k : Nat)  : Option (Bool) := (stock_Receive.f k ([] : List (S33)) (⟨#[99, 117, 112]⟩ : ByteArray) 5).bind fun bt158 => ((stock_Hold.f bt158.1 (⟨#[99, 117, 112]⟩ : ByteArray) 2).bind fun bt162 => (if bt158.2 = 0 then (if bt162.2 = 0 then (if (bt162.1.length : Int) = 1 then (if 0 < (bt162.1.length : Int) then (some ((((rd_T33 bt162.1 0).f0).toList) == ([99, 117, 112] : List UInt8) && (((rd_T33 bt162.1 0).f1) == 5 && (((rd_T33 bt162.1 0).f2) == 3 && (((rd_T33 bt162.1 0).f3) == 2 && (((rd_T33 bt162.1 0).f4) == 0 && (((rd_T33 bt162.1 0).f5) == 0))))))) else (none)) else (some false)) else (some false)) else (some false)))
theorem tarrylaw08_alive.mono : ∀ k, LeO (tarrylaw08_alive.f k ) (tarrylaw08_alive.f (k + 1) ) := by
  intro  k
  unfold tarrylaw08_alive.f
  repeat' first
      | (with_reducible exact stock_Receive.mono _ _ _ _)
      | (with_reducible exact LeO.refl _)
      | (with_reducible exact LeO.none _)
      | (with_reducible refine LeO.ite ?_ ?_)
      | (with_reducible refine LeO.bind ?_ (fun _ => ?_))
      | exact stock_Receive.mono _ _ _ _
      | exact LeO.none _
      | refine LeO.ite ?_ ?_
      | refine LeO.bind ?_ (fun _ => ?_)
set_option maxHeartbeats 8000000 in
set_option maxRecDepth 100000 in
theorem tarrylaw08_alive.calls (k : Nat)  (r : Bool) (w : World) (h : tarrylaw08_alive.f k  = some r) :
    Calls Try.prog 7 #[] w fun e w' => e = .returned (.bool r) ∧ Below w.heap.size w w' := by
  have hu33 := Try.underlying33
  have HB := Aside0.mk (Below.refl w.heap.size w)
  have H : ((stock_Receive.f k ([] : List (S33)) (⟨#[99, 117, 112]⟩ : ByteArray) 5).bind fun bt158 => ((stock_Hold.f bt158.1 (⟨#[99, 117, 112]⟩ : ByteArray) 2).bind fun bt162 => (if bt158.2 = 0 then (if bt162.2 = 0 then (if (bt162.1.length : Int) = 1 then (if 0 < (bt162.1.length : Int) then (some ((((rd_T33 bt162.1 0).f0).toList) == ([99, 117, 112] : List UInt8) && (((rd_T33 bt162.1 0).f1) == 5 && (((rd_T33 bt162.1 0).f2) == 3 && (((rd_T33 bt162.1 0).f3) == 2 && (((rd_T33 bt162.1 0).f4) == 0 && (((rd_T33 bt162.1 0).f5) == 0))))))) else (none)) else (some false)) else (some false)) else (some false)))) = some r := h
  clear h
  replace H := Option.bind_eq_some_iff.mp H
  obtain ⟨⟨t158, t159⟩, A10, H⟩ := H
  replace H : ((stock_Hold.f t158 (⟨#[99, 117, 112]⟩ : ByteArray) 2).bind fun bt162 => (if t159 = 0 then (if bt162.2 = 0 then (if (bt162.1.length : Int) = 1 then (if 0 < (bt162.1.length : Int) then (some ((((rd_T33 bt162.1 0).f0).toList) == ([99, 117, 112] : List UInt8) && (((rd_T33 bt162.1 0).f1) == 5 && (((rd_T33 bt162.1 0).f2) == 3 && (((rd_T33 bt162.1 0).f3) == 2 && (((rd_T33 bt162.1 0).f4) == 0 && (((rd_T33 bt162.1 0).f5) == 0))))))) else (none)) else (some false)) else (some false)) else (some false))) = some r := H
  have A1 := Aside0.mk A10
  clear A10
  replace H := Option.bind_eq_some_iff.mp H
  obtain ⟨⟨t162, t163⟩, A20, H⟩ := H
  replace H : (if t159 = 0 then (if t163 = 0 then (if (t162.length : Int) = 1 then (if 0 < (t162.length : Int) then (some ((((rd_T33 t162 0).f0).toList) == ([99, 117, 112] : List UInt8) && (((rd_T33 t162 0).f1) == 5 && (((rd_T33 t162 0).f2) == 3 && (((rd_T33 t162 0).f3) == 2 && (((rd_T33 t162 0).f4) == 0 && (((rd_T33 t162 0).f5) == 0))))))) else (none)) else (some false)) else (some false)) else (some false)) = some r := H
  have A2 := Aside0.mk A20
  clear A20
  by_cases c3 : t159 = 0
  · rw [if_pos c3] at H
    have c3b0 : (t159 == 0) = true := beq_iff_eq.mpr c3
    have c3b1 : (t159 != 0) = false := bne_eq_false_iff_eq.mpr c3
    clear c3
    by_cases c4 : t163 = 0
    · rw [if_pos c4] at H
      have c4b0 : (t163 == 0) = true := beq_iff_eq.mpr c4
      have c4b1 : (t163 != 0) = false := bne_eq_false_iff_eq.mpr c4
      clear c4
      by_cases c5 : (t162.length : Int) = 1
      · rw [if_pos c5] at H
        have c5b0 : ((t162.length : Int) == 1) = true := beq_iff_eq.mpr c5
        have c5b1 : ((t162.length : Int) != 1) = false := bne_eq_false_iff_eq.mpr c5
        clear c5
        by_cases c6 : 0 < (t162.length : Int)
        · rw [if_pos c6] at H
          have c6b0 : decide (0 < (t162.length : Int)) = true := decide_eq_true c6
          have c6b1 : decide (0 < t162.length) = true := decide_eq_true (by omega)
          clear c6
          obtain rfl := Option.some.inj H
          go_enter Try.func7, Try.ntmps7
          go_wp2_with (first | ((with_reducible refine gate_callee (f := 15) rfl ?_); refine goesL_ (some 5) rfl rfl Try.func15 (by kernel_rfl) rfl #[.slice none 0 0, .string (⟨#[99, 117, 112]⟩ : ByteArray), .int .i64 5] rfl (by (try simp only [List.map_toArray, List.map_cons, List.map_nil]); first | done | rfl | (simp only [List.length_drop, List.length_take]; rfl)) ?_; (refine (stock_Receive.calls k _ _ ([] : List (S33)) (⟨#[99, 117, 112]⟩ : ByteArray) 5 t158 t159 _ ?side1 ?side2 A1.out).mono ?_); (case side1 => exact Kd.C_nil _ _); (case side2 => exact Nat.le_refl _); rintro e w7 ⟨v160, rfl, ho0, hb⟩; refine ⟨_, rfl, ?_⟩; have n0_ := Aside0.mk (Kd.R_lower ho0 (below_size (by repeat (first | (with_reducible first | exact HB.out | apply below_alloc | apply pw_below_drewN | apply below_drew1) | exact HB.out)))); have n1_ := Aside0.mk (below_step (by repeat (first | (with_reducible first | exact HB.out | apply below_alloc | apply pw_below_drewN | apply below_drew1) | exact HB.out)) hb); clear HB; have HO161 := n0_; have HB := n1_; clear n0_ n1_; (try clear hb); (try clear hb2); (try clear hk); (try clear hi); (try clear ho0); obtain ⟨Ao8, co8, eo8⟩ := Kd.R_slice HO161.out; subst eo8) | ((with_reducible refine gate_callee (f := 11) rfl ?_); refine goesL_ (some 10) rfl rfl Try.func11 (by kernel_rfl) rfl #[.slice Ao8 t158.length co8, .string (⟨#[99, 117, 112]⟩ : ByteArray), .int .i64 2] rfl (by (try simp only [List.map_toArray, List.map_cons, List.map_nil]); first | done | rfl | (simp only [List.length_drop, List.length_take]; rfl)) ?_; (with_reducible refine (stock_Hold.calls _ _ t158 (⟨#[99, 117, 112]⟩ : ByteArray) 2 t162 t163 _ ?side1 ?side2 A2.out).mono ?_); (case side1 => repeat (first | exact (Kd.R_reads' HO161.out).2.2 | (with_reducible refine Kd.C_alloc ?_ _) | (with_reducible refine Kd.C_drewN ?_ _) | (with_reducible refine Kd.C_drew ?_))); (case side2 => exact (Kd.R_reads' HO161.out).2.1); rintro e w9 ⟨v164, rfl, ho0, hb⟩; refine ⟨_, rfl, ?_⟩; have n0_ := Aside0.mk (Kd.R_elder' (by (with_reducible repeat (first | apply Kd.R_alloc | apply Kd.R_drewN | apply Kd.R_drew)); exact HO161.out) (Kd.R_base ho0) hb); have n1_ := Aside0.mk (Kd.R_lower (Kd.R_new' ho0 (Kd.R_lt (by (with_reducible repeat (first | apply Kd.R_alloc | apply Kd.R_drewN | apply Kd.R_drew)); exact HO161.out))) (below_size (by repeat (first | (with_reducible first | exact HB.out | apply below_alloc | apply pw_below_drewN | apply below_drew1) | exact HB.out)))); have n2_ := Aside0.mk (below_step (by repeat (first | (with_reducible first | exact HB.out | apply below_alloc | apply pw_below_drewN | apply below_drew1) | exact HB.out)) hb); clear HO161; clear HB; have HO161 := n0_; have HO165 := n1_; have HB := n2_; clear n0_ n1_ n2_; (try clear hb); (try clear hb2); (try clear hk); (try clear hi); (try clear ho0); obtain ⟨Ao10, co10, eo10⟩ := Kd.R_slice HO165.out; subst eo10; have p166 : 0 ≤ (0 : Int) := (by omega); have q166 : 0 < (t162.length : Int) := of_decide_eq_true (by first | (with_reducible assumption) | assumption); obtain ⟨ad166, e166, hx166_0, hx166_1, hx166_2, hx166_3, hx166_4, hx166_5⟩ := at_T33 (Kd.R_reads' HO165.out).2.2 0 p166 q166; cases e166; have qi166 : (0 < t162.length) = True := eq_true (by omega); (try rw [show ((0 : Int)).toNat = 0 from rfl] at hx166_0); (try rw [show 0 * 6 = 0 from rfl] at hx166_0); (try rw [Addr.add_zero'] at hx166_0); (try rw [show ((0 : Int)).toNat = 0 from rfl] at hx166_1); (try rw [show 0 * 6 = 0 from rfl] at hx166_1); (try rw [Addr.add_zero'] at hx166_1); (try rw [show ((0 : Int)).toNat = 0 from rfl] at hx166_2); (try rw [show 0 * 6 = 0 from rfl] at hx166_2); (try rw [Addr.add_zero'] at hx166_2); (try rw [show ((0 : Int)).toNat = 0 from rfl] at hx166_3); (try rw [show 0 * 6 = 0 from rfl] at hx166_3); (try rw [Addr.add_zero'] at hx166_3); (try rw [show ((0 : Int)).toNat = 0 from rfl] at hx166_4); (try rw [show 0 * 6 = 0 from rfl] at hx166_4); (try rw [Addr.add_zero'] at hx166_4); (try rw [show ((0 : Int)).toNat = 0 from rfl] at hx166_5); (try rw [show 0 * 6 = 0 from rfl] at hx166_5); (try rw [Addr.add_zero'] at hx166_5); replace p166 := eq_true p166; replace q166 := eq_true q166))
          go_ret
          exact ⟨by first | rfl | (simp [errW_none, errW_some] <;> rfl) | (simp [*, errW_none, errW_some] <;> rfl), by repeat (first | (with_reducible first | exact HB.out | apply below_alloc | apply pw_below_drewN | apply below_drew1) | exact HB.out)⟩
        · rw [if_neg c6] at H
          exact absurd H (by simp)
      · rw [if_neg c5] at H
        have c5b0 : ((t162.length : Int) == 1) = false := beq_eq_false_iff_ne.mpr c5
        have c5b1 : ((t162.length : Int) != 1) = true := bne_iff_ne.mpr c5
        obtain rfl := Option.some.inj H
        go_enter Try.func7, Try.ntmps7
        go_wp2_with (first | ((with_reducible refine gate_callee (f := 15) rfl ?_); refine goesL_ (some 5) rfl rfl Try.func15 (by kernel_rfl) rfl #[.slice none 0 0, .string (⟨#[99, 117, 112]⟩ : ByteArray), .int .i64 5] rfl (by (try simp only [List.map_toArray, List.map_cons, List.map_nil]); first | done | rfl | (simp only [List.length_drop, List.length_take]; rfl)) ?_; (refine (stock_Receive.calls k _ _ ([] : List (S33)) (⟨#[99, 117, 112]⟩ : ByteArray) 5 t158 t159 _ ?side1 ?side2 A1.out).mono ?_); (case side1 => exact Kd.C_nil _ _); (case side2 => exact Nat.le_refl _); rintro e w11 ⟨v160, rfl, ho0, hb⟩; refine ⟨_, rfl, ?_⟩; have n0_ := Aside0.mk (Kd.R_lower ho0 (below_size (by repeat (first | (with_reducible first | exact HB.out | apply below_alloc | apply pw_below_drewN | apply below_drew1) | exact HB.out)))); have n1_ := Aside0.mk (below_step (by repeat (first | (with_reducible first | exact HB.out | apply below_alloc | apply pw_below_drewN | apply below_drew1) | exact HB.out)) hb); clear HB; have HO161 := n0_; have HB := n1_; clear n0_ n1_; (try clear hb); (try clear hb2); (try clear hk); (try clear hi); (try clear ho0); obtain ⟨Ao12, co12, eo12⟩ := Kd.R_slice HO161.out; subst eo12) | ((with_reducible refine gate_callee (f := 11) rfl ?_); refine goesL_ (some 10) rfl rfl Try.func11 (by kernel_rfl) rfl #[.slice Ao12 t158.length co12, .string (⟨#[99, 117, 112]⟩ : ByteArray), .int .i64 2] rfl (by (try simp only [List.map_toArray, List.map_cons, List.map_nil]); first | done | rfl | (simp only [List.length_drop, List.length_take]; rfl)) ?_; (with_reducible refine (stock_Hold.calls _ _ t158 (⟨#[99, 117, 112]⟩ : ByteArray) 2 t162 t163 _ ?side1 ?side2 A2.out).mono ?_); (case side1 => repeat (first | exact (Kd.R_reads' HO161.out).2.2 | (with_reducible refine Kd.C_alloc ?_ _) | (with_reducible refine Kd.C_drewN ?_ _) | (with_reducible refine Kd.C_drew ?_))); (case side2 => exact (Kd.R_reads' HO161.out).2.1); rintro e w13 ⟨v164, rfl, ho0, hb⟩; refine ⟨_, rfl, ?_⟩; have n0_ := Aside0.mk (Kd.R_elder' (by (with_reducible repeat (first | apply Kd.R_alloc | apply Kd.R_drewN | apply Kd.R_drew)); exact HO161.out) (Kd.R_base ho0) hb); have n1_ := Aside0.mk (Kd.R_lower (Kd.R_new' ho0 (Kd.R_lt (by (with_reducible repeat (first | apply Kd.R_alloc | apply Kd.R_drewN | apply Kd.R_drew)); exact HO161.out))) (below_size (by repeat (first | (with_reducible first | exact HB.out | apply below_alloc | apply pw_below_drewN | apply below_drew1) | exact HB.out)))); have n2_ := Aside0.mk (below_step (by repeat (first | (with_reducible first | exact HB.out | apply below_alloc | apply pw_below_drewN | apply below_drew1) | exact HB.out)) hb); clear HO161; clear HB; have HO161 := n0_; have HO165 := n1_; have HB := n2_; clear n0_ n1_ n2_; (try clear hb); (try clear hb2); (try clear hk); (try clear hi); (try clear ho0); obtain ⟨Ao14, co14, eo14⟩ := Kd.R_slice HO165.out; subst eo14))
        go_ret
        exact ⟨by first | rfl | (simp [errW_none, errW_some] <;> rfl) | (simp [*, errW_none, errW_some] <;> rfl), by repeat (first | (with_reducible first | exact HB.out | apply below_alloc | apply pw_below_drewN | apply below_drew1) | exact HB.out)⟩
    · rw [if_neg c4] at H
      have c4b0 : (t163 == 0) = false := beq_eq_false_iff_ne.mpr c4
      have c4b1 : (t163 != 0) = true := bne_iff_ne.mpr c4
      obtain rfl := Option.some.inj H
      go_enter Try.func7, Try.ntmps7
      go_wp2_with (first | ((with_reducible refine gate_callee (f := 15) rfl ?_); refine goesL_ (some 5) rfl rfl Try.func15 (by kernel_rfl) rfl #[.slice none 0 0, .string (⟨#[99, 117, 112]⟩ : ByteArray), .int .i64 5] rfl (by (try simp only [List.map_toArray, List.map_cons, List.map_nil]); first | done | rfl | (simp only [List.length_drop, List.length_take]; rfl)) ?_; (refine (stock_Receive.calls k _ _ ([] : List (S33)) (⟨#[99, 117, 112]⟩ : ByteArray) 5 t158 t159 _ ?side1 ?side2 A1.out).mono ?_); (case side1 => exact Kd.C_nil _ _); (case side2 => exact Nat.le_refl _); rintro e w15 ⟨v160, rfl, ho0, hb⟩; refine ⟨_, rfl, ?_⟩; have n0_ := Aside0.mk (Kd.R_lower ho0 (below_size (by repeat (first | (with_reducible first | exact HB.out | apply below_alloc | apply pw_below_drewN | apply below_drew1) | exact HB.out)))); have n1_ := Aside0.mk (below_step (by repeat (first | (with_reducible first | exact HB.out | apply below_alloc | apply pw_below_drewN | apply below_drew1) | exact HB.out)) hb); clear HB; have HO161 := n0_; have HB := n1_; clear n0_ n1_; (try clear hb); (try clear hb2); (try clear hk); (try clear hi); (try clear ho0); obtain ⟨Ao16, co16, eo16⟩ := Kd.R_slice HO161.out; subst eo16) | ((with_reducible refine gate_callee (f := 11) rfl ?_); refine goesL_ (some 10) rfl rfl Try.func11 (by kernel_rfl) rfl #[.slice Ao16 t158.length co16, .string (⟨#[99, 117, 112]⟩ : ByteArray), .int .i64 2] rfl (by (try simp only [List.map_toArray, List.map_cons, List.map_nil]); first | done | rfl | (simp only [List.length_drop, List.length_take]; rfl)) ?_; (with_reducible refine (stock_Hold.calls _ _ t158 (⟨#[99, 117, 112]⟩ : ByteArray) 2 t162 t163 _ ?side1 ?side2 A2.out).mono ?_); (case side1 => repeat (first | exact (Kd.R_reads' HO161.out).2.2 | (with_reducible refine Kd.C_alloc ?_ _) | (with_reducible refine Kd.C_drewN ?_ _) | (with_reducible refine Kd.C_drew ?_))); (case side2 => exact (Kd.R_reads' HO161.out).2.1); rintro e w17 ⟨v164, rfl, ho0, hb⟩; refine ⟨_, rfl, ?_⟩; have n0_ := Aside0.mk (Kd.R_elder' (by (with_reducible repeat (first | apply Kd.R_alloc | apply Kd.R_drewN | apply Kd.R_drew)); exact HO161.out) (Kd.R_base ho0) hb); have n1_ := Aside0.mk (Kd.R_lower (Kd.R_new' ho0 (Kd.R_lt (by (with_reducible repeat (first | apply Kd.R_alloc | apply Kd.R_drewN | apply Kd.R_drew)); exact HO161.out))) (below_size (by repeat (first | (with_reducible first | exact HB.out | apply below_alloc | apply pw_below_drewN | apply below_drew1) | exact HB.out)))); have n2_ := Aside0.mk (below_step (by repeat (first | (with_reducible first | exact HB.out | apply below_alloc | apply pw_below_drewN | apply below_drew1) | exact HB.out)) hb); clear HO161; clear HB; have HO161 := n0_; have HO165 := n1_; have HB := n2_; clear n0_ n1_ n2_; (try clear hb); (try clear hb2); (try clear hk); (try clear hi); (try clear ho0)))
      go_ret
      exact ⟨by first | rfl | (simp [errW_none, errW_some] <;> rfl) | (simp [*, errW_none, errW_some] <;> rfl), by repeat (first | (with_reducible first | exact HB.out | apply below_alloc | apply pw_below_drewN | apply below_drew1) | exact HB.out)⟩
  · rw [if_neg c3] at H
    have c3b0 : (t159 == 0) = false := beq_eq_false_iff_ne.mpr c3
    have c3b1 : (t159 != 0) = true := bne_iff_ne.mpr c3
    obtain rfl := Option.some.inj H
    go_enter Try.func7, Try.ntmps7
    go_wp2_with (first | ((with_reducible refine gate_callee (f := 15) rfl ?_); refine goesL_ (some 5) rfl rfl Try.func15 (by kernel_rfl) rfl #[.slice none 0 0, .string (⟨#[99, 117, 112]⟩ : ByteArray), .int .i64 5] rfl (by (try simp only [List.map_toArray, List.map_cons, List.map_nil]); first | done | rfl | (simp only [List.length_drop, List.length_take]; rfl)) ?_; (refine (stock_Receive.calls k _ _ ([] : List (S33)) (⟨#[99, 117, 112]⟩ : ByteArray) 5 t158 t159 _ ?side1 ?side2 A1.out).mono ?_); (case side1 => exact Kd.C_nil _ _); (case side2 => exact Nat.le_refl _); rintro e w18 ⟨v160, rfl, ho0, hb⟩; refine ⟨_, rfl, ?_⟩; have n0_ := Aside0.mk (Kd.R_lower ho0 (below_size (by repeat (first | (with_reducible first | exact HB.out | apply below_alloc | apply pw_below_drewN | apply below_drew1) | exact HB.out)))); have n1_ := Aside0.mk (below_step (by repeat (first | (with_reducible first | exact HB.out | apply below_alloc | apply pw_below_drewN | apply below_drew1) | exact HB.out)) hb); clear HB; have HO161 := n0_; have HB := n1_; clear n0_ n1_; (try clear hb); (try clear hb2); (try clear hk); (try clear hi); (try clear ho0); obtain ⟨Ao19, co19, eo19⟩ := Kd.R_slice HO161.out; subst eo19) | ((with_reducible refine gate_callee (f := 11) rfl ?_); refine goesL_ (some 10) rfl rfl Try.func11 (by kernel_rfl) rfl #[.slice Ao19 t158.length co19, .string (⟨#[99, 117, 112]⟩ : ByteArray), .int .i64 2] rfl (by (try simp only [List.map_toArray, List.map_cons, List.map_nil]); first | done | rfl | (simp only [List.length_drop, List.length_take]; rfl)) ?_; (with_reducible refine (stock_Hold.calls _ _ t158 (⟨#[99, 117, 112]⟩ : ByteArray) 2 t162 t163 _ ?side1 ?side2 A2.out).mono ?_); (case side1 => repeat (first | exact (Kd.R_reads' HO161.out).2.2 | (with_reducible refine Kd.C_alloc ?_ _) | (with_reducible refine Kd.C_drewN ?_ _) | (with_reducible refine Kd.C_drew ?_))); (case side2 => exact (Kd.R_reads' HO161.out).2.1); rintro e w20 ⟨v164, rfl, ho0, hb⟩; refine ⟨_, rfl, ?_⟩; have n0_ := Aside0.mk (Kd.R_elder' (by (with_reducible repeat (first | apply Kd.R_alloc | apply Kd.R_drewN | apply Kd.R_drew)); exact HO161.out) (Kd.R_base ho0) hb); have n1_ := Aside0.mk (Kd.R_lower (Kd.R_new' ho0 (Kd.R_lt (by (with_reducible repeat (first | apply Kd.R_alloc | apply Kd.R_drewN | apply Kd.R_drew)); exact HO161.out))) (below_size (by repeat (first | (with_reducible first | exact HB.out | apply below_alloc | apply pw_below_drewN | apply below_drew1) | exact HB.out)))); have n2_ := Aside0.mk (below_step (by repeat (first | (with_reducible first | exact HB.out | apply below_alloc | apply pw_below_drewN | apply below_drew1) | exact HB.out)) hb); clear HO161; clear HB; have HO161 := n0_; have HO165 := n1_; have HB := n2_; clear n0_ n1_ n2_; (try clear hb); (try clear hb2); (try clear hk); (try clear hi); (try clear ho0)))
    go_ret
    exact ⟨by first | rfl | (simp [errW_none, errW_some] <;> rfl) | (simp [*, errW_none, errW_some] <;> rfl), by repeat (first | (with_reducible first | exact HB.out | apply below_alloc | apply pw_below_drewN | apply below_drew1) | exact HB.out)⟩

/-! ### stock_Release: function 13 (by hand) -/
theorem stock_Release_1.calls (g o : Nat) (w : World) : Calls Try.prog 25 #[.pointer (some ⟨g, o, none⟩)] w fun e w' => e = .returned (.tuple #[.pointer (some ⟨g, o + 3, none⟩), .pointer (some ⟨g, o + 2, none⟩)]) ∧ Below w.heap.size w w' := by
  have hu33 := Try.underlying33
  go_enter Try.func25, Try.ntmps25
  go_wp2
  go_quiet (fail)
  go_wp2
  go_ret2
  exact ⟨rfl, pw_below_drewN (Below.refl _ _) _⟩
def stock_Release.f (l0 : List S33) (a1 : ByteArray) (a2 : Int) : Option (List S33 × Int) := some (moveF 3 2 l0 a1 a2)
set_option maxHeartbeats 8000000 in
set_option maxRecDepth 100000 in
theorem stock_Release_move.calls (A0 : Option Addr) (c0 : Nat) (l0 : List S33) (a1 : ByteArray) (a2 : Int) (r1 : List S33) (r2 : Int) (w : World) (hr0 : Kd.C k33 w A0 l0.length l0) (hc0 : l0.length ≤ c0) (h : moveF 3 2 l0 a1 a2 = (r1, r2)) :
    Calls Try.prog 22 #[.slice A0 l0.length c0, .string a1, .int .i64 a2, .func (.func 25) #[] #[]] w fun e w' => ∃ v0_ : Value, e = .returned (.tuple #[v0_, .int .i64 r2]) ∧ Kd.R k33 33 w' w.heap.size (fun _ => True) v0_ r1 ∧ Below w.heap.size w w' := by
  have hu33 := Try.underlying33
  have HR := Aside0.mk hr0
  have HC := Aside0.mk hc0
  have H := Aside0.mk h
  have h1 := Aside0.mk (stock_Right.calls A0 c0 l0 _ w hr0 hc0 rfl)
  have RI := Aside0.mk (show rightB l0 = true → l0.length ≤ 8 ∧ ∀ i, i < l0.length → rowUp l0 i = true from fun h => ⟨rightB_len l0 h, rightB_row l0 h⟩)
  have UI := Aside0.mk (show unitsB a2 = true → 1 ≤ a2 ∧ a2 ≤ 1073741824 by simp only [unitsB, Bool.and_eq_true, decide_eq_true_eq]; exact id)
  have h2 := Aside0.mk (fun W => stock_units.calls a2 _ W (stock_units_eq a2))
  clear hr0 hc0 h
  unfold moveF at H
  generalize rightB l0 = qr at h1 H RI
  generalize unitsB a2 = qu at h2 H UI
  go_enter Try.func22, Try.ntmps22
  go_wp2_with fail
  refine h1.out.mono ?_
  rintro e w2 ⟨rfl, hb2⟩
  have B2 := Aside0.mk hb2
  clear hb2 h1
  cases qr with
  | false =>
    go_wp2
    go_ret2
    have H2 := H.out
    simp at H2
    obtain ⟨rfl, rfl⟩ := H2
    exact ⟨_, rfl, Kd.R_nil _ _ _ _ _, B2.out⟩
  | true =>
    go_wp2_with fail
    refine (h2.out _).mono ?_
    rintro e w3 ⟨rfl, hd3⟩
    have B3 := Aside0.mk (below_step B2.out hd3.below)
    clear hd3 h2 B2
    cases qu with
    | false =>
      go_wp2
      go_ret2
      have H2 := H.out
      simp at H2
      obtain ⟨rfl, rfl⟩ := H2
      exact ⟨_, rfl, Kd.R_nil _ _ _ _ _, B3.out⟩
    | true =>
      obtain ⟨hlen, hup⟩ := RI.out (by first | rfl | trivial)
      obtain ⟨hn1, hn2⟩ := UI.out (by first | rfl | trivial)
      have UP := Aside0.mk hup
      clear hup RI UI
      have hat : stock_at.f l0 a1 = some ((rowAt l0 a1 : Int), rowIs l0 a1) := by unfold stock_at.f; rw [if_pos (by omega)]
      have IS := Aside0.mk (show rowIs l0 a1 = true → rowAt l0 a1 < l0.length by
        unfold rowIs bsIs rowAt
        intro h
        rw [Bool.and_eq_true, decide_eq_true_eq] at h
        exact h.1)
      have h4 := Aside0.mk (stock_at.calls A0 c0 l0 a1 _ _ w3 (Kd.C_below HR.out B3.out) HC.out hat)
      clear hat
      generalize rowAt l0 a1 = p at h4 H IS
      generalize rowIs l0 a1 = qi at h4 H IS
      go_wp2_with fail
      refine h4.out.mono ?_
      rintro e w4 ⟨rfl, hb4⟩
      have B4 := Aside0.mk (below_step B3.out hb4)
      clear hb4 h4 B3
      cases qi with
      | false =>
        go_wp2
        go_ret2
        have H2 := H.out
        simp at H2
        obtain ⟨rfl, rfl⟩ := H2
        exact ⟨_, rfl, Kd.R_nil _ _ _ _ _, B4.out⟩
      | true =>
        have hp : p < l0.length := IS.out (by first | rfl | trivial)
        clear IS
        go_wp2_with fail
        refine (api_Row_29.calls A0 c0 l0 l0 w4 (Kd.C_below HR.out B4.out) HC.out (by unfold api_Row_29.f; rw [if_pos (by omega)])).mono ?_
        rintro e w5 ⟨v5, rfl, ho5, hb5⟩
        obtain ⟨g, cap, rfl, hgb, hgl, _⟩ := Kd.R_form ho5 (by omega)
        obtain ⟨cs, hcl, hcm, hcc, hcf⟩ := Kd.R_elem ho5 z33 (p : Int) (by omega) (by omega)
        have B5 := Aside0.mk (below_step B4.out hb5)
        have O5 := Aside0.mk ho5
        rw [show l0.getD (p : Int).toNat z33 = l0.getD p z33 from rfl] at hcm
        have U := UP.out p hp
        unfold rowUp at U
        rw [Bool.and_eq_true] at U
        have MI := rowMay_in U.1
        clear U UP
        obtain ⟨x, hx⟩ : ∃ x, x = l0.getD p z33 := ⟨_, rfl⟩
        have HX := Aside0.mk hx
        rw [← hx] at hcm MI
        have H3 := H.out
        simp only [Bool.true_and, Bool.not_true, Bool.and_self, Bool.false_eq_true, if_false, ← hx] at H3
        have H4 := Aside0.mk H3
        have SZ : Aside0 (w.heap.size ≤ g) := ⟨Nat.le_trans B4.out.size hgb⟩
        have SZ2 : Aside0 (w.heap.size ≤ w4.heap.size) := ⟨B4.out.size⟩
        clear H3 H B4 hb5 ho5 hx
        obtain rfl := k33_openM hcm
        have c0_ : w5.cell? ⟨g, p * 6 + 3, none⟩ = some (.int .i64 x.f3) := hcc 3 _ rfl
        have c1_ : w5.cell? ⟨g, p * 6 + 2, none⟩ = some (.int .i64 x.f2) := hcc 2 _ rfl
        clear hcc hcf hcm hcl
        have hpz : (p : Int) < (l0.length : Int) := by omega
        have HG := Aside0.mk hgb
        have hc1 := stock_Release_1.calls g (p * 6) w5
        go_wp2_with fail
        refine hc1.mono ?_
        rintro e w6 ⟨rfl, hb6⟩
        have f0_ : w6.frozen? ⟨g, p * 6 + 3, none⟩ = false := (hb6.frozen (p := ⟨g, p * 6 + 3, none⟩) hgl).trans (by
          obtain ⟨_, _, _, _, hf⟩ := Kd.R_elem O5.out z33 (p : Int) (by omega) (by omega)
          exact hf 3)
        have f1_ : w6.frozen? ⟨g, p * 6 + 2, none⟩ = false := (hb6.frozen (p := ⟨g, p * 6 + 2, none⟩) hgl).trans (by
          obtain ⟨_, _, _, _, hf⟩ := Kd.R_elem O5.out z33 (p : Int) (by omega) (by omega)
          exact hf 2)
        replace c0_ := pw_cell_below hb6 c0_
        replace c1_ := pw_cell_below hb6 c1_
        have O6 := Aside0.mk (Kd.R_below O5.out hb6)
        have B6 := Aside0.mk (below_step B5.out hb6)
        have HGL := Aside0.mk (show g < w6.heap.size by have := hb6.size; omega)
        clear hb6 hc1 O5 B5 hgl hgb
        obtain ⟨m1, m2, m3, m4, m5, m6, m7, m8, m9, m10, m11⟩ := MI
        by_cases hlt : x.f3 < a2
        · go_wp2
          go_ret2
          have H5 := H4.out
          simp only [rowGet, hlt, if_true, Prod.mk.injEq] at H5
          obtain ⟨rfl, rfl⟩ := H5
          exact ⟨_, rfl, Kd.R_nil _ _ _ _ _, B6.out⟩
        · have H5 := H4.out
          simp only [rowGet, rowSet, hlt, if_false, Prod.mk.injEq] at H5
          have H6 := Aside0.mk H5
          clear H5 H4
          have s0 : IntKind.i64.wrap (x.f3 - a2) = x.f3 - a2 := IntWalk.i64_in _ (by omega)
          have s1 : IntKind.i64.wrap (x.f2 + a2) = x.f2 + a2 := IntWalk.i64_in _ (by omega)
          have hltb : decide (x.f3 < a2) = false := by simpa using hlt
          go_wp2
          go_ret2
          obtain ⟨rfl, rfl⟩ := H6.out
          obtain ⟨cs6, l6, m6_, cc6, _⟩ := Kd.R_elem O6.out z33 (p : Int) (by omega) hpz
          rw [show l0.getD (p : Int).toNat z33 = x from HX.out.symm] at m6_
          obtain rfl := k33_openM m6_
          have O7 := (Kd.R_seg O6.out (p : Int) (by omega) hpz (seg := [.int .i64 (x.f3 - a2)]) (j := 3) (x' := rowSet x (x.f3 - a2) 3) (okp := fun _ => False) l6 cc6 (show 3 + 1 ≤ 6 by omega) (k33_mkM _ _ _ (rowSet x (x.f3 - a2) 3)) (fun _ h => h.elim)).1
          obtain ⟨cs7, l7, m7_, cc7, _⟩ := Kd.R_elem O7 z33 (p : Int) (by omega) hpz
          rw [show (l0.set (p : Int).toNat (rowSet x (x.f3 - a2) 3)).getD (p : Int).toNat z33 = rowSet x (x.f3 - a2) 3 by simp [List.getD_eq_getElem?_getD, hp]] at m7_
          obtain rfl := k33_openM m7_
          have O8 := (Kd.R_seg O7 (p : Int) (by omega) hpz (seg := [.int .i64 (x.f2 + a2)]) (j := 2) (x' := rowSet (rowSet x (x.f3 - a2) 3) (x.f2 + a2) 2) (okp := fun _ => False) l7 cc7 (show 2 + 1 ≤ 6 by omega) (k33_mkM _ _ _ (rowSet (rowSet x (x.f3 - a2) 3) (x.f2 + a2) 2)) (fun _ h => h.elim)).1
          rw [List.set_set] at O8
          refine ⟨_, rfl, Kd.R_lower (Kd.R_mono O8 (fun _ _ => trivial)) ?_, ?_⟩
          · exact SZ2.out
          · exact below_set (below_set B6.out SZ.out) SZ.out
theorem stock_Release.calls (A0 : Option Addr) (c0 : Nat) (l0 : List S33) (a1 : ByteArray) (a2 : Int) (r1 : List S33) (r2 : Int) (w : World) (hr0 : Kd.C k33 w A0 l0.length l0) (hc0 : l0.length ≤ c0) (h : stock_Release.f l0 a1 a2 = some (r1, r2)) :
    Calls Try.prog 13 #[.slice A0 l0.length c0, .string a1, .int .i64 a2] w fun e w' => ∃ v0_ : Value, e = .returned (.tuple #[v0_, .int .i64 r2]) ∧ Kd.R k33 33 w' w.heap.size (fun _ => True) v0_ r1 ∧ Below w.heap.size w w' := by
  have H := Aside0.mk (stock_Release_move.calls A0 c0 l0 a1 a2 r1 r2 w hr0 hc0 (Option.some.inj h))
  clear hr0 hc0 h
  go_enter Try.func13, Try.ntmps13
  go_wp2_with (go_at_call 22; refine H.out.mono ?_; rintro e w' ⟨v, rfl, ho, hb⟩; have HO := Aside0.mk ho; have HB := Aside0.mk hb; clear ho hb)
  go_ret2
  exact ⟨_, rfl, HO.out, HB.out⟩


end Go.Proofs.Ytliablhnkoghbaa.PStockMoves
