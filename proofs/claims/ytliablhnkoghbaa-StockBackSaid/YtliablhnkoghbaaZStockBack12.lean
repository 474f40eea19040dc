/- The row of tarry/tarrylaw08.StockBack: for every input the law returns true, and each argument reads as it did. No condition. -/
import Derived.Test.YtliablhnkoghbaaRows
import Derived.Test.YtliablhnkoghbaaZStockBack1
import Derived.Test.YtliablhnkoghbaaZStockBack11
import Derived.WalkKit
import Derived.ProofKit
import Derived.OpenShut
import Derived.ShutString
import Derived.ChangeOld
import Derived.Below
import Derived.SizedLaws
import Derived.Carry
namespace Go.Proofs.Ytliablhnkoghbaa.stockBack
open Go.ChangeShapes Go.WideShapes Go.ChangeAt Go.RowKit Go.Proofs.YtliablhnkoghbaaH Go.Proofs.YtliablhnkoghbaaW.PrintWords Go.Proofs.YtliablhnkoghbaaW.PrintLast Go.Proofs.YtliablhnkoghbaaW.PrintMore Go.Proofs.Ytliablhnkoghbaa.PStock
set_option linter.unusedVariables false
theorem own : ownKnob Try.prog.godebug = none := by kernel_rfl
theorem laidOut : laidOutB Try.prog = true := by kernel_rfl
def G33 (x : S33) : Prop := (fun s : ByteArray => s.size ≤ 140737488351232) x.f0 ∧ (fun n : Int => (Lit.int .i64 n).wf = true) x.f1 ∧ (fun n : Int => (Lit.int .i64 n).wf = true) x.f2 ∧ (fun n : Int => (Lit.int .i64 n).wf = true) x.f3 ∧ (fun n : Int => (Lit.int .i64 n).wf = true) x.f4 ∧ (fun n : Int => (Lit.int .i64 n).wf = true) x.f5
theorem open33 : Opens Try.prog k33 33 G33 :=
  Opens.struct (fun x : S33 => (x.f0, x.f1, x.f2, x.f3, x.f4, x.f5)) (fun x => ⟨x.1, x.2.1, x.2.2.1, x.2.2.2.1, x.2.2.2.2.1, x.2.2.2.2.2⟩) (fun _ => rfl) Try.underlying33 (by kernel_rfl) (OpensF.cons (Opens.string Try.underlying9 (by kernel_rfl)) rfl (OpensF.cons (Opens.int Try.underlying3 (by kernel_rfl)) rfl (OpensF.cons (Opens.int Try.underlying3 (by kernel_rfl)) rfl (OpensF.cons (Opens.int Try.underlying3 (by kernel_rfl)) rfl (OpensF.cons (Opens.int Try.underlying3 (by kernel_rfl)) rfl (OpensF.one (Opens.int Try.underlying3 (by kernel_rfl)) rfl))))))
set_option maxRecDepth 100000 in
theorem lifted (os : Os) (started : os.Started) (H : Type) (enc : TypeId × Value → H) :
    ReturnsInHanded {} Try.checked os 4 .any (Rows.stockBackSpec.pre6 enc Try.prog Try.f4 Rows.stockBackRow.domain false) (Rows.stockBackSpec.post enc Try.prog Try.f4 false true false false) := by
  refine returnsInHanded_of_change_sized (C := Try.checked) own started (by kernel_rfl) Try.func4
    (ChangeSpec.witness6 (enc := enc) (C := Try.checked) false ⟨#[], #[.slice none 0 0, .string ByteArray.empty, .int .i64 0], []⟩ 8 (by kernel_rfl) (by kernel_rfl) (by kernel_rfl) (by kernel_rfl)) ?_
  intro W base args ds gs before hval0 hW hcnd hsz0 _
  have hsz : (DataW.weightsEach Try.prog (Try.f4.params.toList ++ Rows.stockBackSpec.plain.varTypes Try.prog) (ds ++ gs)).all (· ≤ reachBytes) = true := hsz0
  have hval : ∀ (j : Nat) t v, Try.f4.params[j]? = some t → args[j]? = some v → Value.okWide Try.prog W .any base t v := hval0
  have hW' := hW
  obtain ⟨p, q, hA0, hV, rfl, hfz, hnd⟩ := hW
  have hA : DataW.TrodAll enc Try.prog W 0 (fun _ => true) true Try.f4.params.toList args.toList ds p := hA0
  rw [Try.params4] at hA hval hsz
  obtain ⟨v0, vs0, d0, ds0, p0, q0, hargs, rfl, rfl, h0, r0⟩ := trodAll_cons hA
  obtain ⟨v1, vs1, d1, ds1, p1, q1, rfl, rfl, rfl, h1, r1⟩ := trodAll_cons r0
  obtain ⟨v2, vs2, d2, ds2, p2, q2, rfl, rfl, rfl, h2, r2⟩ := trodAll_cons r1
  obtain ⟨rfl, rfl, rfl⟩ := trodAll_nil r2
  obtain rfl : args = #[v0, v1, v2] := by cases args; simp_all
  obtain ⟨rfl, rfl⟩ := trodVars_none hV
  have k0 := h0
  obtain ⟨A0, c0, l0, rfl, hl0, hC0, g0⟩ := Opens.arg_slice (Opens.slice z33 open33 Try.underlying22 (by kernel_rfl) rfl) Try.underlying22 (hval 0 22 v0 rfl rfl) h0 (sized_each hsz (j := 0) rfl rfl)
  have k1 := h1
  obtain ⟨a1, rfl, g1⟩ := Opens.arg_string (Opens.string Try.underlying9 (by kernel_rfl)) Try.underlying9 (hval 1 9 v1 rfl rfl) h1 (sized_each hsz (j := 1) rfl rfl)
  have k2 := h2
  obtain ⟨a2, rfl, g2⟩ := Opens.arg_int (Opens.int Try.underlying3 (by kernel_rfl)) Try.underlying3 (hval 2 3 v2 rfl rfl) h2 (sized_each hsz (j := 2) rfl rfl)
  clear hA0 hval0 hsz0 hsz
  refine (tarrylaw08_StockBack.calls 500 A0 c0 l0 a1 a2 true W hC0 hl0 (back_law l0 a1 a2)).mono fun e W' ⟨he, bel⟩ => ?_
  subst he
  exact ⟨_, rfl, _, _, _, [], _, [], hW', trodAll_mk1 (shut_bool Try.underlying4 _), (trodAll_cons_mk (back_arg laidOut (by kernel_rfl) (of_decide_eq_true (by kernel_rfl)) k0 bel) (trodAll_cons_mk (back_arg laidOut (by kernel_rfl) (of_decide_eq_true (by kernel_rfl)) k1 bel) (trodAll_cons_mk (back_arg laidOut (by kernel_rfl) (of_decide_eq_true (by kernel_rfl)) k2 bel) trodAll_mk0))), rfl, bel.frame _, fun h => by cases h⟩
theorem over : Rows.stockBackRow.holds Try.pinned (OpenSpec.ofChange Rows.stockBackSpec) :=
  OpenClaim.holds_of_wide 4 Try.f4 rfl rfl rfl rfl rfl rfl rfl ⟨rfl, rfl, rfl, rfl, rfl⟩ rfl rfl rfl rfl rfl (by kernel_rfl) Try.func4 (by kernel_rfl)
    (of_decide_eq_true (by kernel_rfl)) (by unfold Func.isWrapper; first | (rw [if_pos (by decide +kernel)]; kernel_rfl) | (rw [if_neg (by decide +kernel)]; exact ⟨rfl, rfl⟩))
    (fun os started H enc _ => lifted os started H enc)
theorem proved : Rows.StockBackSaid := over
#print axioms proved
end Go.Proofs.Ytliablhnkoghbaa.stockBack
namespace Go.Proofs.Ytliablhnkoghbaa
theorem stockBack_holds : Rows.StockBackSaid := stockBack.proved
end Go.Proofs.Ytliablhnkoghbaa
