/- A part of the proof of StockBack: words and walks that it uses. -/
import Derived.Test.YtliablhnkoghbaaProg
import Derived.Below
import Derived.Deep.Draws
import Derived.Deep.AppendLies
import Derived.Maps.AppendAt
import Derived.OwnWalk
import Derived.Laws.BytesArg
import Derived.Laws.MakeOwn
import Derived.Laws.OwnMore
import Derived.Deep.OwnRows
import Derived.Tactics
import Derived.Lib.ConvBytes
import Derived.Laws.Slices
import Derived.WalkKit
import Derived.KernelRfl
import Derived.RowKit3
import Derived.Deep.LoopGhost
import Derived.Deep.QuietTactic
import Derived.BigQuiet
import Derived.WideLaws
import Derived.Deep.DeepCutAuto
import Derived.Deep.CutBlock
import Derived.Deep.RegionHeld3
import Derived.Laws.Rows
import Derived.Lib.AppendStr
import Derived.ArgAppend
import Derived.Laws.IdiomCopy
import Derived.OrdersHeld
import Derived.Laws.BitsLemmas
import Derived.RowKit
import Derived.StillTailTactics
import Derived.Test.YtliablhnkoghbaaZStockBack3
import Derived.Test.YtliablhnkoghbaaZStockBack0
import Derived.Test.YtliablhnkoghbaaZStockBack4
import Derived.Test.YtliablhnkoghbaaZStockBack5
import Derived.Test.YtliablhnkoghbaaZStockBack6
namespace Go.Proofs.Ytliablhnkoghbaa.PStock
open Go.RowKit Go.Proofs.YtliablhnkoghbaaH Go.Proofs.YtliablhnkoghbaaW.PrintWords Go.Proofs.YtliablhnkoghbaaW.PrintLast Go.Proofs.YtliablhnkoghbaaW.PrintMore
attribute [local go_sem] max2_int min2_int max_two min_two max_three min_three max_four min_four
set_option linter.unusedVariables false
set_option linter.unusedSimpArgs false
def errW : Option Int → Value
 | none => .nilIface
 | some c => .iface 0 (.int .i64 c)
theorem errW_none : errW none = .nilIface := rfl
theorem errW_some (c : Int) : errW (some c) = .iface 0 (.int .i64 c) := rfl
theorem info33 : (Try.prog.info? 33).map (fun i => (i.zero, i.size, i.bytes)) = some (some (.agg #[(.string ⟨#[]⟩), (.int .i64 0), (.int .i64 0), (.int .i64 0), (.int .i64 0), (.int .i64 0)]), 6, 56) := by kernel_rfl
structure S33 where
 f0 : ByteArray
 f1 : Int
 f2 : Int
 f3 : Int
 f4 : Int
 f5 : Int
def z33 : S33 := ⟨(⟨#[]⟩ : ByteArray), (0 : Int), (0 : Int), (0 : Int), (0 : Int), (0 : Int)⟩
def k33 : Kd S33 := Kd.iso (Kd.pair Kd.string (Kd.pair (Kd.int .i64) (Kd.pair (Kd.int .i64) (Kd.pair (Kd.int .i64) (Kd.pair (Kd.int .i64) (Kd.int .i64)))))) (fun x : S33 => (x.f0, x.f1, x.f2, x.f3, x.f4, x.f5))
theorem k33_open {w : World} {x : S33} {cs : List Value} (h : k33.K w x cs) : cs = [.string x.f0, .int .i64 x.f1, .int .i64 x.f2, .int .i64 x.f3, .int .i64 x.f4, .int .i64 x.f5] := by
 obtain ⟨_, _, rfl, rfl, ⟨_, _, rfl, rfl, ⟨_, _, rfl, rfl, ⟨_, _, rfl, rfl, ⟨_, _, rfl, rfl, rfl⟩⟩⟩⟩⟩ := h
 exact rfl
theorem k33_openM {w : World} {base : Nat} {ok : Nat → Prop} {x : S33} {cs : List Value} (h : k33.M w base ok x cs) : cs = [.string x.f0, .int .i64 x.f1, .int .i64 x.f2, .int .i64 x.f3, .int .i64 x.f4, .int .i64 x.f5] := by
 obtain ⟨_, _, rfl, rfl, ⟨_, _, rfl, rfl, ⟨_, _, rfl, rfl, ⟨_, _, rfl, rfl, ⟨_, _, rfl, rfl, rfl⟩⟩⟩⟩⟩ := h
 exact rfl
theorem k33_mkM (w : World) (base : Nat) (ok : Nat → Prop) (x : S33)  : k33.M w base ok x [.string x.f0, .int .i64 x.f1, .int .i64 x.f2, .int .i64 x.f3, .int .i64 x.f4, .int .i64 x.f5] := ⟨[.string x.f0], [.int .i64 x.f1, .int .i64 x.f2, .int .i64 x.f3, .int .i64 x.f4, .int .i64 x.f5], rfl, rfl, ⟨[.int .i64 x.f1], [.int .i64 x.f2, .int .i64 x.f3, .int .i64 x.f4, .int .i64 x.f5], rfl, rfl, ⟨[.int .i64 x.f2], [.int .i64 x.f3, .int .i64 x.f4, .int .i64 x.f5], rfl, rfl, ⟨[.int .i64 x.f3], [.int .i64 x.f4, .int .i64 x.f5], rfl, rfl, ⟨[.int .i64 x.f4], [.int .i64 x.f5], rfl, rfl, rfl⟩⟩⟩⟩⟩
def rd_T33 (xs : List S33) (i : Int) : S33 := xs.getD i.toNat z33
theorem at_T33 {w : World} {A : Option Addr} {n : Nat} {xs : List S33} (h : Kd.C k33 w A n xs) (i : Int) (h0 : 0 ≤ i) (h1 : i < n) : ∃ ad , A = some ad ∧ w.cell? (ad.add (i.toNat * 6)) = some (.string (rd_T33 xs i).f0) ∧ w.cell? ⟨(ad.add (i.toNat * 6)).block, (ad.add (i.toNat * 6)).off + 1, none⟩ = some (.int .i64 (rd_T33 xs i).f1) ∧ w.cell? ⟨(ad.add (i.toNat * 6)).block, (ad.add (i.toNat * 6)).off + 2, none⟩ = some (.int .i64 (rd_T33 xs i).f2) ∧ w.cell? ⟨(ad.add (i.toNat * 6)).block, (ad.add (i.toNat * 6)).off + 3, none⟩ = some (.int .i64 (rd_T33 xs i).f3) ∧ w.cell? ⟨(ad.add (i.toNat * 6)).block, (ad.add (i.toNat * 6)).off + 4, none⟩ = some (.int .i64 (rd_T33 xs i).f4) ∧ w.cell? ⟨(ad.add (i.toNat * 6)).block, (ad.add (i.toNat * 6)).off + 5, none⟩ = some (.int .i64 (rd_T33 xs i).f5) := by
 obtain ⟨ad, c, e, _, hK, hc0⟩ := Kd.C_get h z33 i h0 h1
 have hc : ∀ j u, c[j]? = some u → w.cell? (ad.add (i.toNat * 6 + j)) = some u := hc0
 obtain rfl := k33_open hK
 exact ⟨ad, e, hc 0 _ rfl, by rw [← add_field _ _ 1 (by omega)]; exact hc 1 _ rfl, by rw [← add_field _ _ 2 (by omega)]; exact hc 2 _ rfl, by rw [← add_field _ _ 3 (by omega)]; exact hc 3 _ rfl, by rw [← add_field _ _ 4 (by omega)]; exact hc 4 _ rfl, by rw [← add_field _ _ 5 (by omega)]; exact hc 5 _ rfl⟩
structure S69 where
 f0 : ByteArray
 f1 : ByteArray
 f2 : Int
 f3 : Int
 f4 : Int
def z69 : S69 := ⟨(⟨#[]⟩ : ByteArray), (⟨#[]⟩ : ByteArray), (0 : Int), (0 : Int), (0 : Int)⟩
def k69 : Kd S69 := Kd.iso (Kd.pair Kd.string (Kd.pair Kd.string (Kd.pair (Kd.int .i64) (Kd.pair (Kd.int .i64) (Kd.int .i64))))) (fun x : S69 => (x.f0, x.f1, x.f2, x.f3, x.f4))
theorem k69_open {w : World} {x : S69} {cs : List Value} (h : k69.K w x cs) : cs = [.string x.f0, .string x.f1, .int .i64 x.f2, .int .i64 x.f3, .int .i64 x.f4] := by
 obtain ⟨_, _, rfl, rfl, ⟨_, _, rfl, rfl, ⟨_, _, rfl, rfl, ⟨_, _, rfl, rfl, rfl⟩⟩⟩⟩ := h
 exact rfl
def rd_T69 (xs : List S69) (i : Int) : S69 := xs.getD i.toNat z69
theorem at_T69 {w : World} {A : Option Addr} {n : Nat} {xs : List S69} (h : Kd.C k69 w A n xs) (i : Int) (h0 : 0 ≤ i) (h1 : i < n) : ∃ ad , A = some ad ∧ w.cell? (ad.add (i.toNat * 5)) = some (.string (rd_T69 xs i).f0) ∧ w.cell? ⟨(ad.add (i.toNat * 5)).block, (ad.add (i.toNat * 5)).off + 1, none⟩ = some (.string (rd_T69 xs i).f1) ∧ w.cell? ⟨(ad.add (i.toNat * 5)).block, (ad.add (i.toNat * 5)).off + 2, none⟩ = some (.int .i64 (rd_T69 xs i).f2) ∧ w.cell? ⟨(ad.add (i.toNat * 5)).block, (ad.add (i.toNat * 5)).off + 3, none⟩ = some (.int .i64 (rd_T69 xs i).f3) ∧ w.cell? ⟨(ad.add (i.toNat * 5)).block, (ad.add (i.toNat * 5)).off + 4, none⟩ = some (.int .i64 (rd_T69 xs i).f4) := by
 obtain ⟨ad, c, e, _, hK, hc0⟩ := Kd.C_get h z69 i h0 h1
 have hc : ∀ j u, c[j]? = some u → w.cell? (ad.add (i.toNat * 5 + j)) = some u := hc0
 obtain rfl := k69_open hK
 exact ⟨ad, e, hc 0 _ rfl, by rw [← add_field _ _ 1 (by omega)]; exact hc 1 _ rfl, by rw [← add_field _ _ 2 (by omega)]; exact hc 2 _ rfl, by rw [← add_field _ _ 3 (by omega)]; exact hc 3 _ rfl, by rw [← add_field _ _ 4 (by omega)]; exact hc 4 _ rfl⟩
structure S64 where
 f0 : (List ByteArray)
 f1 : (List S69)
end Go.Proofs.Ytliablhnkoghbaa.PStock
namespace Go.Proofs.Ytliablhnkoghbaa.PStock
open Go.RowKit Go.Proofs.YtliablhnkoghbaaH Go.Proofs.YtliablhnkoghbaaW.PrintWords Go.Proofs.YtliablhnkoghbaaW.PrintLast Go.Proofs.YtliablhnkoghbaaW.PrintMore
attribute [local go_sem] max2_int min2_int max_two min_two max_three min_three max_four min_four
set_option linter.unusedVariables false
set_option linter.unusedSimpArgs false
set_option maxHeartbeats 2000000 in
theorem slices_sub_IndexFunc.calls (p : S69 → Bool) (g : Nat) (lb : Array Value) (eg : ∀ args w, (callFunc g args).run Try.prog w = .ok (.enter g args) w) (A0 : Option Addr) (c0 : Nat) (l0 : List S69) (w : World)
  (hr0 : Kd.C k69 w A0 l0.length l0) (hp : PredB Try.prog g lb (fun x_ : S69 => Value.agg #[.string x_.f0, .string x_.f1, .int .i64 x_.f2, .int .i64 x_.f3, .int .i64 x_.f4]) p l0 w) :
  Calls Try.prog 59 #[.slice A0 l0.length c0, .func (.func g) #[] lb] w fun e w' => e = .returned (.int .i64 (idxP p l0)) ∧ Below w.heap.size w w' := by
 have hu69 := Try.underlying69
 have HR0 := Aside0.mk hr0
 have HP := Aside0.mk hp
 clear hr0 hp
 have hlen : l0.length ≤ 9223372036854775807 := HR0.out.2.1
 go_enter Try.func59, Try.ntmps59
 go_wp2
 go_loopg [5, 8] l0.length (fun gg _ s8 wr => ∃ kk : Nat, kk ≤ l0.length ∧ l0.length - kk ≤ gg ∧ s8 = .int .i64 kk ∧ Aside0 (Below w.heap.size w wr) ∧ Aside0 (∀ j (hj : j < l0.length), j < kk → p l0[j] = false))
 case atStart => exact ⟨0, Nat.zero_le _, by omega, rfl, ⟨Below.refl _ w⟩, ⟨fun j _ hj => absurd hj (Nat.not_lt_zero _)⟩⟩
 case round =>
  obtain ⟨kk, hkk, hg, rfl, BW, A⟩ := hrel
  by_cases hlt : kk < l0.length
  ·have hltz : (kk : Int) < (l0.length : Int) := by omega
   obtain ⟨ad, e0, hx0, hx1, hx2, hx3, hx4⟩ := at_T69 HR0.out (kk : Int) (by omega) hltz
   subst e0
   replace hx0 := (BW.out.cell (World.block_lt_of_cell? w _ hx0)).trans hx0
   replace hx1 := (BW.out.cell (World.block_lt_of_cell? w _ hx1)).trans hx1
   replace hx2 := (BW.out.cell (World.block_lt_of_cell? w _ hx2)).trans hx2
   replace hx3 := (BW.out.cell (World.block_lt_of_cell? w _ hx3)).trans hx3
   replace hx4 := (BW.out.cell (World.block_lt_of_cell? w _ hx4)).trans hx4
   have hcall := HP.out wr (rd_T69 l0 (kk : Int)) (by rw [show rd_T69 l0 (kk : Int) = l0[kk] from getD_get _ l0 kk hlt]; exact List.getElem_mem hlt) BW.out
   simp only [Int.toNat_natCast] at hx0 hx1 hx2 hx3 hx4
   generalize hy : rd_T69 l0 (kk : Int) = y at hx0 hx1 hx2 hx3 hx4 hcall
   have Y : Aside0 (l0[kk] = y) := ⟨(getD_get _ l0 kk hlt).symm.trans hy⟩
   clear hy
   cases hq : p y with
   | true =>
    rw [hq] at hcall
    have Q := Aside0.mk hq
    clear hq
    go_wp2_with (go_at_fn g; refine hcall.mono ?_; rintro e w' ⟨rfl, hb'⟩)
    go_ret
    refine ⟨?_, below_step BW.out hb'⟩
    rw [idxP_hit p l0 kk hlt (by rw [Y.out]; exact Q.out) (fun j hj => A.out j (by omega) hj)]
    rfl
   | false =>
    rw [hq] at hcall
    have Q := Aside0.mk hq
    clear hq
    go_wp2_with (go_at_fn g; refine hcall.mono ?_; rintro e w' ⟨rfl, hb'⟩)
    go_roundg (l0.length - (kk + 1))
    case measure => omega
    case rel =>
     refine ⟨kk + 1, by omega, by omega, by go_num, ⟨below_step BW.out hb'⟩, ⟨fun j hj hjk => ?_⟩⟩
     by_cases e : j = kk
     ·subst e
      rw [Y.out]; exact Q.out
     ·exact A.out j hj (by omega)
  ·have hltz : ¬ (kk : Int) < (l0.length : Int) := by omega
   have E0 : kk = l0.length := by omega
   subst E0
   go_wp2
   go_ret
   refine ⟨?_, BW.out⟩
   rw [idxP_miss p l0 (fun j hj => A.out j hj hj)]
   rfl
set_option maxHeartbeats 2000000 in
theorem slices_sub_ContainsFunc.calls (p : S69 → Bool) (g : Nat) (lb : Array Value) (eg : ∀ args w, (callFunc g args).run Try.prog w = .ok (.enter g args) w) (A0 : Option Addr) (c0 : Nat) (l0 : List S69) (w : World)
  (hr0 : Kd.C k69 w A0 l0.length l0) (hp : PredB Try.prog g lb (fun x_ : S69 => Value.agg #[.string x_.f0, .string x_.f1, .int .i64 x_.f2, .int .i64 x_.f3, .int .i64 x_.f4]) p l0 w) :
  Calls Try.prog 47 #[.slice A0 l0.length c0, .func (.func g) #[] lb] w fun e w' => e = .returned (.bool (l0.any p)) ∧ Below w.heap.size w w' := by
 have H := slices_sub_IndexFunc.calls p g lb eg A0 c0 l0 w hr0 hp
 have E := Aside0.mk (idxP_any p l0)
 clear hr0 hp
 generalize idxP p l0 = x at H E
 go_enter Try.func47, Try.ntmps47
 go_wp2_with (go_at_call 59; refine H.mono ?_; rintro e w' ⟨rfl, hb⟩)
 go_ret
 refine ⟨?_, hb⟩
 rw [← E.out]
 rfl
end Go.Proofs.Ytliablhnkoghbaa.PStock
namespace Go.Proofs.Ytliablhnkoghbaa.PStock
open Go.RowKit Go.Proofs.YtliablhnkoghbaaH Go.Proofs.YtliablhnkoghbaaW.PrintWords Go.Proofs.YtliablhnkoghbaaW.PrintLast Go.Proofs.YtliablhnkoghbaaW.PrintMore
attribute [local go_sem] max2_int min2_int max_two min_two max_three min_three max_four min_four
set_option linter.unusedVariables false
set_option linter.unusedSimpArgs false
def goods_name_1.f (a0 : Int) : Option (Bool) := if a0 < 97 then (if a0 < 48 then (some true) else (some (decide (a0 > 57)))) else (if a0 > 122 then (if a0 < 48 then (some true) else (some (decide (a0 > 57)))) else (some false))
set_option maxHeartbeats 8000000 in
set_option maxRecDepth 100000 in
theorem goods_name_1.calls (a0 : Int) (r : Bool) (w : World) (h : goods_name_1.f a0 = some r) :
  Calls Try.prog 63 #[.int .u8 a0] w fun e w' => e = .returned (.bool r) ∧ Drawn0 w w' := by
 have H : (if a0 < 97 then (if a0 < 48 then (some true) else (some (decide (a0 > 57)))) else (if a0 > 122 then (if a0 < 48 then (some true) else (some (decide (a0 > 57)))) else (some false))) = some r := h
 clear h
 by_cases c2 : a0 < 97
 ·rw [if_pos c2] at H
  have c2b0 : decide (a0 < 97) = true := decide_eq_true c2
  clear c2
  by_cases c3 : a0 < 48
  ·rw [if_pos c3] at H
   have c3b0 : decide (a0 < 48) = true := decide_eq_true c3
   clear c3
   obtain rfl := Option.some.inj H
   go_enter Try.func63, Try.ntmps63
   go_wp2
   go_ret
   exact ⟨by first | rfl | (simp; done) | (simp [*]; done), by repeat (first | exact Drawn0.refl _ | apply Drawn0.step)⟩
  ·rw [if_neg c3] at H
   have c3b0 : decide (a0 < 48) = false := decide_eq_false c3
   clear c3
   obtain rfl := Option.some.inj H
   go_enter Try.func63, Try.ntmps63
   go_wp2
   go_ret
   exact ⟨by first | rfl | (simp; done) | (simp [*]; done), by repeat (first | exact Drawn0.refl _ | apply Drawn0.step)⟩
 ·rw [if_neg c2] at H
  have c2b0 : decide (a0 < 97) = false := decide_eq_false c2
  clear c2
  by_cases c4 : a0 > 122
  ·rw [if_pos c4] at H
   have c4b0 : decide (122 < a0) = true := decide_eq_true c4
   clear c4
   by_cases c5 : a0 < 48
   ·rw [if_pos c5] at H
    have c5b0 : decide (a0 < 48) = true := decide_eq_true c5
    clear c5
    obtain rfl := Option.some.inj H
    go_enter Try.func63, Try.ntmps63
    go_wp2
    go_ret
    exact ⟨by first | rfl | (simp; done) | (simp [*]; done), by repeat (first | exact Drawn0.refl _ | apply Drawn0.step)⟩
   ·rw [if_neg c5] at H
    have c5b0 : decide (a0 < 48) = false := decide_eq_false c5
    clear c5
    obtain rfl := Option.some.inj H
    go_enter Try.func63, Try.ntmps63
    go_wp2
    go_ret
    exact ⟨by first | rfl | (simp; done) | (simp [*]; done), by repeat (first | exact Drawn0.refl _ | apply Drawn0.step)⟩
  ·rw [if_neg c4] at H
   have c4b0 : decide (122 < a0) = false := decide_eq_false c4
   clear c4
   obtain rfl := Option.some.inj H
   go_enter Try.func63, Try.ntmps63
   go_wp2
   go_ret
   exact ⟨by first | rfl | (simp; done) | (simp [*]; done), by repeat (first | exact Drawn0.refl _ | apply Drawn0.step)⟩
end Go.Proofs.Ytliablhnkoghbaa.PStock
namespace Go.Proofs.Ytliablhnkoghbaa.PStock
open Go.RowKit Go.Proofs.YtliablhnkoghbaaH Go.Proofs.YtliablhnkoghbaaW.PrintWords Go.Proofs.YtliablhnkoghbaaW.PrintLast Go.Proofs.YtliablhnkoghbaaW.PrintMore
attribute [local go_sem] max2_int min2_int max_two min_two max_three min_three max_four min_four
set_option linter.unusedVariables false
set_option linter.unusedSimpArgs false
set_option maxHeartbeats 2000000 in
theorem slices_u8_IndexFunc.calls (p : Int → Bool) (g : Nat) (lb : Array Value) (eg : ∀ args w, (callFunc g args).run Try.prog w = .ok (.enter g args) w) (A0 : Option Addr) (c0 : Nat) (l0 : List Int) (w : World)
  (hr0 : Kd.C (Kd.int .u8) w A0 l0.length l0) (hp : PredB Try.prog g lb (Value.int .u8) p l0 w) :
  Calls Try.prog 68 #[.slice A0 l0.length c0, .func (.func g) #[] lb] w fun e w' => e = .returned (.int .i64 (idxP p l0)) ∧ Below w.heap.size w w' := by
 have HR0 := Aside0.mk hr0
 have HP := Aside0.mk hp
 clear hr0 hp
 have hlen : l0.length ≤ 9223372036854775807 := HR0.out.2.1
 go_enter Try.func68, Try.ntmps68
 go_wp2
 go_loopg [5, 8] l0.length (fun gg _ s8 wr => ∃ kk : Nat, kk ≤ l0.length ∧ l0.length - kk ≤ gg ∧ s8 = .int .i64 kk ∧ Aside0 (Below w.heap.size w wr) ∧ Aside0 (∀ j (hj : j < l0.length), j < kk → p l0[j] = false))
 case atStart => exact ⟨0, Nat.zero_le _, by omega, rfl, ⟨Below.refl _ w⟩, ⟨fun j _ hj => absurd hj (Nat.not_lt_zero _)⟩⟩
 case round =>
  obtain ⟨kk, hkk, hg, rfl, BW, A⟩ := hrel
  by_cases hlt : kk < l0.length
  ·have hltz : (kk : Int) < (l0.length : Int) := by omega
   obtain ⟨ad, e0, hx0⟩ := at_int HR0.out (kk : Int) (by omega) hltz
   subst e0
   replace hx0 := (BW.out.cell (World.block_lt_of_cell? w _ hx0)).trans hx0
   have hcall := HP.out wr (rd l0 (kk : Int)) (by rw [show rd l0 (kk : Int) = l0[kk] from getD_get _ l0 kk hlt]; exact List.getElem_mem hlt) BW.out
   simp only [Int.toNat_natCast] at hx0
   generalize hy : rd l0 (kk : Int) = y at hx0 hcall
   have Y : Aside0 (l0[kk] = y) := ⟨(getD_get _ l0 kk hlt).symm.trans hy⟩
   clear hy
   cases hq : p y with
   | true =>
    rw [hq] at hcall
    have Q := Aside0.mk hq
    clear hq
    go_wp2_with (go_at_fn g; refine hcall.mono ?_; rintro e w' ⟨rfl, hb'⟩)
    go_ret
    refine ⟨?_, below_step BW.out hb'⟩
    rw [idxP_hit p l0 kk hlt (by rw [Y.out]; exact Q.out) (fun j hj => A.out j (by omega) hj)]
    rfl
   | false =>
    rw [hq] at hcall
    have Q := Aside0.mk hq
    clear hq
    go_wp2_with (go_at_fn g; refine hcall.mono ?_; rintro e w' ⟨rfl, hb'⟩)
    go_roundg (l0.length - (kk + 1))
    case measure => omega
    case rel =>
     refine ⟨kk + 1, by omega, by omega, by go_num, ⟨below_step BW.out hb'⟩, ⟨fun j hj hjk => ?_⟩⟩
     by_cases e : j = kk
     ·subst e
      rw [Y.out]; exact Q.out
     ·exact A.out j hj (by omega)
  ·have hltz : ¬ (kk : Int) < (l0.length : Int) := by omega
   have E0 : kk = l0.length := by omega
   subst E0
   go_wp2
   go_ret
   refine ⟨?_, BW.out⟩
   rw [idxP_miss p l0 (fun j hj => A.out j hj hj)]
   rfl
set_option maxHeartbeats 2000000 in
theorem slices_u8_ContainsFunc.calls (p : Int → Bool) (g : Nat) (lb : Array Value) (eg : ∀ args w, (callFunc g args).run Try.prog w = .ok (.enter g args) w) (A0 : Option Addr) (c0 : Nat) (l0 : List Int) (w : World)
  (hr0 : Kd.C (Kd.int .u8) w A0 l0.length l0) (hp : PredB Try.prog g lb (Value.int .u8) p l0 w) :
  Calls Try.prog 64 #[.slice A0 l0.length c0, .func (.func g) #[] lb] w fun e w' => e = .returned (.bool (l0.any p)) ∧ Below w.heap.size w w' := by
 have H := slices_u8_IndexFunc.calls p g lb eg A0 c0 l0 w hr0 hp
 have E := Aside0.mk (idxP_any p l0)
 clear hr0 hp
 generalize idxP p l0 = x at H E
 go_enter Try.func64, Try.ntmps64
 go_wp2_with (go_at_call 68; refine H.mono ?_; rintro e w' ⟨rfl, hb⟩)
 go_ret
 refine ⟨?_, hb⟩
 rw [← E.out]
 rfl
end Go.Proofs.Ytliablhnkoghbaa.PStock
namespace Go.Proofs.Ytliablhnkoghbaa.PStock
open Go.RowKit Go.Proofs.YtliablhnkoghbaaH Go.Proofs.YtliablhnkoghbaaW.PrintWords Go.Proofs.YtliablhnkoghbaaW.PrintLast Go.Proofs.YtliablhnkoghbaaW.PrintMore
attribute [local go_sem] max2_int min2_int max_two min_two max_three min_three max_four min_four
set_option linter.unusedVariables false
set_option linter.unusedSimpArgs false
def goods_name.f (a0 : ByteArray) : Option Bool := some (nameOk a0)
theorem goods_name_odd (x : Int) : goods_name_1.f x = some (!okc x) := by
 unfold goods_name_1.f okc
 by_cases h1 : x < 97 <;> by_cases h2 : x > 122 <;> by_cases h3 : x < 48 <;> by_cases h4 : x > 57 <;> simp [h1, h2, h3, h4] <;> omega
set_option maxHeartbeats 2000000 in
theorem goods_name.calls (a0 : ByteArray) (r : Bool) (w : World) (h : goods_name.f a0 = some r) :
  Calls Try.prog 53 #[.string a0] w fun e w' => e = .returned (.bool r) ∧ Below w.heap.size w w' := by
 obtain rfl := Option.some.inj h
 clear h
 have kb := fun W => print_bytes (P := Try.prog) 9 83 5 Try.underlying9 Try.underlying83 Try.underlying5 a0 W
 by_cases h1 : a0.toList = []
 ·have e1 : nameOk a0 = false := by simp [nameOk, h1]
  rw [e1]
  go_enter Try.func53, Try.ntmps53
  go_wp2
  go_ret
  exact ⟨rfl, Below.refl _ _⟩
 ·have h1b : a0.toList.isEmpty = false := by simpa using h1
  by_cases h2 : a0.size ≤ 16
  ·have e1 : nameOk a0 = !((bytesOf a0).any fun x => !okc x) := by simp [nameOk, h1, h2, List.all_eq_not_any_not]
   rw [e1]
   have E : Aside0 ((bytesOf a0).length = a0.size) := ⟨bytesOf_length a0⟩
   have HC : ∀ (W : World) c0, Below w.heap.size w W → Calls Try.prog 64 #[.slice (some ⟨W.heap.size, 0, none⟩) a0.size c0, .func (.func 63) #[] #[]] (Lib.bytesWorld W 5 a0) fun e w' => e = .returned (.bool ((bytesOf a0).any fun x => !okc x)) ∧ Below w.heap.size w w' := by
    intro W c0 hW
    have hr := bytes_reads W 5 a0 (by omega)
    rw [← E.out] at hr
    have := slices_u8_ContainsFunc.calls (fun x => !okc x) 63 #[] (enters_of Try.func63 (by kernel_rfl) rfl) (some ⟨W.heap.size, 0, none⟩) c0 (bytesOf a0) (Lib.bytesWorld W 5 a0) (Kd.C_of_reads (d := (0 : Int)) (h1 := fun _ => rfl) hr) (fun W' x _ hb => (goods_name_1.calls x _ W' (goods_name_odd x)).mono fun e w' ⟨he, hd⟩ => ⟨he, hd.below⟩)
    rw [E.out] at this
    exact this.mono fun e w' ⟨he, hb⟩ => ⟨he, below_step (bytes_below hW hW.size _ _) hb⟩
   have HC := Aside0.mk HC
   clear e1
   go_enter Try.func53, Try.ntmps53
   go_wp2_with (go_at_call 64; refine (HC.out _ _ (Below.refl _ _)).mono ?_; rintro e w' ⟨rfl, hb⟩)
   go_ret
   exact ⟨rfl, hb⟩
  ·have e1 : nameOk a0 = false := by simp [nameOk, h2]
   rw [e1]
   go_enter Try.func53, Try.ntmps53
   go_wp2
   go_ret
   exact ⟨rfl, Below.refl _ _⟩
end Go.Proofs.Ytliablhnkoghbaa.PStock
namespace Go.Proofs.Ytliablhnkoghbaa.PStock
open Go.RowKit Go.Proofs.YtliablhnkoghbaaH Go.Proofs.YtliablhnkoghbaaW.PrintWords Go.Proofs.YtliablhnkoghbaaW.PrintLast Go.Proofs.YtliablhnkoghbaaW.PrintMore
attribute [local go_sem] max2_int min2_int max_two min_two max_three min_three max_four min_four
set_option linter.unusedVariables false
set_option linter.unusedSimpArgs false
def goods_in.f (a0 : Int) (a1 : Int) : Option (Bool) := if a0 ≥ 1 then (some (decide (a0 ≤ a1))) else (some false)
set_option maxHeartbeats 8000000 in
set_option maxRecDepth 100000 in
theorem goods_in.calls (a0 : Int) (a1 : Int) (r : Bool) (w : World) (h : goods_in.f a0 a1 = some r) :
  Calls Try.prog 60 #[.int .i64 a0, .int .i64 a1] w fun e w' => e = .returned (.bool r) ∧ Drawn0 w w' := by
 have H : (if a0 ≥ 1 then (some (decide (a0 ≤ a1))) else (some false)) = some r := h
 clear h
 by_cases c3 : a0 ≥ 1
 ·rw [if_pos c3] at H
  have c3b0 : decide (1 ≤ a0) = true := decide_eq_true c3
  clear c3
  obtain rfl := Option.some.inj H
  go_enter Try.func60, Try.ntmps60
  go_wp2
  go_ret
  exact ⟨by first | rfl | (simp; done) | (simp [*]; done), by repeat (first | exact Drawn0.refl _ | apply Drawn0.step)⟩
 ·rw [if_neg c3] at H
  have c3b0 : decide (1 ≤ a0) = false := decide_eq_false c3
  clear c3
  obtain rfl := Option.some.inj H
  go_enter Try.func60, Try.ntmps60
  go_wp2
  go_ret
  exact ⟨by first | rfl | (simp; done) | (simp [*]; done), by repeat (first | exact Drawn0.refl _ | apply Drawn0.step)⟩
end Go.Proofs.Ytliablhnkoghbaa.PStock
namespace Go.Proofs.Ytliablhnkoghbaa.PStock
open Go.RowKit Go.Proofs.YtliablhnkoghbaaH Go.Proofs.YtliablhnkoghbaaW.PrintWords Go.Proofs.YtliablhnkoghbaaW.PrintLast Go.Proofs.YtliablhnkoghbaaW.PrintMore
attribute [local go_sem] max2_int min2_int max_two min_two max_three min_three max_four min_four
set_option linter.unusedVariables false
set_option linter.unusedSimpArgs false
def goods_may.f (a0_0 : ByteArray) (a0_1 : ByteArray) (a0_2 : Int) (a0_3 : Int) (a0_4 : Int) : Option (Bool) := (goods_name.f a0_0).bind fun t111 => (if t111 = true then ((goods_name.f a0_1).bind fun t112 => (if t112 = true then (if a0_0.toList = a0_1.toList then (some false) else ((goods_in.f a0_2 9).bind fun t113 => (if t113 = true then ((goods_in.f a0_3 100).bind fun t114 => (if t114 = true then ((goods_in.f a0_4 100).bind fun t115 => (some t115)) else (some false))) else (some false)))) else (some false))) else (some false))
set_option maxHeartbeats 8000000 in
set_option maxRecDepth 100000 in
theorem goods_may.calls (a0_0 : ByteArray) (a0_1 : ByteArray) (a0_2 : Int) (a0_3 : Int) (a0_4 : Int) (r : Bool) (w : World) (h : goods_may.f a0_0 a0_1 a0_2 a0_3 a0_4 = some r) :
  Calls Try.prog 49 #[.agg #[.string a0_0, .string a0_1, .int .i64 a0_2, .int .i64 a0_3, .int .i64 a0_4]] w fun e w' => e = .returned (.bool r) ∧ Below w.heap.size w w' := by
 have hu69 := Try.underlying69
 have HB := Aside0.mk (Below.refl w.heap.size w)
 have H : ((goods_name.f a0_0).bind fun t111 => (if t111 = true then ((goods_name.f a0_1).bind fun t112 => (if t112 = true then (if a0_0.toList = a0_1.toList then (some false) else ((goods_in.f a0_2 9).bind fun t113 => (if t113 = true then ((goods_in.f a0_3 100).bind fun t114 => (if t114 = true then ((goods_in.f a0_4 100).bind fun t115 => (some t115)) else (some false))) else (some false)))) else (some false))) else (some false))) = some r := h
 clear h
 replace H := Option.bind_eq_some_iff.mp H
 obtain ⟨t111, A20, H⟩ := H
 replace H : (if t111 = true then ((goods_name.f a0_1).bind fun t112 => (if t112 = true then (if a0_0.toList = a0_1.toList then (some false) else ((goods_in.f a0_2 9).bind fun t113 => (if t113 = true then ((goods_in.f a0_3 100).bind fun t114 => (if t114 = true then ((goods_in.f a0_4 100).bind fun t115 => (some t115)) else (some false))) else (some false)))) else (some false))) else (some false)) = some r := H
 have A2 := Aside0.mk A20
 clear A20
 by_cases c3 : t111 = true
 ·subst c3
  have H1 : ((goods_name.f a0_1).bind fun t112 => (if t112 = true then (if a0_0.toList = a0_1.toList then (some false) else ((goods_in.f a0_2 9).bind fun t113 => (if t113 = true then ((goods_in.f a0_3 100).bind fun t114 => (if t114 = true then ((goods_in.f a0_4 100).bind fun t115 => (some t115)) else (some false))) else (some false)))) else (some false))) = some r := by rw [if_pos rfl] at H; exact H
  clear H
  have H := H1
  clear H1
  replace H := Option.bind_eq_some_iff.mp H
  obtain ⟨t112, A40, H⟩ := H
  replace H : (if t112 = true then (if a0_0.toList = a0_1.toList then (some false) else ((goods_in.f a0_2 9).bind fun t113 => (if t113 = true then ((goods_in.f a0_3 100).bind fun t114 => (if t114 = true then ((goods_in.f a0_4 100).bind fun t115 => (some t115)) else (some false))) else (some false)))) else (some false)) = some r := H
  have A4 := Aside0.mk A40
  clear A40
  by_cases c5 : t112 = true
  ·subst c5
   have H1 : (if a0_0.toList = a0_1.toList then (some false) else ((goods_in.f a0_2 9).bind fun t113 => (if t113 = true then ((goods_in.f a0_3 100).bind fun t114 => (if t114 = true then ((goods_in.f a0_4 100).bind fun t115 => (some t115)) else (some false))) else (some false)))) = some r := by rw [if_pos rfl] at H; exact H
   clear H
   have H := H1
   clear H1
   by_cases c6 : a0_0.toList = a0_1.toList
   ·rw [if_pos c6] at H
    have c6b0 : (a0_0.toList == a0_1.toList) = true := beq_iff_eq.mpr c6
    have c6b1 : (a0_0.toList != a0_1.toList) = false := bne_eq_false_iff_eq.mpr c6
    clear c6
    obtain rfl := Option.some.inj H
    go_enter Try.func49, Try.ntmps49
    go_wp2_with (first | ((with_reducible refine gate_dst (N := 1) rfl ?_); refine box_event ?hg (N := 1) ?hd (cs := #[.string a0_0, .string a0_1, .int .i64 a0_2, .int .i64 a0_3, .int .i64 a0_4]) (t := 69) ?hr ?_; (case hd => rfl); (case hg => rfl); (case hr => first | (go_simp; done) | (go_simp; rfl)); intro gb110 hg w7 hbox hb; have n0_ := Aside0.mk (below_step (by repeat (first | (with_reducible first | exact HB.out | apply below_alloc | apply pw_below_drewN | apply below_drew1) | exact HB.out)) hb); have n1_ := Aside0.mk (hbox); have n2_ := Aside0.mk ((by rw [hg]; exact (below_size (by repeat (first | (with_reducible first | exact HB.out | apply below_alloc | apply pw_below_drewN | apply below_drew1) | exact HB.out))) : w.heap.size ≤ gb110)); have n3_ := Aside0.mk ((by rw [hg]; exact (below_size (by repeat (first | (with_reducible first | exact HB.out | apply below_alloc | apply pw_below_drewN | apply below_drew1) | exact HB.out))) : w.heap.size ≤ gb110)); clear HB; have HB := n0_; have BK110 := n1_; have GW110 := n2_; have GE110 := n3_; clear n0_ n1_ n2_ n3_; clear hb hbox hg; have hcz8_0 : w7.cell? ⟨gb110, 0, none⟩ = some (.string a0_0) := (blk_cell BK110.out 0).trans rfl; have hcz8_1 : w7.cell? ⟨gb110, 1, none⟩ = some (.string a0_1) := (blk_cell BK110.out 1).trans rfl; have hcz8_2 : w7.cell? ⟨gb110, 2, none⟩ = some (.int .i64 a0_2) := (blk_cell BK110.out 2).trans rfl; have hcz8_3 : w7.cell? ⟨gb110, 3, none⟩ = some (.int .i64 a0_3) := (blk_cell BK110.out 3).trans rfl; have hcz8_4 : w7.cell? ⟨gb110, 4, none⟩ = some (.int .i64 a0_4) := (blk_cell BK110.out 4).trans rfl; have hfz8_0 := blk_frozen BK110.out 0; have hfz8_1 := blk_frozen BK110.out 1; have hfz8_2 := blk_frozen BK110.out 2; have hfz8_3 := blk_frozen BK110.out 3; have hfz8_4 := blk_frozen BK110.out 4) | ((with_reducible refine gate_callee (f := 53) rfl ?_); refine goesL_ (some 5) rfl rfl Try.func53 (by kernel_rfl) rfl #[.string a0_0] rfl (by (try simp only [List.map_toArray, List.map_cons, List.map_nil]); first | done | rfl | (simp only [List.length_drop, List.length_take]; rfl)) ?_; (with_reducible refine (goods_name.calls a0_0 true _ A2.out).mono ?_); rintro e w9 ⟨rfl, hb⟩; refine ⟨_, rfl, ?_⟩; have n0_ := Aside0.mk (blk_below (g := gb110) (o := .cells #[.string a0_0, .string a0_1, .int .i64 a0_2, .int .i64 a0_3, .int .i64 a0_4] 69 (0, 0)) (by (with_reducible repeat (first | refine blk_drewN ?_ _ | refine blk_drew ?_ | refine blk_alloc ?_ _)); exact BK110.out) hb); have n1_ := Aside0.mk (below_step (by repeat (first | (with_reducible first | exact HB.out | apply below_alloc | apply pw_below_drewN | apply below_drew1 | refine below_set ?_ GE110.out) | exact HB.out)) hb); clear BK110; clear HB; have BK110 := n0_; have HB := n1_; clear n0_ n1_; (try clear hb); (try clear hb2); (try clear hk); (try clear hi); have hcz10_0 : w9.cell? ⟨gb110, 0, none⟩ = some (.string a0_0) := (blk_cell BK110.out 0).trans rfl; have hcz10_1 : w9.cell? ⟨gb110, 1, none⟩ = some (.string a0_1) := (blk_cell BK110.out 1).trans rfl; have hcz10_2 : w9.cell? ⟨gb110, 2, none⟩ = some (.int .i64 a0_2) := (blk_cell BK110.out 2).trans rfl; have hcz10_3 : w9.cell? ⟨gb110, 3, none⟩ = some (.int .i64 a0_3) := (blk_cell BK110.out 3).trans rfl; have hcz10_4 : w9.cell? ⟨gb110, 4, none⟩ = some (.int .i64 a0_4) := (blk_cell BK110.out 4).trans rfl; have hfz10_0 := blk_frozen BK110.out 0; have hfz10_1 := blk_frozen BK110.out 1; have hfz10_2 := blk_frozen BK110.out 2; have hfz10_3 := blk_frozen BK110.out 3; have hfz10_4 := blk_frozen BK110.out 4) | (go_at_call 53; (with_reducible refine (goods_name.calls a0_1 true _ A4.out).mono ?_); rintro e w11 ⟨rfl, hb⟩; have n0_ := Aside0.mk (blk_below (g := gb110) (o := .cells #[.string a0_0, .string a0_1, .int .i64 a0_2, .int .i64 a0_3, .int .i64 a0_4] 69 (0, 0)) (by (with_reducible repeat (first | refine blk_drewN ?_ _ | refine blk_drew ?_ | refine blk_alloc ?_ _)); exact BK110.out) hb); have n1_ := Aside0.mk (below_step (by repeat (first | (with_reducible first | exact HB.out | apply below_alloc | apply pw_below_drewN | apply below_drew1 | refine below_set ?_ GE110.out) | exact HB.out)) hb); clear BK110; clear HB; have BK110 := n0_; have HB := n1_; clear n0_ n1_; (try clear hb); (try clear hb2); (try clear hk); (try clear hi); have hcz12_0 : w11.cell? ⟨gb110, 0, none⟩ = some (.string a0_0) := (blk_cell BK110.out 0).trans rfl; have hcz12_1 : w11.cell? ⟨gb110, 1, none⟩ = some (.string a0_1) := (blk_cell BK110.out 1).trans rfl; have hcz12_2 : w11.cell? ⟨gb110, 2, none⟩ = some (.int .i64 a0_2) := (blk_cell BK110.out 2).trans rfl; have hcz12_3 : w11.cell? ⟨gb110, 3, none⟩ = some (.int .i64 a0_3) := (blk_cell BK110.out 3).trans rfl; have hcz12_4 : w11.cell? ⟨gb110, 4, none⟩ = some (.int .i64 a0_4) := (blk_cell BK110.out 4).trans rfl; have hfz12_0 := blk_frozen BK110.out 0; have hfz12_1 := blk_frozen BK110.out 1; have hfz12_2 := blk_frozen BK110.out 2; have hfz12_3 := blk_frozen BK110.out 3; have hfz12_4 := blk_frozen BK110.out 4))
    go_ret
    exact ⟨by first | rfl | (simp [errW_none, errW_some] <;> rfl) | (simp [*, errW_none, errW_some] <;> rfl), by repeat (first | (with_reducible first | exact HB.out | apply below_alloc | apply pw_below_drewN | apply below_drew1 | refine below_set ?_ GE110.out) | exact HB.out)⟩
   ·rw [if_neg c6] at H
    have c6b0 : (a0_0.toList == a0_1.toList) = false := beq_eq_false_iff_ne.mpr c6
    have c6b1 : (a0_0.toList != a0_1.toList) = true := bne_iff_ne.mpr c6
    replace H := Option.bind_eq_some_iff.mp H
    obtain ⟨t113, A130, H⟩ := H
    replace H : (if t113 = true then ((goods_in.f a0_3 100).bind fun t114 => (if t114 = true then ((goods_in.f a0_4 100).bind fun t115 => (some t115)) else (some false))) else (some false)) = some r := H
    have A13 := Aside0.mk A130
    clear A130
    by_cases c14 : t113 = true
    ·subst c14
     have H1 : ((goods_in.f a0_3 100).bind fun t114 => (if t114 = true then ((goods_in.f a0_4 100).bind fun t115 => (some t115)) else (some false))) = some r := by rw [if_pos rfl] at H; exact H
     clear H
     have H := H1
     clear H1
     replace H := Option.bind_eq_some_iff.mp H
     obtain ⟨t114, A150, H⟩ := H
     replace H : (if t114 = true then ((goods_in.f a0_4 100).bind fun t115 => (some t115)) else (some false)) = some r := H
     have A15 := Aside0.mk A150
     clear A150
     by_cases c16 : t114 = true
     ·subst c16
      have H1 : ((goods_in.f a0_4 100).bind fun t115 => (some t115)) = some r := by rw [if_pos rfl] at H; exact H
      clear H
      have H := H1
      clear H1
      replace H := Option.bind_eq_some_iff.mp H
      obtain ⟨t115, A170, H⟩ := H
      replace H : (some t115) = some r := H
      have A17 := Aside0.mk A170
      clear A170
      obtain rfl := Option.some.inj H
      go_enter Try.func49, Try.ntmps49
      go_wp2_with (first | ((with_reducible refine gate_dst (N := 1) rfl ?_); refine box_event ?hg (N := 1) ?hd (cs := #[.string a0_0, .string a0_1, .int .i64 a0_2, .int .i64 a0_3, .int .i64 a0_4]) (t := 69) ?hr ?_; (case hd => rfl); (case hg => rfl); (case hr => first | (go_simp; done) | (go_simp; rfl)); intro gb110 hg w18 hbox hb; have n0_ := Aside0.mk (below_step (by repeat (first | (with_reducible first | exact HB.out | apply below_alloc | apply pw_below_drewN | apply below_drew1) | exact HB.out)) hb); have n1_ := Aside0.mk (hbox); have n2_ := Aside0.mk ((by rw [hg]; exact (below_size (by repeat (first | (with_reducible first | exact HB.out | apply below_alloc | apply pw_below_drewN | apply below_drew1) | exact HB.out))) : w.heap.size ≤ gb110)); have n3_ := Aside0.mk ((by rw [hg]; exact (below_size (by repeat (first | (with_reducible first | exact HB.out | apply below_alloc | apply pw_below_drewN | apply below_drew1) | exact HB.out))) : w.heap.size ≤ gb110)); clear HB; have HB := n0_; have BK110 := n1_; have GW110 := n2_; have GE110 := n3_; clear n0_ n1_ n2_ n3_; clear hb hbox hg; have hcz19_0 : w18.cell? ⟨gb110, 0, none⟩ = some (.string a0_0) := (blk_cell BK110.out 0).trans rfl; have hcz19_1 : w18.cell? ⟨gb110, 1, none⟩ = some (.string a0_1) := (blk_cell BK110.out 1).trans rfl; have hcz19_2 : w18.cell? ⟨gb110, 2, none⟩ = some (.int .i64 a0_2) := (blk_cell BK110.out 2).trans rfl; have hcz19_3 : w18.cell? ⟨gb110, 3, none⟩ = some (.int .i64 a0_3) := (blk_cell BK110.out 3).trans rfl; have hcz19_4 : w18.cell? ⟨gb110, 4, none⟩ = some (.int .i64 a0_4) := (blk_cell BK110.out 4).trans rfl; have hfz19_0 := blk_frozen BK110.out 0; have hfz19_1 := blk_frozen BK110.out 1; have hfz19_2 := blk_frozen BK110.out 2; have hfz19_3 := blk_frozen BK110.out 3; have hfz19_4 := blk_frozen BK110.out 4) | ((with_reducible refine gate_callee (f := 53) rfl ?_); refine goesL_ (some 5) rfl rfl Try.func53 (by kernel_rfl) rfl #[.string a0_0] rfl (by (try simp only [List.map_toArray, List.map_cons, List.map_nil]); first | done | rfl | (simp only [List.length_drop, List.length_take]; rfl)) ?_; (with_reducible refine (goods_name.calls a0_0 true _ A2.out).mono ?_); rintro e w20 ⟨rfl, hb⟩; refine ⟨_, rfl, ?_⟩; have n0_ := Aside0.mk (blk_below (g := gb110) (o := .cells #[.string a0_0, .string a0_1, .int .i64 a0_2, .int .i64 a0_3, .int .i64 a0_4] 69 (0, 0)) (by (with_reducible repeat (first | refine blk_drewN ?_ _ | refine blk_drew ?_ | refine blk_alloc ?_ _)); exact BK110.out) hb); have n1_ := Aside0.mk (below_step (by repeat (first | (with_reducible first | exact HB.out | apply below_alloc | apply pw_below_drewN | apply below_drew1 | refine below_set ?_ GE110.out) | exact HB.out)) hb); clear BK110; clear HB; have BK110 := n0_; have HB := n1_; clear n0_ n1_; (try clear hb); (try clear hb2); (try clear hk); (try clear hi); have hcz21_0 : w20.cell? ⟨gb110, 0, none⟩ = some (.string a0_0) := (blk_cell BK110.out 0).trans rfl; have hcz21_1 : w20.cell? ⟨gb110, 1, none⟩ = some (.string a0_1) := (blk_cell BK110.out 1).trans rfl; have hcz21_2 : w20.cell? ⟨gb110, 2, none⟩ = some (.int .i64 a0_2) := (blk_cell BK110.out 2).trans rfl; have hcz21_3 : w20.cell? ⟨gb110, 3, none⟩ = some (.int .i64 a0_3) := (blk_cell BK110.out 3).trans rfl; have hcz21_4 : w20.cell? ⟨gb110, 4, none⟩ = some (.int .i64 a0_4) := (blk_cell BK110.out 4).trans rfl; have hfz21_0 := blk_frozen BK110.out 0; have hfz21_1 := blk_frozen BK110.out 1; have hfz21_2 := blk_frozen BK110.out 2; have hfz21_3 := blk_frozen BK110.out 3; have hfz21_4 := blk_frozen BK110.out 4) | (go_at_call 53; (with_reducible refine (goods_name.calls a0_1 true _ A4.out).mono ?_); rintro e w22 ⟨rfl, hb⟩; have n0_ := Aside0.mk (blk_below (g := gb110) (o := .cells #[.string a0_0, .string a0_1, .int .i64 a0_2, .int .i64 a0_3, .int .i64 a0_4] 69 (0, 0)) (by (with_reducible repeat (first | refine blk_drewN ?_ _ | refine blk_drew ?_ | refine blk_alloc ?_ _)); exact BK110.out) hb); have n1_ := Aside0.mk (below_step (by repeat (first | (with_reducible first | exact HB.out | apply below_alloc | apply pw_below_drewN | apply below_drew1 | refine below_set ?_ GE110.out) | exact HB.out)) hb); clear BK110; clear HB; have BK110 := n0_; have HB := n1_; clear n0_ n1_; (try clear hb); (try clear hb2); (try clear hk); (try clear hi); have hcz23_0 : w22.cell? ⟨gb110, 0, none⟩ = some (.string a0_0) := (blk_cell BK110.out 0).trans rfl; have hcz23_1 : w22.cell? ⟨gb110, 1, none⟩ = some (.string a0_1) := (blk_cell BK110.out 1).trans rfl; have hcz23_2 : w22.cell? ⟨gb110, 2, none⟩ = some (.int .i64 a0_2) := (blk_cell BK110.out 2).trans rfl; have hcz23_3 : w22.cell? ⟨gb110, 3, none⟩ = some (.int .i64 a0_3) := (blk_cell BK110.out 3).trans rfl; have hcz23_4 : w22.cell? ⟨gb110, 4, none⟩ = some (.int .i64 a0_4) := (blk_cell BK110.out 4).trans rfl; have hfz23_0 := blk_frozen BK110.out 0; have hfz23_1 := blk_frozen BK110.out 1; have hfz23_2 := blk_frozen BK110.out 2; have hfz23_3 := blk_frozen BK110.out 3; have hfz23_4 := blk_frozen BK110.out 4) | (go_at_call 60; (with_reducible refine (goods_in.calls a0_2 9 true _ A13.out).mono ?_); rintro e w' ⟨rfl, ⟨nd, rfl⟩⟩) | (go_at_call 60; (with_reducible refine (goods_in.calls a0_3 100 true _ A15.out).mono ?_); rintro e w' ⟨rfl, ⟨nd, rfl⟩⟩) | (go_at_call 60; (with_reducible refine (goods_in.calls a0_4 100 t115 _ A17.out).mono ?_); rintro e w' ⟨rfl, ⟨nd, rfl⟩⟩))
      go_ret
      exact ⟨by first | rfl | (simp [errW_none, errW_some] <;> rfl) | (simp [*, errW_none, errW_some] <;> rfl), by repeat (first | (with_reducible first | exact HB.out | apply below_alloc | apply pw_below_drewN | apply below_drew1 | refine below_set ?_ GE110.out) | exact HB.out)⟩
     ·replace c16 := Bool.eq_false_iff.mpr c16
      subst c16
      have H1 : (some false) = some r := by rw [if_neg (show ¬ (false = true) by decide)] at H; exact H
      clear H
      have H := H1
      clear H1
      obtain rfl := Option.some.inj H
      go_enter Try.func49, Try.ntmps49
      go_wp2_with (first | ((with_reducible refine gate_dst (N := 1) rfl ?_); refine box_event ?hg (N := 1) ?hd (cs := #[.string a0_0, .string a0_1, .int .i64 a0_2, .int .i64 a0_3, .int .i64 a0_4]) (t := 69) ?hr ?_; (case hd => rfl); (case hg => rfl); (case hr => first | (go_simp; done) | (go_simp; rfl)); intro gb110 hg w24 hbox hb; have n0_ := Aside0.mk (below_step (by repeat (first | (with_reducible first | exact HB.out | apply below_alloc | apply pw_below_drewN | apply below_drew1) | exact HB.out)) hb); have n1_ := Aside0.mk (hbox); have n2_ := Aside0.mk ((by rw [hg]; exact (below_size (by repeat (first | (with_reducible first | exact HB.out | apply below_alloc | apply pw_below_drewN | apply below_drew1) | exact HB.out))) : w.heap.size ≤ gb110)); have n3_ := Aside0.mk ((by rw [hg]; exact (below_size (by repeat (first | (with_reducible first | exact HB.out | apply below_alloc | apply pw_below_drewN | apply below_drew1) | exact HB.out))) : w.heap.size ≤ gb110)); clear HB; have HB := n0_; have BK110 := n1_; have GW110 := n2_; have GE110 := n3_; clear n0_ n1_ n2_ n3_; clear hb hbox hg; have hcz25_0 : w24.cell? ⟨gb110, 0, none⟩ = some (.string a0_0) := (blk_cell BK110.out 0).trans rfl; have hcz25_1 : w24.cell? ⟨gb110, 1, none⟩ = some (.string a0_1) := (blk_cell BK110.out 1).trans rfl; have hcz25_2 : w24.cell? ⟨gb110, 2, none⟩ = some (.int .i64 a0_2) := (blk_cell BK110.out 2).trans rfl; have hcz25_3 : w24.cell? ⟨gb110, 3, none⟩ = some (.int .i64 a0_3) := (blk_cell BK110.out 3).trans rfl; have hcz25_4 : w24.cell? ⟨gb110, 4, none⟩ = some (.int .i64 a0_4) := (blk_cell BK110.out 4).trans rfl; have hfz25_0 := blk_frozen BK110.out 0; have hfz25_1 := blk_frozen BK110.out 1; have hfz25_2 := blk_frozen BK110.out 2; have hfz25_3 := blk_frozen BK110.out 3; have hfz25_4 := blk_frozen BK110.out 4) | ((with_reducible refine gate_callee (f := 53) rfl ?_); refine goesL_ (some 5) rfl rfl Try.func53 (by kernel_rfl) rfl #[.string a0_0] rfl (by (try simp only [List.map_toArray, List.map_cons, List.map_nil]); first | done | rfl | (simp only [List.length_drop, List.length_take]; rfl)) ?_; (with_reducible refine (goods_name.calls a0_0 true _ A2.out).mono ?_); rintro e w26 ⟨rfl, hb⟩; refine ⟨_, rfl, ?_⟩; have n0_ := Aside0.mk (blk_below (g := gb110) (o := .cells #[.string a0_0, .string a0_1, .int .i64 a0_2, .int .i64 a0_3, .int .i64 a0_4] 69 (0, 0)) (by (with_reducible repeat (first | refine blk_drewN ?_ _ | refine blk_drew ?_ | refine blk_alloc ?_ _)); exact BK110.out) hb); have n1_ := Aside0.mk (below_step (by repeat (first | (with_reducible first | exact HB.out | apply below_alloc | apply pw_below_drewN | apply below_drew1 | refine below_set ?_ GE110.out) | exact HB.out)) hb); clear BK110; clear HB; have BK110 := n0_; have HB := n1_; clear n0_ n1_; (try clear hb); (try clear hb2); (try clear hk); (try clear hi); have hcz27_0 : w26.cell? ⟨gb110, 0, none⟩ = some (.string a0_0) := (blk_cell BK110.out 0).trans rfl; have hcz27_1 : w26.cell? ⟨gb110, 1, none⟩ = some (.string a0_1) := (blk_cell BK110.out 1).trans rfl; have hcz27_2 : w26.cell? ⟨gb110, 2, none⟩ = some (.int .i64 a0_2) := (blk_cell BK110.out 2).trans rfl; have hcz27_3 : w26.cell? ⟨gb110, 3, none⟩ = some (.int .i64 a0_3) := (blk_cell BK110.out 3).trans rfl; have hcz27_4 : w26.cell? ⟨gb110, 4, none⟩ = some (.int .i64 a0_4) := (blk_cell BK110.out 4).trans rfl; have hfz27_0 := blk_frozen BK110.out 0; have hfz27_1 := blk_frozen BK110.out 1; have hfz27_2 := blk_frozen BK110.out 2; have hfz27_3 := blk_frozen BK110.out 3; have hfz27_4 := blk_frozen BK110.out 4) | (go_at_call 53; (with_reducible refine (goods_name.calls a0_1 true _ A4.out).mono ?_); rintro e w28 ⟨rfl, hb⟩; have n0_ := Aside0.mk (blk_below (g := gb110) (o := .cells #[.string a0_0, .string a0_1, .int .i64 a0_2, .int .i64 a0_3, .int .i64 a0_4] 69 (0, 0)) (by (with_reducible repeat (first | refine blk_drewN ?_ _ | refine blk_drew ?_ | refine blk_alloc ?_ _)); exact BK110.out) hb); have n1_ := Aside0.mk (below_step (by repeat (first | (with_reducible first | exact HB.out | apply below_alloc | apply pw_below_drewN | apply below_drew1 | refine below_set ?_ GE110.out) | exact HB.out)) hb); clear BK110; clear HB; have BK110 := n0_; have HB := n1_; clear n0_ n1_; (try clear hb); (try clear hb2); (try clear hk); (try clear hi); have hcz29_0 : w28.cell? ⟨gb110, 0, none⟩ = some (.string a0_0) := (blk_cell BK110.out 0).trans rfl; have hcz29_1 : w28.cell? ⟨gb110, 1, none⟩ = some (.string a0_1) := (blk_cell BK110.out 1).trans rfl; have hcz29_2 : w28.cell? ⟨gb110, 2, none⟩ = some (.int .i64 a0_2) := (blk_cell BK110.out 2).trans rfl; have hcz29_3 : w28.cell? ⟨gb110, 3, none⟩ = some (.int .i64 a0_3) := (blk_cell BK110.out 3).trans rfl; have hcz29_4 : w28.cell? ⟨gb110, 4, none⟩ = some (.int .i64 a0_4) := (blk_cell BK110.out 4).trans rfl; have hfz29_0 := blk_frozen BK110.out 0; have hfz29_1 := blk_frozen BK110.out 1; have hfz29_2 := blk_frozen BK110.out 2; have hfz29_3 := blk_frozen BK110.out 3; have hfz29_4 := blk_frozen BK110.out 4) | (go_at_call 60; (with_reducible refine (goods_in.calls a0_2 9 true _ A13.out).mono ?_); rintro e w' ⟨rfl, ⟨nd, rfl⟩⟩) | (go_at_call 60; (with_reducible refine (goods_in.calls a0_3 100 false _ A15.out).mono ?_); rintro e w' ⟨rfl, ⟨nd, rfl⟩⟩))
      go_ret
      exact ⟨by first | rfl | (simp [errW_none, errW_some] <;> rfl) | (simp [*, errW_none, errW_some] <;> rfl), by repeat (first | (with_reducible first | exact HB.out | apply below_alloc | apply pw_below_drewN | apply below_drew1 | refine below_set ?_ GE110.out) | exact HB.out)⟩
    ·replace c14 := Bool.eq_false_iff.mpr c14
     subst c14
     have H1 : (some false) = some r := by rw [if_neg (show ¬ (false = true) by decide)] at H; exact H
     clear H
     have H := H1
     clear H1
     obtain rfl := Option.some.inj H
     go_enter Try.func49, Try.ntmps49
     go_wp2_with (first | ((with_reducible refine gate_dst (N := 1) rfl ?_); refine box_event ?hg (N := 1) ?hd (cs := #[.string a0_0, .string a0_1, .int .i64 a0_2, .int .i64 a0_3, .int .i64 a0_4]) (t := 69) ?hr ?_; (case hd => rfl); (case hg => rfl); (case hr => first | (go_simp; done) | (go_simp; rfl)); intro gb110 hg w30 hbox hb; have n0_ := Aside0.mk (below_step (by repeat (first | (with_reducible first | exact HB.out | apply below_alloc | apply pw_below_drewN | apply below_drew1) | exact HB.out)) hb); have n1_ := Aside0.mk (hbox); have n2_ := Aside0.mk ((by rw [hg]; exact (below_size (by repeat (first | (with_reducible first | exact HB.out | apply below_alloc | apply pw_below_drewN | apply below_drew1) | exact HB.out))) : w.heap.size ≤ gb110)); have n3_ := Aside0.mk ((by rw [hg]; exact (below_size (by repeat (first | (with_reducible first | exact HB.out | apply below_alloc | apply pw_below_drewN | apply below_drew1) | exact HB.out))) : w.heap.size ≤ gb110)); clear HB; have HB := n0_; have BK110 := n1_; have GW110 := n2_; have GE110 := n3_; clear n0_ n1_ n2_ n3_; clear hb hbox hg; have hcz31_0 : w30.cell? ⟨gb110, 0, none⟩ = some (.string a0_0) := (blk_cell BK110.out 0).trans rfl; have hcz31_1 : w30.cell? ⟨gb110, 1, none⟩ = some (.string a0_1) := (blk_cell BK110.out 1).trans rfl; have hcz31_2 : w30.cell? ⟨gb110, 2, none⟩ = some (.int .i64 a0_2) := (blk_cell BK110.out 2).trans rfl; have hcz31_3 : w30.cell? ⟨gb110, 3, none⟩ = some (.int .i64 a0_3) := (blk_cell BK110.out 3).trans rfl; have hcz31_4 : w30.cell? ⟨gb110, 4, none⟩ = some (.int .i64 a0_4) := (blk_cell BK110.out 4).trans rfl; have hfz31_0 := blk_frozen BK110.out 0; have hfz31_1 := blk_frozen BK110.out 1; have hfz31_2 := blk_frozen BK110.out 2; have hfz31_3 := blk_frozen BK110.out 3; have hfz31_4 := blk_frozen BK110.out 4) | ((with_reducible refine gate_callee (f := 53) rfl ?_); refine goesL_ (some 5) rfl rfl Try.func53 (by kernel_rfl) rfl #[.string a0_0] rfl (by (try simp only [List.map_toArray, List.map_cons, List.map_nil]); first | done | rfl | (simp only [List.length_drop, List.length_take]; rfl)) ?_; (with_reducible refine (goods_name.calls a0_0 true _ A2.out).mono ?_); rintro e w32 ⟨rfl, hb⟩; refine ⟨_, rfl, ?_⟩; have n0_ := Aside0.mk (blk_below (g := gb110) (o := .cells #[.string a0_0, .string a0_1, .int .i64 a0_2, .int .i64 a0_3, .int .i64 a0_4] 69 (0, 0)) (by (with_reducible repeat (first | refine blk_drewN ?_ _ | refine blk_drew ?_ | refine blk_alloc ?_ _)); exact BK110.out) hb); have n1_ := Aside0.mk (below_step (by repeat (first | (with_reducible first | exact HB.out | apply below_alloc | apply pw_below_drewN | apply below_drew1 | refine below_set ?_ GE110.out) | exact HB.out)) hb); clear BK110; clear HB; have BK110 := n0_; have HB := n1_; clear n0_ n1_; (try clear hb); (try clear hb2); (try clear hk); (try clear hi); have hcz33_0 : w32.cell? ⟨gb110, 0, none⟩ = some (.string a0_0) := (blk_cell BK110.out 0).trans rfl; have hcz33_1 : w32.cell? ⟨gb110, 1, none⟩ = some (.string a0_1) := (blk_cell BK110.out 1).trans rfl; have hcz33_2 : w32.cell? ⟨gb110, 2, none⟩ = some (.int .i64 a0_2) := (blk_cell BK110.out 2).trans rfl; have hcz33_3 : w32.cell? ⟨gb110, 3, none⟩ = some (.int .i64 a0_3) := (blk_cell BK110.out 3).trans rfl; have hcz33_4 : w32.cell? ⟨gb110, 4, none⟩ = some (.int .i64 a0_4) := (blk_cell BK110.out 4).trans rfl; have hfz33_0 := blk_frozen BK110.out 0; have hfz33_1 := blk_frozen BK110.out 1; have hfz33_2 := blk_frozen BK110.out 2; have hfz33_3 := blk_frozen BK110.out 3; have hfz33_4 := blk_frozen BK110.out 4) | (go_at_call 53; (with_reducible refine (goods_name.calls a0_1 true _ A4.out).mono ?_); rintro e w34 ⟨rfl, hb⟩; have n0_ := Aside0.mk (blk_below (g := gb110) (o := .cells #[.string a0_0, .string a0_1, .int .i64 a0_2, .int .i64 a0_3, .int .i64 a0_4] 69 (0, 0)) (by (with_reducible repeat (first | refine blk_drewN ?_ _ | refine blk_drew ?_ | refine blk_alloc ?_ _)); exact BK110.out) hb); have n1_ := Aside0.mk (below_step (by repeat (first | (with_reducible first | exact HB.out | apply below_alloc | apply pw_below_drewN | apply below_drew1 | refine below_set ?_ GE110.out) | exact HB.out)) hb); clear BK110; clear HB; have BK110 := n0_; have HB := n1_; clear n0_ n1_; (try clear hb); (try clear hb2); (try clear hk); (try clear hi); have hcz35_0 : w34.cell? ⟨gb110, 0, none⟩ = some (.string a0_0) := (blk_cell BK110.out 0).trans rfl; have hcz35_1 : w34.cell? ⟨gb110, 1, none⟩ = some (.string a0_1) := (blk_cell BK110.out 1).trans rfl; have hcz35_2 : w34.cell? ⟨gb110, 2, none⟩ = some (.int .i64 a0_2) := (blk_cell BK110.out 2).trans rfl; have hcz35_3 : w34.cell? ⟨gb110, 3, none⟩ = some (.int .i64 a0_3) := (blk_cell BK110.out 3).trans rfl; have hcz35_4 : w34.cell? ⟨gb110, 4, none⟩ = some (.int .i64 a0_4) := (blk_cell BK110.out 4).trans rfl; have hfz35_0 := blk_frozen BK110.out 0; have hfz35_1 := blk_frozen BK110.out 1; have hfz35_2 := blk_frozen BK110.out 2; have hfz35_3 := blk_frozen BK110.out 3; have hfz35_4 := blk_frozen BK110.out 4) | (go_at_call 60; (with_reducible refine (goods_in.calls a0_2 9 false _ A13.out).mono ?_); rintro e w' ⟨rfl, ⟨nd, rfl⟩⟩))
     go_ret
     exact ⟨by first | rfl | (simp [errW_none, errW_some] <;> rfl) | (simp [*, errW_none, errW_some] <;> rfl), by repeat (first | (with_reducible first | exact HB.out | apply below_alloc | apply pw_below_drewN | apply below_drew1 | refine below_set ?_ GE110.out) | exact HB.out)⟩
  ·replace c5 := Bool.eq_false_iff.mpr c5
   subst c5
   have H1 : (some false) = some r := by rw [if_neg (show ¬ (false = true) by decide)] at H; exact H
   clear H
   have H := H1
   clear H1
   obtain rfl := Option.some.inj H
   go_enter Try.func49, Try.ntmps49
   go_wp2_with (first | ((with_reducible refine gate_dst (N := 1) rfl ?_); refine box_event ?hg (N := 1) ?hd (cs := #[.string a0_0, .string a0_1, .int .i64 a0_2, .int .i64 a0_3, .int .i64 a0_4]) (t := 69) ?hr ?_; (case hd => rfl); (case hg => rfl); (case hr => first | (go_simp; done) | (go_simp; rfl)); intro gb110 hg w36 hbox hb; have n0_ := Aside0.mk (below_step (by repeat (first | (with_reducible first | exact HB.out | apply below_alloc | apply pw_below_drewN | apply below_drew1) | exact HB.out)) hb); have n1_ := Aside0.mk (hbox); have n2_ := Aside0.mk ((by rw [hg]; exact (below_size (by repeat (first | (with_reducible first | exact HB.out | apply below_alloc | apply pw_below_drewN | apply below_drew1) | exact HB.out))) : w.heap.size ≤ gb110)); have n3_ := Aside0.mk ((by rw [hg]; exact (below_size (by repeat (first | (with_reducible first | exact HB.out | apply below_alloc | apply pw_below_drewN | apply below_drew1) | exact HB.out))) : w.heap.size ≤ gb110)); clear HB; have HB := n0_; have BK110 := n1_; have GW110 := n2_; have GE110 := n3_; clear n0_ n1_ n2_ n3_; clear hb hbox hg; have hcz37_0 : w36.cell? ⟨gb110, 0, none⟩ = some (.string a0_0) := (blk_cell BK110.out 0).trans rfl; have hcz37_1 : w36.cell? ⟨gb110, 1, none⟩ = some (.string a0_1) := (blk_cell BK110.out 1).trans rfl; have hcz37_2 : w36.cell? ⟨gb110, 2, none⟩ = some (.int .i64 a0_2) := (blk_cell BK110.out 2).trans rfl; have hcz37_3 : w36.cell? ⟨gb110, 3, none⟩ = some (.int .i64 a0_3) := (blk_cell BK110.out 3).trans rfl; have hcz37_4 : w36.cell? ⟨gb110, 4, none⟩ = some (.int .i64 a0_4) := (blk_cell BK110.out 4).trans rfl; have hfz37_0 := blk_frozen BK110.out 0; have hfz37_1 := blk_frozen BK110.out 1; have hfz37_2 := blk_frozen BK110.out 2; have hfz37_3 := blk_frozen BK110.out 3; have hfz37_4 := blk_frozen BK110.out 4) | ((with_reducible refine gate_callee (f := 53) rfl ?_); refine goesL_ (some 5) rfl rfl Try.func53 (by kernel_rfl) rfl #[.string a0_0] rfl (by (try simp only [List.map_toArray, List.map_cons, List.map_nil]); first | done | rfl | (simp only [List.length_drop, List.length_take]; rfl)) ?_; (with_reducible refine (goods_name.calls a0_0 true _ A2.out).mono ?_); rintro e w38 ⟨rfl, hb⟩; refine ⟨_, rfl, ?_⟩; have n0_ := Aside0.mk (blk_below (g := gb110) (o := .cells #[.string a0_0, .string a0_1, .int .i64 a0_2, .int .i64 a0_3, .int .i64 a0_4] 69 (0, 0)) (by (with_reducible repeat (first | refine blk_drewN ?_ _ | refine blk_drew ?_ | refine blk_alloc ?_ _)); exact BK110.out) hb); have n1_ := Aside0.mk (below_step (by repeat (first | (with_reducible first | exact HB.out | apply below_alloc | apply pw_below_drewN | apply below_drew1 | refine below_set ?_ GE110.out) | exact HB.out)) hb); clear BK110; clear HB; have BK110 := n0_; have HB := n1_; clear n0_ n1_; (try clear hb); (try clear hb2); (try clear hk); (try clear hi); have hcz39_0 : w38.cell? ⟨gb110, 0, none⟩ = some (.string a0_0) := (blk_cell BK110.out 0).trans rfl; have hcz39_1 : w38.cell? ⟨gb110, 1, none⟩ = some (.string a0_1) := (blk_cell BK110.out 1).trans rfl; have hcz39_2 : w38.cell? ⟨gb110, 2, none⟩ = some (.int .i64 a0_2) := (blk_cell BK110.out 2).trans rfl; have hcz39_3 : w38.cell? ⟨gb110, 3, none⟩ = some (.int .i64 a0_3) := (blk_cell BK110.out 3).trans rfl; have hcz39_4 : w38.cell? ⟨gb110, 4, none⟩ = some (.int .i64 a0_4) := (blk_cell BK110.out 4).trans rfl; have hfz39_0 := blk_frozen BK110.out 0; have hfz39_1 := blk_frozen BK110.out 1; have hfz39_2 := blk_frozen BK110.out 2; have hfz39_3 := blk_frozen BK110.out 3; have hfz39_4 := blk_frozen BK110.out 4) | (go_at_call 53; (with_reducible refine (goods_name.calls a0_1 false _ A4.out).mono ?_); rintro e w40 ⟨rfl, hb⟩; have n0_ := Aside0.mk (blk_below (g := gb110) (o := .cells #[.string a0_0, .string a0_1, .int .i64 a0_2, .int .i64 a0_3, .int .i64 a0_4] 69 (0, 0)) (by (with_reducible repeat (first | refine blk_drewN ?_ _ | refine blk_drew ?_ | refine blk_alloc ?_ _)); exact BK110.out) hb); have n1_ := Aside0.mk (below_step (by repeat (first | (with_reducible first | exact HB.out | apply below_alloc | apply pw_below_drewN | apply below_drew1 | refine below_set ?_ GE110.out) | exact HB.out)) hb); clear BK110; clear HB; have BK110 := n0_; have HB := n1_; clear n0_ n1_; (try clear hb); (try clear hb2); (try clear hk); (try clear hi)))
   go_ret
   exact ⟨by first | rfl | (simp [errW_none, errW_some] <;> rfl) | (simp [*, errW_none, errW_some] <;> rfl), by repeat (first | (with_reducible first | exact HB.out | apply below_alloc | apply pw_below_drewN | apply below_drew1 | refine below_set ?_ GE110.out) | exact HB.out)⟩
 ·replace c3 := Bool.eq_false_iff.mpr c3
  subst c3
  have H1 : (some false) = some r := by rw [if_neg (show ¬ (false = true) by decide)] at H; exact H
  clear H
  have H := H1
  clear H1
  obtain rfl := Option.some.inj H
  go_enter Try.func49, Try.ntmps49
  go_wp2_with (first | ((with_reducible refine gate_dst (N := 1) rfl ?_); refine box_event ?hg (N := 1) ?hd (cs := #[.string a0_0, .string a0_1, .int .i64 a0_2, .int .i64 a0_3, .int .i64 a0_4]) (t := 69) ?hr ?_; (case hd => rfl); (case hg => rfl); (case hr => first | (go_simp; done) | (go_simp; rfl)); intro gb110 hg w41 hbox hb; have n0_ := Aside0.mk (below_step (by repeat (first | (with_reducible first | exact HB.out | apply below_alloc | apply pw_below_drewN | apply below_drew1) | exact HB.out)) hb); have n1_ := Aside0.mk (hbox); have n2_ := Aside0.mk ((by rw [hg]; exact (below_size (by repeat (first | (with_reducible first | exact HB.out | apply below_alloc | apply pw_below_drewN | apply below_drew1) | exact HB.out))) : w.heap.size ≤ gb110)); have n3_ := Aside0.mk ((by rw [hg]; exact (below_size (by repeat (first | (with_reducible first | exact HB.out | apply below_alloc | apply pw_below_drewN | apply below_drew1) | exact HB.out))) : w.heap.size ≤ gb110)); clear HB; have HB := n0_; have BK110 := n1_; have GW110 := n2_; have GE110 := n3_; clear n0_ n1_ n2_ n3_; clear hb hbox hg; have hcz42_0 : w41.cell? ⟨gb110, 0, none⟩ = some (.string a0_0) := (blk_cell BK110.out 0).trans rfl; have hcz42_1 : w41.cell? ⟨gb110, 1, none⟩ = some (.string a0_1) := (blk_cell BK110.out 1).trans rfl; have hcz42_2 : w41.cell? ⟨gb110, 2, none⟩ = some (.int .i64 a0_2) := (blk_cell BK110.out 2).trans rfl; have hcz42_3 : w41.cell? ⟨gb110, 3, none⟩ = some (.int .i64 a0_3) := (blk_cell BK110.out 3).trans rfl; have hcz42_4 : w41.cell? ⟨gb110, 4, none⟩ = some (.int .i64 a0_4) := (blk_cell BK110.out 4).trans rfl; have hfz42_0 := blk_frozen BK110.out 0; have hfz42_1 := blk_frozen BK110.out 1; have hfz42_2 := blk_frozen BK110.out 2; have hfz42_3 := blk_frozen BK110.out 3; have hfz42_4 := blk_frozen BK110.out 4) | ((with_reducible refine gate_callee (f := 53) rfl ?_); refine goesL_ (some 5) rfl rfl Try.func53 (by kernel_rfl) rfl #[.string a0_0] rfl (by (try simp only [List.map_toArray, List.map_cons, List.map_nil]); first | done | rfl | (simp only [List.length_drop, List.length_take]; rfl)) ?_; (with_reducible refine (goods_name.calls a0_0 false _ A2.out).mono ?_); rintro e w43 ⟨rfl, hb⟩; refine ⟨_, rfl, ?_⟩; have n0_ := Aside0.mk (blk_below (g := gb110) (o := .cells #[.string a0_0, .string a0_1, .int .i64 a0_2, .int .i64 a0_3, .int .i64 a0_4] 69 (0, 0)) (by (with_reducible repeat (first | refine blk_drewN ?_ _ | refine blk_drew ?_ | refine blk_alloc ?_ _)); exact BK110.out) hb); have n1_ := Aside0.mk (below_step (by repeat (first | (with_reducible first | exact HB.out | apply below_alloc | apply pw_below_drewN | apply below_drew1 | refine below_set ?_ GE110.out) | exact HB.out)) hb); clear BK110; clear HB; have BK110 := n0_; have HB := n1_; clear n0_ n1_; (try clear hb); (try clear hb2); (try clear hk); (try clear hi)))
  go_ret
  exact ⟨by first | rfl | (simp [errW_none, errW_some] <;> rfl) | (simp [*, errW_none, errW_some] <;> rfl), by repeat (first | (with_reducible first | exact HB.out | apply below_alloc | apply pw_below_drewN | apply below_drew1 | refine below_set ?_ GE110.out) | exact HB.out)⟩
end Go.Proofs.Ytliablhnkoghbaa.PStock
namespace Go.Proofs.Ytliablhnkoghbaa.PStock
open Go.RowKit Go.Proofs.YtliablhnkoghbaaH Go.Proofs.YtliablhnkoghbaaW.PrintWords Go.Proofs.YtliablhnkoghbaaW.PrintLast Go.Proofs.YtliablhnkoghbaaW.PrintMore
attribute [local go_sem] max2_int min2_int max_two min_two max_three min_three max_four min_four
set_option linter.unusedVariables false
set_option linter.unusedSimpArgs false
def slices_Index_string_string.l0 : Nat → List ByteArray → ByteArray → Int → Int → Option (Int)
 | 0, _, _, _, _ => none
 | k + 1, x0, x1, x7, x8 => if x8 < x7 then (if 0 ≤ x8 then (if x8 < (x0.length : Int) then (if x1.toList = (rdOf ByteArray.empty x0 x8).toList then (some x8) else (slices_Index_string_string.l0 k x0 x1 x7 (wrap64 (x8 + 1)))) else (none)) else (none)) else (some (-1))
def slices_Index_string_string.f (k : Nat) (l0 : List ByteArray) (a1 : ByteArray) : Option (Int) := slices_Index_string_string.l0 k l0 a1 (l0.length : Int) 0
theorem slices_Index_string_string.mono_l : ∀ k, (∀ y0 y1 y2 y3, LeO (slices_Index_string_string.l0 k y0 y1 y2 y3) (slices_Index_string_string.l0 (k + 1) y0 y1 y2 y3))
 | 0 => fun _ _ _ _ r h => by simp [slices_Index_string_string.l0] at h
 | k + 1 => by
  have ih0 := slices_Index_string_string.mono_l k
  ·intro y0 y1 y2 y3
   unfold slices_Index_string_string.l0
   repeat' first
   | (with_reducible exact ih0 _ _ _ _)
   | (with_reducible exact LeO.refl _)
   | (with_reducible exact LeO.none _)
   | (with_reducible refine LeO.ite ?_ ?_)
   | (with_reducible refine LeO.bind ?_ (fun _ => ?_))
   | exact ih0 _ _ _ _
   | exact LeO.none _
   | refine LeO.ite ?_ ?_
   | refine LeO.bind ?_ (fun _ => ?_)
theorem slices_Index_string_string.mono : ∀ a0 a1 k, LeO (slices_Index_string_string.f k a0 a1) (slices_Index_string_string.f (k + 1) a0 a1) := by
 intro a0 a1 k
 have ih0 := slices_Index_string_string.mono_l k
 unfold slices_Index_string_string.f
 repeat' first
   | (with_reducible exact ih0 _ _ _ _)
   | (with_reducible exact LeO.refl _)
   | (with_reducible exact LeO.none _)
   | (with_reducible refine LeO.ite ?_ ?_)
   | (with_reducible refine LeO.bind ?_ (fun _ => ?_))
   | exact ih0 _ _ _ _
   | exact LeO.none _
   | refine LeO.ite ?_ ?_
   | refine LeO.bind ?_ (fun _ => ?_)
set_option maxHeartbeats 8000000 in
set_option maxRecDepth 100000 in
theorem slices_Index_string_string.calls (k : Nat) (A0 : Option Addr) (c0 : Nat) (l0 : List ByteArray) (a1 : ByteArray) (r : Int) (w : World) (hr0 : Kd.C Kd.string w A0 l0.length l0) (hc0 : l0.length ≤ c0) (h : slices_Index_string_string.f k l0 a1 = some r) :
  Calls Try.prog 61 #[.slice A0 l0.length c0, .string a1] w fun e w' => e = .returned (.int .i64 r) ∧ Drawn0 w w' := by
 have HR0 := Aside0.mk hr0
 have HC0 := Aside0.mk hc0
 clear hr0 hc0
 have H : (slices_Index_string_string.l0 k l0 a1 (l0.length : Int) 0) = some r := h
 clear h
 have H' := Aside0.mk H
 clear H
 go_enter Try.func61, Try.ntmps61
 go_wp2
 go_loopg [8] k (fun kq v8 w' => ∃ (x8_1 : Int), v8 = .int .i64 x8_1 ∧ Aside0 (slices_Index_string_string.l0 kq l0 a1 (l0.length : Int) x8_1 = some r) ∧ Aside0 (kq ≤ k) ∧ Drawn0 w w')
 case atStart => exact ⟨(0), (by first | rfl | (simp; done) | (simp [*]; done)), H', ⟨Nat.le_refl _⟩, by repeat (first | exact Drawn0.refl _ | apply Drawn0.step)⟩
 case round =>
  clear H'
  try clear p2
  obtain ⟨x8_1, rfl, HA, HK1, ⟨m1, rfl⟩⟩ := hrel
  cases gk with
  | zero => exact absurd HA.out (by simp [slices_Index_string_string.l0])
  | succ k1 =>
   have H := HA.out
   clear HA
   simp only [slices_Index_string_string.l0] at H
   by_cases c3 : x8_1 < (l0.length : Int)
   ·rw [if_pos c3] at H
    have c3b0 : decide (x8_1 < (l0.length : Int)) = true := decide_eq_true c3
    clear c3
    by_cases c4 : 0 ≤ x8_1
    ·rw [if_pos c4] at H
     have c4b0 : decide (0 ≤ x8_1) = true := decide_eq_true c4
     clear c4
     by_cases c5 : x8_1 < (l0.length : Int)
     ·rw [if_pos c5] at H
      have c5b0 : decide (x8_1 < (l0.length : Int)) = true := decide_eq_true c5
      clear c5
      by_cases c6 : a1.toList = (rdOf ByteArray.empty l0 x8_1).toList
      ·rw [if_pos c6] at H
       have c6b0 : (a1.toList == (rdOf ByteArray.empty l0 x8_1).toList) = true := beq_iff_eq.mpr c6
       have c6b1 : (a1.toList != (rdOf ByteArray.empty l0 x8_1).toList) = false := bne_eq_false_iff_eq.mpr c6
       clear c6
       obtain rfl := Option.some.inj H
       have p116 : 0 ≤ (x8_1 : Int) := of_decide_eq_true (by first | (with_reducible assumption) | assumption)
       have q116 : x8_1 < (l0.length : Int) := of_decide_eq_true (by first | (with_reducible assumption) | assumption)
       obtain ⟨ad116, e116, hx116_0⟩ := Kd.at_string HR0.out x8_1 p116 q116
       cases e116
       replace p116 := eq_true p116
       replace q116 := eq_true q116
       go_wp2
       go_ret
       exact ⟨by first | rfl | (simp; done) | (simp [*]; done), by repeat (first | exact Drawn0.refl _ | apply Drawn0.step)⟩
      ·rw [if_neg c6] at H
       have c6b0 : (a1.toList == (rdOf ByteArray.empty l0 x8_1).toList) = false := beq_eq_false_iff_ne.mpr c6
       have c6b1 : (a1.toList != (rdOf ByteArray.empty l0 x8_1).toList) = true := bne_iff_ne.mpr c6
       have H' := Aside0.mk H
       clear H
       have p116 : 0 ≤ (x8_1 : Int) := of_decide_eq_true (by first | (with_reducible assumption) | assumption)
       have q116 : x8_1 < (l0.length : Int) := of_decide_eq_true (by first | (with_reducible assumption) | assumption)
       obtain ⟨ad116, e116, hx116_0⟩ := Kd.at_string HR0.out x8_1 p116 q116
       cases e116
       replace p116 := eq_true p116
       replace q116 := eq_true q116
       go_wp2
       go_roundg k1
       case measure => have := HK1.out; omega
       case rel => exact ⟨(wrap64 (x8_1 + 1)), (by first | rfl | (simp; done) | (simp [*]; done)), H', ⟨by have := HK1.out; omega⟩, by repeat (first | exact Drawn0.refl _ | apply Drawn0.step)⟩
     ·rw [if_neg c5] at H
      exact absurd H (by simp)
    ·rw [if_neg c4] at H
     exact absurd H (by simp)
   ·rw [if_neg c3] at H
    have c3b0 : decide (x8_1 < (l0.length : Int)) = false := decide_eq_false c3
    clear c3
    obtain rfl := Option.some.inj H
    go_wp2
    go_ret
    exact ⟨by first | rfl | (simp; done) | (simp [*]; done), by repeat (first | exact Drawn0.refl _ | apply Drawn0.step)⟩
end Go.Proofs.Ytliablhnkoghbaa.PStock
namespace Go.Proofs.Ytliablhnkoghbaa.PStock
open Go.RowKit Go.Proofs.YtliablhnkoghbaaH Go.Proofs.YtliablhnkoghbaaW.PrintWords Go.Proofs.YtliablhnkoghbaaW.PrintLast Go.Proofs.YtliablhnkoghbaaW.PrintMore
attribute [local go_sem] max2_int min2_int max_two min_two max_three min_three max_four min_four
set_option linter.unusedVariables false
set_option linter.unusedSimpArgs false
def slices_Contains_string_string.f (k : Nat) (l0 : List ByteArray) (a1 : ByteArray) : Option (Bool) := (slices_Index_string_string.f k l0 a1).bind fun t117 => (some (decide (t117 ≥ 0)))
theorem slices_Contains_string_string.mono : ∀ a0 a1 k, LeO (slices_Contains_string_string.f k a0 a1) (slices_Contains_string_string.f (k + 1) a0 a1) := by
 intro a0 a1 k
 unfold slices_Contains_string_string.f
 repeat' first
   | (with_reducible exact slices_Index_string_string.mono _ _ _)
   | (with_reducible exact LeO.refl _)
   | (with_reducible exact LeO.none _)
   | (with_reducible refine LeO.ite ?_ ?_)
   | (with_reducible refine LeO.bind ?_ (fun _ => ?_))
   | exact slices_Index_string_string.mono _ _ _
   | exact LeO.none _
   | refine LeO.ite ?_ ?_
   | refine LeO.bind ?_ (fun _ => ?_)
set_option maxHeartbeats 8000000 in
set_option maxRecDepth 100000 in
theorem slices_Contains_string_string.calls (k : Nat) (A0 : Option Addr) (c0 : Nat) (l0 : List ByteArray) (a1 : ByteArray) (r : Bool) (w : World) (hr0 : Kd.C Kd.string w A0 l0.length l0) (hc0 : l0.length ≤ c0) (h : slices_Contains_string_string.f k l0 a1 = some r) :
  Calls Try.prog 50 #[.slice A0 l0.length c0, .string a1] w fun e w' => e = .returned (.bool r) ∧ Drawn0 w w' := by
 have HR0 := Aside0.mk hr0
 have HC0 := Aside0.mk hc0
 clear hr0 hc0
 have H : ((slices_Index_string_string.f k l0 a1).bind fun t117 => (some (decide (t117 ≥ 0)))) = some r := h
 clear h
 replace H := Option.bind_eq_some_iff.mp H
 obtain ⟨t117, A30, H⟩ := H
 replace H : (some (decide (t117 ≥ 0))) = some r := H
 have A3 := Aside0.mk A30
 clear A30
 obtain rfl := Option.some.inj H
 go_enter Try.func50, Try.ntmps50
 go_wp2_with (first | ((with_reducible refine gate_callee (f := 61) rfl ?_); refine goesL_ (some 7) rfl rfl Try.func61 (by kernel_rfl) rfl #[.slice A0 l0.length c0, .string a1] rfl (by (try simp only [List.map_toArray, List.map_cons, List.map_nil]); first | done | rfl | (simp only [List.length_drop, List.length_take]; rfl)) ?_; (with_reducible refine (slices_Index_string_string.calls k _ _ l0 a1 t117 _ ?side1 ?side2 A3.out).mono ?_); (case side1 => repeat (first | exact HR0.out | (with_reducible refine Kd.C_alloc ?_ _) | (with_reducible refine Kd.C_drewN ?_ _) | (with_reducible refine Kd.C_drew ?_))); (case side2 => exact HC0.out); rintro e w' ⟨rfl, ⟨nd, rfl⟩⟩; refine ⟨_, rfl, ?_⟩))
 go_ret
 exact ⟨by first | rfl | (simp; done) | (simp [*]; done), by repeat (first | exact Drawn0.refl _ | apply Drawn0.step)⟩
end Go.Proofs.Ytliablhnkoghbaa.PStock
namespace Go.Proofs.Ytliablhnkoghbaa.PStock
open Go.RowKit Go.Proofs.YtliablhnkoghbaaH Go.Proofs.YtliablhnkoghbaaW.PrintWords Go.Proofs.YtliablhnkoghbaaW.PrintLast Go.Proofs.YtliablhnkoghbaaW.PrintMore
attribute [local go_sem] max2_int min2_int max_two min_two max_three min_three max_four min_four
set_option linter.unusedVariables false
set_option linter.unusedSimpArgs false
set_option maxHeartbeats 2000000 in
theorem slices_str_IndexFunc.calls (p : ByteArray → Bool) (g : Nat) (lb : Array Value) (eg : ∀ args w, (callFunc g args).run Try.prog w = .ok (.enter g args) w) (A0 : Option Addr) (c0 : Nat) (l0 : List ByteArray) (w : World)
  (hr0 : Kd.C Kd.string w A0 l0.length l0) (hp : PredB Try.prog g lb Value.string p l0 w) :
  Calls Try.prog 62 #[.slice A0 l0.length c0, .func (.func g) #[] lb] w fun e w' => e = .returned (.int .i64 (idxP p l0)) ∧ Below w.heap.size w w' := by
 have HR0 := Aside0.mk hr0
 have HP := Aside0.mk hp
 clear hr0 hp
 have hlen : l0.length ≤ 9223372036854775807 := HR0.out.2.1
 go_enter Try.func62, Try.ntmps62
 go_wp2
 go_loopg [5, 8] l0.length (fun gg _ s8 wr => ∃ kk : Nat, kk ≤ l0.length ∧ l0.length - kk ≤ gg ∧ s8 = .int .i64 kk ∧ Aside0 (Below w.heap.size w wr) ∧ Aside0 (∀ j (hj : j < l0.length), j < kk → p l0[j] = false))
 case atStart => exact ⟨0, Nat.zero_le _, by omega, rfl, ⟨Below.refl _ w⟩, ⟨fun j _ hj => absurd hj (Nat.not_lt_zero _)⟩⟩
 case round =>
  obtain ⟨kk, hkk, hg, rfl, BW, A⟩ := hrel
  by_cases hlt : kk < l0.length
  ·have hltz : (kk : Int) < (l0.length : Int) := by omega
   obtain ⟨ad, e0, hx0⟩ := at_string HR0.out (kk : Int) (by omega) hltz
   subst e0
   replace hx0 := (BW.out.cell (World.block_lt_of_cell? w _ hx0)).trans hx0
   have hcall := HP.out wr (rdOf ByteArray.empty l0 (kk : Int)) (by rw [show rdOf ByteArray.empty l0 (kk : Int) = l0[kk] from getD_get _ l0 kk hlt]; exact List.getElem_mem hlt) BW.out
   simp only [Int.toNat_natCast] at hx0
   generalize hy : rdOf ByteArray.empty l0 (kk : Int) = y at hx0 hcall
   have Y : Aside0 (l0[kk] = y) := ⟨(getD_get _ l0 kk hlt).symm.trans hy⟩
   clear hy
   cases hq : p y with
   | true =>
    rw [hq] at hcall
    have Q := Aside0.mk hq
    clear hq
    go_wp2_with (go_at_fn g; refine hcall.mono ?_; rintro e w' ⟨rfl, hb'⟩)
    go_ret
    refine ⟨?_, below_step BW.out hb'⟩
    rw [idxP_hit p l0 kk hlt (by rw [Y.out]; exact Q.out) (fun j hj => A.out j (by omega) hj)]
    rfl
   | false =>
    rw [hq] at hcall
    have Q := Aside0.mk hq
    clear hq
    go_wp2_with (go_at_fn g; refine hcall.mono ?_; rintro e w' ⟨rfl, hb'⟩)
    go_roundg (l0.length - (kk + 1))
    case measure => omega
    case rel =>
     refine ⟨kk + 1, by omega, by omega, by go_num, ⟨below_step BW.out hb'⟩, ⟨fun j hj hjk => ?_⟩⟩
     by_cases e : j = kk
     ·subst e
      rw [Y.out]; exact Q.out
     ·exact A.out j hj (by omega)
  ·have hltz : ¬ (kk : Int) < (l0.length : Int) := by omega
   have E0 : kk = l0.length := by omega
   subst E0
   go_wp2
   go_ret
   refine ⟨?_, BW.out⟩
   rw [idxP_miss p l0 (fun j hj => A.out j hj hj)]
   rfl
set_option maxHeartbeats 2000000 in
theorem slices_str_ContainsFunc.calls (p : ByteArray → Bool) (g : Nat) (lb : Array Value) (eg : ∀ args w, (callFunc g args).run Try.prog w = .ok (.enter g args) w) (A0 : Option Addr) (c0 : Nat) (l0 : List ByteArray) (w : World)
  (hr0 : Kd.C Kd.string w A0 l0.length l0) (hp : PredB Try.prog g lb Value.string p l0 w) :
  Calls Try.prog 51 #[.slice A0 l0.length c0, .func (.func g) #[] lb] w fun e w' => e = .returned (.bool (l0.any p)) ∧ Below w.heap.size w w' := by
 have H := slices_str_IndexFunc.calls p g lb eg A0 c0 l0 w hr0 hp
 have E := Aside0.mk (idxP_any p l0)
 clear hr0 hp
 generalize idxP p l0 = x at H E
 go_enter Try.func51, Try.ntmps51
 go_wp2_with (go_at_call 62; refine H.mono ?_; rintro e w' ⟨rfl, hb⟩)
 go_ret
 refine ⟨?_, hb⟩
 rw [← E.out]
 rfl
end Go.Proofs.Ytliablhnkoghbaa.PStock
namespace Go.Proofs.Ytliablhnkoghbaa.PStock
open Go.RowKit Go.Proofs.YtliablhnkoghbaaH Go.Proofs.YtliablhnkoghbaaW.PrintWords Go.Proofs.YtliablhnkoghbaaW.PrintLast Go.Proofs.YtliablhnkoghbaaW.PrintMore
attribute [local go_sem] max2_int min2_int max_two min_two max_three min_three max_four min_four
set_option linter.unusedVariables false
set_option linter.unusedSimpArgs false
def strings_Compare.ren : Go.Shelf.Ren := ⟨fun | 106 => 41 | 213 => 46 | 265 => 58 | n => n, fun | 9 => 9 | 3 => 3 | n => n, fun | n => n⟩
theorem strings_Compare.lays : Go.Proofs.Lays.n106 Try.prog strings_Compare.ren := {
 mixed := by kernel_rfl
 f106 := Try.func41.trans (congrArg some (by kernel_rfl))
 f213 := Try.func46.trans (congrArg some (by kernel_rfl))
 f265 := Try.func58.trans (congrArg some (by kernel_rfl))
 t3 := Try.underlying3
 a3 := Try.isAgg3
 z3 := Try.sizeOf3
 v3 := Try.zeroValue3
 t9 := Try.underlying9
 a9 := Try.isAgg9
 z9 := Try.sizeOf9
 v9 := Try.zeroValue9 }
def strings_Compare.f (a0 : ByteArray) (a1 : ByteArray) : Option Int := some (cmpB a0 a1)
theorem strings_Compare.calls (a0 : ByteArray) (a1 : ByteArray) (r : Int) (w : World) (h : strings_Compare.f a0 a1 = some r) :
  Calls Try.prog 41 #[.string a0, .string a1] w fun e w' => e = .returned (.int .i64 r) ∧ Drawn0 w w' := by
 obtain rfl := Option.some.inj h
 exact (Any.strings_Compare strings_Compare.lays a0 a1 w).mono fun e w' ⟨he, hw⟩ => ⟨he, by rw [hw]; exact Drawn0.refl _⟩
end Go.Proofs.Ytliablhnkoghbaa.PStock
namespace Go.Proofs.Ytliablhnkoghbaa.PStock
open Go.RowKit Go.Proofs.YtliablhnkoghbaaH Go.Proofs.YtliablhnkoghbaaW.PrintWords Go.Proofs.YtliablhnkoghbaaW.PrintLast Go.Proofs.YtliablhnkoghbaaW.PrintMore
attribute [local go_sem] max2_int min2_int max_two min_two max_three min_three max_four min_four
set_option linter.unusedVariables false
set_option linter.unusedSimpArgs false
set_option maxHeartbeats 4000000 in
theorem rising_str.calls (c : ByteArray → ByteArray → Int) (g : Nat) (lb : Array Value) (eg : ∀ args w, (callFunc g args).run Try.prog w = .ok (.enter g args) w) (A0 : Option Addr) (c0 : Nat) (l0 : List ByteArray) (most : Int) (w : World)
  (hr0 : Kd.C Kd.string w A0 l0.length l0) (hp : CmpB Try.prog g lb Value.string c l0 w) :
  Calls Try.prog 54 #[.slice A0 l0.length c0, .int .i64 most, .func (.func g) #[] lb] w fun e w' => e = .returned (.bool (chainB (fun x y => decide (c x y < 0)) l0 && decide ((l0.length : Int) ≤ most))) ∧ Below w.heap.size w w' := by
 have HR0 := Aside0.mk hr0
 have HP := Aside0.mk hp
 clear hr0 hp
 have hlen : l0.length ≤ 9223372036854775807 := HR0.out.2.1
 go_enter Try.func54, Try.ntmps54
 go_wp2
 go_loopg [7] l0.length (fun gg s7 wr => ∃ m : Nat, m ≤ l0.length ∧ l0.length - m ≤ gg ∧ s7 = .int .i64 ((m : Int) + 1) ∧ Aside0 (Below w.heap.size w wr) ∧ Aside0 (∀ j (hj : j + 1 < l0.length), j < m → c (l0[j]'(by omega)) l0[j + 1] < 0))
 case atStart => exact ⟨0, by omega, by omega, rfl, ⟨Below.refl _ w⟩, ⟨fun j _ hj => by omega⟩⟩
 case round =>
  obtain ⟨m, hkk, hg, rfl, BW, A⟩ := hrel
  by_cases hlt : m + 1 < l0.length
  ·have hltz : (m : Int) + 1 < (l0.length : Int) := by omega
   have hltm : (m : Int) < (l0.length : Int) := by omega
   have h0m : (0 : Int) ≤ (m : Int) + 1 := by omega
   have htn : ((m : Int) + 1).toNat = m + 1 := by omega
   have hmod : IntKind.i64.wrap (m : Int) = (m : Int) := IntWalk.i64_in _ (by omega)
   obtain ⟨ad, e0, hx0⟩ := at_string HR0.out ((m : Int) + 1) (by omega) hltz
   obtain ⟨ad2, e2, hy0⟩ := at_string HR0.out (m : Int) (by omega) hltm
   obtain rfl := Option.some.inj (e0.symm.trans e2)
   subst e0
   clear e2
   replace hx0 := (BW.out.cell (World.block_lt_of_cell? w _ hx0)).trans hx0
   replace hy0 := (BW.out.cell (World.block_lt_of_cell? w _ hy0)).trans hy0
   have g1 : rdOf ByteArray.empty l0 ((m : Int) + 1) = l0[m + 1] := getD_get _ l0 (m + 1) hlt
   have g0 : rdOf ByteArray.empty l0 (m : Int) = l0[m]'(by omega) := getD_get _ l0 m (by omega)
   have hcall := HP.out wr.drew (rdOf ByteArray.empty l0 (m : Int)) (rdOf ByteArray.empty l0 ((m : Int) + 1)) (by rw [g0]; exact List.getElem_mem _) (by rw [g1]; exact List.getElem_mem hlt) (below_drew BW.out)
   simp only [Int.toNat_natCast] at hy0
   rw [htn] at hx0
   have hadd : ad.add (m + 1) = ⟨ad.block, ad.off + (m + 1), none⟩ := by unfold Addr.add; rw [if_neg (by omega)]
   rw [hadd] at hx0
   clear hadd
   generalize hy_ : rdOf ByteArray.empty l0 ((m : Int) + 1) = y at hx0 hcall g1
   generalize hx_ : rdOf ByteArray.empty l0 (m : Int) = x at hy0 hcall g0
   have Y := Aside0.mk g1.symm
   have X := Aside0.mk g0.symm
   clear hx_ hy_ g0 g1
   by_cases hq : c x y < 0
   ·have hd : decide (0 ≤ c x y) = false := by simpa using hq
    have Q := Aside0.mk hq
    clear hq
    generalize hqq : c x y = q at hd hcall Q
    have QE := Aside0.mk hqq
    clear hqq
    go_wp2
    go_still_tail 10, (by kernel_rfl)
    change wpList _ _ _ _ _ (wr.drew)
    go_wp2_with (go_at_fn g; refine hcall.mono ?_; rintro e w' ⟨rfl, hb'⟩)
    go_roundg (l0.length - (m + 1))
    case measure => omega
    case rel =>
     refine ⟨m + 1, by omega, by omega, by go_num, ⟨below_step (below_drew BW.out) hb'⟩, ⟨fun j hj hjk => ?_⟩⟩
     by_cases e : j = m
     ·subst e; rw [X.out, Y.out, QE.out]; exact Q.out
     ·exact A.out j hj (by omega)
   ·have hd : decide (0 ≤ c x y) = true := by simpa using hq
    have Q := Aside0.mk hq
    clear hq
    generalize hqq : c x y = q at hd hcall Q
    have QE := Aside0.mk hqq
    clear hqq
    go_wp2
    go_still_tail 10, (by kernel_rfl)
    change wpList _ _ _ _ _ (wr.drew)
    go_wp2_with (go_at_fn g; refine hcall.mono ?_; rintro e w' ⟨rfl, hb'⟩)
    go_ret
    refine ⟨?_, below_step (below_drew BW.out) hb'⟩
    rw [chainB_no _ l0 m hlt (by rw [X.out, Y.out, QE.out]; simpa using Q.out)]
    rfl
  ·have hltz : ¬ (m : Int) + 1 < (l0.length : Int) := by omega
   go_wp2
   go_ret
   refine ⟨?_, BW.out⟩
   rw [(chainB_iff _ l0).2 (fun i hi => by simpa using A.out i hi (by omega)), Bool.true_and]
   rfl
end Go.Proofs.Ytliablhnkoghbaa.PStock
namespace Go.Proofs.Ytliablhnkoghbaa.PStock
open Go.RowKit Go.Proofs.YtliablhnkoghbaaH Go.Proofs.YtliablhnkoghbaaW.PrintWords Go.Proofs.YtliablhnkoghbaaW.PrintLast Go.Proofs.YtliablhnkoghbaaW.PrintMore
attribute [local go_sem] max2_int min2_int max_two min_two max_three min_three max_four min_four
set_option linter.unusedVariables false
set_option linter.unusedSimpArgs false
def cmp_Or_int.l0 : Nat → Int → List Int → Int → Int → Option (Int)
 | 0, _, _, _, _ => none
 | k + 1, x3, x6, x7, x8 => if x8 < x7 then (if 0 ≤ x8 then (if x8 < (x6.length : Int) then (if (rd x6 x8) = x3 then (cmp_Or_int.l0 k x3 x6 x7 (wrap64 (x8 + 1))) else (some (rd x6 x8))) else (none)) else (none)) else (some x3)
def cmp_Or_int.f (k : Nat) (l0 : List Int) : Option (Int) := cmp_Or_int.l0 k 0 l0 (l0.length : Int) 0
theorem cmp_Or_int.mono_l : ∀ k, (∀ y0 y1 y2 y3, LeO (cmp_Or_int.l0 k y0 y1 y2 y3) (cmp_Or_int.l0 (k + 1) y0 y1 y2 y3))
 | 0 => fun _ _ _ _ r h => by simp [cmp_Or_int.l0] at h
 | k + 1 => by
  have ih0 := cmp_Or_int.mono_l k
  ·intro y0 y1 y2 y3
   unfold cmp_Or_int.l0
   repeat' first
   | (with_reducible exact ih0 _ _ _ _)
   | (with_reducible exact LeO.refl _)
   | (with_reducible exact LeO.none _)
   | (with_reducible refine LeO.ite ?_ ?_)
   | (with_reducible refine LeO.bind ?_ (fun _ => ?_))
   | exact ih0 _ _ _ _
   | exact LeO.none _
   | refine LeO.ite ?_ ?_
   | refine LeO.bind ?_ (fun _ => ?_)
theorem cmp_Or_int.mono : ∀ a0 k, LeO (cmp_Or_int.f k a0) (cmp_Or_int.f (k + 1) a0) := by
 intro a0 k
 have ih0 := cmp_Or_int.mono_l k
 unfold cmp_Or_int.f
 repeat' first
   | (with_reducible exact ih0 _ _ _ _)
   | (with_reducible exact LeO.refl _)
   | (with_reducible exact LeO.none _)
   | (with_reducible refine LeO.ite ?_ ?_)
   | (with_reducible refine LeO.bind ?_ (fun _ => ?_))
   | exact ih0 _ _ _ _
   | exact LeO.none _
   | refine LeO.ite ?_ ?_
   | refine LeO.bind ?_ (fun _ => ?_)
set_option maxHeartbeats 8000000 in
set_option maxRecDepth 100000 in
theorem cmp_Or_int.calls (k : Nat) (A0 : Option Addr) (c0 : Nat) (l0 : List Int) (r : Int) (w : World) (hr0 : Kd.C (Kd.int .i64) w A0 l0.length l0) (hc0 : l0.length ≤ c0) (h : cmp_Or_int.f k l0 = some r) :
  Calls Try.prog 65 #[.slice A0 l0.length c0] w fun e w' => e = .returned (.int .i64 r) ∧ Drawn0 w w' := by
 have HR0 := Aside0.mk hr0
 have HC0 := Aside0.mk hc0
 clear hr0 hc0
 have H : (cmp_Or_int.l0 k 0 l0 (l0.length : Int) 0) = some r := h
 clear h
 have H' := Aside0.mk H
 clear H
 go_enter Try.func65, Try.ntmps65
 go_wp2
 go_loopg [8] k (fun kq v8 w' => ∃ (x8_1 : Int), v8 = .int .i64 x8_1 ∧ Aside0 (cmp_Or_int.l0 kq 0 l0 (l0.length : Int) x8_1 = some r) ∧ Aside0 (kq ≤ k) ∧ Drawn0 w w')
 case atStart => exact ⟨(0), (by first | rfl | (simp; done) | (simp [*]; done)), H', ⟨Nat.le_refl _⟩, by repeat (first | exact Drawn0.refl _ | apply Drawn0.step)⟩
 case round =>
  clear H'
  obtain ⟨x8_1, rfl, HA, HK1, ⟨m1, rfl⟩⟩ := hrel
  cases gk with
  | zero => exact absurd HA.out (by simp [cmp_Or_int.l0])
  | succ k1 =>
   have H := HA.out
   clear HA
   simp only [cmp_Or_int.l0] at H
   by_cases c2 : x8_1 < (l0.length : Int)
   ·rw [if_pos c2] at H
    have c2b0 : decide (x8_1 < (l0.length : Int)) = true := decide_eq_true c2
    clear c2
    by_cases c3 : 0 ≤ x8_1
    ·rw [if_pos c3] at H
     have c3b0 : decide (0 ≤ x8_1) = true := decide_eq_true c3
     clear c3
     by_cases c4 : x8_1 < (l0.length : Int)
     ·rw [if_pos c4] at H
      have c4b0 : decide (x8_1 < (l0.length : Int)) = true := decide_eq_true c4
      clear c4
      by_cases c5 : (rd l0 x8_1) = 0
      ·rw [if_pos c5] at H
       have c5b0 : ((rd l0 x8_1) == 0) = true := beq_iff_eq.mpr c5
       have c5b1 : ((rd l0 x8_1) != 0) = false := bne_eq_false_iff_eq.mpr c5
       clear c5
       have H' := Aside0.mk H
       clear H
       have p118 : 0 ≤ (x8_1 : Int) := of_decide_eq_true (by first | (with_reducible assumption) | assumption)
       have q118 : x8_1 < (l0.length : Int) := of_decide_eq_true (by first | (with_reducible assumption) | assumption)
       obtain ⟨ad118, e118, hx118_0⟩ := Kd.at_int HR0.out x8_1 p118 q118
       cases e118
       replace p118 := eq_true p118
       replace q118 := eq_true q118
       go_wp2
       go_roundg k1
       case measure => have := HK1.out; omega
       case rel => exact ⟨(wrap64 (x8_1 + 1)), (by first | rfl | (simp; done) | (simp [*]; done)), H', ⟨by have := HK1.out; omega⟩, by repeat (first | exact Drawn0.refl _ | apply Drawn0.step)⟩
      ·rw [if_neg c5] at H
       have c5b0 : ((rd l0 x8_1) == 0) = false := beq_eq_false_iff_ne.mpr c5
       have c5b1 : ((rd l0 x8_1) != 0) = true := bne_iff_ne.mpr c5
       obtain rfl := Option.some.inj H
       have p118 : 0 ≤ (x8_1 : Int) := of_decide_eq_true (by first | (with_reducible assumption) | assumption)
       have q118 : x8_1 < (l0.length : Int) := of_decide_eq_true (by first | (with_reducible assumption) | assumption)
       obtain ⟨ad118, e118, hx118_0⟩ := Kd.at_int HR0.out x8_1 p118 q118
       cases e118
       replace p118 := eq_true p118
       replace q118 := eq_true q118
       go_wp2
       go_ret
       exact ⟨by first | rfl | (simp; done) | (simp [*]; done), by repeat (first | exact Drawn0.refl _ | apply Drawn0.step)⟩
     ·rw [if_neg c4] at H
      exact absurd H (by simp)
    ·rw [if_neg c3] at H
     exact absurd H (by simp)
   ·rw [if_neg c2] at H
    have c2b0 : decide (x8_1 < (l0.length : Int)) = false := decide_eq_false c2
    clear c2
    obtain rfl := Option.some.inj H
    go_wp2
    go_ret
    exact ⟨by first | rfl | (simp; done) | (simp [*]; done), by repeat (first | exact Drawn0.refl _ | apply Drawn0.step)⟩
end Go.Proofs.Ytliablhnkoghbaa.PStock
namespace Go.Proofs.Ytliablhnkoghbaa.PStock
open Go.RowKit Go.Proofs.YtliablhnkoghbaaH Go.Proofs.YtliablhnkoghbaaW.PrintWords Go.Proofs.YtliablhnkoghbaaW.PrintLast Go.Proofs.YtliablhnkoghbaaW.PrintMore
attribute [local go_sem] max2_int min2_int max_two min_two max_three min_three max_four min_four
set_option linter.unusedVariables false
set_option linter.unusedSimpArgs false
def cmp_isNaN_int.f (a0 : Int) : Option (Bool) := some (a0 != a0)
set_option maxHeartbeats 8000000 in
set_option maxRecDepth 100000 in
theorem cmp_isNaN_int.calls (a0 : Int) (r : Bool) (w : World) (h : cmp_isNaN_int.f a0 = some r) :
  Calls Try.prog 69 #[.int .i64 a0] w fun e w' => e = .returned (.bool r) ∧ Drawn0 w w' := by
 have H : (some (a0 != a0)) = some r := h
 clear h
 obtain rfl := Option.some.inj H
 go_enter Try.func69, Try.ntmps69
 go_wp2
 go_ret
 exact ⟨by first | rfl | (simp; done) | (simp [*]; done), by repeat (first | exact Drawn0.refl _ | apply Drawn0.step)⟩
end Go.Proofs.Ytliablhnkoghbaa.PStock
namespace Go.Proofs.Ytliablhnkoghbaa.PStock
open Go.RowKit Go.Proofs.YtliablhnkoghbaaH Go.Proofs.YtliablhnkoghbaaW.PrintWords Go.Proofs.YtliablhnkoghbaaW.PrintLast Go.Proofs.YtliablhnkoghbaaW.PrintMore
attribute [local go_sem] max2_int min2_int max_two min_two max_three min_three max_four min_four
set_option linter.unusedVariables false
set_option linter.unusedSimpArgs false
def cmp_Compare_int.f (a0 : Int) (a1 : Int) : Option (Int) := (cmp_isNaN_int.f a0).bind fun t119 => ((cmp_isNaN_int.f a1).bind fun t120 => (if t119 = true then (if t120 = true then (some 0) else (some (-1))) else (if t120 = true then (some 1) else (if a0 < a1 then (some (-1)) else (if a0 > a1 then (some 1) else (some 0))))))
set_option maxHeartbeats 8000000 in
set_option maxRecDepth 100000 in
theorem cmp_Compare_int.calls (a0 : Int) (a1 : Int) (r : Int) (w : World) (h : cmp_Compare_int.f a0 a1 = some r) :
  Calls Try.prog 66 #[.int .i64 a0, .int .i64 a1] w fun e w' => e = .returned (.int .i64 r) ∧ Drawn0 w w' := by
 have H : ((cmp_isNaN_int.f a0).bind fun t119 => ((cmp_isNaN_int.f a1).bind fun t120 => (if t119 = true then (if t120 = true then (some 0) else (some (-1))) else (if t120 = true then (some 1) else (if a0 < a1 then (some (-1)) else (if a0 > a1 then (some 1) else (some 0))))))) = some r := h
 clear h
 replace H := Option.bind_eq_some_iff.mp H
 obtain ⟨t119, A30, H⟩ := H
 replace H : ((cmp_isNaN_int.f a1).bind fun t120 => (if t119 = true then (if t120 = true then (some 0) else (some (-1))) else (if t120 = true then (some 1) else (if a0 < a1 then (some (-1)) else (if a0 > a1 then (some 1) else (some 0)))))) = some r := H
 have A3 := Aside0.mk A30
 clear A30
 replace H := Option.bind_eq_some_iff.mp H
 obtain ⟨t120, A40, H⟩ := H
 replace H : (if t119 = true then (if t120 = true then (some 0) else (some (-1))) else (if t120 = true then (some 1) else (if a0 < a1 then (some (-1)) else (if a0 > a1 then (some 1) else (some 0))))) = some r := H
 have A4 := Aside0.mk A40
 clear A40
 by_cases c5 : t119 = true
 ·subst c5
  have H1 : (if t120 = true then (some 0) else (some (-1))) = some r := by rw [if_pos rfl] at H; exact H
  clear H
  have H := H1
  clear H1
  by_cases c6 : t120 = true
  ·subst c6
   have H1 : (some 0) = some r := by rw [if_pos rfl] at H; exact H
   clear H
   have H := H1
   clear H1
   obtain rfl := Option.some.inj H
   go_enter Try.func66, Try.ntmps66
   go_wp2_with (first | ((with_reducible refine gate_callee (f := 69) rfl ?_); refine goesL_ (some 8) rfl rfl Try.func69 (by kernel_rfl) rfl #[.int .i64 a0] rfl (by (try simp only [List.map_toArray, List.map_cons, List.map_nil]); first | done | rfl | (simp only [List.length_drop, List.length_take]; rfl)) ?_; (with_reducible refine (cmp_isNaN_int.calls a0 true _ A3.out).mono ?_); rintro e w' ⟨rfl, ⟨nd, rfl⟩⟩; refine ⟨_, rfl, ?_⟩) | ((with_reducible refine gate_callee (f := 69) rfl ?_); refine goesL_ (some 10) rfl rfl Try.func69 (by kernel_rfl) rfl #[.int .i64 a1] rfl (by (try simp only [List.map_toArray, List.map_cons, List.map_nil]); first | done | rfl | (simp only [List.length_drop, List.length_take]; rfl)) ?_; (with_reducible refine (cmp_isNaN_int.calls a1 true _ A4.out).mono ?_); rintro e w' ⟨rfl, ⟨nd, rfl⟩⟩; refine ⟨_, rfl, ?_⟩))
   go_ret
   exact ⟨by first | rfl | (simp; done) | (simp [*]; done), by repeat (first | exact Drawn0.refl _ | apply Drawn0.step)⟩
  ·replace c6 := Bool.eq_false_iff.mpr c6
   subst c6
   have H1 : (some (-1)) = some r := by rw [if_neg (show ¬ (false = true) by decide)] at H; exact H
   clear H
   have H := H1
   clear H1
   obtain rfl := Option.some.inj H
   go_enter Try.func66, Try.ntmps66
   go_wp2_with (first | ((with_reducible refine gate_callee (f := 69) rfl ?_); refine goesL_ (some 8) rfl rfl Try.func69 (by kernel_rfl) rfl #[.int .i64 a0] rfl (by (try simp only [List.map_toArray, List.map_cons, List.map_nil]); first | done | rfl | (simp only [List.length_drop, List.length_take]; rfl)) ?_; (with_reducible refine (cmp_isNaN_int.calls a0 true _ A3.out).mono ?_); rintro e w' ⟨rfl, ⟨nd, rfl⟩⟩; refine ⟨_, rfl, ?_⟩) | ((with_reducible refine gate_callee (f := 69) rfl ?_); refine goesL_ (some 10) rfl rfl Try.func69 (by kernel_rfl) rfl #[.int .i64 a1] rfl (by (try simp only [List.map_toArray, List.map_cons, List.map_nil]); first | done | rfl | (simp only [List.length_drop, List.length_take]; rfl)) ?_; (with_reducible refine (cmp_isNaN_int.calls a1 false _ A4.out).mono ?_); rintro e w' ⟨rfl, ⟨nd, rfl⟩⟩; refine ⟨_, rfl, ?_⟩))
   go_ret
   exact ⟨by first | rfl | (simp; done) | (simp [*]; done), by repeat (first | exact Drawn0.refl _ | apply Drawn0.step)⟩
 ·replace c5 := Bool.eq_false_iff.mpr c5
  subst c5
  have H1 : (if t120 = true then (some 1) else (if a0 < a1 then (some (-1)) else (if a0 > a1 then (some 1) else (some 0)))) = some r := by rw [if_neg (show ¬ (false = true) by decide)] at H; exact H
  clear H
  have H := H1
  clear H1
  by_cases c7 : t120 = true
  ·subst c7
   have H1 : (some 1) = some r := by rw [if_pos rfl] at H; exact H
   clear H
   have H := H1
   clear H1
   obtain rfl := Option.some.inj H
   go_enter Try.func66, Try.ntmps66
   go_wp2_with (first | ((with_reducible refine gate_callee (f := 69) rfl ?_); refine goesL_ (some 8) rfl rfl Try.func69 (by kernel_rfl) rfl #[.int .i64 a0] rfl (by (try simp only [List.map_toArray, List.map_cons, List.map_nil]); first | done | rfl | (simp only [List.length_drop, List.length_take]; rfl)) ?_; (with_reducible refine (cmp_isNaN_int.calls a0 false _ A3.out).mono ?_); rintro e w' ⟨rfl, ⟨nd, rfl⟩⟩; refine ⟨_, rfl, ?_⟩) | ((with_reducible refine gate_callee (f := 69) rfl ?_); refine goesL_ (some 10) rfl rfl Try.func69 (by kernel_rfl) rfl #[.int .i64 a1] rfl (by (try simp only [List.map_toArray, List.map_cons, List.map_nil]); first | done | rfl | (simp only [List.length_drop, List.length_take]; rfl)) ?_; (with_reducible refine (cmp_isNaN_int.calls a1 true _ A4.out).mono ?_); rintro e w' ⟨rfl, ⟨nd, rfl⟩⟩; refine ⟨_, rfl, ?_⟩))
   go_ret
   exact ⟨by first | rfl | (simp; done) | (simp [*]; done), by repeat (first | exact Drawn0.refl _ | apply Drawn0.step)⟩
  ·replace c7 := Bool.eq_false_iff.mpr c7
   subst c7
   have H1 : (if a0 < a1 then (some (-1)) else (if a0 > a1 then (some 1) else (some 0))) = some r := by rw [if_neg (show ¬ (false = true) by decide)] at H; exact H
   clear H
   have H := H1
   clear H1
   by_cases c8 : a0 < a1
   ·rw [if_pos c8] at H
    have c8b0 : decide (a0 < a1) = true := decide_eq_true c8
    clear c8
    obtain rfl := Option.some.inj H
    go_enter Try.func66, Try.ntmps66
    go_wp2_with (first | ((with_reducible refine gate_callee (f := 69) rfl ?_); refine goesL_ (some 8) rfl rfl Try.func69 (by kernel_rfl) rfl #[.int .i64 a0] rfl (by (try simp only [List.map_toArray, List.map_cons, List.map_nil]); first | done | rfl | (simp only [List.length_drop, List.length_take]; rfl)) ?_; (with_reducible refine (cmp_isNaN_int.calls a0 false _ A3.out).mono ?_); rintro e w' ⟨rfl, ⟨nd, rfl⟩⟩; refine ⟨_, rfl, ?_⟩) | ((with_reducible refine gate_callee (f := 69) rfl ?_); refine goesL_ (some 10) rfl rfl Try.func69 (by kernel_rfl) rfl #[.int .i64 a1] rfl (by (try simp only [List.map_toArray, List.map_cons, List.map_nil]); first | done | rfl | (simp only [List.length_drop, List.length_take]; rfl)) ?_; (with_reducible refine (cmp_isNaN_int.calls a1 false _ A4.out).mono ?_); rintro e w' ⟨rfl, ⟨nd, rfl⟩⟩; refine ⟨_, rfl, ?_⟩))
    go_ret
    exact ⟨by first | rfl | (simp; done) | (simp [*]; done), by repeat (first | exact Drawn0.refl _ | apply Drawn0.step)⟩
   ·rw [if_neg c8] at H
    have c8b0 : decide (a0 < a1) = false := decide_eq_false c8
    clear c8
    by_cases c9 : a0 > a1
    ·rw [if_pos c9] at H
     have c9b0 : decide (a1 < a0) = true := decide_eq_true c9
     clear c9
     obtain rfl := Option.some.inj H
     go_enter Try.func66, Try.ntmps66
     go_wp2_with (first | ((with_reducible refine gate_callee (f := 69) rfl ?_); refine goesL_ (some 8) rfl rfl Try.func69 (by kernel_rfl) rfl #[.int .i64 a0] rfl (by (try simp only [List.map_toArray, List.map_cons, List.map_nil]); first | done | rfl | (simp only [List.length_drop, List.length_take]; rfl)) ?_; (with_reducible refine (cmp_isNaN_int.calls a0 false _ A3.out).mono ?_); rintro e w' ⟨rfl, ⟨nd, rfl⟩⟩; refine ⟨_, rfl, ?_⟩) | ((with_reducible refine gate_callee (f := 69) rfl ?_); refine goesL_ (some 10) rfl rfl Try.func69 (by kernel_rfl) rfl #[.int .i64 a1] rfl (by (try simp only [List.map_toArray, List.map_cons, List.map_nil]); first | done | rfl | (simp only [List.length_drop, List.length_take]; rfl)) ?_; (with_reducible refine (cmp_isNaN_int.calls a1 false _ A4.out).mono ?_); rintro e w' ⟨rfl, ⟨nd, rfl⟩⟩; refine ⟨_, rfl, ?_⟩))
     go_ret
     exact ⟨by first | rfl | (simp; done) | (simp [*]; done), by repeat (first | exact Drawn0.refl _ | apply Drawn0.step)⟩
    ·rw [if_neg c9] at H
     have c9b0 : decide (a1 < a0) = false := decide_eq_false c9
     clear c9
     obtain rfl := Option.some.inj H
     go_enter Try.func66, Try.ntmps66
     go_wp2_with (first | ((with_reducible refine gate_callee (f := 69) rfl ?_); refine goesL_ (some 8) rfl rfl Try.func69 (by kernel_rfl) rfl #[.int .i64 a0] rfl (by (try simp only [List.map_toArray, List.map_cons, List.map_nil]); first | done | rfl | (simp only [List.length_drop, List.length_take]; rfl)) ?_; (with_reducible refine (cmp_isNaN_int.calls a0 false _ A3.out).mono ?_); rintro e w' ⟨rfl, ⟨nd, rfl⟩⟩; refine ⟨_, rfl, ?_⟩) | ((with_reducible refine gate_callee (f := 69) rfl ?_); refine goesL_ (some 10) rfl rfl Try.func69 (by kernel_rfl) rfl #[.int .i64 a1] rfl (by (try simp only [List.map_toArray, List.map_cons, List.map_nil]); first | done | rfl | (simp only [List.length_drop, List.length_take]; rfl)) ?_; (with_reducible refine (cmp_isNaN_int.calls a1 false _ A4.out).mono ?_); rintro e w' ⟨rfl, ⟨nd, rfl⟩⟩; refine ⟨_, rfl, ?_⟩))
     go_ret
     exact ⟨by first | rfl | (simp; done) | (simp [*]; done), by repeat (first | exact Drawn0.refl _ | apply Drawn0.step)⟩
end Go.Proofs.Ytliablhnkoghbaa.PStock
namespace Go.Proofs.Ytliablhnkoghbaa.PStock
open Go.RowKit Go.Proofs.YtliablhnkoghbaaH Go.Proofs.YtliablhnkoghbaaW.PrintWords Go.Proofs.YtliablhnkoghbaaW.PrintLast Go.Proofs.YtliablhnkoghbaaW.PrintMore
attribute [local go_sem] max2_int min2_int max_two min_two max_three min_three max_four min_four
set_option linter.unusedVariables false
set_option linter.unusedSimpArgs false
def goods_compare.f (k : Nat) (a0_0 : ByteArray) (a0_1 : ByteArray) (a0_2 : Int) (a0_3 : Int) (a0_4 : Int) (a1_0 : ByteArray) (a1_1 : ByteArray) (a1_2 : Int) (a1_3 : Int) (a1_4 : Int) : Option (Int) := (strings_Compare.f a0_0 a1_0).bind fun t123 => ((cmp_Compare_int.f a0_2 a1_2).bind fun t124 => ((cmp_Or_int.f k (([t123, t124] : List Int))).bind fun t128 => (some t128)))
theorem goods_compare.mono : ∀ a0 a1 a2 a3 a4 a5 a6 a7 a8 a9 k, LeO (goods_compare.f k a0 a1 a2 a3 a4 a5 a6 a7 a8 a9) (goods_compare.f (k + 1) a0 a1 a2 a3 a4 a5 a6 a7 a8 a9) := by
 intro a0 a1 a2 a3 a4 a5 a6 a7 a8 a9 k
 unfold goods_compare.f
 repeat' first
   | (with_reducible exact cmp_Or_int.mono _ _)
   | (with_reducible exact LeO.refl _)
   | (with_reducible exact LeO.none _)
   | (with_reducible refine LeO.ite ?_ ?_)
   | (with_reducible refine LeO.bind ?_ (fun _ => ?_))
   | exact cmp_Or_int.mono _ _
   | exact LeO.none _
   | refine LeO.ite ?_ ?_
   | refine LeO.bind ?_ (fun _ => ?_)
def goods_compare.T1 : Bool × List (List Nat × List Nat) := (true, [([], []), ([0], [0]), ([], []), ([2], [2]), ([1, 3], [1, 3]), ([], []), ([5], [5]), ([], []), ([7], [7]), ([6, 8, 4], [6, 8]), ([4, 9], [4, 9]), ([10, 9], [10]), ([11, 11, 0, 1, 2, 3, 4, 5, 6, 7, 8, 9, 10, 11], [11])])
def goods_compare.B1 : List Nat := [0, 1, 0, 4, 15, 0, 32, 0, 128, 511, 1023, 2047, 4095]
theorem goods_compare.tab1 : rtab .any (opsOf Try.f56 1) = goods_compare.T1 := by kernel_rfl
theorem goods_compare.bits1 : waitsOk goods_compare.T1.2 goods_compare.B1 = true := by kernel_rfl
set_option maxHeartbeats 8000000 in
set_option maxRecDepth 100000 in
theorem goods_compare.calls (k : Nat) (a0_0 : ByteArray) (a0_1 : ByteArray) (a0_2 : Int) (a0_3 : Int) (a0_4 : Int) (a1_0 : ByteArray) (a1_1 : ByteArray) (a1_2 : Int) (a1_3 : Int) (a1_4 : Int) (r : Int) (w : World) (h : goods_compare.f k a0_0 a0_1 a0_2 a0_3 a0_4 a1_0 a1_1 a1_2 a1_3 a1_4 = some r) :
  Calls Try.prog 56 #[.agg #[.string a0_0, .string a0_1, .int .i64 a0_2, .int .i64 a0_3, .int .i64 a0_4], .agg #[.string a1_0, .string a1_1, .int .i64 a1_2, .int .i64 a1_3, .int .i64 a1_4]] w fun e w' => e = .returned (.int .i64 r) ∧ Below w.heap.size w w' := by
 have hu69 := Try.underlying69
 have HB := Aside0.mk (Below.refl w.heap.size w)
 have H : ((strings_Compare.f a0_0 a1_0).bind fun t123 => ((cmp_Compare_int.f a0_2 a1_2).bind fun t124 => ((cmp_Or_int.f k (([t123, t124] : List Int))).bind fun t128 => (some t128)))) = some r := h
 clear h
 replace H := Option.bind_eq_some_iff.mp H
 obtain ⟨t123, A30, H⟩ := H
 replace H : ((cmp_Compare_int.f a0_2 a1_2).bind fun t124 => ((cmp_Or_int.f k (([t123, t124] : List Int))).bind fun t128 => (some t128))) = some r := H
 have A3 := Aside0.mk A30
 clear A30
 replace H := Option.bind_eq_some_iff.mp H
 obtain ⟨t124, A40, H⟩ := H
 replace H : ((cmp_Or_int.f k (([t123, t124] : List Int))).bind fun t128 => (some t128)) = some r := H
 have A4 := Aside0.mk A40
 clear A40
 obtain ⟨y125, hy125⟩ : ∃ y_ : List Int, y_ = (([t123, t124] : List Int)) := ⟨_, rfl⟩
 replace H : ((cmp_Or_int.f k y125).bind fun t128 => (some t128)) = some r := by first | (rw [hy125]; with_reducible exact H) | (have H2_ := (Option.bind_some _ _).symm.trans H; rw [hy125]; with_reducible exact H2_) | (have H2_ := (Option.bind_some _ _).symm.trans H; with_reducible exact H2_) | with_reducible exact H | (rw [hy125]; exact H) | exact H
 have Ny125 := Aside0.mk hy125
 clear hy125
 replace H := Option.bind_eq_some_iff.mp H
 obtain ⟨t128, A50, H⟩ := H
 replace H : (some t128) = some r := H
 have A5 := Aside0.mk A50
 clear A50
 obtain rfl := Option.some.inj H
 go_enter Try.func56, Try.ntmps56
 try go_wp2_with (first | ((with_reducible refine gate_dst (N := 2) rfl ?_); refine box_event ?hg (N := 2) ?hd (cs := #[.string a0_0, .string a0_1, .int .i64 a0_2, .int .i64 a0_3, .int .i64 a0_4]) (t := 69) ?hr ?_; (case hd => rfl); (case hg => rfl); (case hr => first | (go_simp; done) | (go_simp; rfl)); intro gb121 hg w6 hbox hb; have n0_ := Aside0.mk (below_step (by repeat (first | (with_reducible first | exact HB.out | apply below_alloc | apply pw_below_drewN | apply below_drew1) | exact HB.out)) hb); have n1_ := Aside0.mk (hbox); have n2_ := Aside0.mk ((by rw [hg]; exact (below_size (by repeat (first | (with_reducible first | exact HB.out | apply below_alloc | apply pw_below_drewN | apply below_drew1) | exact HB.out))) : w.heap.size ≤ gb121)); have n3_ := Aside0.mk ((by rw [hg]; exact (below_size (by repeat (first | (with_reducible first | exact HB.out | apply below_alloc | apply pw_below_drewN | apply below_drew1) | exact HB.out))) : w.heap.size ≤ gb121)); clear HB; have HB := n0_; have BK121 := n1_; have GW121 := n2_; have GE121 := n3_; clear n0_ n1_ n2_ n3_; clear hb hbox hg) | ((with_reducible refine gate_dst (N := 3) rfl ?_); refine box_event ?hg (N := 3) ?hd (cs := #[.string a1_0, .string a1_1, .int .i64 a1_2, .int .i64 a1_3, .int .i64 a1_4]) (t := 69) ?hr ?_; (case hd => rfl); (case hg => rfl); (case hr => first | (go_simp; done) | (go_simp; rfl)); intro gb122 hg w7 hbox hb; have n0_ := Aside0.mk (blk_below (g := gb121) (o := .cells #[.string a0_0, .string a0_1, .int .i64 a0_2, .int .i64 a0_3, .int .i64 a0_4] 69 (0, 0)) (by (with_reducible repeat (first | refine blk_drewN ?_ _ | refine blk_drew ?_ | refine blk_alloc ?_ _)); exact BK121.out) hb); have n1_ := Aside0.mk (below_step (by repeat (first | (with_reducible first | exact HB.out | apply below_alloc | apply pw_below_drewN | apply below_drew1 | refine below_set ?_ GE121.out) | exact HB.out)) hb); have n2_ := Aside0.mk (hbox); have n3_ := Aside0.mk ((by rw [hg]; exact (below_size (by repeat (first | (with_reducible first | exact HB.out | apply below_alloc | apply pw_below_drewN | apply below_drew1 | refine below_set ?_ GE121.out) | exact HB.out))) : w.heap.size ≤ gb122)); have n4_ := Aside0.mk ((by rw [hg]; exact (below_size (by repeat (first | (with_reducible first | exact HB.out | apply below_alloc | apply pw_below_drewN | apply below_drew1 | refine below_set ?_ GE121.out) | exact HB.out))) : w.heap.size ≤ gb122)); have n5_ := Aside0.mk ((by rw [hg]; exact Nat.ne_of_lt (blk_lt (g := gb121) (o := .cells #[.string a0_0, .string a0_1, .int .i64 a0_2, .int .i64 a0_3, .int .i64 a0_4] 69 (0, 0)) (by (with_reducible repeat (first | refine blk_drewN ?_ _ | refine blk_drew ?_ | refine blk_alloc ?_ _)); exact BK121.out)) : gb121 ≠ gb122)); have n6_ := Aside0.mk ((by rw [hg]; exact Nat.ne_of_gt (blk_lt (g := gb121) (o := .cells #[.string a0_0, .string a0_1, .int .i64 a0_2, .int .i64 a0_3, .int .i64 a0_4] 69 (0, 0)) (by (with_reducible repeat (first | refine blk_drewN ?_ _ | refine blk_drew ?_ | refine blk_alloc ?_ _)); exact BK121.out)) : gb122 ≠ gb121)); clear BK121; clear HB; have BK121 := n0_; have HB := n1_; have BK122 := n2_; have GW122 := n3_; have GE122 := n4_; have NB121_122 := n5_; have NB122_121 := n6_; clear n0_ n1_ n2_ n3_ n4_ n5_ n6_; clear hb hbox hg))
 have n0_ := Aside0.mk (blk_drew BK121.out)
 have n1_ := Aside0.mk (blk_drew BK122.out)
 have n2_ := Aside0.mk (below_drew1 HB.out)
 clear BK121
 clear BK122
 clear HB
 have BK121 := n0_
 have BK122 := n1_
 have HB := n2_
 clear n0_ n1_ n2_
 refine start_ (n := 13) (S := fun w' => w'.cell? ⟨gb121, 0, none⟩ = some (.string a0_0) ∧ w'.cell? ⟨gb121, 1, none⟩ = some (.string a0_1) ∧ w'.cell? ⟨gb121, 2, none⟩ = some (.int .i64 a0_2) ∧ w'.cell? ⟨gb121, 3, none⟩ = some (.int .i64 a0_3) ∧ w'.cell? ⟨gb121, 4, none⟩ = some (.int .i64 a0_4) ∧ w'.cell? ⟨gb122, 0, none⟩ = some (.string a1_0) ∧ w'.cell? ⟨gb122, 1, none⟩ = some (.string a1_1) ∧ w'.cell? ⟨gb122, 2, none⟩ = some (.int .i64 a1_2) ∧ w'.cell? ⟨gb122, 3, none⟩ = some (.int .i64 a1_3) ∧ w'.cell? ⟨gb122, 4, none⟩ = some (.int .i64 a1_4)) (ds := []) #[false, false, false, false, false, false, false, false, false, false, false, false, false] (by kernel_rfl) rfl rfl ⟨(blk_cell BK121.out 0).trans rfl, (blk_cell BK121.out 1).trans rfl, (blk_cell BK121.out 2).trans rfl, (blk_cell BK121.out 3).trans rfl, (blk_cell BK121.out 4).trans rfl, (blk_cell BK122.out 0).trans rfl, (blk_cell BK122.out 1).trans rfl, (blk_cell BK122.out 2).trans rfl, (blk_cell BK122.out 3).trans rfl, (blk_cell BK122.out 4).trans rfl⟩ (fun hHeld => ?_); refine with_tabW goods_compare.tab1 goods_compare.bits1 (fun HT_ HW_ => ?_)
 generalize w7.drew = w8 at BK121 BK122 HB hHeld ⊢
 refine pure_ (i := 0) (N := some 5) (v := ?_) (a' := ?_) #[true, false, false, false, false, false, false, false, false, false, false, false, false] rfl rfl (any_of HT_.out (by kernel_rfl)) (fun _ _ _ h => h) (Or.inl ⟨by rfl, ?_⟩) ?_ ?_
 rotate_left
 ·intro w'
  go_simp
  with_reducible rfl
 rotate_left
 ·simp only [Act.put, List.setIfInBounds_toArray, List.set_cons_zero, List.set_cons_succ, i64_w, i32_w]
  rfl
 refine pure_ (i := 2) (N := some 7) (v := ?_) (a' := ?_) #[true, false, true, false, false, false, false, false, false, false, false, false, false] rfl rfl (any_of HT_.out (by kernel_rfl)) (fun _ _ _ h => h) (Or.inl ⟨by rfl, ?_⟩) ?_ ?_
 rotate_left
 ·intro w'
  go_simp
  with_reducible rfl
 rotate_left
 ·simp only [Act.put, List.setIfInBounds_toArray, List.set_cons_zero, List.set_cons_succ, i64_w, i32_w]
  rfl
 refine pure_ (i := 5) (N := some 10) (v := ?_) (a' := ?_) #[true, false, true, false, false, true, false, false, false, false, false, false, false] rfl rfl (any_of HT_.out (by kernel_rfl)) (fun _ _ _ h => h) (Or.inl ⟨by rfl, ?_⟩) ?_ ?_
 rotate_left
 ·intro w'
  go_simp
  with_reducible rfl
 rotate_left
 ·simp only [Act.put, List.setIfInBounds_toArray, List.set_cons_zero, List.set_cons_succ, i64_w, i32_w]
  rfl
 refine pure_ (i := 7) (N := some 12) (v := ?_) (a' := ?_) #[true, false, true, false, false, true, false, true, false, false, false, false, false] rfl rfl (any_of HT_.out (by kernel_rfl)) (fun _ _ _ h => h) (Or.inl ⟨by rfl, ?_⟩) ?_ ?_
 rotate_left
 ·intro w'
  go_simp
  with_reducible rfl
 rotate_left
 ·simp only [Act.put, List.setIfInBounds_toArray, List.set_cons_zero, List.set_cons_succ, i64_w, i32_w]
  rfl
 refine take_ (i := 1) (N := some 6) (v := ?_) (a' := ?_) #[true, true, true, false, false, true, false, true, false, false, false, false, false] rfl rfl (take_ofW HT_.out HW_.out (by kernel_rfl)) (fun _ _ _ h => h) (Or.inl ⟨by rfl, ?_⟩) hHeld ?_ ?_
 rotate_left
 ·rintro w' ⟨s0, s1, s2, s3, s4, s5, s6, s7, s8, s9⟩
  go_simp
  with_reducible rfl
 rotate_left
 ·simp only [Act.put, List.setIfInBounds_toArray, List.set_cons_zero, List.set_cons_succ, i64_w, i32_w]
  rfl
 refine take_ (i := 3) (N := some 8) (v := ?_) (a' := ?_) #[true, true, true, true, false, true, false, true, false, false, false, false, false] rfl rfl (take_ofW HT_.out HW_.out (by kernel_rfl)) (fun _ _ _ h => h) (Or.inl ⟨by rfl, ?_⟩) hHeld ?_ ?_
 rotate_left
 ·rintro w' ⟨s0, s1, s2, s3, s4, s5, s6, s7, s8, s9⟩
  go_simp
  with_reducible rfl
 rotate_left
 ·simp only [Act.put, List.setIfInBounds_toArray, List.set_cons_zero, List.set_cons_succ, i64_w, i32_w]
  rfl
 refine take_ (i := 6) (N := some 11) (v := ?_) (a' := ?_) #[true, true, true, true, false, true, true, true, false, false, false, false, false] rfl rfl (take_ofW HT_.out HW_.out (by kernel_rfl)) (fun _ _ _ h => h) (Or.inl ⟨by rfl, ?_⟩) hHeld ?_ ?_
 rotate_left
 ·rintro w' ⟨s0, s1, s2, s3, s4, s5, s6, s7, s8, s9⟩
  go_simp
  with_reducible rfl
 rotate_left
 ·simp only [Act.put, List.setIfInBounds_toArray, List.set_cons_zero, List.set_cons_succ, i64_w, i32_w]
  rfl
 refine take_ (i := 8) (N := some 13) (v := ?_) (a' := ?_) #[true, true, true, true, false, true, true, true, true, false, false, false, false] rfl rfl (take_ofW HT_.out HW_.out (by kernel_rfl)) (fun _ _ _ h => h) (Or.inl ⟨by rfl, ?_⟩) hHeld ?_ ?_
 rotate_left
 ·rintro w' ⟨s0, s1, s2, s3, s4, s5, s6, s7, s8, s9⟩
  go_simp
  with_reducible rfl
 rotate_left
 ·simp only [Act.put, List.setIfInBounds_toArray, List.set_cons_zero, List.set_cons_succ, i64_w, i32_w]
  rfl
 refine one_ (i := 4) (N := some 9) #[true, true, true, true, true, true, true, true, true, false, false, false, false] rfl rfl (one_of HT_.out (by kernel_rfl)) (by decide) (fun K hK => ?_)
 refine goes_ Try.func41 (by kernel_rfl) rfl #[.string a0_0, .string a1_0] (by rfl) rfl rfl (by (try simp only [List.map_toArray, List.map_cons, List.map_nil]); first | done | rfl | (simp only [List.length_drop, List.length_take]; rfl)) ?_
 with_reducible refine (strings_Compare.calls a0_0 a1_0 t123 _ A3.out).mono ?_
 rintro e w' ⟨rfl, ⟨nd, rfl⟩⟩
 refine ⟨_, rfl, ?_⟩
 refine hK.out _ _ ⟨(blk_cell BK121.out 0).trans rfl, (blk_cell BK121.out 1).trans rfl, (blk_cell BK121.out 2).trans rfl, (blk_cell BK121.out 3).trans rfl, (blk_cell BK121.out 4).trans rfl, (blk_cell BK122.out 0).trans rfl, (blk_cell BK122.out 1).trans rfl, (blk_cell BK122.out 2).trans rfl, (blk_cell BK122.out 3).trans rfl, (blk_cell BK122.out 4).trans rfl⟩ (fun hHeld => ?_)
 clear hK K
 refine norm_ (a' := ?_) ?_ ?_
 rotate_left
 ·show Act.put _ (some 9) _ = _
  simp only [Act.put, List.setIfInBounds_toArray, List.set_cons_zero, List.set_cons_succ, i64_w, i32_w]
  rfl
 refine one_ (i := 9) (N := some 14) #[true, true, true, true, true, true, true, true, true, true, false, false, false] rfl rfl (one_of HT_.out (by kernel_rfl)) (by decide) (fun K hK => ?_)
 refine goes_ Try.func66 (by kernel_rfl) rfl #[.int .i64 a0_2, .int .i64 a1_2] (by rfl) rfl rfl (by (try simp only [List.map_toArray, List.map_cons, List.map_nil]); first | done | rfl | (simp only [List.length_drop, List.length_take]; rfl)) ?_
 with_reducible refine (cmp_Compare_int.calls a0_2 a1_2 t124 _ A4.out).mono ?_
 rintro e w' ⟨rfl, ⟨nd, rfl⟩⟩
 refine ⟨_, rfl, ?_⟩
 refine hK.out _ _ ⟨(blk_cell BK121.out 0).trans rfl, (blk_cell BK121.out 1).trans rfl, (blk_cell BK121.out 2).trans rfl, (blk_cell BK121.out 3).trans rfl, (blk_cell BK121.out 4).trans rfl, (blk_cell BK122.out 0).trans rfl, (blk_cell BK122.out 1).trans rfl, (blk_cell BK122.out 2).trans rfl, (blk_cell BK122.out 3).trans rfl, (blk_cell BK122.out 4).trans rfl⟩ (fun hHeld => ?_)
 clear hK K
 refine norm_ (a' := ?_) ?_ ?_
 rotate_left
 ·show Act.put _ (some 14) _ = _
  simp only [Act.put, List.setIfInBounds_toArray, List.set_cons_zero, List.set_cons_succ, i64_w, i32_w]
  rfl
 refine one_ (i := 10) (N := some 15) #[true, true, true, true, true, true, true, true, true, true, true, false, false] rfl rfl (one_of HT_.out (by kernel_rfl)) (by decide) (fun K hK => ?_)
 refine Kd.R_lit_step (Kd.int .i64) _ 3 ?hg (N := 15) ?hd (xs := ([t123, t124] : List Int)) (inner := [.int .i64 t123, .int .i64 t124]) (ok := fun _ => True) (okp := fun _ => True) ?hr ?hp (fun _ hk => hk) trivial (Below.refl _ _) (Nat.le_refl _) (by simp) ?_; (case hd => rfl); (case hg => rfl); (case hr => first | (go_simp; done) | (go_simp; rfl)); (case hp => exact (Reps.one (show Kd.M (Kd.int .i64) _ _ _ t123 [.int .i64 t123] from rfl) (Reps.one (show Kd.M (Kd.int .i64) _ _ _ t124 [.int .i64 t124] from rfl) (Reps.none _ _))))
 intro v126 w9 ho10 hb hg_ hnew_
 clear hg_ hnew_
 (first | rw [← Ny125.out] at ho10 | (simp only [Int.reduceToNat] at ho10; rw [← Ny125.out] at ho10))
 have n0_ := Aside0.mk (Kd.R_lower ho10 (below_size (by repeat (first | (with_reducible first | exact HB.out | apply below_alloc | apply pw_below_drewN | apply below_drew1 | refine below_set ?_ GE121.out | refine below_set ?_ GE122.out) | exact HB.out))))
 have n1_ := Aside0.mk (blk_below (g := gb121) (o := .cells #[.string a0_0, .string a0_1, .int .i64 a0_2, .int .i64 a0_3, .int .i64 a0_4] 69 (0, 0)) (by (with_reducible repeat (first | refine blk_drewN ?_ _ | refine blk_drew ?_ | refine blk_alloc ?_ _)); exact BK121.out) hb)
 have n2_ := Aside0.mk (blk_below (g := gb122) (o := .cells #[.string a1_0, .string a1_1, .int .i64 a1_2, .int .i64 a1_3, .int .i64 a1_4] 69 (0, 0)) (by (with_reducible repeat (first | refine blk_drewN ?_ _ | refine blk_drew ?_ | refine blk_alloc ?_ _)); exact BK122.out) hb)
 have n3_ := Aside0.mk (below_step (by repeat (first | (with_reducible first | exact HB.out | apply below_alloc | apply pw_below_drewN | apply below_drew1 | refine below_set ?_ GE121.out | refine below_set ?_ GE122.out) | exact HB.out)) hb)
 clear BK121
 clear BK122
 clear HB
 have HO127 := n0_
 have BK121 := n1_
 have BK122 := n2_
 have HB := n3_
 clear n0_ n1_ n2_ n3_
 clear hb ho10
 obtain ⟨Ao11, co11, eo11⟩ := Kd.R_slice HO127.out
 (first | subst eo11 | (injection eo11 with f1_ f2_ f3_; have f4_ := f1_.symm; have f5_ := f3_.symm; clear f1_ f2_ f3_; subst f4_; subst f5_))
 refine hK.out _ _ ⟨(blk_cell BK121.out 0).trans rfl, (blk_cell BK121.out 1).trans rfl, (blk_cell BK121.out 2).trans rfl, (blk_cell BK121.out 3).trans rfl, (blk_cell BK121.out 4).trans rfl, (blk_cell BK122.out 0).trans rfl, (blk_cell BK122.out 1).trans rfl, (blk_cell BK122.out 2).trans rfl, (blk_cell BK122.out 3).trans rfl, (blk_cell BK122.out 4).trans rfl⟩ (fun hHeld => ?_)
 clear hK K
 refine norm_ (a' := ?_) ?_ ?_
 rotate_left
 ·show Act.put _ (some 15) _ = _
  simp only [Act.put, List.setIfInBounds_toArray, List.set_cons_zero, List.set_cons_succ, i64_w, i32_w]
  rfl
 refine one_ (i := 11) (N := some 16) #[true, true, true, true, true, true, true, true, true, true, true, true, false] rfl rfl (one_of HT_.out (by kernel_rfl)) (by decide) (fun K hK => ?_)
 refine goes_ Try.func65 (by kernel_rfl) rfl #[.slice Ao11 y125.length co11] (by rfl) rfl rfl (by (try simp only [List.map_toArray, List.map_cons, List.map_nil]); first | done | rfl | (simp only [List.length_drop, List.length_take]; rfl)) ?_
 with_reducible refine (cmp_Or_int.calls k _ _ y125 t128 _ ?side1 ?side2 A5.out).mono ?_
 (case side1 => repeat (first | exact (Kd.R_reads' HO127.out).2.2 | (with_reducible refine Kd.C_alloc ?_ _) | (with_reducible refine Kd.C_drewN ?_ _) | (with_reducible refine Kd.C_drew ?_)))
 (case side2 => exact (Kd.R_reads' HO127.out).2.1)
 rintro e w' ⟨rfl, ⟨nd, rfl⟩⟩
 refine ⟨_, rfl, ?_⟩
 refine hK.out _ _ ⟨(blk_cell BK121.out 0).trans rfl, (blk_cell BK121.out 1).trans rfl, (blk_cell BK121.out 2).trans rfl, (blk_cell BK121.out 3).trans rfl, (blk_cell BK121.out 4).trans rfl, (blk_cell BK122.out 0).trans rfl, (blk_cell BK122.out 1).trans rfl, (blk_cell BK122.out 2).trans rfl, (blk_cell BK122.out 3).trans rfl, (blk_cell BK122.out 4).trans rfl⟩ (fun hHeld => ?_)
 clear hK K
 refine norm_ (a' := ?_) ?_ ?_
 rotate_left
 ·show Act.put _ (some 16) _ = _
  simp only [Act.put, List.setIfInBounds_toArray, List.set_cons_zero, List.set_cons_succ, i64_w, i32_w]
  rfl
 refine pure_ (i := 12) (N := some 4) (v := ?_) (a' := ?_) #[true, true, true, true, true, true, true, true, true, true, true, true, true] rfl rfl (any_of HT_.out (by kernel_rfl)) (fun _ _ _ h => h) (Or.inl ⟨by rfl, ?_⟩) ?_ ?_
 rotate_left
 ·intro w'
  go_simp
  with_reducible rfl
 rotate_left
 ·simp only [Act.put, List.setIfInBounds_toArray, List.set_cons_zero, List.set_cons_succ, i64_w, i32_w]
  rfl
 refine done_ (done_of HT_.out (by kernel_rfl)) ?_
 try go_wp2
 go_ret
 exact ⟨by first | rfl | (simp [errW_none, errW_some] <;> rfl) | (simp [*, errW_none, errW_some] <;> rfl), by repeat (first | (with_reducible first | exact HB.out | apply below_alloc | apply pw_below_drewN | apply below_drew1 | refine below_set ?_ GE121.out | refine below_set ?_ GE122.out) | exact HB.out)⟩
end Go.Proofs.Ytliablhnkoghbaa.PStock
namespace Go.Proofs.Ytliablhnkoghbaa.PStock
open Go.RowKit Go.Proofs.YtliablhnkoghbaaH Go.Proofs.YtliablhnkoghbaaW.PrintWords Go.Proofs.YtliablhnkoghbaaW.PrintLast Go.Proofs.YtliablhnkoghbaaW.PrintMore
attribute [local go_sem] max2_int min2_int max_two min_two max_three min_three max_four min_four
set_option linter.unusedVariables false
set_option linter.unusedSimpArgs false
set_option maxHeartbeats 4000000 in
theorem rising_sub.calls (c : S69 → S69 → Int) (g : Nat) (lb : Array Value) (eg : ∀ args w, (callFunc g args).run Try.prog w = .ok (.enter g args) w) (A0 : Option Addr) (c0 : Nat) (l0 : List S69) (most : Int) (w : World)
  (hr0 : Kd.C k69 w A0 l0.length l0) (hp : CmpB Try.prog g lb (fun x_ : S69 => Value.agg #[.string x_.f0, .string x_.f1, .int .i64 x_.f2, .int .i64 x_.f3, .int .i64 x_.f4]) c l0 w) :
  Calls Try.prog 55 #[.slice A0 l0.length c0, .int .i64 most, .func (.func g) #[] lb] w fun e w' => e = .returned (.bool (chainB (fun x y => decide (c x y < 0)) l0 && decide ((l0.length : Int) ≤ most))) ∧ Below w.heap.size w w' := by
 have hu69 := Try.underlying69
 have HR0 := Aside0.mk hr0
 have HP := Aside0.mk hp
 clear hr0 hp
 have hlen : l0.length ≤ 9223372036854775807 := HR0.out.2.1
 go_enter Try.func55, Try.ntmps55
 go_wp2
 go_loopg [7] l0.length (fun gg s7 wr => ∃ m : Nat, m ≤ l0.length ∧ l0.length - m ≤ gg ∧ s7 = .int .i64 ((m : Int) + 1) ∧ Aside0 (Below w.heap.size w wr) ∧ Aside0 (∀ j (hj : j + 1 < l0.length), j < m → c (l0[j]'(by omega)) l0[j + 1] < 0))
 case atStart => exact ⟨0, by omega, by omega, rfl, ⟨Below.refl _ w⟩, ⟨fun j _ hj => by omega⟩⟩
 case round =>
  obtain ⟨m, hkk, hg, rfl, BW, A⟩ := hrel
  by_cases hlt : m + 1 < l0.length
  ·have hltz : (m : Int) + 1 < (l0.length : Int) := by omega
   have hltm : (m : Int) < (l0.length : Int) := by omega
   have h0m : (0 : Int) ≤ (m : Int) + 1 := by omega
   have htn : ((m : Int) + 1).toNat = m + 1 := by omega
   have hmod : IntKind.i64.wrap (m : Int) = (m : Int) := IntWalk.i64_in _ (by omega)
   obtain ⟨ad, e0, hx0, hx1, hx2, hx3, hx4⟩ := at_T69 HR0.out ((m : Int) + 1) (by omega) hltz
   obtain ⟨ad2, e2, hy0, hy1, hy2, hy3, hy4⟩ := at_T69 HR0.out (m : Int) (by omega) hltm
   obtain rfl := Option.some.inj (e0.symm.trans e2)
   subst e0
   clear e2
   replace hx0 := (BW.out.cell (World.block_lt_of_cell? w _ hx0)).trans hx0
   replace hx1 := (BW.out.cell (World.block_lt_of_cell? w _ hx1)).trans hx1
   replace hx2 := (BW.out.cell (World.block_lt_of_cell? w _ hx2)).trans hx2
   replace hx3 := (BW.out.cell (World.block_lt_of_cell? w _ hx3)).trans hx3
   replace hx4 := (BW.out.cell (World.block_lt_of_cell? w _ hx4)).trans hx4
   replace hy0 := (BW.out.cell (World.block_lt_of_cell? w _ hy0)).trans hy0
   replace hy1 := (BW.out.cell (World.block_lt_of_cell? w _ hy1)).trans hy1
   replace hy2 := (BW.out.cell (World.block_lt_of_cell? w _ hy2)).trans hy2
   replace hy3 := (BW.out.cell (World.block_lt_of_cell? w _ hy3)).trans hy3
   replace hy4 := (BW.out.cell (World.block_lt_of_cell? w _ hy4)).trans hy4
   have g1 : rd_T69 l0 ((m : Int) + 1) = l0[m + 1] := getD_get _ l0 (m + 1) hlt
   have g0 : rd_T69 l0 (m : Int) = l0[m]'(by omega) := getD_get _ l0 m (by omega)
   have hcall := HP.out wr.drew (rd_T69 l0 (m : Int)) (rd_T69 l0 ((m : Int) + 1)) (by rw [g0]; exact List.getElem_mem _) (by rw [g1]; exact List.getElem_mem hlt) (below_drew BW.out)
   simp only [Int.toNat_natCast] at hy0 hy1 hy2 hy3 hy4
   rw [htn] at hx0 hx1 hx2 hx3 hx4
   generalize hy_ : rd_T69 l0 ((m : Int) + 1) = y at hx0 hx1 hx2 hx3 hx4 hcall g1
   generalize hx_ : rd_T69 l0 (m : Int) = x at hy0 hy1 hy2 hy3 hy4 hcall g0
   have Y := Aside0.mk g1.symm
   have X := Aside0.mk g0.symm
   clear hx_ hy_ g0 g1
   by_cases hq : c x y < 0
   ·have hd : decide (0 ≤ c x y) = false := by simpa using hq
    have Q := Aside0.mk hq
    clear hq
    generalize hqq : c x y = q at hd hcall Q
    have QE := Aside0.mk hqq
    clear hqq
    go_wp2
    go_still_tail 10, (by kernel_rfl)
    change wpList _ _ _ _ _ (wr.drew)
    go_wp2_with (go_at_fn g; refine hcall.mono ?_; rintro e w' ⟨rfl, hb'⟩)
    go_roundg (l0.length - (m + 1))
    case measure => omega
    case rel =>
     refine ⟨m + 1, by omega, by omega, by go_num, ⟨below_step (below_drew BW.out) hb'⟩, ⟨fun j hj hjk => ?_⟩⟩
     by_cases e : j = m
     ·subst e; rw [X.out, Y.out, QE.out]; exact Q.out
     ·exact A.out j hj (by omega)
   ·have hd : decide (0 ≤ c x y) = true := by simpa using hq
    have Q := Aside0.mk hq
    clear hq
    generalize hqq : c x y = q at hd hcall Q
    have QE := Aside0.mk hqq
    clear hqq
    go_wp2
    go_still_tail 10, (by kernel_rfl)
    change wpList _ _ _ _ _ (wr.drew)
    go_wp2_with (go_at_fn g; refine hcall.mono ?_; rintro e w' ⟨rfl, hb'⟩)
    go_ret
    refine ⟨?_, below_step (below_drew BW.out) hb'⟩
    rw [chainB_no _ l0 m hlt (by rw [X.out, Y.out, QE.out]; simpa using Q.out)]
    rfl
  ·have hltz : ¬ (m : Int) + 1 < (l0.length : Int) := by omega
   go_wp2
   go_ret
   refine ⟨?_, BW.out⟩
   rw [(chainB_iff _ l0).2 (fun i hi => by simpa using A.out i hi (by omega)), Bool.true_and]
   rfl
end Go.Proofs.Ytliablhnkoghbaa.PStock
namespace Go.Proofs.Ytliablhnkoghbaa.PStock
open Go.RowKit Go.Proofs.YtliablhnkoghbaaH Go.Proofs.YtliablhnkoghbaaW.PrintWords Go.Proofs.YtliablhnkoghbaaW.PrintLast Go.Proofs.YtliablhnkoghbaaW.PrintMore
attribute [local go_sem] max2_int min2_int max_two min_two max_three min_three max_four min_four
set_option linter.unusedVariables false
set_option linter.unusedSimpArgs false
def subMay (x : S69) : Bool := nameOk x.f0 && (nameOk x.f1 && (!(x.f0.toList == x.f1.toList) && (rng x.f2 9 && (rng x.f3 100 && rng x.f4 100))))
theorem goods_in_eq (n m : Int) : goods_in.f n m = some (rng n m) := by
 unfold goods_in.f rng
 by_cases h : 1 ≤ n <;> simp [h]
theorem goods_may_eq (x : S69) : goods_may.f x.f0 x.f1 x.f2 x.f3 x.f4 = some (subMay x) := by
 unfold goods_may.f subMay
 simp only [goods_name.f, goods_in_eq, Option.bind_some]
 cases nameOk x.f0 <;> cases nameOk x.f1 <;> by_cases h : x.f0.toList = x.f1.toList <;> cases rng x.f2 9 <;> cases rng x.f3 100 <;> simp [h]
theorem index_str_l0 (l : List ByteArray) (a : ByteArray) (hl : l.length ≤ 9223372036854775807) : ∀ d k i : Nat, i + d = l.length → d < k → ∃ r, slices_Index_string_string.l0 k l a (l.length : Int) (i : Int) = some r ∧ decide (r ≥ 0) = (l.drop i).any fun s => a.toList == s.toList
 | 0, k, i, hd, hk => by
  obtain ⟨k, rfl⟩ : ∃ m, k = m + 1 := ⟨k - 1, by omega⟩
  refine ⟨-1, ?_, ?_⟩
  ·simp only [slices_Index_string_string.l0]; rw [if_neg (by omega)]
  ·rw [List.drop_eq_nil_of_le (by omega)]; rfl
 | d + 1, k, i, hd, hk => by
  obtain ⟨k, rfl⟩ : ∃ m, k = m + 1 := ⟨k - 1, by omega⟩
  have hi : i < l.length := by omega
  have hg : rdOf ByteArray.empty l (i : Int) = l[i] := getD_get _ l i hi
  rw [List.drop_eq_getElem_cons hi, List.any_cons]
  simp only [slices_Index_string_string.l0]
  rw [if_pos (by omega), if_pos (by omega), if_pos (by omega), hg]
  by_cases h : a.toList = l[i].toList
  ·rw [if_pos h]
   exact ⟨i, rfl, by simp [h]⟩
  ·rw [if_neg h, show wrap64 ((i : Int) + 1) = ((i + 1 : Nat) : Int) by unfold wrap64; omega]
   obtain ⟨r, hr, he⟩ := index_str_l0 l a hl d k (i + 1) (by omega) (by omega)
   exact ⟨r, hr, by rw [he]; simp [h]⟩
def hasStr (l : List ByteArray) (a : ByteArray) : Bool := l.any fun s => a.toList == s.toList
theorem contains_str (l : List ByteArray) (a : ByteArray) (hl : l.length ≤ 9223372036854775807) : slices_Contains_string_string.f (l.length + 1) l a = some (hasStr l a) := by
 obtain ⟨r, hr, he⟩ := index_str_l0 l a hl l.length (l.length + 1) 0 (by omega) (by omega)
 unfold slices_Contains_string_string.f slices_Index_string_string.f
 rw [show (0 : Int) = ((0 : Nat) : Int) from rfl, hr]
 simp only [Option.bind_some]
 show some (decide (r ≥ 0)) = _
 rw [he]
 rfl
def cmpSub (x y : S69) : Int := if cmpB x.f0 y.f0 = 0 then (if x.f2 < y.f2 then -1 else if x.f2 > y.f2 then 1 else 0) else cmpB x.f0 y.f0
theorem goods_compare_eq (x y : S69) : goods_compare.f 3 x.f0 x.f1 x.f2 x.f3 x.f4 y.f0 y.f1 y.f2 y.f3 y.f4 = some (cmpSub x y) := by
 have h1 : ∀ a b : Int, cmp_Compare_int.f a b = some (if a < b then -1 else if a > b then 1 else 0) := by
  intro a b
  simp only [cmp_Compare_int.f, cmp_isNaN_int.f, Option.bind_some]
  simp
  split
  ·rfl
  ·split <;> rfl
 unfold goods_compare.f cmpSub
 simp only [strings_Compare.f, h1, Option.bind_some, cmp_Or_int.f]
 generalize cmpB x.f0 y.f0 = p
 generalize (if x.f2 < y.f2 then (-1 : Int) else if x.f2 > y.f2 then 1 else 0) = q
 by_cases hp : p = 0
 ·by_cases hq : q = 0 <;> simp [cmp_Or_int.l0, rd, hp, hq, wrap64]
 ·simp [cmp_Or_int.l0, rd, hp]
def sameSub (y x : S69) : Bool := x.f0.toList == y.f0.toList && x.f1.toList == y.f1.toList
set_option maxHeartbeats 2000000 in
theorem goods_Right_1.calls (x y : S69) (B : Nat) (w : World) (h0 : w.cell? ⟨B, 0, none⟩ = some (.string y.f0)) (h1 : w.cell? ⟨B, 1, none⟩ = some (.string y.f1)) :
  Calls Try.prog 48 #[.agg #[.string x.f0, .string x.f1, .int .i64 x.f2, .int .i64 x.f3, .int .i64 x.f4], .pointer (some ⟨B, 0, none⟩)] w fun e w' => e = .returned (.bool (sameSub y x)) ∧ Below w.heap.size w w' := by
 have hu69 := Try.underlying69
 have hB := World.block_lt_of_cell? w _ h0
 have hlt : B < w.heap.size := hB
 have hne : ¬ (w.heap.size = B) := by omega
 unfold sameSub
 by_cases hc : x.f0.toList = y.f0.toList
 ·have hb : (x.f0.toList == y.f0.toList) = true := by simpa using hc
  rw [hb]
  go_enter Try.func48, Try.ntmps48
  go_wp2
  go_ret
  exact ⟨rfl, (Below.refl _ _).alloc (Nat.le_refl _) _⟩
 ·have hb : (x.f0.toList == y.f0.toList) = false := by simpa using hc
  rw [hb]
  go_enter Try.func48, Try.ntmps48
  go_wp2
  go_ret
  exact ⟨rfl, (Below.refl _ _).alloc (Nat.le_refl _) _⟩
def subOk (skus : List ByteArray) (l : List S69) (i : Nat) : Bool := !((l.take i).any (sameSub (rd_T69 l i))) && (subMay (rd_T69 l i) && (hasStr skus (rd_T69 l i).f0 && hasStr skus (rd_T69 l i).f1))
def goodsOk (skus : List ByteArray) (l : List S69) : Bool :=
 (List.range l.length).all (subOk skus l) && (skus.all nameOk && ((chainB (fun x y => decide (cmpB x y < 0)) skus && decide ((skus.length : Int) ≤ 8)) && (chainB (fun x y => decide (cmpSub x y < 0)) l && decide ((l.length : Int) ≤ 16))))
theorem goods_no (skus : List ByteArray) (l : List S69) (i : Nat) (h : i < l.length) (hi : subOk skus l i = false) : goodsOk skus l = false := by
 have : (List.range l.length).all (subOk skus l) = false := by rw [List.all_eq_false]; exact ⟨i, List.mem_range.2 h, by simp [hi]⟩
 unfold goodsOk
 rw [this, Bool.false_and]
theorem goods_yes (skus : List ByteArray) (l : List S69) (h : ∀ i, i < l.length → subOk skus l i = true) : goodsOk skus l = (skus.all nameOk && ((chainB (fun x y => decide (cmpB x y < 0)) skus && decide ((skus.length : Int) ≤ 8)) && (chainB (fun x y => decide (cmpSub x y < 0)) l && decide ((l.length : Int) ≤ 16)))) := by
 have : (List.range l.length).all (subOk skus l) = true := by rw [List.all_eq_true]; exact fun i hi => h i (List.mem_range.1 hi)
 unfold goodsOk
 rw [this, Bool.true_and]
def goods_Right.f (l0_0 : List ByteArray) (l0_1 : List S69) : Option Bool := some (goodsOk l0_0 l0_1)
theorem goods_Right_2.gives (W : World) (s : ByteArray) : Calls Try.prog 52 #[.string s] W fun e w' => e = .returned (.bool (!nameOk s)) ∧ Below W.heap.size W w' := by
 have H := goods_name.calls s _ W rfl
 go_enter Try.func52, Try.ntmps52
 go_wp2_with (go_at_call 53; refine H.mono ?_; rintro e w' ⟨rfl, hb⟩)
 go_ret
 exact ⟨rfl, hb⟩
set_option maxHeartbeats 8000000 in
set_option maxRecDepth 100000 in
theorem goods_Right.calls (A0_0 : Option Addr) (c0_0 : Nat) (l0_0 : List ByteArray) (A0_1 : Option Addr) (c0_1 : Nat) (l0_1 : List S69) (r : Bool) (w : World) (hr0_0 : Kd.C Kd.string w A0_0 l0_0.length l0_0) (hc0_0 : l0_0.length ≤ c0_0) (hr0_1 : Kd.C k69 w A0_1 l0_1.length l0_1) (hc0_1 : l0_1.length ≤ c0_1) (h : goods_Right.f l0_0 l0_1 = some r) :
  Calls Try.prog 42 #[.agg #[.slice A0_0 l0_0.length c0_0, .slice A0_1 l0_1.length c0_1]] w fun e w' => e = .returned (.bool r) ∧ Below w.heap.size w w' := by
 obtain rfl := Option.some.inj h
 clear h
 have hu69 := Try.underlying69
 have hu64 := Try.underlying64
 have HR0 := Aside0.mk hr0_0
 have HR1 := Aside0.mk hr0_1
 have hl0 : l0_0.length ≤ 9223372036854775807 := hr0_0.2.1
 have hl1 : l0_1.length ≤ 9223372036854775807 := hr0_1.2.1
 have H0 := Aside0.mk hl0
 have HC0 := Aside0.mk hc0_0
 clear hr0_0 hr0_1 hc0_0 hl0
 have base : ∀ W : World, Below (w.heap.size + 1) (w.alloc (.cells #[.slice A0_0 l0_0.length c0_0, .slice A0_1 l0_1.length c0_1] 64 (0, 0))) W → W.cell? ⟨w.heap.size, 0, none⟩ = some (.slice A0_0 l0_0.length c0_0) ∧ W.cell? ⟨w.heap.size, 1, none⟩ = some (.slice A0_1 l0_1.length c0_1) ∧ Below w.heap.size w W := by
  intro W hW
  refine ⟨(hW.cell (p := ⟨w.heap.size, 0, none⟩) (by simp)).trans (by go_simp), (hW.cell (p := ⟨w.heap.size, 1, none⟩) (by simp)).trans (by go_simp), ?_⟩
  exact below_then (below_alloc (Below.refl _ _) _) (by simp) (by simpa using hW)
 have BASE := Aside0.mk base
 clear base
 go_enter Try.func42, Try.ntmps42
 go_wp2
 go_loopg [10] l0_1.length (fun gg s10 wr => ∃ kk : Nat, kk ≤ l0_1.length ∧ l0_1.length - kk ≤ gg ∧ s10 = .int .i64 kk ∧ Aside0 (Below (w.heap.size + 1) (w.alloc (.cells #[.slice A0_0 l0_0.length c0_0, .slice A0_1 l0_1.length c0_1] 64 (0, 0))) wr) ∧ Aside0 (∀ j, j < kk → subOk l0_0 l0_1 j = true))
 case atStart => exact ⟨0, Nat.zero_le _, by omega, rfl, ⟨Below.refl _ _⟩, ⟨fun j hj => absurd hj (Nat.not_lt_zero _)⟩⟩
 case round =>
  obtain ⟨kk, hkk, hg, rfl, BW, A⟩ := hrel
  obtain ⟨b0, b1, bw⟩ := BASE.out wr BW.out
  have BB := Aside0.mk bw
  clear bw
  have hsz : w.heap.size < wr.heap.size := World.block_lt_of_cell? wr _ b0
  by_cases hlt : kk < l0_1.length
  ·have hltz : (kk : Int) < (l0_1.length : Int) := by omega
   obtain ⟨ad, e0, hx0, hx1, hx2, hx3, hx4⟩ := at_T69 HR1.out (kk : Int) (by omega) hltz
   subst e0
   replace hx0 := pw_cell_below BB.out hx0
   replace hx1 := pw_cell_below BB.out hx1
   replace hx2 := pw_cell_below BB.out hx2
   replace hx3 := pw_cell_below BB.out hx3
   replace hx4 := pw_cell_below BB.out hx4
   simp only [Int.toNat_natCast] at hx0 hx1 hx2 hx3 hx4
   have SO := Aside0.mk (show subOk l0_0 l0_1 kk = (!((l0_1.take kk).any (sameSub (rd_T69 l0_1 kk))) && (subMay (rd_T69 l0_1 kk) && (hasStr l0_0 (rd_T69 l0_1 kk).f0 && hasStr l0_0 (rd_T69 l0_1 kk).f1))) from rfl)
   generalize rd_T69 l0_1 (kk : Int) = y at hx0 hx1 hx2 hx3 hx4 SO
   have hcap : (kk : Int) ≤ (c0_1 : Int) := by omega
   have HCALL : Calls Try.prog 47 #[.slice (some ad) kk c0_1, .func (.func 48) #[] #[.pointer (some ⟨wr.heap.size, 0, none⟩)]] (wr.alloc (.cells #[.string y.f0, .string y.f1, .int .i64 y.f2, .int .i64 y.f3, .int .i64 y.f4] 69 (0, 0))) fun e w' => e = .returned (.bool ((l0_1.take kk).any (sameSub y))) ∧ Below (wr.heap.size + 1) (wr.alloc (.cells #[.string y.f0, .string y.f1, .int .i64 y.f2, .int .i64 y.f3, .int .i64 y.f4] 69 (0, 0))) w' := by
    have hl : (l0_1.take kk).length = kk := by rw [List.length_take]; omega
    have hr : Kd.C k69 (wr.alloc (.cells #[.string y.f0, .string y.f1, .int .i64 y.f2, .int .i64 y.f3, .int .i64 y.f4] 69 (0, 0))) (some ad) (l0_1.take kk).length (l0_1.take kk) := Kd.C_below (Kd.C_below (Kd.C_take HR1.out (by omega)) BB.out) (below_alloc (Below.refl _ _) _)
    have := slices_sub_ContainsFunc.calls (sameSub y) 48 #[.pointer (some ⟨wr.heap.size, 0, none⟩)] (enters_of Try.func48 (by kernel_rfl) rfl) (some ad) c0_1 (l0_1.take kk) _ hr (fun W x _ hb => goods_Right_1.calls x y wr.heap.size W (pw_cell_below hb (by go_simp)) (pw_cell_below hb (by go_simp)))
    rw [hl] at this
    simpa using this
   have HCALL := Aside0.mk HCALL
   have htake : ∀ tw, (l0_1.take kk).any (sameSub y) = tw → True := fun _ _ => trivial
   clear htake
   generalize (l0_1.take kk).any (sameSub y) = tw at HCALL SO
   go_wp2_with fail
   refine (HCALL.out).mono ?_
   rintro e w2 ⟨rfl, hb⟩
   have n0 : w2.cell? ⟨wr.heap.size, 0, none⟩ = some (.string y.f0) := cell_new hb (by go_simp)
   have n1 : w2.cell? ⟨wr.heap.size, 1, none⟩ = some (.string y.f1) := cell_new hb (by go_simp)
   have n2 : w2.cell? ⟨wr.heap.size, 2, none⟩ = some (.int .i64 y.f2) := cell_new hb (by go_simp)
   have n3 : w2.cell? ⟨wr.heap.size, 3, none⟩ = some (.int .i64 y.f3) := cell_new hb (by go_simp)
   have n4 : w2.cell? ⟨wr.heap.size, 4, none⟩ = some (.int .i64 y.f4) := cell_new hb (by go_simp)
   replace b0 := cell_new hb (cell_old_alloc b0)
   clear b1 hx0 hx1 hx2 hx3 hx4
   have B2 := Aside0.mk (below_new hb)
   clear hb HCALL
   have HS0 := Aside0.mk (contains_str l0_0 y.f0 H0.out)
   have HS1 := Aside0.mk (contains_str l0_0 y.f1 H0.out)
   cases tw with
   | true =>
    go_wp2
    go_ret
    refine ⟨?_, below_step BB.out B2.out⟩
    rw [goods_no l0_0 l0_1 kk hlt (by rw [SO.out]; rfl)]
    rfl
   | false =>
    have hm := Aside0.mk (fun W => goods_may.calls y.f0 y.f1 y.f2 y.f3 y.f4 (subMay y) W (goods_may_eq y))
    generalize subMay y = mm at hm SO
    go_wp2_with fail
    refine (hm.out _).mono ?_
    rintro e w3 ⟨rfl, hb3⟩
    have B3 := Aside0.mk (below_step B2.out hb3)
    replace b0 := pw_cell_below hb3 b0
    replace n0 := pw_cell_below hb3 n0
    replace n1 := pw_cell_below hb3 n1
    clear n2 n3 n4 hb3 B2 hm
    cases mm with
    | false =>
     go_wp2
     go_ret
     refine ⟨?_, below_step BB.out B3.out⟩
     rw [goods_no l0_0 l0_1 kk hlt (by rw [SO.out]; rfl)]
     rfl
    | true =>
     have hc0 := fun W h => slices_Contains_string_string.calls (l0_0.length + 1) A0_0 c0_0 l0_0 y.f0 _ W h HC0.out HS0.out
     have HC0' := Aside0.mk hc0
     have HC1' := Aside0.mk (fun W h => slices_Contains_string_string.calls (l0_0.length + 1) A0_0 c0_0 l0_0 y.f1 _ W h HC0.out HS1.out)
     clear hc0 HS0 HS1
     generalize hasStr l0_0 y.f0 = q0 at HC0' SO
     generalize hasStr l0_0 y.f1 = q1 at HC1' SO
     go_wp2_with fail
     refine (HC0'.out _ (Kd.C_below (Kd.C_below HR0.out BB.out) B3.out)).mono ?_
     rintro e w4 ⟨rfl, hd4⟩
     have hb4 := hd4.below
     have B4 := Aside0.mk (below_step B3.out hb4)
     replace b0 := pw_cell_below hb4 b0
     replace n1 := pw_cell_below hb4 n1
     clear n0 hb4 hd4 B3 HC0'
     cases q0 with
     | false =>
      go_wp2
      go_ret
      refine ⟨?_, below_step BB.out B4.out⟩
      rw [goods_no l0_0 l0_1 kk hlt (by rw [SO.out]; rfl)]
      rfl
     | true =>
      go_wp2_with fail
      refine (HC1'.out _ (Kd.C_below (Kd.C_below HR0.out BB.out) B4.out)).mono ?_
      rintro e w5 ⟨rfl, hd5⟩
      have B5 := Aside0.mk (below_step B4.out hd5.below)
      clear n1 hd5 B4 HC1'
      cases q1 with
      | false =>
       go_wp2
       go_ret
       refine ⟨?_, below_step BB.out B5.out⟩
       rw [goods_no l0_0 l0_1 kk hlt (by rw [SO.out]; rfl)]
       rfl
      | true =>
       go_wp2
       go_roundg (l0_1.length - (kk + 1))
       case measure => omega
       case rel =>
        refine ⟨kk + 1, by omega, by omega, by go_num, ⟨below_then BW.out (by have := BB.out.size; simp; omega) B5.out⟩, ⟨fun j hj => ?_⟩⟩
        by_cases e : j = kk
        ·subst e; exact SO.out
        ·exact A.out j (by omega)
  ·have hltz : ¬ (kk : Int) < (l0_1.length : Int) := by omega
   have AA := Aside0.mk (goods_yes l0_0 l0_1 (fun i hi => A.out i (by omega)))
   have HA := Aside0.mk (fun W (hW : Below w.heap.size w W) => slices_str_ContainsFunc.calls (fun x => !nameOk x) 52 #[] (enters_of Try.func52 (by kernel_rfl) rfl) A0_0 c0_0 l0_0 W (Kd.C_below HR0.out hW) (fun W' x _ _ => goods_Right_2.gives W' x))
   have HB := Aside0.mk (fun W (hW : Below w.heap.size w W) => rising_str.calls cmpB 41 #[] (enters_of Try.func41 (by kernel_rfl) rfl) A0_0 c0_0 l0_0 8 W (Kd.C_below HR0.out hW) (fun W' x y _ _ _ => (strings_Compare.calls x y _ W' rfl).mono fun e w' ⟨he, hd⟩ => ⟨he, hd.below⟩))
   have HD := Aside0.mk (fun W (hW : Below w.heap.size w W) => rising_sub.calls cmpSub 56 #[] (enters_of Try.func56 (by kernel_rfl) rfl) A0_1 c0_1 l0_1 16 W (Kd.C_below HR1.out hW) (fun W' x y _ _ _ => goods_compare.calls 3 x.f0 x.f1 x.f2 x.f3 x.f4 y.f0 y.f1 y.f2 y.f3 y.f4 _ W' (goods_compare_eq x y)))
   have hall : l0_0.all nameOk = !(l0_0.any fun x => !nameOk x) := by simp [List.all_eq_not_any_not]
   rw [hall] at AA
   clear hall
   generalize (l0_0.any fun x => !nameOk x) = q0 at HA AA
   generalize (chainB (fun x y => decide (cmpB x y < 0)) l0_0 && decide ((l0_0.length : Int) ≤ 8)) = q1 at HB AA
   generalize (chainB (fun x y => decide (cmpSub x y < 0)) l0_1 && decide ((l0_1.length : Int) ≤ 16)) = q2 at HD AA
   clear HR0 HR1 A
   go_wp2_with fail
   refine (HA.out _ BB.out).mono ?_
   rintro e w2 ⟨rfl, hb2⟩
   replace b0 := pw_cell_below hb2 b0
   replace b1 := pw_cell_below hb2 b1
   have B2 := Aside0.mk (below_step BB.out hb2)
   clear hb2 HA BB BW
   cases q0 with
   | true =>
    go_wp2
    go_ret
    refine ⟨?_, B2.out⟩
    rw [AA.out]
    rfl
   | false =>
    go_wp2_with fail
    refine (HB.out _ B2.out).mono ?_
    rintro e w3 ⟨rfl, hb3⟩
    replace b1 := pw_cell_below hb3 b1
    have B3 := Aside0.mk (below_step B2.out hb3)
    clear hb3 HB B2 b0
    cases q1 with
    | false =>
     go_wp2
     go_ret
     refine ⟨?_, B3.out⟩
     rw [AA.out]
     rfl
    | true =>
     go_wp2_with fail
     refine (HD.out _ B3.out).mono ?_
     rintro e w4 ⟨rfl, hb4⟩
     have B4 := Aside0.mk (below_step B3.out hb4)
     clear hb4 HD B3 b1
     go_wp2
     go_ret
     refine ⟨?_, B4.out⟩
     rw [AA.out]
     cases q2 <;> rfl
end Go.Proofs.Ytliablhnkoghbaa.PStock
namespace Go.Proofs.Ytliablhnkoghbaa.PStock
open Go.RowKit Go.Proofs.YtliablhnkoghbaaH Go.Proofs.YtliablhnkoghbaaW.PrintWords Go.Proofs.YtliablhnkoghbaaW.PrintLast Go.Proofs.YtliablhnkoghbaaW.PrintMore
attribute [local go_sem] max2_int min2_int max_two min_two max_three min_three max_four min_four
set_option linter.unusedVariables false
set_option linter.unusedSimpArgs false
def stock_name.f (a0 : ByteArray) : Option (Bool) := (goods_Right.f (([a0] : List ByteArray)) ([] : List (S69))).bind fun t132 => (some t132)
set_option maxHeartbeats 8000000 in
set_option maxRecDepth 100000 in
theorem stock_name.calls (a0 : ByteArray) (r : Bool) (w : World) (h : stock_name.f a0 = some r) :
  Calls Try.prog 28 #[.string a0] w fun e w' => e = .returned (.bool r) ∧ Below w.heap.size w w' := by
 have hu64 := Try.underlying64
 have HB := Aside0.mk (Below.refl w.heap.size w)
 have H : ((goods_Right.f (([a0] : List ByteArray)) ([] : List (S69))).bind fun t132 => (some t132)) = some r := h
 clear h
 obtain ⟨y129, hy129⟩ : ∃ y_ : List ByteArray, y_ = (([a0] : List ByteArray)) := ⟨_, rfl⟩
 replace H : ((goods_Right.f y129 ([] : List (S69))).bind fun t132 => (some t132)) = some r := by first | (rw [hy129]; with_reducible exact H) | (have H2_ := (Option.bind_some _ _).symm.trans H; rw [hy129]; with_reducible exact H2_) | (have H2_ := (Option.bind_some _ _).symm.trans H; with_reducible exact H2_) | with_reducible exact H | (rw [hy129]; exact H) | exact H
 have Ny129 := Aside0.mk hy129
 clear hy129
 replace H := Option.bind_eq_some_iff.mp H
 obtain ⟨t132, A20, H⟩ := H
 replace H : (some t132) = some r := H
 have A2 := Aside0.mk A20
 clear A20
 obtain rfl := Option.some.inj H
 go_enter Try.func28, Try.ntmps28
 go_wp2_with (first | ((with_reducible refine gate_dst (N := 4) rfl ?_); refine Kd.R_lit Kd.string _ 9 ?hg (N := 4) ?hd (xs := ([a0] : List ByteArray)) (inner := [.string a0]) (ok := fun _ => True) (okp := fun _ => True) ?hr ?hp (fun _ hk => hk) trivial (Below.refl _ _) (Nat.le_refl _) (by simp) ?_; (case hd => rfl); (case hg => rfl); (case hr => first | (go_simp; done) | (go_simp; rfl)); (case hp => exact (Reps.one (show Kd.M Kd.string _ _ _ a0 [.string a0] from rfl) (Reps.none _ _))); intro v130 w3 ho4 hb hg_ hnew_; clear hg_ hnew_; (first | rw [← Ny129.out] at ho4 | (simp only [Int.reduceToNat] at ho4; rw [← Ny129.out] at ho4)); have n0_ := Aside0.mk (Kd.R_lower ho4 (below_size (by repeat (first | (with_reducible first | exact HB.out | apply below_alloc | apply pw_below_drewN | apply below_drew1) | exact HB.out)))); have n1_ := Aside0.mk (below_step (by repeat (first | (with_reducible first | exact HB.out | apply below_alloc | apply pw_below_drewN | apply below_drew1) | exact HB.out)) hb); clear HB; have HO131 := n0_; have HB := n1_; clear n0_ n1_; clear hb ho4; obtain ⟨Ao5, co5, eo5⟩ := Kd.R_slice HO131.out; subst eo5) | ((with_reducible refine gate_callee (f := 42) rfl ?_); refine goesL_ (some 6) rfl rfl Try.func42 (by kernel_rfl) rfl #[.agg #[.slice Ao5 y129.length co5, .slice none 0 0]] rfl (by (try simp only [List.map_toArray, List.map_cons, List.map_nil]); first | done | rfl | (simp only [List.length_drop, List.length_take]; rfl)) ?_; (refine (goods_Right.calls _ _ y129 _ _ ([] : List (S69)) t132 _ ?side1 ?side2 ?side3 ?side4 A2.out).mono ?_); (case side1 => repeat (first | exact (Kd.R_reads' HO131.out).2.2 | (with_reducible refine Kd.C_alloc ?_ _) | (with_reducible refine Kd.C_drewN ?_ _) | (with_reducible refine Kd.C_drew ?_))); (case side2 => exact (Kd.R_reads' HO131.out).2.1); (case side3 => exact Kd.C_nil _ _); (case side4 => exact Nat.le_refl _); rintro e w6 ⟨rfl, hb⟩; refine ⟨_, rfl, ?_⟩; have n0_ := Aside0.mk (Kd.R_below (by (with_reducible repeat (first | apply Kd.R_alloc | apply Kd.R_drewN | apply Kd.R_drew)); exact HO131.out) hb); have n1_ := Aside0.mk (below_step (by repeat (first | (with_reducible first | exact HB.out | apply below_alloc | apply pw_below_drewN | apply below_drew1) | exact HB.out)) hb); clear HO131; clear HB; have HO131 := n0_; have HB := n1_; clear n0_ n1_; (try clear hb); (try clear hb2); (try clear hk); (try clear hi)))
 go_ret
 exact ⟨by first | rfl | (simp [errW_none, errW_some] <;> rfl) | (simp [*, errW_none, errW_some] <;> rfl), by repeat (first | (with_reducible first | exact HB.out | apply below_alloc | apply pw_below_drewN | apply below_drew1) | exact HB.out)⟩
end Go.Proofs.Ytliablhnkoghbaa.PStock
namespace Go.Proofs.Ytliablhnkoghbaa.PStock
open Go.RowKit Go.Proofs.YtliablhnkoghbaaH Go.Proofs.YtliablhnkoghbaaW.PrintWords Go.Proofs.YtliablhnkoghbaaW.PrintLast Go.Proofs.YtliablhnkoghbaaW.PrintMore
attribute [local go_sem] max2_int min2_int max_two min_two max_three min_three max_four min_four
set_option linter.unusedVariables false
set_option linter.unusedSimpArgs false
def stock_units.f (a0 : Int) : Option (Bool) := if a0 ≥ 1 then (some (decide (a0 ≤ 1073741824))) else (some false)
set_option maxHeartbeats 8000000 in
set_option maxRecDepth 100000 in
theorem stock_units.calls (a0 : Int) (r : Bool) (w : World) (h : stock_units.f a0 = some r) :
  Calls Try.prog 27 #[.int .i64 a0] w fun e w' => e = .returned (.bool r) ∧ Drawn0 w w' := by
 have H : (if a0 ≥ 1 then (some (decide (a0 ≤ 1073741824))) else (some false)) = some r := h
 clear h
 by_cases c2 : a0 ≥ 1
 ·rw [if_pos c2] at H
  have c2b0 : decide (1 ≤ a0) = true := decide_eq_true c2
  clear c2
  obtain rfl := Option.some.inj H
  go_enter Try.func27, Try.ntmps27
  go_wp2
  go_ret
  exact ⟨by first | rfl | (simp; done) | (simp [*]; done), by repeat (first | exact Drawn0.refl _ | apply Drawn0.step)⟩
 ·rw [if_neg c2] at H
  have c2b0 : decide (1 ≤ a0) = false := decide_eq_false c2
  clear c2
  obtain rfl := Option.some.inj H
  go_enter Try.func27, Try.ntmps27
  go_wp2
  go_ret
  exact ⟨by first | rfl | (simp; done) | (simp [*]; done), by repeat (first | exact Drawn0.refl _ | apply Drawn0.step)⟩
end Go.Proofs.Ytliablhnkoghbaa.PStock
namespace Go.Proofs.Ytliablhnkoghbaa.PStock
open Go.RowKit Go.Proofs.YtliablhnkoghbaaH Go.Proofs.YtliablhnkoghbaaW.PrintWords Go.Proofs.YtliablhnkoghbaaW.PrintLast Go.Proofs.YtliablhnkoghbaaW.PrintMore
attribute [local go_sem] max2_int min2_int max_two min_two max_three min_three max_four min_four
set_option linter.unusedVariables false
set_option linter.unusedSimpArgs false
def stock_may_1.f (a0 : Int) : Option (Bool) := if a0 = 0 then (some false) else ((stock_units.f a0).bind fun t133 => (some (!t133)))
set_option maxHeartbeats 8000000 in
set_option maxRecDepth 100000 in
theorem stock_may_1.calls (a0 : Int) (r : Bool) (w : World) (h : stock_may_1.f a0 = some r) :
  Calls Try.prog 37 #[.int .i64 a0] w fun e w' => e = .returned (.bool r) ∧ Drawn0 w w' := by
 have H : (if a0 = 0 then (some false) else ((stock_units.f a0).bind fun t133 => (some (!t133)))) = some r := h
 clear h
 by_cases c2 : a0 = 0
 ·rw [if_pos c2] at H
  have c2b0 : (a0 == 0) = true := beq_iff_eq.mpr c2
  have c2b1 : (a0 != 0) = false := bne_eq_false_iff_eq.mpr c2
  clear c2
  obtain rfl := Option.some.inj H
  go_enter Try.func37, Try.ntmps37
  go_wp2
  go_ret
  exact ⟨by first | rfl | (simp; done) | (simp [*]; done), by repeat (first | exact Drawn0.refl _ | apply Drawn0.step)⟩
 ·rw [if_neg c2] at H
  have c2b0 : (a0 == 0) = false := beq_eq_false_iff_ne.mpr c2
  have c2b1 : (a0 != 0) = true := bne_iff_ne.mpr c2
  replace H := Option.bind_eq_some_iff.mp H
  obtain ⟨t133, A30, H⟩ := H
  replace H : (some (!t133)) = some r := H
  have A3 := Aside0.mk A30
  clear A30
  obtain rfl := Option.some.inj H
  go_enter Try.func37, Try.ntmps37
  go_wp2_with (first | (go_at_call 27; (with_reducible refine (stock_units.calls a0 t133 _ A3.out).mono ?_); rintro e w' ⟨rfl, ⟨nd, rfl⟩⟩))
  go_ret
  exact ⟨by first | rfl | (simp; done) | (simp [*]; done), by repeat (first | exact Drawn0.refl _ | apply Drawn0.step)⟩
end Go.Proofs.Ytliablhnkoghbaa.PStock
namespace Go.Proofs.Ytliablhnkoghbaa.PStock
open Go.RowKit Go.Proofs.YtliablhnkoghbaaH Go.Proofs.YtliablhnkoghbaaW.PrintWords Go.Proofs.YtliablhnkoghbaaW.PrintLast Go.Proofs.YtliablhnkoghbaaW.PrintMore
attribute [local go_sem] max2_int min2_int max_two min_two max_three min_three max_four min_four
set_option linter.unusedVariables false
set_option linter.unusedSimpArgs false
set_option maxHeartbeats 2000000 in
theorem slices_int_IndexFunc.calls (p : Int → Bool) (g : Nat) (lb : Array Value) (eg : ∀ args w, (callFunc g args).run Try.prog w = .ok (.enter g args) w) (A0 : Option Addr) (c0 : Nat) (l0 : List Int) (w : World)
  (hr0 : Kd.C (Kd.int .i64) w A0 l0.length l0) (hp : PredB Try.prog g lb (Value.int .i64) p l0 w) :
  Calls Try.prog 45 #[.slice A0 l0.length c0, .func (.func g) #[] lb] w fun e w' => e = .returned (.int .i64 (idxP p l0)) ∧ Below w.heap.size w w' := by
 have HR0 := Aside0.mk hr0
 have HP := Aside0.mk hp
 clear hr0 hp
 have hlen : l0.length ≤ 9223372036854775807 := HR0.out.2.1
 go_enter Try.func45, Try.ntmps45
 go_wp2
 go_loopg [5, 8] l0.length (fun gg _ s8 wr => ∃ kk : Nat, kk ≤ l0.length ∧ l0.length - kk ≤ gg ∧ s8 = .int .i64 kk ∧ Aside0 (Below w.heap.size w wr) ∧ Aside0 (∀ j (hj : j < l0.length), j < kk → p l0[j] = false))
 case atStart => exact ⟨0, Nat.zero_le _, by omega, rfl, ⟨Below.refl _ w⟩, ⟨fun j _ hj => absurd hj (Nat.not_lt_zero _)⟩⟩
 case round =>
  obtain ⟨kk, hkk, hg, rfl, BW, A⟩ := hrel
  by_cases hlt : kk < l0.length
  ·have hltz : (kk : Int) < (l0.length : Int) := by omega
   obtain ⟨ad, e0, hx0⟩ := at_int HR0.out (kk : Int) (by omega) hltz
   subst e0
   replace hx0 := (BW.out.cell (World.block_lt_of_cell? w _ hx0)).trans hx0
   have hcall := HP.out wr (rd l0 (kk : Int)) (by rw [show rd l0 (kk : Int) = l0[kk] from getD_get _ l0 kk hlt]; exact List.getElem_mem hlt) BW.out
   simp only [Int.toNat_natCast] at hx0
   generalize hy : rd l0 (kk : Int) = y at hx0 hcall
   have Y : Aside0 (l0[kk] = y) := ⟨(getD_get _ l0 kk hlt).symm.trans hy⟩
   clear hy
   cases hq : p y with
   | true =>
    rw [hq] at hcall
    have Q := Aside0.mk hq
    clear hq
    go_wp2_with (go_at_fn g; refine hcall.mono ?_; rintro e w' ⟨rfl, hb'⟩)
    go_ret
    refine ⟨?_, below_step BW.out hb'⟩
    rw [idxP_hit p l0 kk hlt (by rw [Y.out]; exact Q.out) (fun j hj => A.out j (by omega) hj)]
    rfl
   | false =>
    rw [hq] at hcall
    have Q := Aside0.mk hq
    clear hq
    go_wp2_with (go_at_fn g; refine hcall.mono ?_; rintro e w' ⟨rfl, hb'⟩)
    go_roundg (l0.length - (kk + 1))
    case measure => omega
    case rel =>
     refine ⟨kk + 1, by omega, by omega, by go_num, ⟨below_step BW.out hb'⟩, ⟨fun j hj hjk => ?_⟩⟩
     by_cases e : j = kk
     ·subst e
      rw [Y.out]; exact Q.out
     ·exact A.out j hj (by omega)
  ·have hltz : ¬ (kk : Int) < (l0.length : Int) := by omega
   have E0 : kk = l0.length := by omega
   subst E0
   go_wp2
   go_ret
   refine ⟨?_, BW.out⟩
   rw [idxP_miss p l0 (fun j hj => A.out j hj hj)]
   rfl
set_option maxHeartbeats 2000000 in
theorem slices_int_ContainsFunc.calls (p : Int → Bool) (g : Nat) (lb : Array Value) (eg : ∀ args w, (callFunc g args).run Try.prog w = .ok (.enter g args) w) (A0 : Option Addr) (c0 : Nat) (l0 : List Int) (w : World)
  (hr0 : Kd.C (Kd.int .i64) w A0 l0.length l0) (hp : PredB Try.prog g lb (Value.int .i64) p l0 w) :
  Calls Try.prog 38 #[.slice A0 l0.length c0, .func (.func g) #[] lb] w fun e w' => e = .returned (.bool (l0.any p)) ∧ Below w.heap.size w w' := by
 have H := slices_int_IndexFunc.calls p g lb eg A0 c0 l0 w hr0 hp
 have E := Aside0.mk (idxP_any p l0)
 clear hr0 hp
 generalize idxP p l0 = x at H E
 go_enter Try.func38, Try.ntmps38
 go_wp2_with (go_at_call 45; refine H.mono ?_; rintro e w' ⟨rfl, hb⟩)
 go_ret
 refine ⟨?_, hb⟩
 rw [← E.out]
 rfl
end Go.Proofs.Ytliablhnkoghbaa.PStock
namespace Go.Proofs.Ytliablhnkoghbaa.PStock
open Go.RowKit Go.Proofs.YtliablhnkoghbaaH Go.Proofs.YtliablhnkoghbaaW.PrintWords Go.Proofs.YtliablhnkoghbaaW.PrintLast Go.Proofs.YtliablhnkoghbaaW.PrintMore
attribute [local go_sem] max2_int min2_int max_two min_two max_three min_three max_four min_four
set_option linter.unusedVariables false
set_option linter.unusedSimpArgs false
def numOk (n : Int) : Bool := decide (0 ≤ n) && decide (n ≤ 1073741824)
def rowMay (a0_0 : ByteArray) (a0_1 a0_2 a0_3 a0_4 a0_5 : Int) : Bool := nameOk a0_0 && ((numOk a0_1 && (numOk a0_2 && (numOk a0_3 && (numOk a0_4 && numOk a0_5)))) && decide (a0_1 = a0_2 + a0_3 + a0_4 + a0_5))
theorem stock_name_eq (s : ByteArray) : stock_name.f s = some (nameOk s) := by
 unfold stock_name.f
 simp only [goods_Right.f, Option.bind_some]
 congr 1
 simp [goodsOk, chainB]
theorem stock_may_odd (x : Int) : stock_may_1.f x = some (!numOk x) := by
 unfold stock_may_1.f stock_units.f numOk
 by_cases h0 : x = 0
 ·simp [h0]
 ·by_cases h1 : x ≥ 1
  ·have : 0 ≤ x := by omega
   simp [h0, h1, this]
  ·have : ¬ 0 ≤ x := by omega
   simp [h0, h1, this]
def stock_may.f (a0_0 : ByteArray) (a0_1 : Int) (a0_2 : Int) (a0_3 : Int) (a0_4 : Int) (a0_5 : Int) : Option Bool := some (rowMay a0_0 a0_1 a0_2 a0_3 a0_4 a0_5)
set_option maxHeartbeats 4000000 in
set_option maxRecDepth 100000 in
theorem stock_may.calls (a0_0 : ByteArray) (a0_1 : Int) (a0_2 : Int) (a0_3 : Int) (a0_4 : Int) (a0_5 : Int) (r : Bool) (w : World) (h : stock_may.f a0_0 a0_1 a0_2 a0_3 a0_4 a0_5 = some r) :
  Calls Try.prog 21 #[.agg #[.string a0_0, .int .i64 a0_1, .int .i64 a0_2, .int .i64 a0_3, .int .i64 a0_4, .int .i64 a0_5]] w fun e w' => e = .returned (.bool r) ∧ Below w.heap.size w w' := by
 obtain rfl := Option.some.inj h
 clear h
 have hu33 := Try.underlying33
 have HN := Aside0.mk (fun W => stock_name.calls a0_0 _ W (stock_name_eq a0_0))
 have SO := Aside0.mk (show rowMay a0_0 a0_1 a0_2 a0_3 a0_4 a0_5 = (nameOk a0_0 && ((numOk a0_1 && (numOk a0_2 && (numOk a0_3 && (numOk a0_4 && numOk a0_5)))) && decide (a0_1 = a0_2 + a0_3 + a0_4 + a0_5))) from rfl)
 generalize nameOk a0_0 = q0 at HN SO
 have HC : ∀ W : World, W.cell? ⟨w.heap.size + 1, 0, none⟩ = some (.int .i64 a0_1) → W.cell? ⟨w.heap.size + 1, 1, none⟩ = some (.int .i64 a0_2) → W.cell? ⟨w.heap.size + 1, 2, none⟩ = some (.int .i64 a0_3) → W.cell? ⟨w.heap.size + 1, 3, none⟩ = some (.int .i64 a0_4) → W.cell? ⟨w.heap.size + 1, 4, none⟩ = some (.int .i64 a0_5) →
   Calls Try.prog 38 #[.slice (some ⟨w.heap.size + 1, 0, none⟩) 5 5, .func (.func 37) #[] #[]] W fun e w' => e = .returned (.bool (!(numOk a0_1 && (numOk a0_2 && (numOk a0_3 && (numOk a0_4 && numOk a0_5)))))) ∧ Below W.heap.size W w' := by
  intro W h0 h1 h2 h3 h4
  have hr : Kd.C (Kd.int .i64) W (some ⟨w.heap.size + 1, 0, none⟩) [a0_1, a0_2, a0_3, a0_4, a0_5].length [a0_1, a0_2, a0_3, a0_4, a0_5] := C_ints [a0_1, a0_2, a0_3, a0_4, a0_5] (by simp) (fun j hj => by
   rw [add_plain]
   match j, hj with
   | 0, _ => exact h0
   | 1, _ => exact h1
   | 2, _ => exact h2
   | 3, _ => exact h3
   | 4, _ => exact h4
   | j + 5, hj => simp at hj; omega)
  have := slices_int_ContainsFunc.calls (fun x => !numOk x) 37 #[] (enters_of Try.func37 (by kernel_rfl) rfl) (some ⟨w.heap.size + 1, 0, none⟩) 5 [a0_1, a0_2, a0_3, a0_4, a0_5] W hr (fun W' x _ _ => (stock_may_1.calls x _ W' (stock_may_odd x)).mono fun e w' ⟨he, hd⟩ => ⟨he, hd.below⟩)
  refine this.mono fun e w' ⟨he, hb⟩ => ⟨?_, hb⟩
  rw [he]
  simp [List.any_cons]
 have HC := Aside0.mk HC
 go_enter Try.func21, Try.ntmps21
 go_wp2_with fail
 refine (HN.out _).mono ?_
 rintro e w2 ⟨rfl, hb⟩
 have b1 : w2.cell? ⟨w.heap.size, 1, none⟩ = some (.int .i64 a0_1) := (hb.cell (p := ⟨w.heap.size, 1, none⟩) (by simp; omega)).trans (by go_simp)
 have b2 : w2.cell? ⟨w.heap.size, 2, none⟩ = some (.int .i64 a0_2) := (hb.cell (p := ⟨w.heap.size, 2, none⟩) (by simp; omega)).trans (by go_simp)
 have b3 : w2.cell? ⟨w.heap.size, 3, none⟩ = some (.int .i64 a0_3) := (hb.cell (p := ⟨w.heap.size, 3, none⟩) (by simp; omega)).trans (by go_simp)
 have b4 : w2.cell? ⟨w.heap.size, 4, none⟩ = some (.int .i64 a0_4) := (hb.cell (p := ⟨w.heap.size, 4, none⟩) (by simp; omega)).trans (by go_simp)
 have b5 : w2.cell? ⟨w.heap.size, 5, none⟩ = some (.int .i64 a0_5) := (hb.cell (p := ⟨w.heap.size, 5, none⟩) (by simp; omega)).trans (by go_simp)
 have s1 : w2.cell? ⟨w.heap.size + 1, 0, none⟩ = some (.int .i64 a0_1) := (hb.cell (p := ⟨w.heap.size + 1, 0, none⟩) (by simp)).trans (by go_simp)
 have s2 : w2.cell? ⟨w.heap.size + 1, 1, none⟩ = some (.int .i64 a0_2) := (hb.cell (p := ⟨w.heap.size + 1, 1, none⟩) (by simp)).trans (by go_simp)
 have s3 : w2.cell? ⟨w.heap.size + 1, 2, none⟩ = some (.int .i64 a0_3) := (hb.cell (p := ⟨w.heap.size + 1, 2, none⟩) (by simp)).trans (by go_simp)
 have s4 : w2.cell? ⟨w.heap.size + 1, 3, none⟩ = some (.int .i64 a0_4) := (hb.cell (p := ⟨w.heap.size + 1, 3, none⟩) (by simp)).trans (by go_simp)
 have s5 : w2.cell? ⟨w.heap.size + 1, 4, none⟩ = some (.int .i64 a0_5) := (hb.cell (p := ⟨w.heap.size + 1, 4, none⟩) (by simp)).trans (by go_simp)
 have B2 : Aside0 (Below w.heap.size w w2) := ⟨below_then (below_alloc (below_alloc (Below.refl _ _) _) _) (by simp; omega) (by simpa using hb)⟩
 clear hb HN
 cases q0 with
 | false =>
  go_wp2
  go_ret
  refine ⟨?_, B2.out⟩
  rw [SO.out]
  rfl
 | true =>
  have hr := HC.out w2 s1 s2 s3 s4 s5
  clear s1 s2 s3 s4 s5
  have IN := Aside0.mk (show (numOk a0_1 && (numOk a0_2 && (numOk a0_3 && (numOk a0_4 && numOk a0_5)))) = true → 0 ≤ a0_1 ∧ a0_1 ≤ 1073741824 ∧ 0 ≤ a0_2 ∧ a0_2 ≤ 1073741824 ∧ 0 ≤ a0_3 ∧ a0_3 ≤ 1073741824 ∧ 0 ≤ a0_4 ∧ a0_4 ≤ 1073741824 ∧ 0 ≤ a0_5 ∧ a0_5 ≤ 1073741824 by
   simp only [numOk, Bool.and_eq_true, decide_eq_true_eq]
   intro h
   omega)
  generalize (numOk a0_1 && (numOk a0_2 && (numOk a0_3 && (numOk a0_4 && numOk a0_5)))) = q1 at hr SO IN
  go_wp2_with fail
  refine hr.mono ?_
  rintro e w3 ⟨rfl, hb3⟩
  replace b1 := pw_cell_below hb3 b1
  replace b2 := pw_cell_below hb3 b2
  replace b3 := pw_cell_below hb3 b3
  replace b4 := pw_cell_below hb3 b4
  replace b5 := pw_cell_below hb3 b5
  have B3 := Aside0.mk (below_step B2.out hb3)
  clear hb3 hr B2 HC
  cases q1 with
  | false =>
   go_wp2
   go_ret
   refine ⟨?_, B3.out⟩
   rw [SO.out]
   rfl
  | true =>
   obtain ⟨i1, i2, i3, i4, i5, i6, i7, i8, i9, i10⟩ := IN.out rfl
   clear IN
   go_wp2
   go_ret
   refine ⟨?_, B3.out⟩
   rw [SO.out]
   show Ending.returned (.bool (a0_1 == a0_2 + a0_3 + a0_4 + a0_5)) = _
   by_cases hs : a0_1 = a0_2 + a0_3 + a0_4 + a0_5
   ·rw [beq_iff_eq.2 hs]; simp [hs]
   ·rw [beq_eq_false_iff_ne.2 hs]; simp [hs]
end Go.Proofs.Ytliablhnkoghbaa.PStock
namespace Go.Proofs.Ytliablhnkoghbaa.PStock
open Go.RowKit Go.Proofs.YtliablhnkoghbaaH Go.Proofs.YtliablhnkoghbaaW.PrintWords Go.Proofs.YtliablhnkoghbaaW.PrintLast Go.Proofs.YtliablhnkoghbaaW.PrintMore
attribute [local go_sem] max2_int min2_int max_two min_two max_three min_three max_four min_four
set_option linter.unusedVariables false
set_option linter.unusedSimpArgs false
def rowUp (l : List S33) (i : Nat) : Bool := rowMay (l.getD i z33).f0 (l.getD i z33).f1 (l.getD i z33).f2 (l.getD i z33).f3 (l.getD i z33).f4 (l.getD i z33).f5 && (decide (i = 0) || Op.bytesLess (l.getD (i - 1) z33).f0.toList (l.getD i z33).f0.toList)
def rightB (l : List S33) : Bool := (List.range l.length).all (rowUp l) && decide (l.length ≤ 8)
def stock_Right.f (l0 : List S33) : Option Bool := some (rightB l0)
theorem rightB_no (l : List S33) (i : Nat) (h : i < l.length) (hi : rowUp l i = false) : rightB l = false := by
 have : (List.range l.length).all (rowUp l) = false := by rw [List.all_eq_false]; exact ⟨i, List.mem_range.2 h, by simp [hi]⟩
 unfold rightB
 rw [this, Bool.false_and]
theorem rightB_yes (l : List S33) (h : ∀ i, i < l.length → rowUp l i = true) : rightB l = decide (l.length ≤ 8) := by
 have : (List.range l.length).all (rowUp l) = true := by rw [List.all_eq_true]; exact fun i hi => h i (List.mem_range.1 hi)
 unfold rightB
 rw [this, Bool.true_and]
theorem rightB_len (l : List S33) (h : rightB l = true) : l.length ≤ 8 := by
 unfold rightB at h
 rw [Bool.and_eq_true, decide_eq_true_eq] at h
 exact h.2
theorem rightB_row (l : List S33) (h : rightB l = true) (i : Nat) (hi : i < l.length) : rowUp l i = true := by
 unfold rightB at h
 rw [Bool.and_eq_true, List.all_eq_true] at h
 exact h.1 i (List.mem_range.2 hi)
theorem rowMay_in {a : ByteArray} {b c d e f : Int} (h : rowMay a b c d e f = true) : 0 ≤ b ∧ b ≤ 1073741824 ∧ 0 ≤ c ∧ c ≤ 1073741824 ∧ 0 ≤ d ∧ d ≤ 1073741824 ∧ 0 ≤ e ∧ e ≤ 1073741824 ∧ 0 ≤ f ∧ f ≤ 1073741824 ∧ b = c + d + e + f := by
 simp only [rowMay, numOk, Bool.and_eq_true, decide_eq_true_eq] at h
 omega
set_option maxHeartbeats 4000000 in
set_option maxRecDepth 100000 in
theorem stock_Right.calls (A0 : Option Addr) (c0 : Nat) (l0 : List S33) (r : Bool) (w : World) (hr0 : Kd.C k33 w A0 l0.length l0) (hc0 : l0.length ≤ c0) (h : stock_Right.f l0 = some r) :
  Calls Try.prog 10 #[.slice A0 l0.length c0] w fun e w' => e = .returned (.bool r) ∧ Below w.heap.size w w' := by
 obtain rfl := Option.some.inj h
 clear h
 have hu33 := Try.underlying33
 have HR := Aside0.mk hr0
 have hl : l0.length ≤ 9223372036854775807 := hr0.2.1
 clear hr0 hc0
 go_enter Try.func10, Try.ntmps10
 go_wp2
 go_loopg [7] l0.length (fun gg s7 wr => ∃ kk : Nat, kk ≤ l0.length ∧ l0.length - kk ≤ gg ∧ s7 = .int .i64 kk ∧ Aside0 (Below w.heap.size w wr) ∧ Aside0 (∀ j, j < kk → rowUp l0 j = true))
 case atStart => exact ⟨0, Nat.zero_le _, by omega, rfl, ⟨Below.refl _ _⟩, ⟨fun j hj => absurd hj (Nat.not_lt_zero _)⟩⟩
 case round =>
  obtain ⟨kk, hkk, hg, rfl, BW, A⟩ := hrel
  by_cases hlt : kk < l0.length
  ·have hltz : (kk : Int) < (l0.length : Int) := by omega
   obtain ⟨ad, e0, hx0, hx1, hx2, hx3, hx4, hx5⟩ := at_T33 HR.out (kk : Int) (by omega) hltz
   subst e0
   replace hx0 := pw_cell_below BW.out hx0
   replace hx1 := pw_cell_below BW.out hx1
   replace hx2 := pw_cell_below BW.out hx2
   replace hx3 := pw_cell_below BW.out hx3
   replace hx4 := pw_cell_below BW.out hx4
   replace hx5 := pw_cell_below BW.out hx5
   simp only [Int.toNat_natCast] at hx0 hx1 hx2 hx3 hx4 hx5
   have g1 : rd_T33 l0 (kk : Int) = l0.getD kk z33 := rfl
   rw [g1] at hx0 hx1 hx2 hx3 hx4 hx5
   have SO := Aside0.mk (show rowUp l0 kk = (rowMay (l0.getD kk z33).f0 (l0.getD kk z33).f1 (l0.getD kk z33).f2 (l0.getD kk z33).f3 (l0.getD kk z33).f4 (l0.getD kk z33).f5 && (decide (kk = 0) || Op.bytesLess (l0.getD (kk - 1) z33).f0.toList (l0.getD kk z33).f0.toList)) from rfl)
   clear g1
   generalize l0.getD kk z33 = y at hx0 hx1 hx2 hx3 hx4 hx5 SO
   have HM := Aside0.mk (fun W => stock_may.calls y.f0 y.f1 y.f2 y.f3 y.f4 y.f5 _ W rfl)
   generalize rowMay y.f0 y.f1 y.f2 y.f3 y.f4 y.f5 = mm at HM SO
   go_wp2_with fail
   have n0 : (wr.alloc (.cells #[.string y.f0, .int .i64 y.f1, .int .i64 y.f2, .int .i64 y.f3, .int .i64 y.f4, .int .i64 y.f5] 33 (0, 0))).cell? ⟨wr.heap.size, 0, none⟩ = some (.string y.f0) := by go_simp
   have n1 : (wr.alloc (.cells #[.string y.f0, .int .i64 y.f1, .int .i64 y.f2, .int .i64 y.f3, .int .i64 y.f4, .int .i64 y.f5] 33 (0, 0))).cell? ⟨wr.heap.size, 1, none⟩ = some (.int .i64 y.f1) := by go_simp
   have n2 : (wr.alloc (.cells #[.string y.f0, .int .i64 y.f1, .int .i64 y.f2, .int .i64 y.f3, .int .i64 y.f4, .int .i64 y.f5] 33 (0, 0))).cell? ⟨wr.heap.size, 2, none⟩ = some (.int .i64 y.f2) := by go_simp
   have n3 : (wr.alloc (.cells #[.string y.f0, .int .i64 y.f1, .int .i64 y.f2, .int .i64 y.f3, .int .i64 y.f4, .int .i64 y.f5] 33 (0, 0))).cell? ⟨wr.heap.size, 3, none⟩ = some (.int .i64 y.f3) := by go_simp
   have n4 : (wr.alloc (.cells #[.string y.f0, .int .i64 y.f1, .int .i64 y.f2, .int .i64 y.f3, .int .i64 y.f4, .int .i64 y.f5] 33 (0, 0))).cell? ⟨wr.heap.size, 4, none⟩ = some (.int .i64 y.f4) := by go_simp
   have n5 : (wr.alloc (.cells #[.string y.f0, .int .i64 y.f1, .int .i64 y.f2, .int .i64 y.f3, .int .i64 y.f4, .int .i64 y.f5] 33 (0, 0))).cell? ⟨wr.heap.size, 5, none⟩ = some (.int .i64 y.f5) := by go_simp
   have B0 := Aside0.mk (below_alloc BW.out (.cells #[.string y.f0, .int .i64 y.f1, .int .i64 y.f2, .int .i64 y.f3, .int .i64 y.f4, .int .i64 y.f5] 33 (0, 0)))
   generalize wr.alloc (.cells #[.string y.f0, .int .i64 y.f1, .int .i64 y.f2, .int .i64 y.f3, .int .i64 y.f4, .int .i64 y.f5] 33 (0, 0)) = W0 at n0 n1 n2 n3 n4 n5 B0 ⊢
   clear hx0 hx1 hx2 hx3 hx4 hx5 BW
   generalize wr.heap.size = bb at n0 n1 n2 n3 n4 n5 ⊢
   cases mm with
   | false =>
    refine wp_region_below (by kernel_rfl) (by kernel_rfl) ?_
    repeat (first | go_big_quiet_skip | (go_big_quiet_want; go_big_quiet_op; go_big_quiet_on) | (go_big_quiet_want; apply Exists.intro; refine ⟨fun W hW => ?_, ?_⟩; (focus (have m0_ := pw_cell_below hW n0; have m1_ := pw_cell_below hW n1; have m2_ := pw_cell_below hW n2; have m3_ := pw_cell_below hW n3; have m4_ := pw_cell_below hW n4; have m5_ := pw_cell_below hW n5; unfold Oper.quietAt; go_simp; first | rfl | done | (refine (HM.out _).mono ?_; rintro e w2 ⟨rfl, hb⟩; exact ⟨rfl, below_step hW hb⟩))); (try simp only [Act.put, List.setIfInBounds_toArray, List.set_cons_zero, List.set_cons_succ]); go_big_quiet_on))
    refine wpQuiet_nil ?_
    intro W2 hW2
    have B2 := Aside0.mk (below_step B0.out hW2)
    clear hW2
    go_wp2
    go_ret
    refine ⟨?_, B2.out⟩
    rw [rightB_no l0 kk hlt (by rw [SO.out]; rfl)]
    rfl
   | true =>
    by_cases hk0 : kk = 0
    ·subst hk0
     refine wp_region_below (by kernel_rfl) (by kernel_rfl) ?_
     repeat (first | go_big_quiet_skip | (go_big_quiet_want; go_big_quiet_op; go_big_quiet_on) | (go_big_quiet_want; apply Exists.intro; refine ⟨fun W hW => ?_, ?_⟩; (focus (have m0_ := pw_cell_below hW n0; have m1_ := pw_cell_below hW n1; have m2_ := pw_cell_below hW n2; have m3_ := pw_cell_below hW n3; have m4_ := pw_cell_below hW n4; have m5_ := pw_cell_below hW n5; unfold Oper.quietAt; go_simp; first | rfl | done | (refine (HM.out _).mono ?_; rintro e w2 ⟨rfl, hb⟩; exact ⟨rfl, below_step hW hb⟩))); (try simp only [Act.put, List.setIfInBounds_toArray, List.set_cons_zero, List.set_cons_succ]); go_big_quiet_on))
     refine wpQuiet_nil ?_
     intro W2 hW2
     have B2 := Aside0.mk (below_step B0.out hW2)
     clear hW2
     go_wp2
     go_roundg (l0.length - 1)
     case measure => omega
     case rel =>
      refine ⟨1, by omega, by omega, by go_num, B2, ⟨fun j hj => ?_⟩⟩
      obtain rfl : j = 0 := by omega
      rw [SO.out]
      rfl
    ·obtain ⟨m, rfl⟩ : ∃ m, kk = m + 1 := ⟨kk - 1, by omega⟩
     have hltm : (m : Int) < (l0.length : Int) := by omega
     have hmod : IntKind.i64.wrap (m : Int) = (m : Int) := IntWalk.i64_in _ (by omega)
     have hmod2 : IntKind.i64.wrap ((m : Int) + 1 - 1) = (m : Int) := by rw [IntWalk.i64_in _ (by omega)]; omega
     obtain ⟨ad2, e2, q0, _⟩ := at_T33 HR.out (m : Int) (by omega) hltm
     cases e2
     replace q0 := pw_cell_below B0.out q0
     simp only [Int.toNat_natCast] at q0
     have g2 : rd_T33 l0 (m : Int) = l0.getD m z33 := rfl
     rw [g2] at q0
     clear g2
     have SO2 := Aside0.mk (show rowUp l0 (m + 1) = Op.bytesLess (l0.getD m z33).f0.toList y.f0.toList by rw [SO.out]; rfl)
     generalize (l0.getD m z33).f0 = pf at q0 SO2
     have hm0 : (0 : Int) ≤ (m : Int) := by omega
     cases hbl : Op.bytesLess pf.toList y.f0.toList with
     | true =>
      rw [hbl] at SO2
      refine wp_region_below (by kernel_rfl) (by kernel_rfl) ?_
      repeat (first | go_big_quiet_skip | (go_big_quiet_want; go_big_quiet_op; go_big_quiet_on) | (go_big_quiet_want; apply Exists.intro; refine ⟨fun W hW => ?_, ?_⟩; (focus (have m0_ := pw_cell_below hW n0; have m1_ := pw_cell_below hW n1; have m2_ := pw_cell_below hW n2; have m3_ := pw_cell_below hW n3; have m4_ := pw_cell_below hW n4; have m5_ := pw_cell_below hW n5; have q0_ := pw_cell_below hW q0; unfold Oper.quietAt; go_simp; first | rfl | done | (refine (HM.out _).mono ?_; rintro e w2 ⟨rfl, hb⟩; exact ⟨rfl, below_step hW hb⟩))); (try simp only [Act.put, List.setIfInBounds_toArray, List.set_cons_zero, List.set_cons_succ]); go_big_quiet_on))
      refine wpQuiet_nil ?_
      intro W2 hW2
      have B2 := Aside0.mk (below_step B0.out hW2)
      clear hW2
      go_wp2
      go_roundg (l0.length - (m + 1 + 1))
      case measure => omega
      case rel =>
       refine ⟨m + 1 + 1, by omega, by omega, by go_num, B2, ⟨fun j hj => ?_⟩⟩
       by_cases e : j = m + 1
       ·subst e; exact SO2.out
       ·exact A.out j (by omega)
     | false =>
      rw [hbl] at SO2
      refine wp_region_below (by kernel_rfl) (by kernel_rfl) ?_
      repeat (first | go_big_quiet_skip | (go_big_quiet_want; go_big_quiet_op; go_big_quiet_on) | (go_big_quiet_want; apply Exists.intro; refine ⟨fun W hW => ?_, ?_⟩; (focus (have m0_ := pw_cell_below hW n0; have m1_ := pw_cell_below hW n1; have m2_ := pw_cell_below hW n2; have m3_ := pw_cell_below hW n3; have m4_ := pw_cell_below hW n4; have m5_ := pw_cell_below hW n5; have q0_ := pw_cell_below hW q0; unfold Oper.quietAt; go_simp; first | rfl | done | (refine (HM.out _).mono ?_; rintro e w2 ⟨rfl, hb⟩; exact ⟨rfl, below_step hW hb⟩))); (try simp only [Act.put, List.setIfInBounds_toArray, List.set_cons_zero, List.set_cons_succ]); go_big_quiet_on))
      refine wpQuiet_nil ?_
      intro W2 hW2
      have B2 := Aside0.mk (below_step B0.out hW2)
      clear hW2
      go_wp2
      go_ret
      refine ⟨?_, B2.out⟩
      rw [rightB_no l0 (m + 1) hlt SO2.out]
      rfl
  ·have hltz : ¬ (kk : Int) < (l0.length : Int) := by omega
   go_wp2
   go_ret
   refine ⟨?_, BW.out⟩
   rw [rightB_yes l0 (fun j hj => A.out j (by omega))]
   first | rfl | (show Ending.returned (.bool (decide ((l0.length : Int) ≤ 8))) = _; congr 2; simp only [decide_eq_decide]; omega)
end Go.Proofs.Ytliablhnkoghbaa.PStock
namespace Go.Proofs.Ytliablhnkoghbaa.PStock
open Go.RowKit Go.Proofs.YtliablhnkoghbaaH Go.Proofs.YtliablhnkoghbaaW.PrintWords Go.Proofs.YtliablhnkoghbaaW.PrintLast Go.Proofs.YtliablhnkoghbaaW.PrintMore
attribute [local go_sem] max2_int min2_int max_two min_two max_three min_three max_four min_four
set_option linter.unusedVariables false
set_option linter.unusedSimpArgs false
set_option maxHeartbeats 4000000 in
set_option maxRecDepth 100000 in
theorem slices_row_BinarySearchFunc.calls (c : S33 → Int) (tv : Value) (g : Nat) (lb : Array Value) (eg : ∀ args w, (callFunc g args).run Try.prog w = .ok (.enter g args) w) (A0 : Option Addr) (c0 : Nat) (l0 : List S33) (w : World)
  (hr0 : Kd.C k33 w A0 l0.length l0) (hbig : l0.length < 4611686018427387904) (hp : CmpT Try.prog g lb (fun x_ : S33 => Value.agg #[.string x_.f0, .int .i64 x_.f1, .int .i64 x_.f2, .int .i64 x_.f3, .int .i64 x_.f4, .int .i64 x_.f5]) tv c l0 w) :
  Calls Try.prog 39 #[.slice A0 l0.length c0, tv, .func (.func g) #[] lb] w fun e w' => e = .returned (.tuple #[.int .i64 (bsAt c z33 l0 : Nat), .bool (bsIs c z33 l0)]) ∧ Below w.heap.size w w' := by
 have hu33 := Try.underlying33
 have HR0 := Aside0.mk hr0
 have HP := Aside0.mk hp
 clear hr0 hp
 have R0 : Aside0 (bsP c z33 l0 (l0.length + 1) 0 l0.length = bsAt c z33 l0) := ⟨rfl⟩
 have R1 : Aside0 (bsIs c z33 l0 = (decide (bsAt c z33 l0 < l0.length) && decide (c (l0.getD (bsAt c z33 l0) z33) = 0))) := ⟨rfl⟩
 generalize bsIs c z33 l0 = fd at R1
 generalize bsAt c z33 l0 = R at R0 R1
 go_enter Try.func39, Try.ntmps39
 go_wp2
 go_loopg [9, 10] l0.length (fun gg s9 s10 wr => ∃ lo hi : Nat, s9 = .int .i64 lo ∧ s10 = .int .i64 hi ∧ lo ≤ hi ∧ hi ≤ l0.length ∧ hi - lo ≤ gg ∧ Aside0 (bsP c z33 l0 (gg + 1) lo hi = R) ∧ Aside0 (Below w.heap.size w wr))
 case atStart => exact ⟨0, l0.length, rfl, rfl, Nat.zero_le _, Nat.le_refl _, by omega, R0, ⟨Below.refl _ w⟩⟩
 case round =>
  clear R0
  obtain ⟨lo, hi, rfl, rfl, hlh, hin, hg, RR, BW⟩ := hrel
  by_cases hlt : lo < hi
  ·obtain ⟨ad, e0, hx0, hx1, hx2, hx3, hx4, hx5⟩ := at_T33 HR0.out (((lo : Int) + (hi : Int)) / 2) (by omega) (by omega)
   subst e0
   replace hx0 := pw_cell_below BW.out hx0
   replace hx1 := pw_cell_below BW.out hx1
   replace hx2 := pw_cell_below BW.out hx2
   replace hx3 := pw_cell_below BW.out hx3
   replace hx4 := pw_cell_below BW.out hx4
   replace hx5 := pw_cell_below BW.out hx5
   have etn : (((lo : Int) + (hi : Int)) / 2).toNat = (lo + hi) / 2 := by omega
   have g1 : rd_T33 l0 (((lo : Int) + (hi : Int)) / 2) = l0.getD ((lo + hi) / 2) z33 := by unfold rd_T33; rw [etn]
   have hcall := HP.out wr (rd_T33 l0 (((lo : Int) + (hi : Int)) / 2)) (by rw [g1, getD_get _ _ _ (show (lo + hi) / 2 < l0.length by omega)]; exact List.getElem_mem _) BW.out
   rw [etn] at hx0 hx1 hx2 hx3 hx4 hx5
   clear etn
   generalize hy_ : rd_T33 l0 (((lo : Int) + (hi : Int)) / 2) = y at hx0 hx1 hx2 hx3 hx4 hx5 hcall g1
   have Y := Aside0.mk g1
   clear hy_ g1
   have RR' := RR.out
   unfold bsP at RR'
   rw [if_pos hlt, ← Y.out] at RR'
   have RQ := Aside0.mk RR'
   clear RR' RR
   generalize hq : c y = q at hcall RQ
   clear hq
   have m0 : (0 : Int) ≤ ((lo : Int) + (hi : Int)) / 2 := by omega
   have m1 : ((lo : Int) + (hi : Int)) / 2 < (l0.length : Int) := by omega
   by_cases hn : q < 0
   ·rw [if_pos hn] at RQ
    go_wp2_with (go_at_fn g; refine hcall.mono ?_; rintro e w' ⟨rfl, hb'⟩)
    obtain ⟨gk', rfl⟩ : ∃ m, gk = m + 1 := ⟨gk - 1, by omega⟩
    go_roundg gk'
    case measure => omega
    case rel => exact ⟨(lo + hi) / 2 + 1, hi, by rw [show ((lo : Int) + (hi : Int)) / 2 + 1 = (((lo + hi) / 2 + 1 : Nat) : Int) by omega], rfl, by omega, by omega, by omega, RQ, ⟨below_step BW.out hb'⟩⟩
   ·rw [if_neg hn] at RQ
    go_wp2_with (go_at_fn g; refine hcall.mono ?_; rintro e w' ⟨rfl, hb'⟩)
    obtain ⟨gk', rfl⟩ : ∃ m, gk = m + 1 := ⟨gk - 1, by omega⟩
    go_roundg gk'
    case measure => omega
    case rel => exact ⟨lo, (lo + hi) / 2, by rw [show (lo : Int) = (lo : Int) by omega], by rw [show ((lo : Int) + (hi : Int)) / 2 = (((lo + hi) / 2 : Nat) : Int) by omega], by omega, by omega, by omega, RQ, ⟨below_step BW.out hb'⟩⟩
  ·have RR' := RR.out
   unfold bsP at RR'
   rw [if_neg hlt] at RR'
   subst RR'
   clear RR
   have he : lo = hi := by omega
   subst he
   by_cases hln : lo < l0.length
   ·have hlnz : (lo : Int) < (l0.length : Int) := by omega
    obtain ⟨ad, e0, hx0, hx1, hx2, hx3, hx4, hx5⟩ := at_T33 HR0.out (lo : Int) (by omega) hlnz
    subst e0
    replace hx0 := pw_cell_below BW.out hx0
    replace hx1 := pw_cell_below BW.out hx1
    replace hx2 := pw_cell_below BW.out hx2
    replace hx3 := pw_cell_below BW.out hx3
    replace hx4 := pw_cell_below BW.out hx4
    replace hx5 := pw_cell_below BW.out hx5
    simp only [Int.toNat_natCast] at hx0 hx1 hx2 hx3 hx4 hx5
    have g1 : rd_T33 l0 (lo : Int) = l0.getD lo z33 := rfl
    have hcall := HP.out wr (rd_T33 l0 (lo : Int)) (by rw [g1, getD_get _ _ _ hln]; exact List.getElem_mem _) BW.out
    have R2 := R1.out
    rw [← g1, decide_eq_true hln, Bool.true_and] at R2
    have R3 := Aside0.mk R2
    clear R1 R2
    generalize hy_ : rd_T33 l0 (lo : Int) = y at hx0 hx1 hx2 hx3 hx4 hx5 hcall g1 R3
    clear hy_ g1
    generalize hq : c y = q at hcall R3
    clear hq
    go_wp2_with (go_at_fn g; refine hcall.mono ?_; rintro e w' ⟨rfl, hb'⟩)
    go_ret2
    refine ⟨?_, below_step BW.out hb'⟩
    rw [R3.out]
    by_cases h0 : q = 0 <;> simp [h0]
   ·have hlnz : ¬ (lo : Int) < (l0.length : Int) := by omega
    have hdl : decide ((lo : Int) < (l0.length : Int)) = false := by simpa using hln
    go_wp2
    go_ret2
    refine ⟨?_, BW.out⟩
    rw [R1.out, decide_eq_false hln]
    rfl
end Go.Proofs.Ytliablhnkoghbaa.PStock
namespace Go.Proofs.Ytliablhnkoghbaa.PStock
open Go.RowKit Go.Proofs.YtliablhnkoghbaaH Go.Proofs.YtliablhnkoghbaaW.PrintWords Go.Proofs.YtliablhnkoghbaaW.PrintLast Go.Proofs.YtliablhnkoghbaaW.PrintMore
attribute [local go_sem] max2_int min2_int max_two min_two max_three min_three max_four min_four
set_option linter.unusedVariables false
set_option linter.unusedSimpArgs false
def rowAt (l : List S33) (sku : ByteArray) : Nat := bsAt (fun x => cmpB x.f0 sku) z33 l
def rowIs (l : List S33) (sku : ByteArray) : Bool := bsIs (fun x => cmpB x.f0 sku) z33 l
def stock_at.f (l0 : List S33) (a1 : ByteArray) : Option (Int × Bool) := if l0.length < 4611686018427387904 then some ((rowAt l0 a1 : Int), rowIs l0 a1) else none
theorem stock_at_1.calls (x : S33) (a : ByteArray) (w : World) : Calls Try.prog 40 #[.agg #[.string x.f0, .int .i64 x.f1, .int .i64 x.f2, .int .i64 x.f3, .int .i64 x.f4, .int .i64 x.f5], .string a] w fun e w' => e = .returned (.int .i64 (cmpB x.f0 a)) ∧ Below w.heap.size w w' := by
 have hu33 := Try.underlying33
 have H := Aside0.mk (fun W => strings_Compare.calls x.f0 a _ W rfl)
 generalize cmpB x.f0 a = q at H
 go_enter Try.func40, Try.ntmps40
 go_wp2_with (go_at_call 41; refine (H.out _).mono ?_; rintro e w' ⟨rfl, hd⟩)
 go_ret
 exact ⟨rfl, below_then (below_alloc (Below.refl _ _) _) (by simp) (by simpa using hd.below)⟩
set_option maxHeartbeats 4000000 in
theorem stock_at.calls (A0 : Option Addr) (c0 : Nat) (l0 : List S33) (a1 : ByteArray) (r1 : Int) (r2 : Bool) (w : World) (hr0 : Kd.C k33 w A0 l0.length l0) (hc0 : l0.length ≤ c0) (h : stock_at.f l0 a1 = some (r1, r2)) :
  Calls Try.prog 24 #[.slice A0 l0.length c0, .string a1] w fun e w' => e = .returned (.tuple #[.int .i64 r1, .bool r2]) ∧ Below w.heap.size w w' := by
 unfold stock_at.f at h
 by_cases hb : l0.length < 4611686018427387904
 ·rw [if_pos hb] at h
  simp only [Option.some.injEq, Prod.mk.injEq] at h
  obtain ⟨rfl, rfl⟩ := h
  have H := slices_row_BinarySearchFunc.calls (fun x => cmpB x.f0 a1) (.string a1) 40 #[] (enters_of Try.func40 (by kernel_rfl) rfl) A0 c0 l0 w hr0 hb (fun W x _ _ => stock_at_1.calls x a1 W)
  unfold rowAt rowIs
  generalize (bsAt (fun x => cmpB x.f0 a1) z33 l0 : Nat) = p at H
  generalize bsIs (fun x => cmpB x.f0 a1) z33 l0 = q at H
  have H := Aside0.mk H
  clear hr0 hc0 hb
  go_enter Try.func24, Try.ntmps24
  go_wp2_with (go_at_call 39; refine H.out.mono ?_; rintro e w' ⟨rfl, hb⟩)
  go_ret2
  exact ⟨rfl, hb⟩
 ·rw [if_neg hb] at h
  cases h
end Go.Proofs.Ytliablhnkoghbaa.PStock
namespace Go.Proofs.Ytliablhnkoghbaa.PStock
open Go.RowKit Go.Proofs.YtliablhnkoghbaaH Go.Proofs.YtliablhnkoghbaaW.PrintWords Go.Proofs.YtliablhnkoghbaaW.PrintLast Go.Proofs.YtliablhnkoghbaaW.PrintMore
attribute [local go_sem] max2_int min2_int max_two min_two max_three min_three max_four min_four
set_option linter.unusedVariables false
set_option linter.unusedSimpArgs false
def stock_Get.f (l0 : List (S33)) (a1 : ByteArray) : Option (ByteArray × Int × Int × Int × Int × Int × Int) := (stock_Right.f l0).bind fun t186 => (if t186 = true then ((stock_at.f l0 a1).bind fun bt187 => (if bt187.2 = true then (if 0 ≤ bt187.1 then (if bt187.1 < (l0.length : Int) then (some ((rd_T33 l0 bt187.1).f0, (rd_T33 l0 bt187.1).f1, (rd_T33 l0 bt187.1).f2, (rd_T33 l0 bt187.1).f3, (rd_T33 l0 bt187.1).f4, (rd_T33 l0 bt187.1).f5, 0)) else (none)) else (none)) else (some ((⟨#[]⟩ : ByteArray), 0, 0, 0, 0, 0, 8)))) else (some ((⟨#[]⟩ : ByteArray), 0, 0, 0, 0, 0, 1)))
set_option maxHeartbeats 8000000 in
set_option maxRecDepth 100000 in
theorem stock_Get.calls (A0 : Option Addr) (c0 : Nat) (l0 : List (S33)) (a1 : ByteArray) (r1 : ByteArray) (r2 : Int) (r3 : Int) (r4 : Int) (r5 : Int) (r6 : Int) (r7 : Int) (w : World) (hr0 : Kd.C k33 w A0 l0.length l0) (hc0 : l0.length ≤ c0) (h : stock_Get.f l0 a1 = some (r1, r2, r3, r4, r5, r6, r7)) :
  Calls Try.prog 12 #[.slice A0 l0.length c0, .string a1] w fun e w' => e = .returned (.tuple #[.agg #[.string r1, .int .i64 r2, .int .i64 r3, .int .i64 r4, .int .i64 r5, .int .i64 r6], .int .i64 r7]) ∧ Below w.heap.size w w' := by
 have hu33 := Try.underlying33
 have HR0 := Aside0.mk hr0
 have HC0 := Aside0.mk hc0
 clear hr0 hc0
 have HB := Aside0.mk (Below.refl w.heap.size w)
 have H : ((stock_Right.f l0).bind fun t186 => (if t186 = true then ((stock_at.f l0 a1).bind fun bt187 => (if bt187.2 = true then (if 0 ≤ bt187.1 then (if bt187.1 < (l0.length : Int) then (some ((rd_T33 l0 bt187.1).f0, (rd_T33 l0 bt187.1).f1, (rd_T33 l0 bt187.1).f2, (rd_T33 l0 bt187.1).f3, (rd_T33 l0 bt187.1).f4, (rd_T33 l0 bt187.1).f5, 0)) else (none)) else (none)) else (some ((⟨#[]⟩ : ByteArray), 0, 0, 0, 0, 0, 8)))) else (some ((⟨#[]⟩ : ByteArray), 0, 0, 0, 0, 0, 1)))) = some (r1, r2, r3, r4, r5, r6, r7) := h
 clear h
 replace H := Option.bind_eq_some_iff.mp H
 obtain ⟨t186, A30, H⟩ := H
 replace H : (if t186 = true then ((stock_at.f l0 a1).bind fun bt187 => (if bt187.2 = true then (if 0 ≤ bt187.1 then (if bt187.1 < (l0.length : Int) then (some ((rd_T33 l0 bt187.1).f0, (rd_T33 l0 bt187.1).f1, (rd_T33 l0 bt187.1).f2, (rd_T33 l0 bt187.1).f3, (rd_T33 l0 bt187.1).f4, (rd_T33 l0 bt187.1).f5, 0)) else (none)) else (none)) else (some ((⟨#[]⟩ : ByteArray), 0, 0, 0, 0, 0, 8)))) else (some ((⟨#[]⟩ : ByteArray), 0, 0, 0, 0, 0, 1))) = some (r1, r2, r3, r4, r5, r6, r7) := H
 have A3 := Aside0.mk A30
 clear A30
 by_cases c4 : t186 = true
 ·subst c4
  have H1 : ((stock_at.f l0 a1).bind fun bt187 => (if bt187.2 = true then (if 0 ≤ bt187.1 then (if bt187.1 < (l0.length : Int) then (some ((rd_T33 l0 bt187.1).f0, (rd_T33 l0 bt187.1).f1, (rd_T33 l0 bt187.1).f2, (rd_T33 l0 bt187.1).f3, (rd_T33 l0 bt187.1).f4, (rd_T33 l0 bt187.1).f5, 0)) else (none)) else (none)) else (some ((⟨#[]⟩ : ByteArray), 0, 0, 0, 0, 0, 8)))) = some (r1, r2, r3, r4, r5, r6, r7) := by rw [if_pos rfl] at H; exact H
  clear H
  have H := H1
  clear H1
  replace H := Option.bind_eq_some_iff.mp H
  obtain ⟨⟨t187, t188⟩, A50, H⟩ := H
  replace H : (if t188 = true then (if 0 ≤ t187 then (if t187 < (l0.length : Int) then (some ((rd_T33 l0 t187).f0, (rd_T33 l0 t187).f1, (rd_T33 l0 t187).f2, (rd_T33 l0 t187).f3, (rd_T33 l0 t187).f4, (rd_T33 l0 t187).f5, 0)) else (none)) else (none)) else (some ((⟨#[]⟩ : ByteArray), 0, 0, 0, 0, 0, 8))) = some (r1, r2, r3, r4, r5, r6, r7) := H
  have A5 := Aside0.mk A50
  clear A50
  by_cases c6 : t188 = true
  ·subst c6
   have H1 : (if 0 ≤ t187 then (if t187 < (l0.length : Int) then (some ((rd_T33 l0 t187).f0, (rd_T33 l0 t187).f1, (rd_T33 l0 t187).f2, (rd_T33 l0 t187).f3, (rd_T33 l0 t187).f4, (rd_T33 l0 t187).f5, 0)) else (none)) else (none)) = some (r1, r2, r3, r4, r5, r6, r7) := by rw [if_pos rfl] at H; exact H
   clear H
   have H := H1
   clear H1
   by_cases c7 : 0 ≤ t187
   ·rw [if_pos c7] at H
    have c7b0 : decide (0 ≤ t187) = true := decide_eq_true c7
    clear c7
    by_cases c8 : t187 < (l0.length : Int)
    ·rw [if_pos c8] at H
     have c8b0 : decide (t187 < (l0.length : Int)) = true := decide_eq_true c8
     clear c8
     simp only [Option.some.injEq, Prod.mk.injEq] at H
     obtain ⟨rfl, rfl, rfl, rfl, rfl, rfl, rfl⟩ := H
     go_enter Try.func12, Try.ntmps12
     go_wp2_with (first | ((with_reducible refine gate_dst (N := 4) rfl ?_); refine box_event ?hg (N := 4) ?hd (cs := #[.string (⟨#[]⟩ : ByteArray), .int .i64 0, .int .i64 0, .int .i64 0, .int .i64 0, .int .i64 0]) (t := 33) ?hr ?_; (case hd => rfl); (case hg => rfl); (case hr => first | (go_simp; done) | (go_simp; rfl)); intro gb185 hg w9 hbox hb; have n0_ := Aside0.mk (below_step (by repeat (first | (with_reducible first | exact HB.out | apply below_alloc | apply pw_below_drewN | apply below_drew1) | exact HB.out)) hb); have n1_ := Aside0.mk (hbox); have n2_ := Aside0.mk ((by rw [hg]; exact (below_size (by repeat (first | (with_reducible first | exact HB.out | apply below_alloc | apply pw_below_drewN | apply below_drew1) | exact HB.out))) : w.heap.size ≤ gb185)); have n3_ := Aside0.mk ((by rw [hg]; exact (below_size (by repeat (first | (with_reducible first | exact HB.out | apply below_alloc | apply pw_below_drewN | apply below_drew1) | exact HB.out))) : w.heap.size ≤ gb185)); clear HB; have HB := n0_; have BK185 := n1_; have GW185 := n2_; have GE185 := n3_; clear n0_ n1_ n2_ n3_; clear hb hbox hg) | ((with_reducible refine gate_callee (f := 10) rfl ?_); refine goesL_ (some 9) rfl rfl Try.func10 (by kernel_rfl) rfl #[.slice A0 l0.length c0] rfl (by (try simp only [List.map_toArray, List.map_cons, List.map_nil]); first | done | rfl | (simp only [List.length_drop, List.length_take]; rfl)) ?_; (with_reducible refine (stock_Right.calls _ _ l0 true _ ?side1 ?side2 A3.out).mono ?_); (case side1 => repeat (first | exact (Kd.C_below HR0.out HB.out) | (with_reducible refine Kd.C_alloc ?_ _) | (with_reducible refine Kd.C_drewN ?_ _) | (with_reducible refine Kd.C_drew ?_))); (case side2 => exact HC0.out); rintro e w10 ⟨rfl, hb⟩; refine ⟨_, rfl, ?_⟩; have n0_ := Aside0.mk (blk_below (g := gb185) (o := .cells #[.string (⟨#[]⟩ : ByteArray), .int .i64 0, .int .i64 0, .int .i64 0, .int .i64 0, .int .i64 0] 33 (0, 0)) (by (with_reducible repeat (first | refine blk_drewN ?_ _ | refine blk_drew ?_ | refine blk_alloc ?_ _)); exact BK185.out) hb); have n1_ := Aside0.mk (below_step (by repeat (first | (with_reducible first | exact HB.out | apply below_alloc | apply pw_below_drewN | apply below_drew1 | refine below_set ?_ GE185.out) | exact HB.out)) hb); clear BK185; clear HB; have BK185 := n0_; have HB := n1_; clear n0_ n1_; (try clear hb); (try clear hb2); (try clear hk); (try clear hi)) | ((with_reducible refine gate_callee (f := 24) rfl ?_); refine goesL_ (some 15) rfl rfl Try.func24 (by kernel_rfl) rfl #[.slice A0 l0.length c0, .string a1] rfl (by (try simp only [List.map_toArray, List.map_cons, List.map_nil]); first | done | rfl | (simp only [List.length_drop, List.length_take]; rfl)) ?_; (with_reducible refine (stock_at.calls _ _ l0 a1 t187 true _ ?side1 ?side2 A5.out).mono ?_); (case side1 => repeat (first | exact (Kd.C_below HR0.out HB.out) | (with_reducible refine Kd.C_alloc ?_ _) | (with_reducible refine Kd.C_drewN ?_ _) | (with_reducible refine Kd.C_drew ?_))); (case side2 => exact HC0.out); rintro e w11 ⟨rfl, hb⟩; refine ⟨_, rfl, ?_⟩; have n0_ := Aside0.mk (blk_below (g := gb185) (o := .cells #[.string (⟨#[]⟩ : ByteArray), .int .i64 0, .int .i64 0, .int .i64 0, .int .i64 0, .int .i64 0] 33 (0, 0)) (by (with_reducible repeat (first | refine blk_drewN ?_ _ | refine blk_drew ?_ | refine blk_alloc ?_ _)); exact BK185.out) hb); have n1_ := Aside0.mk (below_step (by repeat (first | (with_reducible first | exact HB.out | apply below_alloc | apply pw_below_drewN | apply below_drew1 | refine below_set ?_ GE185.out) | exact HB.out)) hb); clear BK185; clear HB; have BK185 := n0_; have HB := n1_; clear n0_ n1_; (try clear hb); (try clear hb2); (try clear hk); (try clear hi); have p189 : 0 ≤ (t187 : Int) := of_decide_eq_true (by first | (with_reducible assumption) | assumption); have q189 : t187 < (l0.length : Int) := of_decide_eq_true (by first | (with_reducible assumption) | assumption); obtain ⟨ad189, e189, hx189_0, hx189_1, hx189_2, hx189_3, hx189_4, hx189_5⟩ := at_T33 HR0.out t187 p189 q189; cases e189; replace hx189_0 := (HB.out.cell (World.block_lt_of_cell? w _ hx189_0)).trans hx189_0; replace hx189_1 := (HB.out.cell (World.block_lt_of_cell? w _ hx189_1)).trans hx189_1; replace hx189_2 := (HB.out.cell (World.block_lt_of_cell? w _ hx189_2)).trans hx189_2; replace hx189_3 := (HB.out.cell (World.block_lt_of_cell? w _ hx189_3)).trans hx189_3; replace hx189_4 := (HB.out.cell (World.block_lt_of_cell? w _ hx189_4)).trans hx189_4; replace hx189_5 := (HB.out.cell (World.block_lt_of_cell? w _ hx189_5)).trans hx189_5; replace p189 := eq_true p189; replace q189 := eq_true q189; have hcz12_0 : w11.cell? ⟨gb185, 0, none⟩ = some (.string (⟨#[]⟩ : ByteArray)) := (blk_cell BK185.out 0).trans rfl; have hcz12_1 : w11.cell? ⟨gb185, 1, none⟩ = some (.int .i64 0) := (blk_cell BK185.out 1).trans rfl; have hcz12_2 : w11.cell? ⟨gb185, 2, none⟩ = some (.int .i64 0) := (blk_cell BK185.out 2).trans rfl; have hcz12_3 : w11.cell? ⟨gb185, 3, none⟩ = some (.int .i64 0) := (blk_cell BK185.out 3).trans rfl; have hcz12_4 : w11.cell? ⟨gb185, 4, none⟩ = some (.int .i64 0) := (blk_cell BK185.out 4).trans rfl; have hcz12_5 : w11.cell? ⟨gb185, 5, none⟩ = some (.int .i64 0) := (blk_cell BK185.out 5).trans rfl; have hfz12_0 := blk_frozen BK185.out 0; have hfz12_1 := blk_frozen BK185.out 1; have hfz12_2 := blk_frozen BK185.out 2; have hfz12_3 := blk_frozen BK185.out 3; have hfz12_4 := blk_frozen BK185.out 4; have hfz12_5 := blk_frozen BK185.out 5))
     refine bodyPost_ret (results_ct rfl _ _ gb185 33 #[.string ((rd_T33 l0 t187).f0), .int .i64 ((rd_T33 l0 t187).f1), .int .i64 ((rd_T33 l0 t187).f2), .int .i64 ((rd_T33 l0 t187).f3), .int .i64 ((rd_T33 l0 t187).f4), .int .i64 ((rd_T33 l0 t187).f5)] (0, 0) _ rfl (by (with_reducible repeat (first | refine blk_drewN ?_ _ | refine blk_drew ?_ | refine blk_alloc ?_ _)); refine blk_put (cs := #[.string ((rd_T33 l0 t187).f0), .int .i64 ((rd_T33 l0 t187).f1), .int .i64 ((rd_T33 l0 t187).f2), .int .i64 ((rd_T33 l0 t187).f3), .int .i64 ((rd_T33 l0 t187).f4), .int .i64 0]) ?_ 5 _ rfl; (with_reducible repeat (first | refine blk_drewN ?_ _ | refine blk_drew ?_ | refine blk_alloc ?_ _)); refine blk_put (cs := #[.string ((rd_T33 l0 t187).f0), .int .i64 ((rd_T33 l0 t187).f1), .int .i64 ((rd_T33 l0 t187).f2), .int .i64 ((rd_T33 l0 t187).f3), .int .i64 0, .int .i64 0]) ?_ 4 _ rfl; (with_reducible repeat (first | refine blk_drewN ?_ _ | refine blk_drew ?_ | refine blk_alloc ?_ _)); refine blk_put (cs := #[.string ((rd_T33 l0 t187).f0), .int .i64 ((rd_T33 l0 t187).f1), .int .i64 ((rd_T33 l0 t187).f2), .int .i64 0, .int .i64 0, .int .i64 0]) ?_ 3 _ rfl; (with_reducible repeat (first | refine blk_drewN ?_ _ | refine blk_drew ?_ | refine blk_alloc ?_ _)); refine blk_put (cs := #[.string ((rd_T33 l0 t187).f0), .int .i64 ((rd_T33 l0 t187).f1), .int .i64 0, .int .i64 0, .int .i64 0, .int .i64 0]) ?_ 2 _ rfl; (with_reducible repeat (first | refine blk_drewN ?_ _ | refine blk_drew ?_ | refine blk_alloc ?_ _)); refine blk_put (cs := #[.string ((rd_T33 l0 t187).f0), .int .i64 0, .int .i64 0, .int .i64 0, .int .i64 0, .int .i64 0]) ?_ 1 _ rfl; (with_reducible repeat (first | refine blk_drewN ?_ _ | refine blk_drew ?_ | refine blk_alloc ?_ _)); refine blk_put (cs := #[.string (⟨#[]⟩ : ByteArray), .int .i64 0, .int .i64 0, .int .i64 0, .int .i64 0, .int .i64 0]) ?_ 0 _ rfl; (with_reducible repeat (first | refine blk_drewN ?_ _ | refine blk_drew ?_ | refine blk_alloc ?_ _)); exact BK185.out) Try.underlying33 rfl (by kernel_rfl)) rfl ?_
     exact ⟨by first | rfl | (simp [errW_none, errW_some] <;> rfl) | (simp [*, errW_none, errW_some] <;> rfl), by repeat (first | (with_reducible first | exact HB.out | apply below_alloc | apply pw_below_drewN | apply below_drew1 | refine below_set ?_ GE185.out) | exact HB.out)⟩
    ·rw [if_neg c8] at H
     exact absurd H (by simp)
   ·rw [if_neg c7] at H
    exact absurd H (by simp)
  ·replace c6 := Bool.eq_false_iff.mpr c6
   subst c6
   have H1 : (some ((⟨#[]⟩ : ByteArray), 0, 0, 0, 0, 0, 8)) = some (r1, r2, r3, r4, r5, r6, r7) := by rw [if_neg (show ¬ (false = true) by decide)] at H; exact H
   clear H
   have H := H1
   clear H1
   simp only [Option.some.injEq, Prod.mk.injEq] at H
   obtain ⟨rfl, rfl, rfl, rfl, rfl, rfl, rfl⟩ := H
   go_enter Try.func12, Try.ntmps12
   go_wp2_with (first | ((with_reducible refine gate_dst (N := 4) rfl ?_); refine box_event ?hg (N := 4) ?hd (cs := #[.string (⟨#[]⟩ : ByteArray), .int .i64 0, .int .i64 0, .int .i64 0, .int .i64 0, .int .i64 0]) (t := 33) ?hr ?_; (case hd => rfl); (case hg => rfl); (case hr => first | (go_simp; done) | (go_simp; rfl)); intro gb185 hg w13 hbox hb; have n0_ := Aside0.mk (below_step (by repeat (first | (with_reducible first | exact HB.out | apply below_alloc | apply pw_below_drewN | apply below_drew1) | exact HB.out)) hb); have n1_ := Aside0.mk (hbox); have n2_ := Aside0.mk ((by rw [hg]; exact (below_size (by repeat (first | (with_reducible first | exact HB.out | apply below_alloc | apply pw_below_drewN | apply below_drew1) | exact HB.out))) : w.heap.size ≤ gb185)); have n3_ := Aside0.mk ((by rw [hg]; exact (below_size (by repeat (first | (with_reducible first | exact HB.out | apply below_alloc | apply pw_below_drewN | apply below_drew1) | exact HB.out))) : w.heap.size ≤ gb185)); clear HB; have HB := n0_; have BK185 := n1_; have GW185 := n2_; have GE185 := n3_; clear n0_ n1_ n2_ n3_; clear hb hbox hg) | ((with_reducible refine gate_callee (f := 10) rfl ?_); refine goesL_ (some 9) rfl rfl Try.func10 (by kernel_rfl) rfl #[.slice A0 l0.length c0] rfl (by (try simp only [List.map_toArray, List.map_cons, List.map_nil]); first | done | rfl | (simp only [List.length_drop, List.length_take]; rfl)) ?_; (with_reducible refine (stock_Right.calls _ _ l0 true _ ?side1 ?side2 A3.out).mono ?_); (case side1 => repeat (first | exact (Kd.C_below HR0.out HB.out) | (with_reducible refine Kd.C_alloc ?_ _) | (with_reducible refine Kd.C_drewN ?_ _) | (with_reducible refine Kd.C_drew ?_))); (case side2 => exact HC0.out); rintro e w14 ⟨rfl, hb⟩; refine ⟨_, rfl, ?_⟩; have n0_ := Aside0.mk (blk_below (g := gb185) (o := .cells #[.string (⟨#[]⟩ : ByteArray), .int .i64 0, .int .i64 0, .int .i64 0, .int .i64 0, .int .i64 0] 33 (0, 0)) (by (with_reducible repeat (first | refine blk_drewN ?_ _ | refine blk_drew ?_ | refine blk_alloc ?_ _)); exact BK185.out) hb); have n1_ := Aside0.mk (below_step (by repeat (first | (with_reducible first | exact HB.out | apply below_alloc | apply pw_below_drewN | apply below_drew1 | refine below_set ?_ GE185.out) | exact HB.out)) hb); clear BK185; clear HB; have BK185 := n0_; have HB := n1_; clear n0_ n1_; (try clear hb); (try clear hb2); (try clear hk); (try clear hi)) | ((with_reducible refine gate_callee (f := 24) rfl ?_); refine goesL_ (some 15) rfl rfl Try.func24 (by kernel_rfl) rfl #[.slice A0 l0.length c0, .string a1] rfl (by (try simp only [List.map_toArray, List.map_cons, List.map_nil]); first | done | rfl | (simp only [List.length_drop, List.length_take]; rfl)) ?_; (with_reducible refine (stock_at.calls _ _ l0 a1 t187 false _ ?side1 ?side2 A5.out).mono ?_); (case side1 => repeat (first | exact (Kd.C_below HR0.out HB.out) | (with_reducible refine Kd.C_alloc ?_ _) | (with_reducible refine Kd.C_drewN ?_ _) | (with_reducible refine Kd.C_drew ?_))); (case side2 => exact HC0.out); rintro e w15 ⟨rfl, hb⟩; refine ⟨_, rfl, ?_⟩; have n0_ := Aside0.mk (blk_below (g := gb185) (o := .cells #[.string (⟨#[]⟩ : ByteArray), .int .i64 0, .int .i64 0, .int .i64 0, .int .i64 0, .int .i64 0] 33 (0, 0)) (by (with_reducible repeat (first | refine blk_drewN ?_ _ | refine blk_drew ?_ | refine blk_alloc ?_ _)); exact BK185.out) hb); have n1_ := Aside0.mk (below_step (by repeat (first | (with_reducible first | exact HB.out | apply below_alloc | apply pw_below_drewN | apply below_drew1 | refine below_set ?_ GE185.out) | exact HB.out)) hb); clear BK185; clear HB; have BK185 := n0_; have HB := n1_; clear n0_ n1_; (try clear hb); (try clear hb2); (try clear hk); (try clear hi); have hcz16_0 : w15.cell? ⟨gb185, 0, none⟩ = some (.string (⟨#[]⟩ : ByteArray)) := (blk_cell BK185.out 0).trans rfl; have hcz16_1 : w15.cell? ⟨gb185, 1, none⟩ = some (.int .i64 0) := (blk_cell BK185.out 1).trans rfl; have hcz16_2 : w15.cell? ⟨gb185, 2, none⟩ = some (.int .i64 0) := (blk_cell BK185.out 2).trans rfl; have hcz16_3 : w15.cell? ⟨gb185, 3, none⟩ = some (.int .i64 0) := (blk_cell BK185.out 3).trans rfl; have hcz16_4 : w15.cell? ⟨gb185, 4, none⟩ = some (.int .i64 0) := (blk_cell BK185.out 4).trans rfl; have hcz16_5 : w15.cell? ⟨gb185, 5, none⟩ = some (.int .i64 0) := (blk_cell BK185.out 5).trans rfl; have hfz16_0 := blk_frozen BK185.out 0; have hfz16_1 := blk_frozen BK185.out 1; have hfz16_2 := blk_frozen BK185.out 2; have hfz16_3 := blk_frozen BK185.out 3; have hfz16_4 := blk_frozen BK185.out 4; have hfz16_5 := blk_frozen BK185.out 5))
   refine bodyPost_ret (results_ct rfl _ _ gb185 33 #[.string (⟨#[]⟩ : ByteArray), .int .i64 0, .int .i64 0, .int .i64 0, .int .i64 0, .int .i64 0] (0, 0) _ rfl (by (with_reducible repeat (first | refine blk_drewN ?_ _ | refine blk_drew ?_ | refine blk_alloc ?_ _)); refine blk_put (cs := #[.string (⟨#[]⟩ : ByteArray), .int .i64 0, .int .i64 0, .int .i64 0, .int .i64 0, .int .i64 0]) ?_ 5 _ rfl; (with_reducible repeat (first | refine blk_drewN ?_ _ | refine blk_drew ?_ | refine blk_alloc ?_ _)); refine blk_put (cs := #[.string (⟨#[]⟩ : ByteArray), .int .i64 0, .int .i64 0, .int .i64 0, .int .i64 0, .int .i64 0]) ?_ 4 _ rfl; (with_reducible repeat (first | refine blk_drewN ?_ _ | refine blk_drew ?_ | refine blk_alloc ?_ _)); refine blk_put (cs := #[.string (⟨#[]⟩ : ByteArray), .int .i64 0, .int .i64 0, .int .i64 0, .int .i64 0, .int .i64 0]) ?_ 3 _ rfl; (with_reducible repeat (first | refine blk_drewN ?_ _ | refine blk_drew ?_ | refine blk_alloc ?_ _)); refine blk_put (cs := #[.string (⟨#[]⟩ : ByteArray), .int .i64 0, .int .i64 0, .int .i64 0, .int .i64 0, .int .i64 0]) ?_ 2 _ rfl; (with_reducible repeat (first | refine blk_drewN ?_ _ | refine blk_drew ?_ | refine blk_alloc ?_ _)); refine blk_put (cs := #[.string (⟨#[]⟩ : ByteArray), .int .i64 0, .int .i64 0, .int .i64 0, .int .i64 0, .int .i64 0]) ?_ 1 _ rfl; (with_reducible repeat (first | refine blk_drewN ?_ _ | refine blk_drew ?_ | refine blk_alloc ?_ _)); refine blk_put (cs := #[.string (⟨#[]⟩ : ByteArray), .int .i64 0, .int .i64 0, .int .i64 0, .int .i64 0, .int .i64 0]) ?_ 0 _ rfl; (with_reducible repeat (first | refine blk_drewN ?_ _ | refine blk_drew ?_ | refine blk_alloc ?_ _)); exact BK185.out) Try.underlying33 rfl (by kernel_rfl)) rfl ?_
   exact ⟨by first | rfl | (simp [errW_none, errW_some] <;> rfl) | (simp [*, errW_none, errW_some] <;> rfl), by repeat (first | (with_reducible first | exact HB.out | apply below_alloc | apply pw_below_drewN | apply below_drew1 | refine below_set ?_ GE185.out) | exact HB.out)⟩
 ·replace c4 := Bool.eq_false_iff.mpr c4
  subst c4
  have H1 : (some ((⟨#[]⟩ : ByteArray), 0, 0, 0, 0, 0, 1)) = some (r1, r2, r3, r4, r5, r6, r7) := by rw [if_neg (show ¬ (false = true) by decide)] at H; exact H
  clear H
  have H := H1
  clear H1
  simp only [Option.some.injEq, Prod.mk.injEq] at H
  obtain ⟨rfl, rfl, rfl, rfl, rfl, rfl, rfl⟩ := H
  go_enter Try.func12, Try.ntmps12
  go_wp2_with (first | ((with_reducible refine gate_dst (N := 4) rfl ?_); refine box_event ?hg (N := 4) ?hd (cs := #[.string (⟨#[]⟩ : ByteArray), .int .i64 0, .int .i64 0, .int .i64 0, .int .i64 0, .int .i64 0]) (t := 33) ?hr ?_; (case hd => rfl); (case hg => rfl); (case hr => first | (go_simp; done) | (go_simp; rfl)); intro gb185 hg w17 hbox hb; have n0_ := Aside0.mk (below_step (by repeat (first | (with_reducible first | exact HB.out | apply below_alloc | apply pw_below_drewN | apply below_drew1) | exact HB.out)) hb); have n1_ := Aside0.mk (hbox); have n2_ := Aside0.mk ((by rw [hg]; exact (below_size (by repeat (first | (with_reducible first | exact HB.out | apply below_alloc | apply pw_below_drewN | apply below_drew1) | exact HB.out))) : w.heap.size ≤ gb185)); have n3_ := Aside0.mk ((by rw [hg]; exact (below_size (by repeat (first | (with_reducible first | exact HB.out | apply below_alloc | apply pw_below_drewN | apply below_drew1) | exact HB.out))) : w.heap.size ≤ gb185)); clear HB; have HB := n0_; have BK185 := n1_; have GW185 := n2_; have GE185 := n3_; clear n0_ n1_ n2_ n3_; clear hb hbox hg) | ((with_reducible refine gate_callee (f := 10) rfl ?_); refine goesL_ (some 9) rfl rfl Try.func10 (by kernel_rfl) rfl #[.slice A0 l0.length c0] rfl (by (try simp only [List.map_toArray, List.map_cons, List.map_nil]); first | done | rfl | (simp only [List.length_drop, List.length_take]; rfl)) ?_; (with_reducible refine (stock_Right.calls _ _ l0 false _ ?side1 ?side2 A3.out).mono ?_); (case side1 => repeat (first | exact (Kd.C_below HR0.out HB.out) | (with_reducible refine Kd.C_alloc ?_ _) | (with_reducible refine Kd.C_drewN ?_ _) | (with_reducible refine Kd.C_drew ?_))); (case side2 => exact HC0.out); rintro e w18 ⟨rfl, hb⟩; refine ⟨_, rfl, ?_⟩; have n0_ := Aside0.mk (blk_below (g := gb185) (o := .cells #[.string (⟨#[]⟩ : ByteArray), .int .i64 0, .int .i64 0, .int .i64 0, .int .i64 0, .int .i64 0] 33 (0, 0)) (by (with_reducible repeat (first | refine blk_drewN ?_ _ | refine blk_drew ?_ | refine blk_alloc ?_ _)); exact BK185.out) hb); have n1_ := Aside0.mk (below_step (by repeat (first | (with_reducible first | exact HB.out | apply below_alloc | apply pw_below_drewN | apply below_drew1 | refine below_set ?_ GE185.out) | exact HB.out)) hb); clear BK185; clear HB; have BK185 := n0_; have HB := n1_; clear n0_ n1_; (try clear hb); (try clear hb2); (try clear hk); (try clear hi); have hcz19_0 : w18.cell? ⟨gb185, 0, none⟩ = some (.string (⟨#[]⟩ : ByteArray)) := (blk_cell BK185.out 0).trans rfl; have hcz19_1 : w18.cell? ⟨gb185, 1, none⟩ = some (.int .i64 0) := (blk_cell BK185.out 1).trans rfl; have hcz19_2 : w18.cell? ⟨gb185, 2, none⟩ = some (.int .i64 0) := (blk_cell BK185.out 2).trans rfl; have hcz19_3 : w18.cell? ⟨gb185, 3, none⟩ = some (.int .i64 0) := (blk_cell BK185.out 3).trans rfl; have hcz19_4 : w18.cell? ⟨gb185, 4, none⟩ = some (.int .i64 0) := (blk_cell BK185.out 4).trans rfl; have hcz19_5 : w18.cell? ⟨gb185, 5, none⟩ = some (.int .i64 0) := (blk_cell BK185.out 5).trans rfl; have hfz19_0 := blk_frozen BK185.out 0; have hfz19_1 := blk_frozen BK185.out 1; have hfz19_2 := blk_frozen BK185.out 2; have hfz19_3 := blk_frozen BK185.out 3; have hfz19_4 := blk_frozen BK185.out 4; have hfz19_5 := blk_frozen BK185.out 5))
  refine bodyPost_ret (results_ct rfl _ _ gb185 33 #[.string (⟨#[]⟩ : ByteArray), .int .i64 0, .int .i64 0, .int .i64 0, .int .i64 0, .int .i64 0] (0, 0) _ rfl (by (with_reducible repeat (first | refine blk_drewN ?_ _ | refine blk_drew ?_ | refine blk_alloc ?_ _)); refine blk_put (cs := #[.string (⟨#[]⟩ : ByteArray), .int .i64 0, .int .i64 0, .int .i64 0, .int .i64 0, .int .i64 0]) ?_ 5 _ rfl; (with_reducible repeat (first | refine blk_drewN ?_ _ | refine blk_drew ?_ | refine blk_alloc ?_ _)); refine blk_put (cs := #[.string (⟨#[]⟩ : ByteArray), .int .i64 0, .int .i64 0, .int .i64 0, .int .i64 0, .int .i64 0]) ?_ 4 _ rfl; (with_reducible repeat (first | refine blk_drewN ?_ _ | refine blk_drew ?_ | refine blk_alloc ?_ _)); refine blk_put (cs := #[.string (⟨#[]⟩ : ByteArray), .int .i64 0, .int .i64 0, .int .i64 0, .int .i64 0, .int .i64 0]) ?_ 3 _ rfl; (with_reducible repeat (first | refine blk_drewN ?_ _ | refine blk_drew ?_ | refine blk_alloc ?_ _)); refine blk_put (cs := #[.string (⟨#[]⟩ : ByteArray), .int .i64 0, .int .i64 0, .int .i64 0, .int .i64 0, .int .i64 0]) ?_ 2 _ rfl; (with_reducible repeat (first | refine blk_drewN ?_ _ | refine blk_drew ?_ | refine blk_alloc ?_ _)); refine blk_put (cs := #[.string (⟨#[]⟩ : ByteArray), .int .i64 0, .int .i64 0, .int .i64 0, .int .i64 0, .int .i64 0]) ?_ 1 _ rfl; (with_reducible repeat (first | refine blk_drewN ?_ _ | refine blk_drew ?_ | refine blk_alloc ?_ _)); refine blk_put (cs := #[.string (⟨#[]⟩ : ByteArray), .int .i64 0, .int .i64 0, .int .i64 0, .int .i64 0, .int .i64 0]) ?_ 0 _ rfl; (with_reducible repeat (first | refine blk_drewN ?_ _ | refine blk_drew ?_ | refine blk_alloc ?_ _)); exact BK185.out) Try.underlying33 rfl (by kernel_rfl)) rfl ?_
  exact ⟨by first | rfl | (simp [errW_none, errW_some] <;> rfl) | (simp [*, errW_none, errW_some] <;> rfl), by repeat (first | (with_reducible first | exact HB.out | apply below_alloc | apply pw_below_drewN | apply below_drew1 | refine below_set ?_ GE185.out) | exact HB.out)⟩
end Go.Proofs.Ytliablhnkoghbaa.PStock
namespace Go.Proofs.Ytliablhnkoghbaa.PStock
open Go.RowKit Go.Proofs.YtliablhnkoghbaaH Go.Proofs.YtliablhnkoghbaaW.PrintWords Go.Proofs.YtliablhnkoghbaaW.PrintLast Go.Proofs.YtliablhnkoghbaaW.PrintMore
attribute [local go_sem] max2_int min2_int max_two min_two max_three min_three max_four min_four
set_option linter.unusedVariables false
set_option linter.unusedSimpArgs false
def api_Row_29.f (l0 : List S33) : Option (List S33) := if l0.length < 2513169434916 then some l0 else none
set_option maxHeartbeats 4000000 in
set_option maxRecDepth 100000 in
theorem api_Row_29.calls (A0 : Option Addr) (c0 : Nat) (l0 : List S33) (r : List S33) (w : World) (hr0 : Kd.C k33 w A0 l0.length l0) (hc0 : l0.length ≤ c0) (h : api_Row_29.f l0 = some r) :
  Calls Try.prog 29 #[.slice A0 l0.length c0] w fun e w' => ∃ v0_ : Value, e = .returned v0_ ∧ Kd.R k33 33 w' w.heap.size (fun _ => True) v0_ r ∧ Below w.heap.size w w' := by
 have hu33 := Try.underlying33
 unfold api_Row_29.f at h
 by_cases hb : l0.length < 2513169434916
 ·rw [if_pos hb] at h
  obtain rfl := Option.some.inj h
  clear h
  have qT : ∀ (w : World) (a : Option Addr) (n c n' c' : Nat), (binOp .eql 22 (.slice a n c) (.slice none n' c')).run Try.prog w = .ok (.bool a.isNone) w := fun w a n c n' c' => Lib.run_eql_slice_nil w _ _ a n c n' c' Try.underlying22
  have HR := Aside0.mk hr0
  clear hr0 hc0
  cases A0 with
  | none =>
   have h0 : l0.length = 0 := by
    rcases Nat.eq_zero_or_pos l0.length with h0 | h0
    ·exact h0
    ·obtain ⟨ad, h, _⟩ := HR.out.2.2 h0
     cases h
   obtain rfl : l0 = [] := List.eq_nil_of_length_eq_zero h0
   clear HR
   go_enter Try.func29, Try.ntmps29
   go_wp2
   go_ret
   exact ⟨_, rfl, Kd.R_nil _ _ _ _ _, Below.refl _ _⟩
  | some ad =>
   have hlim : (0 + l0.length) * 56 ≤ 140737488355328 := by omega
   have HL := Aside0.mk hlim
   clear hlim hb
   go_enter Try.func29, Try.ntmps29
   go_wp2_with (first | ((with_reducible refine gate_dst (N := 5) rfl ?_); refine Kd.R_lit k33 w.heap.size 33 ?hg (N := 5) ?hd (xs := ([] : List S33)) (inner := []) (ok := fun _ => True) (okp := fun _ => True) ?hr ?hp (fun _ hk => hk) trivial (Below.refl _ _) (Nat.le_refl _) (by simp) ?_; (case hd => rfl); (case hg => rfl); (case hr => first | (go_simp; done) | (go_simp; rfl)); (case hp => exact (Reps.none _ _)); intro v1 w1 ho hb hg_ hn_; have HO := Aside0.mk ho; have HB := Aside0.mk hb; clear ho hb hg_ hn_) | ((with_reducible refine gate_builtin (b := .append) (xs := #[.tmp 5, .tmp 6]) rfl ?_); at_builtin; refine Kd.R_append_rows k33 (w0 := w) w.heap.size rfl (.tmp 5) (.tmp 6) 22 33 (Value.agg #[(.string ⟨#[]⟩), (.int .i64 0), (.int .i64 0), (.int .i64 0), (.int .i64 0), (.int .i64 0)]) 56 rfl Try.underlying22 info33 rfl (by decide) (by omega) v1 ([] : List S33) l0 _ _ _ (fun _ => True) (fun _ => False) rfl rfl ?aO ?aR (fun _ _ h => h) (fun _ h => h.elim) ?aF ?aB ?aS ?aL ?_; (case aO => exact HO.out); (case aR => exact Kd.C_below HR.out HB.out); (case aF => exact fun _ _ => trivial); (case aB => exact HB.out); (case aS => exact HB.out.size); (case aL => exact HL.out); intro v2 w2 ho2 hb2 hg2 _; have HO2 := Aside0.mk ho2; have HB2 := Aside0.mk hb2; clear ho2 hb2 hg2))
   go_ret
   exact ⟨_, rfl, by simpa using HO2.out, HB2.out⟩
 ·rw [if_neg hb] at h
  cases h
end Go.Proofs.Ytliablhnkoghbaa.PStock
namespace Go.Proofs.Ytliablhnkoghbaa.PStock
open Go.RowKit Go.Proofs.YtliablhnkoghbaaH Go.Proofs.YtliablhnkoghbaaW.PrintWords Go.Proofs.YtliablhnkoghbaaW.PrintLast Go.Proofs.YtliablhnkoghbaaW.PrintMore
attribute [local go_sem] max2_int min2_int max_two min_two max_three min_three max_four min_four
set_option linter.unusedVariables false
set_option linter.unusedSimpArgs false
set_option maxHeartbeats 4000000 in
set_option maxRecDepth 100000 in
theorem api_Row_30_shift (g m cap i vc : Nat) (L vs : List Value) (ad : Addr) (w : World) (hi : i < m) (hm : m + 1 ≤ cap) (hc63 : cap ≤ 9223372036854775807)
  (hg : w.heap[g]? = some (.cells L.toArray 33 (0, 0))) (hL : L.length = cap * 6) (hv : vs.length = 6) (hvs : ∀ j u, vs[j]? = some u → w.cell? (ad.add j) = some u) (hne : ad.block ≠ g) (h1 : ∀ v ∈ L.take (m * 6), v.oneCell' = true) (h1v : ∀ v ∈ vs, v.oneCell' = true) :
  Calls Try.prog 30 #[.slice (some ⟨g, 0, none⟩) m cap, .int .i64 i, .slice (some ad) 1 vc] w fun e w' =>
   e = .returned (.slice (some ⟨g, 0, none⟩) (m + 1) cap) ∧ ∃ q, w' = (w.drewN q).setRow g (L.take (i * 6) ++ vs ++ (L.drop (i * 6)).take ((m - i) * 6) ++ L.drop ((m + 1) * 6)).toArray := by
 have hu33 := Try.underlying33
 obtain ⟨tA, kA, hsa, hkA⟩ := shape_of_cell (hvs 0 _ (List.getElem?_eq_getElem (by omega)))
 have hsb : w.shape? g = some (33, cap * 6) := by simp [World.shape?, hg, hL]
 have hfb : ∀ o, w.frozen? ⟨g, o, none⟩ = false := fun o => by simp [World.frozen?, hg]
 have hsz : (Try.prog.info? 33).map (·.size) = some 6 := by
  have := info33
  obtain ⟨i0, hi0, hz⟩ := Option.map_eq_some_iff.1 this
  simp only [Prod.mk.injEq] at hz
  rw [hi0]; simp [hz.2.1]
 have hzz : ∀ w, (Go.sizeOf 33).run Try.prog w = .ok 6 w := fun w => by
  obtain ⟨i0, hi0, hz⟩ := Option.map_eq_some_iff.1 hsz
  simp [Go.sizeOf, typeInfo, hi0, hz]
 have adE : ad.add 0 = ad := rfl
 have hsa' : w.shape? ad.block = some (tA, kA) := hsa
 have hov : ∀ (q : Nat) lb cb o, (callFunc 43 #[.slice (some ad) 1 vc, .slice (some ⟨g, o, none⟩) lb cb]).run Try.prog (w.drewN q) = .ok (.value (.bool false)) (w.drewN q) := fun q lb cb o => by
  rw [run_callFunc_extern Try.func43 (by kernel_rfl) (by kernel_rfl) (by kernel_rfl) (e := Extern.SlicesOverlaps.overlaps #[22, 22] #[4]) (by kernel_rfl),
   run_overlaps_apart' (w.drewN q) 22 4 33 Try.underlying22 6 hzz ad ⟨g, o, none⟩ 1 vc lb cb hne tA 33 kA (cap * 6) hsa' hkA hsb (hfb o) (hfb _)]
  rfl
 have hov0 : ∀ lb cb o, (callFunc 43 #[.slice (some ad) 1 vc, .slice (some ⟨g, o, none⟩) lb cb]).run Try.prog w = .ok (.value (.bool false)) w := hov 0
 clear hov
 have hw1 : IntKind.i64.wrap ((m : Int) + 1) = (m : Int) + 1 := by rw [IntKind.wrap_i64]; omega
 have hw2 : IntKind.i64.wrap ((i : Int) + 1) = (i : Int) + 1 := by rw [IntKind.wrap_i64]; omega
 have hb1 : (0 : Int) ≤ (i : Int) + 1 := by omega
 have hz2 : ((i : Int) == (m : Int)) = false := by simp; omega
 have hz3 : decide ((cap : Int) < (m : Int) + 1) = false := by simp; omega
 have hin : i ≤ m := by omega
 have hic : i ≤ cap := by omega
 have him : i + 1 ≤ m + 1 := by omega
 have hmc : m + 1 ≤ cap := by omega
 have hb3 : (i : Int) ≤ (m : Int) + 1 := by omega
 have htn : ((i : Int) + 1).toNat = i + 1 := by omega
 have htm : ((m : Int) + 1).toNat = m + 1 := by omega
 have hb2 : ¬ (cap = i + 1) := by omega
 have hb4 : ¬ (cap = i) := by omega
 have hmin1 : Nat.min (m + 1 - i) (m - i) = m - i := Nat.min_eq_right (by omega)
 have hcl : ((L.drop (i * 6)).take ((m - i) * 6)).length = (m - i) * 6 := by rw [List.length_take, List.length_drop]; omega
 have hcp1 : ∀ ty, (Builtin.copy_ #[22, 22] ty #[.slice (some ⟨g, (i + 1) * 6, none⟩) (m - i) (cap - (i + 1)), .slice (some ⟨g, i * 6, none⟩) (m + 1 - i) (cap - i)]).run Try.prog w.drew = .ok (goInt (Nat.min (m + 1 - i) (m - i))) (w.drew.setRow g (L.take ((i + 1) * 6) ++ (L.drop (i * 6)).take ((m - i) * 6) ++ L.drop ((i + 1) * 6 + ((L.drop (i * 6)).take ((m - i) * 6)).length)).toArray) := fun ty =>
  run_copy_row_k w.drew 22 22 ty 33 g ((i + 1) * 6) (m - i) (cap - (i + 1)) ⟨g, i * 6, none⟩ (m + 1 - i) (cap - i) L.toArray 33 ((L.drop (i * 6)).take ((m - i) * 6)) 6 Try.underlying22 hsz hg (by rw [hcl, hmin1])
   (fun j v hj => by
    rw [Addr.add_lit]
    have h2 : L[i * 6 + j]? = some v := by
     rw [List.getElem?_take] at hj
     split at hj
     ·rwa [List.getElem?_drop] at hj
     ·cases hj
    show w.cell? _ = _
    simp [World.cell?, hg, h2])
   (by rw [hcl]; simp only [List.size_toArray]; omega) (fun v hv => h1 v (List.mem_of_mem_drop (by rw [List.drop_take]; rwa [← Nat.sub_mul])))
 obtain ⟨L1, hL1⟩ : ∃ L1, L1 = L.take ((i + 1) * 6) ++ (L.drop (i * 6)).take ((m - i) * 6) ++ L.drop ((i + 1) * 6 + ((L.drop (i * 6)).take ((m - i) * 6)).length) := ⟨_, rfl⟩
 rw [← hL1] at hcp1
 have hg1 : (w.drew.setRow g L1.toArray).heap[g]? = some (.cells L1.toArray 33 (0, 0)) := setRow_heap w.drew g L.toArray _ 33 (0, 0) hg
 have hL1l : L1.length = cap * 6 := by rw [hL1]; simp only [List.length_append, List.length_take, List.length_drop]; omega
 have hmin2 : Nat.min 1 (m + 1 - i) = 1 := Nat.min_eq_left (by omega)
 have hcp2 : ∀ ty, (Builtin.copy_ #[22, 22] ty #[.slice (some ⟨g, i * 6, none⟩) (m + 1 - i) (cap - i), .slice (some ad) 1 vc]).run Try.prog (w.drew.setRow g L1.toArray) = .ok (goInt (Nat.min 1 (m + 1 - i))) ((w.drew.setRow g L1.toArray).setRow g (L1.take (i * 6) ++ vs ++ L1.drop (i * 6 + vs.length)).toArray) := fun ty =>
  run_copy_row_k (w.drew.setRow g L1.toArray) 22 22 ty 33 g (i * 6) (m + 1 - i) (cap - i) ad 1 vc L1.toArray 33 vs 6 Try.underlying22 hsz hg1 (by rw [hv, hmin2])
   (fun j v hj => by
    have := hvs j v hj
    unfold World.cell? at this ⊢
    rw [setRow_other _ _ _ _ (show (ad.add j).block ≠ g by unfold Addr.add; split <;> exact hne)]
    exact this)
   (by rw [hv]; simp only [List.size_toArray]; omega) h1v
 rw [setRow_setRow] at hcp2
 have hfin : L1.take (i * 6) ++ vs ++ L1.drop (i * 6 + vs.length) = L.take (i * 6) ++ vs ++ (L.drop (i * 6)).take ((m - i) * 6) ++ L.drop ((m + 1) * 6) := by
  have e1 : L1.take (i * 6) = L.take (i * 6) := by
   rw [hL1, List.append_assoc, List.take_append_of_le_length (by rw [List.length_take]; omega), List.take_take]
   congr 1; omega
  have e2 : L1.drop (i * 6 + vs.length) = (L.drop (i * 6)).take ((m - i) * 6) ++ L.drop ((m + 1) * 6) := by
   rw [hL1, hv, List.append_assoc, List.drop_append, List.drop_eq_nil_of_le (by rw [List.length_take]; omega), List.nil_append, List.length_take, show i * 6 + 6 - min ((i + 1) * 6) L.length = 0 by omega, List.drop_zero, hcl]
   congr 2; omega
  rw [e1, e2, List.append_assoc, List.append_assoc, List.append_assoc]
 rw [hfin] at hcp2
 have HF := Aside0.mk hcp2
 have HG := Aside0.mk hcp1
 clear hcp1 hcp2 hfin hL1 hg1 hL1l hcl hg hL hvs hsa hsa' hsb hfb adE hv
 go_enter Try.func30, Try.ntmps30
 go_wp2_with fail
 go_region_law (refine step_copy_run rfl _ _ 22 22 rfl _ _ (by simp [Act.eval, Act.put]) (by simp [Act.eval, Act.put]) (HG.out _) ?_)
 go_wp2_with ((with_reducible refine gate_builtin (b := .copy) (xs := #[.tmp 80, .tmp 81]) rfl ?_); refine wpList_copy_run _ rfl (.tmp 80) (.tmp 81) 22 22 rfl _ _ rfl rfl (HF.out _) ?_)
 go_ret
 exact ⟨rfl, 1, by simp only [List.append_assoc]; rfl⟩
set_option maxHeartbeats 4000000 in
set_option maxRecDepth 100000 in
theorem api_Row_30_grow (g m i vc : Nat) (L vs : List Value) (ad : Addr) (w : World) (hi : i < m) (hbig : (m + 1) * 56 ≤ 140737488355328)
  (hg : w.heap[g]? = some (.cells L.toArray 33 (0, 0))) (hL : L.length = m * 6) (hv : vs.length = 6) (hvs : ∀ j u, vs[j]? = some u → w.cell? (ad.add j) = some u) (h1 : ∀ v ∈ L.take (m * 6), v.oneCell' = true) (h1v : ∀ v ∈ vs, v.oneCell' = true) :
  Calls Try.prog 30 #[.slice (some ⟨g, 0, none⟩) m m, .int .i64 i, .slice (some ad) 1 vc] w fun e w' =>
   ∃ (cap' : Nat) (R : List Value), e = .returned (.slice (some ⟨w.heap.size, 0, none⟩) (m + 1) cap') ∧ m + 1 ≤ cap' ∧ cap' ≤ maxLen ∧ R.length = cap' * 6 ∧ R.take ((m + 1) * 6) = L.take (i * 6) ++ vs ++ (L.drop (i * 6)).take ((m - i) * 6) ∧
    w'.heap[w.heap.size]? = some (.cells R.toArray 33 (0, 0)) ∧ Below w.heap.size w w' := by
 have hu33 := Try.underlying33
 obtain ⟨i0, hi0, hz⟩ := Option.map_eq_some_iff.1 info33
 simp only [Prod.mk.injEq] at hz
 obtain ⟨hz0, hz1, hz2⟩ := hz
 have hsz : (Try.prog.info? 33).map (·.size) = some 6 := by rw [hi0]; simp [hz1]
 have hglt : g < w.heap.size := (Array.getElem?_eq_some_iff.1 hg).1
 have halt : ad.block < w.heap.size := World.block_lt_of_cell? w _ (hvs 0 _ (List.getElem?_eq_getElem (by omega)))
 have hik : i + (m + 1 - i) = m + 1 := by omega
 have hkk : (m : Int) + 1 - (i : Int) = ((m + 1 - i : Nat) : Int) := by omega
 have hold : (Builtin.firstCells i0.size i (.slice (some ⟨g, 0, none⟩) i m)).run Try.prog w.drew = .ok (L.take (i * 6)).toArray w.drew := by
  rw [hz1]
  exact run_firstCells_some w.drew 6 i ⟨g, 0, none⟩ i m (L.take (i * 6)) (by rw [List.length_take]; omega) (fun j v hj => by
   rw [add_plain]
   have h2 : L[j]? = some v := by
    rw [List.getElem?_take] at hj
    split at hj
    ·exact hj
    ·cases hj
   show w.cell? _ = _
   simp [World.cell?, hg, h2])
 have hrz : ∀ ty, (Builtin.append_ #[22, 3] ty #[.slice (some ⟨g, 0, none⟩) i m, .int .i64 ((m : Int) + 1 - (i : Int))]).run Try.prog w = .ok (.slice (some ⟨w.heap.size, 0, none⟩) (m + 1) (grownCap w (m + 1) m 33)) (w.drew.alloc (.cells ((L.take (i * 6)).toArray ++ Builtin.zeroCells (Value.agg #[(.string ⟨#[]⟩), (.int .i64 0), (.int .i64 0), (.int .i64 0), (.int .i64 0), (.int .i64 0)]).cells (m + 1 - i) ++ Builtin.zeroCells (Value.agg #[(.string ⟨#[]⟩), (.int .i64 0), (.int .i64 0), (.int .i64 0), (.int .i64 0), (.int .i64 0)]).cells (grownCap w (m + 1) m 33 - (m + 1))) 33)) := fun ty => by
  have h := Lib.run_append_grow_zeros w 22 3 ty 33 i0 (Value.agg #[(.string ⟨#[]⟩), (.int .i64 0), (.int .i64 0), (.int .i64 0), (.int .i64 0), (.int .i64 0)]) .i64 .i64 Try.underlying22 Try.underlying3 hi0 hz0 (some ⟨g, 0, none⟩) i m (L.take (i * 6)) hold (m + 1 - i) (by omega) (by omega) (by omega) (by omega) (by rw [hz2]; omega) (by rw [hz2, hik]; exact growslice_fits (by omega) hbig)
  rw [hik] at h
  rw [hkk]
  exact h
 have hGn := grownCap_ge w (m + 1) m 33
 have hG63 := grownCap_le_maxLen w (m + 1) m 33 (by unfold maxLen; omega)
 generalize grownCap w (m + 1) m 33 = G at hrz hGn hG63
 obtain ⟨R0, hR0⟩ : ∃ R0 : List Value, R0 = (((L.take (i * 6)).toArray ++ Builtin.zeroCells (Value.agg #[(.string ⟨#[]⟩), (.int .i64 0), (.int .i64 0), (.int .i64 0), (.int .i64 0), (.int .i64 0)]).cells (m + 1 - i) ++ Builtin.zeroCells (Value.agg #[(.string ⟨#[]⟩), (.int .i64 0), (.int .i64 0), (.int .i64 0), (.int .i64 0), (.int .i64 0)]).cells (G - (m + 1)))).toList := ⟨_, rfl⟩
 have hRa : (L.take (i * 6)).toArray ++ Builtin.zeroCells (Value.agg #[(.string ⟨#[]⟩), (.int .i64 0), (.int .i64 0), (.int .i64 0), (.int .i64 0), (.int .i64 0)]).cells (m + 1 - i) ++ Builtin.zeroCells (Value.agg #[(.string ⟨#[]⟩), (.int .i64 0), (.int .i64 0), (.int .i64 0), (.int .i64 0), (.int .i64 0)]).cells (G - (m + 1)) = R0.toArray := by rw [hR0]
 rw [hRa] at hrz
 have hzc : (Value.cells (Value.agg #[(.string ⟨#[]⟩), (.int .i64 0), (.int .i64 0), (.int .i64 0), (.int .i64 0), (.int .i64 0)])).size = 6 := by rfl
 have hR0l : R0.length = G * 6 := by
  rw [hR0]
  simp only [Array.toList_append, List.length_append, Array.length_toList, size_zeroCells, hzc, List.length_take]
  omega
 have hR0t : R0.take (i * 6) = L.take (i * 6) := by
  rw [hR0]
  simp only [Array.toList_append, List.append_assoc]
  rw [List.take_append_of_le_length (by simp only [List.length_take]; omega), List.take_take]
  congr 1; omega
 clear hRa hR0 hold hi0 hz0 hz1 hz2 hzc
 generalize hN : w.heap.size = N at *
 have hgN : (w.drew.alloc (.cells R0.toArray 33)).heap[N]? = some (.cells R0.toArray 33 (0, 0)) := by rw [← hN]; exact heap_alloc_new w.drew _
 have hBW : Below N w (w.drew.alloc (.cells R0.toArray 33)) := by rw [← hN]; exact below_alloc (below_drew (Below.refl _ _)) _
 obtain ⟨W1, hW1⟩ : ∃ W1, W1 = w.drew.alloc (.cells R0.toArray 33) := ⟨_, rfl⟩
 have hW1' : w.drew.alloc (.cells R0.toArray 33) = (w.alloc (.cells R0.toArray 33)).drew := rfl
 rw [← hW1] at hgN hBW
 have hmin2 : Nat.min 1 (m + 1 - i) = 1 := Nat.min_eq_left (by omega)
 have hmin1 : Nat.min (m - i) (m - i) = m - i := Nat.min_self _
 have hcl : ((L.drop (i * 6)).take ((m - i) * 6)).length = (m - i) * 6 := by rw [List.length_take, List.length_drop]; omega
 have hcp1 : ∀ ty, (Builtin.copy_ #[22, 22] ty #[.slice (some ⟨N, i * 6, none⟩) (m + 1 - i) (G - i), .slice (some ad) 1 vc]).run Try.prog W1 = .ok (goInt (Nat.min 1 (m + 1 - i))) (W1.setRow N (R0.take (i * 6) ++ vs ++ R0.drop (i * 6 + vs.length)).toArray) := fun ty =>
  run_copy_row_k W1 22 22 ty 33 N (i * 6) (m + 1 - i) (G - i) ad 1 vc R0.toArray 33 vs 6 Try.underlying22 hsz hgN (by rw [hv, hmin2])
   (fun j v hj => (hBW.cell (by show (ad.add j).block < N; unfold Addr.add; split <;> exact halt)).trans (hvs j v hj))
   (by rw [hv]; simp only [List.size_toArray]; omega) h1v
 obtain ⟨R1, hR1⟩ : ∃ R1, R1 = R0.take (i * 6) ++ vs ++ R0.drop (i * 6 + vs.length) := ⟨_, rfl⟩
 rw [← hR1] at hcp1
 have hR1l : R1.length = G * 6 := by rw [hR1]; simp only [List.length_append, List.length_take, List.length_drop]; omega
 have hgN1 : (W1.setRow N R1.toArray).drew.heap[N]? = some (.cells R1.toArray 33 (0, 0)) := setRow_heap W1 N R0.toArray _ 33 (0, 0) hgN
 have hBW1 : Below N w (W1.setRow N R1.toArray).drew := by
  have := below_setRow hBW (Nat.le_refl N) R1.toArray
  exact below_drew this
 have hcp2 : ∀ ty sc, (Builtin.copy_ #[22, 22] ty #[.slice (some ⟨N, (i + 1) * 6, none⟩) (m - i) (G - (i + 1)), .slice (some ⟨g, i * 6, none⟩) (m - i) sc]).run Try.prog (W1.setRow N R1.toArray).drew = .ok (goInt (Nat.min (m - i) (m - i))) ((W1.setRow N R1.toArray).drew.setRow N (R1.take ((i + 1) * 6) ++ (L.drop (i * 6)).take ((m - i) * 6) ++ R1.drop ((i + 1) * 6 + ((L.drop (i * 6)).take ((m - i) * 6)).length)).toArray) := fun ty sc =>
  run_copy_row_k (W1.setRow N R1.toArray).drew 22 22 ty 33 N ((i + 1) * 6) (m - i) (G - (i + 1)) ⟨g, i * 6, none⟩ (m - i) sc R1.toArray 33 ((L.drop (i * 6)).take ((m - i) * 6)) 6 Try.underlying22 hsz hgN1 (by rw [hcl, hmin1])
   (fun j v hj => by
    rw [Addr.add_lit]
    have h2 : L[i * 6 + j]? = some v := by
     rw [List.getElem?_take] at hj
     split at hj
     ·rwa [List.getElem?_drop] at hj
     ·cases hj
    rw [hBW1.cell (p := ⟨g, i * 6 + j, none⟩) hglt]
    simp [World.cell?, hg, h2])
   (by rw [hcl]; simp only [List.size_toArray]; omega) (fun v hv => h1 v (List.mem_of_mem_drop (by rw [List.drop_take]; rwa [← Nat.sub_mul])))
 obtain ⟨R2, hR2⟩ : ∃ R2, R2 = R1.take ((i + 1) * 6) ++ (L.drop (i * 6)).take ((m - i) * 6) ++ R1.drop ((i + 1) * 6 + ((L.drop (i * 6)).take ((m - i) * 6)).length) := ⟨_, rfl⟩
 rw [← hR2] at hcp2
 have hR2l : R2.length = G * 6 := by rw [hR2]; simp only [List.length_append, List.length_take, List.length_drop]; omega
 have hR2t : R2.take ((m + 1) * 6) = L.take (i * 6) ++ vs ++ (L.drop (i * 6)).take ((m - i) * 6) := by
  have e1 : R1.take ((i + 1) * 6) = L.take (i * 6) ++ vs := by
   rw [hR1, hR0t, List.take_append_of_le_length (by simp only [List.length_append, List.length_take]; omega), List.take_of_length_le (by simp only [List.length_append, List.length_take]; omega)]
  rw [hR2, e1, List.take_append_of_le_length (by simp only [List.length_append, List.length_take, List.length_drop]; omega), List.take_of_length_le (by simp only [List.length_append, List.length_take, List.length_drop]; omega)]
 have hgN2 : ((W1.setRow N R1.toArray).drew.setRow N R2.toArray).heap[N]? = some (.cells R2.toArray 33 (0, 0)) := setRow_heap _ N R1.toArray _ 33 (0, 0) hgN1
 have hBW2 : Below N w ((W1.setRow N R1.toArray).drew.setRow N R2.toArray) := below_setRow hBW1 (Nat.le_refl N) R2.toArray
 have H0 := Aside0.mk hrz
 have H1 := Aside0.mk hcp1
 have H2 := Aside0.mk hcp2
 have FIN := Aside0.mk (show ((W1.setRow N R1.toArray).drew.setRow N R2.toArray).heap[N]? = some (.cells R2.toArray 33 (0, 0)) ∧ Below N w ((W1.setRow N R1.toArray).drew.setRow N R2.toArray) ∧ R2.length = G * 6 ∧ R2.take ((m + 1) * 6) = L.take (i * 6) ++ vs ++ (L.drop (i * 6)).take ((m - i) * 6) from ⟨hgN2, hBW2, hR2l, hR2t⟩)
 have HW := Aside0.mk hW1
 clear hrz hcp1 hcp2 hgN2 hBW2 hR2l hR2t hR2 hgN1 hBW1 hR1 hR1l hgN hBW hW1 hW1' hR0l hR0t hcl hmin1 hmin2 hg hL hvs hv hkk hik
 have hw1 : IntKind.i64.wrap ((m : Int) + 1) = (m : Int) + 1 := by rw [IntKind.wrap_i64]; unfold maxLen at hG63; omega
 have hw2 : IntKind.i64.wrap ((i : Int) + 1) = (i : Int) + 1 := by rw [IntKind.wrap_i64]; unfold maxLen at hG63; omega
 have hw3 : IntKind.i64.wrap ((m : Int) + 1 - (i : Int)) = (m : Int) + 1 - (i : Int) := by rw [IntKind.wrap_i64]; unfold maxLen at hG63; omega
 have hb1 : (0 : Int) ≤ (i : Int) + 1 := by omega
 have hz2 : ((i : Int) == (m : Int)) = false := by simp; omega
 have hz3 : decide ((m : Int) < (m : Int) + 1) = true := decide_eq_true (by omega)
 have hin : i ≤ m := by omega
 have hic : i ≤ G := by omega
 have him : i + 1 ≤ m + 1 := by omega
 have hb3 : (i : Int) ≤ (m : Int) + 1 := by omega
 have htn : ((i : Int) + 1).toNat = i + 1 := by omega
 have hb2 : ¬ (G = i + 1) := by omega
 have hb4 : ¬ (G = i) := by omega
 have hb5 : ¬ (m = i) := by omega
 go_enter Try.func30, Try.ntmps30
 go_wp2_with (first | ((with_reducible refine gate_builtin (b := .append) (xs := #[.tmp 34, .tmp 39]) rfl ?_); at_builtin; refine Lib.wpList_append_run _ rfl (.tmp 34) (.tmp 39) _ _ rfl _ _ rfl rfl _ _ (H0.out _) ?_; rw [← HW.out]) | ((with_reducible refine gate_builtin (b := .copy) (xs := #[.tmp 43, .tmp 44]) rfl ?_); refine wpList_copy_run _ rfl (.tmp 43) (.tmp 44) 22 22 rfl _ _ rfl rfl (H1.out _) ?_))
 go_region_law (refine step_copy_run rfl _ _ 22 22 rfl (.slice (some ⟨N, (i + 1) * 6, none⟩) (m - i) (G - (i + 1))) (.slice (some ⟨g, i * 6, none⟩) (m - i) (m - i)) (by simp [Act.eval, Act.put]) (by simp [Act.eval, Act.put]) (H2.out _ _) ?_)
 go_wp2
 go_ret
 exact ⟨G, R2, rfl, hGn, hG63, FIN.out.2.2.1, FIN.out.2.2.2, FIN.out.1, FIN.out.2.1⟩
def api_Row_30.f (l0 : List S33) (a1 : Int) (l2 : List S33) : Option (List S33) := if l2.length = 1 ∧ 0 ≤ a1 ∧ a1 ≤ l0.length ∧ (l0.length + 1) * 56 ≤ 140737488355328 then some (l0.take a1.toNat ++ (l2 ++ l0.drop a1.toNat)) else none
theorem api_Row_30_rep {w w' : World} {b b' : Nat} {ok ok' : Nat → Prop} {x : S33} {cs : List Value} (h : k33.M w b ok x cs) : k33.M w' b' ok' x cs := by
 rw [k33_openM h]
 exact k33_mkM _ _ _ _
set_option maxHeartbeats 4000000 in
set_option maxRecDepth 100000 in
theorem api_Row_30.calls (P0_ : Nat → Prop) (u9000_ : Value) (l0 : List S33) (a1 : Int) (A2 : Option Addr) (c2 : Nat) (l2 : List S33) (r : List S33) (w0 w : World) (hB : Below w0.heap.size w0 w) (ho0 : Kd.R k33 33 w w0.heap.size P0_ u9000_ l0) (hr2 : ∀ W_, Kept w W_ (fun k_ => P0_ k_) → Kd.C k33 W_ A2 l2.length l2) (hc2 : l2.length ≤ c2) (h : api_Row_30.f l0 a1 l2 = some r) :
  Calls Try.prog 30 #[u9000_, .int .i64 a1, .slice A2 l2.length c2] w fun e w' => ∃ v0_ : Value, e = .returned (v0_) ∧ Kd.R k33 33 w' w0.heap.size (fun k_ => (P0_ k_ ∨ w.heap.size ≤ k_)) v0_ r ∧ Below w0.heap.size w0 w' ∧ Kept w w' (fun k_ => P0_ k_) := by
 have hu33 := Try.underlying33
 unfold api_Row_30.f at h
 split at h
 case isFalse => cases h
 rename_i hh
 obtain ⟨hl2, h0, h1, hbig⟩ := hh
 obtain rfl := Option.some.inj h
 clear h
 obtain ⟨i, rfl⟩ := Int.eq_ofNat_of_zero_le h0
 rw [Int.toNat_natCast]
 have hi : i ≤ l0.length := by omega
 have hC := hr2 w (Kept.refl _ _)
 obtain ⟨ad, vs, hA, hvl, hvk, hvc⟩ := Kd.C_get hC z33 0 (by omega) (by omega)
 subst hA
 have hvl6 : vs.length = 6 := hvl
 have hvs : ∀ j u, vs[j]? = some u → w.cell? (ad.add j) = some u := fun j u hj => by simpa using hvc j u hj
 obtain ⟨hok, inner, hown, hrep⟩ := ho0
 have hinl : inner.length = l0.length * 6 := hown.1
 have hl63 : l0.length ≤ 140737488355328 := by omega
 by_cases he : i = l0.length
 ·subst he
  have hrr : Kd.R k33 33 w w0.heap.size P0_ u9000_ l0 := ⟨hok, inner, hown, hrep⟩
  have HO := Aside0.mk (Kd.R_mono (ok' := fun k_ => (P0_ k_ ∨ w.heap.size ≤ k_)) hrr (fun _ hk => .inl hk))
  have HC := Aside0.mk hC
  have HBB := Aside0.mk hB
  have HOK := Aside0.mk hok
  have HL := Aside0.mk (show (l0.length + l2.length) * 56 ≤ 140737488355328 by rw [hl2]; exact hbig)
  have hvv : u9000_ = .slice none 0 0 ∧ l0.length = 0 ∨ ∃ g cap, u9000_ = .slice (some ⟨g, 0, none⟩) l0.length cap ∧ l0.length ≤ cap := by
   rcases hown.2 with h | ⟨g, cap, cur, h, _, _, h3, _⟩
   ·exact .inl h
   ·exact .inr ⟨g, cap, h, h3⟩
  have hz1 : ((l2.length : Int) == 0) = false := by rw [hl2]; rfl
  have E : l0.take l0.length ++ (l2 ++ l0.drop l0.length) = l0 ++ l2 := by simp
  rw [E]
  clear E hr2 hC hvc hvs hvk hvl hvl6 hrep hown hinl hrr hB hok
  rcases hvv with ⟨rfl, hz⟩ | ⟨g, cap, rfl, hnc⟩
  ·rw [hz]
   have HZ := Aside0.mk hz
   clear hz
   go_enter Try.func30, Try.ntmps30
   go_wp2_with ((with_reducible refine gate_builtin (b := .append) (xs := #[.tmp 23, .tmp 24]) rfl ?_); at_builtin; refine Kd.R_append_rows k33 (w0 := w0) w0.heap.size rfl (.tmp 23) (.tmp 24) 22 33 (Value.agg #[(.string ⟨#[]⟩), (.int .i64 0), (.int .i64 0), (.int .i64 0), (.int .i64 0), (.int .i64 0)]) 56 rfl Try.underlying22 info33 rfl (by decide) (by omega) (.slice none 0 0) l0 l2 _ _ _ (fun k_ => (P0_ k_ ∨ w.heap.size ≤ k_)) (fun _ => False) rfl rfl ?aO ?aR (fun _ _ h => h) (fun _ h => h.elim) ?aF ?aB ?aS ?aL ?_; (case aO => exact HO.out); (case aR => exact HC.out); (case aF => exact fun _ h => .inr h); (case aB => exact HBB.out); (case aS => exact HBB.out.size); (case aL => exact HL.out); intro v2 w2 ho2 hb2 hg2 _; have HO2 := Aside0.mk ho2; have HB2 := Aside0.mk hb2; have HG2 := Aside0.mk hg2; clear ho2 hb2 hg2)
   go_ret
   exact ⟨_, rfl, HO2.out, HB2.out, Kept.of_grown HG2.out (Kept.refl _ _) (fun k hk => by simp [Value.ownBlock] at hk)⟩
  ·by_cases hcn : cap = l0.length
   all_goals
    go_enter Try.func30, Try.ntmps30
    go_wp2_with ((with_reducible refine gate_builtin (b := .append) (xs := #[.tmp 23, .tmp 24]) rfl ?_); at_builtin; refine Kd.R_append_rows k33 (w0 := w0) w0.heap.size rfl (.tmp 23) (.tmp 24) 22 33 (Value.agg #[(.string ⟨#[]⟩), (.int .i64 0), (.int .i64 0), (.int .i64 0), (.int .i64 0), (.int .i64 0)]) 56 rfl Try.underlying22 info33 rfl (by decide) (by omega) (.slice (some ⟨g, 0, none⟩) l0.length cap) l0 l2 _ _ _ (fun k_ => (P0_ k_ ∨ w.heap.size ≤ k_)) (fun _ => False) rfl rfl ?aO ?aR (fun _ _ h => h) (fun _ h => h.elim) ?aF ?aB ?aS ?aL ?_; (case aO => exact HO.out); (case aR => exact HC.out); (case aF => exact fun _ h => .inr h); (case aB => exact HBB.out); (case aS => exact HBB.out.size); (case aL => exact HL.out); intro v2 w2 ho2 hb2 hg2 _; have HO2 := Aside0.mk ho2; have HB2 := Aside0.mk hb2; have HG2 := Aside0.mk hg2; clear ho2 hb2 hg2)
    go_ret
    exact ⟨_, rfl, HO2.out, HB2.out, Kept.of_grown HG2.out (Kept.refl _ _) (fun k hk => .inl (HOK.out k hk))⟩
 ·have hil : i < l0.length := by omega
  rcases hown.2 with ⟨_, hz⟩ | ⟨g, cap, cur, rfl, hgb, hg, hnc, hcm, hcs, hct⟩
  ·omega
  replace hcs : cur.size = cap * 6 := hcs
  replace hct : cur.toList.take (l0.length * 6) = inner := hct
  have hPg : P0_ g := hok g (by simp [Value.ownBlock])
  have hglt : g < w.heap.size := (Array.getElem?_eq_some_iff.1 hg).1
  have hne : ad.block ≠ g := by
   intro e
   have hk : Kept w (w.setRow g #[]) (fun k_ => P0_ k_) := ⟨by simp [World.setRow], fun j hj hn => setRow_other w g j #[] (fun e2 => hn (by rw [e2]; exact hPg))⟩
   obtain ⟨ad', c', ha', hl', _, hc'⟩ := Kd.C_get (hr2 _ hk) z33 0 (by omega) (by omega)
   cases ha'
   have h3 := hc' 0 (c'[0]'(by rw [hl']; decide)) (List.getElem?_eq_getElem _)
   have h4 : (w.setRow g #[]).heap[ad.block]? = some (.cells #[] 33 (0, 0)) := by rw [e]; exact setRow_heap w g cur #[] 33 (0, 0) hg
   have h5 : (ad.add (Int.toNat 0 * (Kd.sz k33) + 0)) = ad := by rfl
   rw [h5] at h3
   simp [World.cell?, h4] at h3
  have hg' : w.heap[g]? = some (.cells cur.toList.toArray 33 (0, 0)) := by simpa using hg
  have hL : cur.toList.length = cap * 6 := by simpa using hcs
  have hone : ∀ v ∈ cur.toList.take (l0.length * 6), v.oneCell' = true := by
   rw [hct]
   exact reps_cells_one hrep (by decide) (fun p c hp => k33.K_one (k33.K_of_M hp))
  have hone1 : ∀ v ∈ vs, v.oneCell' = true := k33.K_one hvk
  have ht1 : cur.toList.take (i * 6) = inner.take (i * 6) := by
   rw [← hct, List.take_take, Nat.min_eq_left (Nat.mul_le_mul_right _ (by omega))]
  have ht2 : (cur.toList.drop (i * 6)).take ((l0.length - i) * 6) = inner.drop (i * 6) := by
   rw [← hct, List.drop_take]
   congr 1
   show _ = l0.length * 6 - i * 6
   rw [Nat.sub_mul]
  have hl1 : l2 = [l2.getD (Int.toNat 0) z33] := by
   match l2, hl2 with
   | [x], _ => rfl
  have hrepf : ∀ W b ok, Reps (k33.M W b ok) (Kd.sz k33) (l0.take i ++ (l2 ++ l0.drop i)) (inner.take (i * 6) ++ vs ++ inner.drop (i * 6)) := by
   intro W b ok
   have r1 : Reps (k33.M W b ok) (Kd.sz k33) (l0.take i) (inner.take (i * 6)) := (Kd.reps_take hrep hi).imp_ (fun _ _ h => api_Row_30_rep h)
   have r3 : Reps (k33.M W b ok) (Kd.sz k33) (l0.drop i) (inner.drop (i * 6)) := (Kd.reps_drop hrep).imp_ (fun _ _ h => api_Row_30_rep h)
   have r2 : Reps (k33.M W b ok) (Kd.sz k33) l2 vs := by
    rw [hl1]
    have := Reps.snoc (Reps.none (k33.M W b ok) (Kd.sz k33)) (p := l2.getD (Int.toNat 0) z33) (c := vs) (by rw [k33_open hvk]; exact k33_mkM _ _ _ _) hvl
    simpa using this
   rw [List.append_assoc]
   exact Kd.reps_append r1 (Kd.reps_append r2 r3)
  have hfl : (inner.take (i * 6) ++ vs ++ inner.drop (i * 6)).length = (l0.length + 1) * 6 := by
   simp only [List.length_append, List.length_take, List.length_drop, hvl6, hinl]
   omega
  have hrl : (l0.take i ++ (l2 ++ l0.drop i)).length = l0.length + 1 := by
   simp only [List.length_append, List.length_take, List.length_drop, hl2]
   omega
  by_cases hroom : l0.length + 1 ≤ cap
  ·rw [hl2]
   refine (api_Row_30_shift g l0.length cap i c2 cur.toList vs ad w hil hroom (by unfold maxLen at hcm; exact hcm) hg' hL hvl6 hvs hne hone hone1).mono ?_
   rintro e w' ⟨rfl, q, rfl⟩
   rw [ht1, ht2]
   refine ⟨_, rfl, ⟨fun k hk => ?_, inner.take (i * 6) ++ vs ++ inner.drop (i * 6), ⟨by rw [hrl]; exact hfl, .inr ⟨g, cap, (inner.take (i * 6) ++ vs ++ inner.drop (i * 6) ++ cur.toList.drop ((l0.length + 1) * 6)).toArray, by rw [hrl], hgb, setRow_heap (w.drewN q) g cur _ 33 (0, 0) hg, by rw [hrl]; exact hroom, hcm, ?_, ?_⟩⟩, hrepf _ _ _⟩, below_setRow (pw_below_drewN hB q) hgb _, ?_⟩
   ·have : g = k := by simpa [Value.ownBlock] using hk
    subst this
    exact .inl hPg
   ·simp only [List.size_toArray, List.length_append, List.length_drop, List.length_take, hvl6, hinl, hL]
    show _ = cap * 6
    omega
   ·show List.take ((l0.take i ++ (l2 ++ l0.drop i)).length * 6) (inner.take (i * 6) ++ vs ++ inner.drop (i * 6) ++ cur.toList.drop ((l0.length + 1) * 6)) = _
    rw [hrl, ← hfl]
    exact List.take_left
   ·exact ⟨by simp [World.setRow], fun j hj hn => (setRow_other _ g j _ (fun e2 => hn (by rw [e2]; exact hPg)))⟩
  ·have hcl : cap = l0.length := by omega
   subst hcl
   rw [hl2]
   refine (api_Row_30_grow g l0.length i c2 cur.toList vs ad w hil hbig hg' hL hvl6 hvs hone hone1).mono ?_
   rintro e w' ⟨cap', R, rfl, hc1, hc2', hRl, hRt, hgN, hbN⟩
   rw [ht1, ht2] at hRt
   refine ⟨_, rfl, ⟨fun k hk => ?_, inner.take (i * 6) ++ vs ++ inner.drop (i * 6), ⟨by rw [hrl]; exact hfl, .inr ⟨w.heap.size, cap', R.toArray, by rw [hrl], hB.size, hgN, by rw [hrl]; exact hc1, hc2', (show R.toArray.size = cap' * 6 by simpa using hRl), ?_⟩⟩, hrepf _ _ _⟩, below_then hB hB.size hbN, Kept.of_below hbN _⟩
   ·have : w.heap.size = k := by simpa [Value.ownBlock] using hk
    subst this
    exact .inr (Nat.le_refl _)
   ·show List.take (_ * 6) _ = _
    rw [hrl]
    simpa using hRt
end Go.Proofs.Ytliablhnkoghbaa.PStock
