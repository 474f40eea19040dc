import Derived.Test.YtliablhnkoghbaaPStockMovesx11
/- THE PLAIN LAW OF StockMoves: what the law's function computes is true. No program in sight. -/
namespace Go.Proofs.Ytliablhnkoghbaa.PStockMoves
open Go.RowKit Go.Proofs.YtliablhnkoghbaaH Go.Proofs.YtliablhnkoghbaaW.PrintWords Go.Proofs.YtliablhnkoghbaaW.PrintLast Go.Proofs.YtliablhnkoghbaaW.PrintMore
set_option linter.unusedVariables false
set_option linter.unusedSimpArgs false

theorem leO_le {α : Type} {f : Nat → Option α} (m : ∀ k, LeO (f k) (f (k + 1))) {a b : Nat} (h : a ≤ b) {r : α} (e : f a = some r) : f b = some r := by
  induction b with
  | zero => obtain rfl : a = 0 := by omega
            exact e
  | succ b ih =>
    by_cases hb : a = b + 1
    · subst hb; exact e
    · exact m b r (ih (by omega))

/-! ### few -/
def cut18 (s : ByteArray) : ByteArray := s.extract 0 (mn (s.size : Int) 18).toNat
def fewF (l : List S33) : List S33 := (l.take 10).map fun x => ⟨cut18 x.f0, x.f1, x.f2, x.f3, x.f4, x.f5⟩
theorem cut18_size (s : ByteArray) : (cut18 s).size ≤ 18 := by
  unfold cut18
  rw [ByteArray.size_extract]
  unfold mn
  split <;> omega
theorem few_l0 (l : List S33) (h : l.length ≤ 10) : ∀ d k i (acc : List S33), d + i = l.length → d < k → acc.length + d ≤ 1000 →
    tarrylaw08_few.l0 k acc l (l.length : Int) (i : Int) = some (acc ++ (l.drop i).map fun x => ⟨cut18 x.f0, x.f1, x.f2, x.f3, x.f4, x.f5⟩)
  | 0, k + 1, i, acc, hd, hk, ha => by
    unfold tarrylaw08_few.l0
    rw [if_neg (by omega), List.drop_eq_nil_of_le (by omega)]
    simp
  | d + 1, k + 1, i, acc, hd, hk, ha => by
    unfold tarrylaw08_few.l0
    have hi : i < l.length := by omega
    have e : rd_T33 l (i : Int) = l[i] := by
      unfold rd_T33
      simp [List.getD, hi]
    have e1 : wrap64 ((i : Int) + 1) = ((i + 1 : Nat) : Int) := by
      rw [show ((i + 1 : Nat) : Int) = (i : Int) + 1 from by omega]
      unfold wrap64; omega
    have e2 : (l.drop i).map (fun x : S33 => (⟨cut18 x.f0, x.f1, x.f2, x.f3, x.f4, x.f5⟩ : S33)) = ⟨cut18 l[i].f0, l[i].f1, l[i].f2, l[i].f3, l[i].f4, l[i].f5⟩ :: (l.drop (i + 1)).map (fun x : S33 => (⟨cut18 x.f0, x.f1, x.f2, x.f3, x.f4, x.f5⟩ : S33)) := by
      rw [List.drop_eq_getElem_cons hi, List.map_cons]
    have hm : 0 ≤ mn ((l[i].f0).size : Int) 18 ∧ mn ((l[i].f0).size : Int) 18 ≤ ((l[i].f0).size : Int) := by
      unfold mn
      split <;> omega
    rw [if_pos (by omega), if_pos (by omega), if_pos (by omega), e, if_pos hm.1, if_pos hm.2, if_pos (by omega), e1,
      few_l0 l h d k (i + 1) _ (by omega) (by omega) (by simp; omega), e2, List.append_assoc]
    rfl
theorem few_eq (l : List S33) (k : Nat) (hk : 11 ≤ k) : tarrylaw08_few.f k l = some (fewF l) := by
  unfold tarrylaw08_few.f
  have hm : 0 ≤ mn (l.length : Int) 10 ∧ mn (l.length : Int) 10 ≤ (l.length : Int) := by
    unfold mn
    split <;> omega
  have ht : l.take (mn (l.length : Int) 10).toNat = l.take 10 := by
    unfold mn
    split
    · rfl
    · rw [List.take_of_length_le (by omega), List.take_of_length_le (by omega)]
  rw [if_pos hm.1, if_pos hm.2, ht, Option.bind_some]
  have hl : (l.take 10).length ≤ 10 := by
    rw [List.length_take]
    omega
  have := few_l0 (l.take 10) hl (l.take 10).length k 0 [] (by omega) (by omega) (by rw [List.length_nil]; omega)
  rw [show (0 : Int) = ((0 : Nat) : Int) from rfl, this]
  simp [fewF]
theorem fewF_len (l : List S33) : (fewF l).length ≤ 10 := by
  unfold fewF
  simp
  omega
theorem fewF_small (l : List S33) : ∀ x ∈ fewF l, x.f0.size ≤ 18 := by
  intro x hx
  unfold fewF at hx
  rw [List.mem_map] at hx
  obtain ⟨y, _, rfl⟩ := hx
  exact cut18_size _

/-! ### the order of names -/
theorem bl_irrefl : ∀ x, Op.bytesLess x x = false
  | [] => rfl
  | a :: x => by simp [Op.bytesLess, bl_irrefl x]
theorem bl_trans : ∀ x y z, Op.bytesLess x y = true → Op.bytesLess y z = true → Op.bytesLess x z = true
  | _, [], _, h, _ => by simp [Op.bytesLess] at h
  | _, _ :: _, [], _, h => by simp [Op.bytesLess] at h
  | [], _ :: _, _ :: _, _, _ => by simp [Op.bytesLess]
  | a :: x, b :: y, c :: z, h1, h2 => by
    simp only [Op.bytesLess, Bool.or_eq_true, Bool.and_eq_true, decide_eq_true_eq, beq_iff_eq, UInt8.lt_iff_toNat_lt] at h1 h2 ⊢
    rcases h1 with h1 | ⟨rfl, h1⟩ <;> rcases h2 with h2 | ⟨rfl, h2⟩
    · exact Or.inl (by omega)
    · exact Or.inl h1
    · exact Or.inl h2
    · exact Or.inr ⟨rfl, bl_trans x y z h1 h2⟩
theorem bl_tri : ∀ x y, Op.bytesLess x y = false → Op.bytesLess y x = false → x = y
  | [], [], _, _ => rfl
  | [], _ :: _, h, _ => by simp [Op.bytesLess] at h
  | _ :: _, [], _, h => by simp [Op.bytesLess] at h
  | a :: x, b :: y, h1, h2 => by
    simp only [Op.bytesLess, Bool.or_eq_false_iff, decide_eq_false_iff_not, UInt8.lt_iff_toNat_lt] at h1 h2
    have he : a = b := UInt8.toNat_inj.1 (by omega)
    subst he
    have := bl_tri x y (by simpa using h1.2) (by simpa using h2.2)
    rw [this]
theorem cmp_lt : ∀ x y, Lib.compareBytes x y < 0 ↔ Op.bytesLess x y = true
  | [], [] => by simp [Lib.compareBytes, Op.bytesLess]
  | [], _ :: _ => by simp [Lib.compareBytes, Op.bytesLess]
  | _ :: _, [] => by simp [Lib.compareBytes, Op.bytesLess]
  | a :: x, b :: y => by
    simp only [Lib.compareBytes, Op.bytesLess, Bool.or_eq_true, Bool.and_eq_true, decide_eq_true_eq, beq_iff_eq]
    by_cases h1 : a < b
    · simp [h1]
    · by_cases h2 : b < a
      · have : ¬ a = b := by rintro rfl; exact h1 h2
        simp [h1, h2, this]
      · have : a = b := UInt8.toNat_inj.1 (by simp only [UInt8.lt_iff_toNat_lt] at h1 h2; omega)
        subst this
        simp [h1, cmp_lt x y]
theorem cmp_eq : ∀ x y, Lib.compareBytes x y = 0 ↔ x = y
  | [], [] => by simp [Lib.compareBytes]
  | [], _ :: _ => by simp [Lib.compareBytes]
  | _ :: _, [] => by simp [Lib.compareBytes]
  | a :: x, b :: y => by
    simp only [Lib.compareBytes, List.cons.injEq]
    by_cases h1 : a < b
    · have : ¬ a = b := by rintro rfl; exact UInt8.lt_irrefl a h1
      simp [h1, this]
    · by_cases h2 : b < a
      · have : ¬ a = b := by rintro rfl; exact h1 h2
        simp [h1, h2, this]
      · have : a = b := UInt8.toNat_inj.1 (by simp only [UInt8.lt_iff_toNat_lt] at h1 h2; omega)
        subst this
        simp [h1, cmp_eq x y]
theorem ba_ext {a b : ByteArray} (h : a.data.toList = b.data.toList) : a = b := ByteArray.ext (Array.ext' h)
theorem tl_inj {a b : ByteArray} (h : a.toList = b.toList) : a = b := by
  rw [ByteArray.toList_eq, ByteArray.toList_eq] at h
  exact ba_ext h
theorem tl_iff {a b : ByteArray} : a.toList = b.toList ↔ a = b := ⟨tl_inj, fun h => by rw [h]⟩
theorem cmpB_lt (a b : ByteArray) : cmpB a b < 0 ↔ Op.bytesLess a.toList b.toList = true := by
  unfold cmpB
  rw [ByteArray.toList_eq, ByteArray.toList_eq]
  exact cmp_lt _ _
theorem cmpB_eq (a b : ByteArray) : cmpB a b = 0 ↔ a = b := by
  unfold cmpB
  rw [cmp_eq]
  exact ⟨ba_ext, fun h => by rw [h]⟩

/-! ### rows that stand in order -/
theorem rd33 (l : List S33) (i : Nat) (h : i < l.length) : rd_T33 l (i : Int) = l[i] := by
  unfold rd_T33
  simp [List.getD, h]
theorem gd33 (l : List S33) (i : Nat) (h : i < l.length) : l.getD i z33 = l[i] := by
  simp [List.getD, h]
def asc (l : List S33) : Prop := ∀ i j, i < j → j < l.length → Op.bytesLess (l.getD i z33).f0.toList (l.getD j z33).f0.toList = true
theorem asc_of (l : List S33) (h : rightB l = true) : asc l := by
  intro i j hij hj
  induction j with
  | zero => omega
  | succ j ih =>
    have hr := rightB_row l h (j + 1) hj
    unfold rowUp at hr
    simp only [Bool.and_eq_true, Bool.or_eq_true, decide_eq_true_eq, Nat.add_one_ne_zero, false_or, Nat.add_sub_cancel] at hr
    by_cases e : i = j
    · subst e; exact hr.2
    · exact bl_trans _ _ _ (ih (by omega) (by omega)) hr.2
theorem rowAt_spec (l : List S33) (h : asc l) (s : ByteArray) : rowAt l s ≤ l.length ∧ (∀ t, t < rowAt l s → Op.bytesLess (l.getD t z33).f0.toList s.toList = true) ∧ (∀ t, rowAt l s ≤ t → t < l.length → Op.bytesLess (l.getD t z33).f0.toList s.toList = false) := by
  have := bsP_spec (fun x : S33 => cmpB x.f0 s) z33 l (by
    intro a b hab hb hlt
    simp only [cmpB_lt] at hlt ⊢
    by_cases e : a = b
    · subst e; exact hlt
    · exact bl_trans _ _ _ (h a b (by omega) hb) hlt) (l.length + 1) 0 l.length (by omega) (by omega) (by omega) (by omega) (by omega)
  simp only [cmpB_lt] at this
  refine ⟨this.1, this.2.1, fun t h1 h2 => ?_⟩
  have := this.2.2 t h1 h2
  simpa using this
theorem rowIs_iff (l : List S33) (s : ByteArray) : rowIs l s = true ↔ rowAt l s < l.length ∧ (l.getD (rowAt l s) z33).f0 = s := by
  unfold rowIs rowAt bsIs
  rw [Bool.and_eq_true, decide_eq_true_eq, decide_eq_true_eq, cmpB_eq]
theorem row_ne (l : List S33) (h : asc l) (s : ByteArray) (t : Nat) (ht : t < rowAt l s) : (l.getD t z33).f0.toList ≠ s.toList := by
  intro e
  have := (rowAt_spec l h s).2.1 t ht
  rw [e, bl_irrefl] at this
  cases this
theorem row_after (l : List S33) (h : asc l) (s : ByteArray) (t : Nat) (h1 : rowAt l s ≤ t) (h2 : t < l.length) (h3 : rowIs l s = false ∨ rowAt l s < t) : Op.bytesLess s.toList (l.getD t z33).f0.toList = true := by
  have hs := rowAt_spec l h s
  have hp : rowAt l s < l.length := by omega
  have key : rowIs l s = false → Op.bytesLess s.toList (l.getD (rowAt l s) z33).f0.toList = true := by
    intro hi
    cases hb : Op.bytesLess s.toList (l.getD (rowAt l s) z33).f0.toList with
    | true => rfl
    | false =>
      have e := bl_tri _ _ (hs.2.2 _ (Nat.le_refl _) hp) hb
      have := (rowIs_iff l s).2 ⟨hp, tl_inj e⟩
      rw [hi] at this
      cases this
  by_cases e : rowAt l s = t
  · subst e
    exact key (by rcases h3 with h3 | h3
                  · exact h3
                  · omega)
  · have ha := h (rowAt l s) t (by omega) h2
    cases hi : rowIs l s with
    | false => exact bl_trans _ _ _ (key hi) ha
    | true =>
      have := ((rowIs_iff l s).1 hi).2
      rw [this] at ha
      exact ha

/-! ### the reference's Get -/
abbrev tup (x : S33) : ByteArray × Int × Int × Int × Int × Int := (x.f0, x.f1, x.f2, x.f3, x.f4, x.f5)
theorem get_hit (s : ByteArray) (l : List S33) (hl : l.length ≤ 10) (p : Nat) (hp : p < l.length) (he : (l.getD p z33).f0.toList = s.toList) : ∀ d k i, d + i = p → d < k → (∀ t, i ≤ t → t < p → (l.getD t z33).f0.toList ≠ s.toList) →
    tarryref08_Get.l0 k s l (l.length : Int) (i : Int) = some (tup (l.getD p z33))
  | 0, k + 1, i, hd, hk, hn => by
    obtain rfl : i = p := by omega
    unfold tarryref08_Get.l0
    rw [if_pos (by omega), if_pos (by omega), if_pos (by omega), rd33 l i hp, ← gd33 l i hp, if_pos he]
  | d + 1, k + 1, i, hd, hk, hn => by
    have hi : i < l.length := by omega
    have e1 : wrap64 ((i : Int) + 1) = ((i + 1 : Nat) : Int) := by unfold wrap64; omega
    unfold tarryref08_Get.l0
    rw [if_pos (by omega), if_pos (by omega), if_pos (by omega), rd33 l i hi, ← gd33 l i hi, if_neg (hn i (by omega) (by omega)), e1]
    exact get_hit s l hl p hp he d k (i + 1) (by omega) (by omega) (fun t h1 h2 => hn t (by omega) h2)
theorem get_miss (s : ByteArray) (l : List S33) (hl : l.length ≤ 10) (hn : ∀ t, t < l.length → (l.getD t z33).f0.toList ≠ s.toList) : ∀ d k i, d + i = l.length → d < k →
    tarryref08_Get.l0 k s l (l.length : Int) (i : Int) = some (tup z33)
  | 0, k + 1, i, hd, hk => by
    unfold tarryref08_Get.l0
    rw [if_neg (by omega)]
    rfl
  | d + 1, k + 1, i, hd, hk => by
    have hi : i < l.length := by omega
    have e1 : wrap64 ((i : Int) + 1) = ((i + 1 : Nat) : Int) := by unfold wrap64; omega
    unfold tarryref08_Get.l0
    rw [if_pos (by omega), if_pos (by omega), if_pos (by omega), rd33 l i hi, ← gd33 l i hi, if_neg (hn i hi), e1]
    exact get_miss s l hl hn d k (i + 1) (by omega) (by omega)
/-- What the reference's Get finds. -/
def gotF (l : List S33) (s : ByteArray) : S33 := if rowIs l s = true then l.getD (rowAt l s) z33 else z33
theorem get_eq (l : List S33) (hl : l.length ≤ 10) (h : asc l) (s : ByteArray) (k : Nat) (hk : 11 ≤ k) : tarryref08_Get.f k l s = some (tup (gotF l s)) := by
  unfold tarryref08_Get.f gotF
  rw [show (0 : Int) = ((0 : Nat) : Int) from rfl]
  cases hi : rowIs l s with
  | true =>
    have := (rowIs_iff l s).1 hi
    rw [if_pos rfl]
    exact get_hit s l hl _ this.1 (by rw [this.2]) (rowAt l s) k 0 (by omega) (by omega) (fun t _ ht => row_ne l h s t ht)
  | false =>
    rw [if_neg (by simp)]
    refine get_miss s l hl (fun t ht => ?_) l.length k 0 (by omega) (by omega)
    by_cases hp : t < rowAt l s
    · exact row_ne l h s t hp
    · intro e
      have := row_after l h s t (by omega) ht (Or.inl hi)
      rw [e, bl_irrefl] at this
      cases this

/-! ### the reference's Set -/
def setL (r : S33) : Bool → List S33 → List S33
  | true, [] => []
  | false, [] => [r]
  | true, x :: t => if x.f0 = r.f0 then setL r true t else x :: setL r true t
  | false, x :: t => if Op.bytesLess x.f0.toList r.f0.toList = true then (if x.f0 = r.f0 then setL r false t else x :: setL r false t) else r :: (if x.f0 = r.f0 then setL r true t else x :: setL r true t)
theorem less_at (a b : ByteArray) (ha : a.size ≤ 18) (k : Nat) (hk : 38 ≤ k) : tarryref07_Less.f k a b = some (Op.bytesLess a.toList b.toList) :=
  leO_le (fun k => tarryref07_Less.mono a b k) (by omega) (ref_Less_eq a b (by omega))
theorem set_l0 (r : S33) (l : List S33) (hl : l.length ≤ 10) (hs : ∀ x ∈ l, x.f0.size ≤ 18) : ∀ d k i (b : Bool) (acc : List S33), d + i = l.length → 2 * d + 40 < k → acc.length + 2 * d ≤ 1000 →
    tarryref08_Set.l0 k acc b l (l.length : Int) (i : Int) r.f0 r.f1 r.f2 r.f3 r.f4 r.f5 = some (acc ++ setL r b (l.drop i))
  | 0, k + 1, i, b, acc, hd, hk, ha => by
    unfold tarryref08_Set.l0
    rw [if_neg (by omega), List.drop_eq_nil_of_le (by omega)]
    cases b with
    | true => simp [setL]
    | false =>
      rw [if_neg (by simp), if_pos (by omega)]
      simp [setL]
  | d + 1, 0, i, b, acc, hd, hk, ha => by omega
  | d + 1, 1, i, b, acc, hd, hk, ha => by omega
  | d + 1, k + 2, i, b, acc, hd, hk, ha => by
    have hi : i < l.length := by omega
    have e1 : wrap64 ((i : Int) + 1) = ((i + 1 : Nat) : Int) := by unfold wrap64; omega
    have IH := fun b acc => set_l0 r l hl hs d k (i + 1) b acc (by omega) (by omega)
    unfold tarryref08_Set.l0
    rw [if_pos (by omega), if_pos (by omega), if_pos (by omega), rd33 l i hi, List.drop_eq_getElem_cons hi]
    have hsz := hs l[i] (List.getElem_mem hi)
    generalize l[i] = x at hsz
    cases b with
    | true =>
      rw [if_pos rfl]
      unfold tarryref08_Set.j1
      rw [if_neg (by simp)]
      simp only [setL]
      by_cases he : x.f0 = r.f0
      · rw [if_pos (tl_iff.2 he), if_pos he, e1, IH _ _ (by omega)]
      · rw [if_neg (fun h => he (tl_iff.1 h)), if_neg he, if_pos (by omega), e1, IH _ _ (by simp; omega)]
        simp
    | false =>
      rw [if_neg (by simp), less_at _ _ hsz _ (by omega), Option.bind_some]
      unfold tarryref08_Set.j1
      simp only [setL]
      by_cases hb : Op.bytesLess x.f0.toList r.f0.toList = true
      · rw [hb, if_pos (show (true : Bool) = true from rfl), if_neg (show ¬ ((!true) = true) by simp)]
        by_cases he : x.f0 = r.f0
        · rw [if_pos (tl_iff.2 he), if_pos he, e1, IH _ _ (by omega)]
        · rw [if_neg (fun h => he (tl_iff.1 h)), if_neg he, if_pos (by omega), e1, IH _ _ (by simp; omega)]
          simp
      · have hb' : Op.bytesLess x.f0.toList r.f0.toList = false := by simpa using hb
        rw [hb', if_neg (show ¬ ((false : Bool) = true) by simp), if_pos (show (!false) = true from rfl), if_pos (by omega), Option.bind_some]
        by_cases he : x.f0 = r.f0
        · rw [if_pos (tl_iff.2 he), if_pos he, e1, IH _ _ (by simp; omega)]
          simp
        · rw [if_neg (fun h => he (tl_iff.1 h)), if_neg he, if_pos (by simp; omega), e1, IH _ _ (by simp; omega)]
          simp
theorem set_eq (r : S33) (l : List S33) (hl : l.length ≤ 10) (hs : ∀ x ∈ l, x.f0.size ≤ 18) (k : Nat) (hk : 100 ≤ k) : tarryref08_Set.f k l r.f0 r.f1 r.f2 r.f3 r.f4 r.f5 = some (setL r false l) := by
  unfold tarryref08_Set.f
  have := set_l0 r l hl hs l.length k 0 false [] (by omega) (by omega) (by simp; omega)
  rw [show (0 : Int) = ((0 : Nat) : Int) from rfl, this]
  simp
theorem bl_ne {x y : ByteArray} (h : Op.bytesLess x.toList y.toList = true) : ¬ x = y := by
  rintro rfl
  rw [bl_irrefl] at h
  cases h
theorem bl_not {x y : ByteArray} (h : Op.bytesLess x.toList y.toList = true) : ¬ Op.bytesLess y.toList x.toList = true := by
  intro k
  have := bl_trans _ _ _ h k
  rw [bl_irrefl] at this
  cases this
theorem setL_true (r : S33) : ∀ l : List S33, (∀ x ∈ l, Op.bytesLess r.f0.toList x.f0.toList = true) → setL r true l = l
  | [], _ => rfl
  | x :: t, h => by
    simp only [setL]
    rw [if_neg (fun e => bl_ne (h x (by simp)) e.symm), setL_true r t (fun y hy => h y (by simp [hy]))]
theorem setL_miss (r : S33) : ∀ (l : List S33) (p : Nat), p ≤ l.length → (∀ t, t < p → Op.bytesLess (l.getD t z33).f0.toList r.f0.toList = true) → (∀ x ∈ l.drop p, Op.bytesLess r.f0.toList x.f0.toList = true) →
    setL r false l = l.take p ++ r :: l.drop p
  | [], p, hp, _, _ => by
    obtain rfl : p = 0 := by simpa using hp
    rfl
  | x :: t, 0, hp, h1, h2 => by
    have hx := h2 x (by simp)
    simp only [setL]
    rw [if_neg (bl_not hx), if_neg (fun e => bl_ne hx e.symm), setL_true r t (fun y hy => h2 y (by simp [hy]))]
    rfl
  | x :: t, p + 1, hp, h1, h2 => by
    have hx : Op.bytesLess x.f0.toList r.f0.toList = true := h1 0 (by omega)
    simp only [setL]
    rw [if_pos hx, if_neg (bl_ne hx), setL_miss r t p (by simpa using hp) (fun s hs => h1 (s + 1) (by omega)) (by simpa using h2)]
    rfl
theorem setL_hit (r : S33) : ∀ (l : List S33) (p : Nat), p < l.length → (∀ t, t < p → Op.bytesLess (l.getD t z33).f0.toList r.f0.toList = true) → (l.getD p z33).f0 = r.f0 → (∀ x ∈ l.drop (p + 1), Op.bytesLess r.f0.toList x.f0.toList = true) →
    setL r false l = l.set p r
  | [], p, hp, _, _, _ => by simp at hp
  | x :: t, 0, hp, h1, he, h2 => by
    have hx : x.f0 = r.f0 := he
    simp only [setL]
    rw [hx, bl_irrefl, if_neg (by simp), if_pos rfl, setL_true r t (by simpa using h2)]
    rfl
  | x :: t, p + 1, hp, h1, he, h2 => by
    have hx : Op.bytesLess x.f0.toList r.f0.toList = true := h1 0 (by omega)
    simp only [setL]
    rw [if_pos hx, if_neg (bl_ne hx), setL_hit r t p (by simpa using hp) (fun s hs => h1 (s + 1) (by omega)) he (by simpa using h2)]
    rfl
theorem drop_mem (l : List S33) (p : Nat) (Q : S33 → Prop) (h : ∀ t, p ≤ t → t < l.length → Q (l.getD t z33)) : ∀ x ∈ l.drop p, Q x := by
  intro x hx
  obtain ⟨i, hi, rfl⟩ := List.mem_iff_getElem.1 hx
  rw [List.length_drop] at hi
  have := h (p + i) (by omega) (by omega)
  rw [gd33 l _ (by omega)] at this
  rw [List.getElem_drop]
  exact this
theorem set_found (l : List S33) (h : asc l) (r : S33) (hi : rowIs l r.f0 = true) : setL r false l = l.set (rowAt l r.f0) r := by
  have hq := (rowIs_iff l r.f0).1 hi
  exact setL_hit r l _ hq.1 (rowAt_spec l h r.f0).2.1 hq.2 (drop_mem l _ _ (fun t h1 h2 => row_after l h r.f0 t (by omega) h2 (Or.inr (by omega))))
theorem set_new (l : List S33) (h : asc l) (r : S33) (hi : rowIs l r.f0 = false) : setL r false l = l.take (rowAt l r.f0) ++ r :: l.drop (rowAt l r.f0) :=
  setL_miss r l _ (rowAt_spec l h r.f0).1 (rowAt_spec l h r.f0).2.1 (drop_mem l _ _ (fun t h1 h2 => row_after l h r.f0 t h1 h2 (Or.inl hi)))

/-! ### Same, alive -/
theorem same_l0 (l : List S33) (hl : l.length ≤ 20) : ∀ d k i, d + i = l.length → d < k → tarryref08_Same.l0 k l l (l.length : Int) (i : Int) = some true
  | 0, k + 1, i, hd, hk => by
    unfold tarryref08_Same.l0
    rw [if_neg (by omega)]
  | d + 1, k + 1, i, hd, hk => by
    have e1 : wrap64 ((i : Int) + 1) = ((i + 1 : Nat) : Int) := by unfold wrap64; omega
    unfold tarryref08_Same.l0
    rw [if_pos (by omega), if_pos (by omega), if_pos (by omega), if_pos (by omega), if_neg (by simp), e1]
    exact same_l0 l hl d k (i + 1) (by omega) (by omega)
theorem same_eq (l : List S33) (hl : l.length ≤ 20) (k : Nat) (hk : 30 ≤ k) : tarryref08_Same.f k l l = some true := by
  unfold tarryref08_Same.f
  rw [if_pos rfl]
  exact same_l0 l hl l.length k 0 (by omega) (by omega)
theorem alive_1 : tarrylaw08_alive.f 1 = some true := by kernel_rfl
theorem alive_eq (k : Nat) (hk : 1 ≤ k) : tarrylaw08_alive.f k = some true := leO_le (fun k => tarrylaw08_alive.mono k) hk alive_1
end Go.Proofs.Ytliablhnkoghbaa.PStockMoves
