/- Plain laws: the reference's Equal tells whether two trees are equal. -/
import Derived.Test.YtnimhdhnjfoalaaGreatDoorAx10
import Derived.Test.YtnimhdhnjfoalaaGreatDoorPl1
namespace Go.Proofs.YtnimhdhnjfoalaaGreatDoor.A
open Go.RowKit Go.Proofs.YtnimhdhnjfoalaaGreatDoorW.PrintWords Go.Proofs.YtnimhdhnjfoalaaGreatDoorW.PrintLast Go.Proofs.YtnimhdhnjfoalaaGreatDoorW.PrintMore
set_option linter.unusedVariables false

theorem bytes_ext {s t : ByteArray} (h : s.toList = t.toList) : s = t := by
  rw [ByteArray.toList_eq, ByteArray.toList_eq] at h
  obtain ⟨⟨l⟩⟩ := s
  obtain ⟨⟨m⟩⟩ := t
  have : l = m := h
  rw [this]
theorem node_ext {x y : S26} (e0 : x.f0 = y.f0) (e1 : x.f1 = y.f1) (e2 : x.f2 = y.f2) (e3 : x.f3 = y.f3) : x = y := by
  obtain ⟨a0, a1, a2, a3⟩ := x
  obtain ⟨b0, b1, b2, b3⟩ := y
  simp only at e0 e1 e2 e3
  subst e0 e1 e2 e3
  rfl
noncomputable def eqT (x y : S26) : Bool := @decide (x = y) (Classical.propDecidable _)
noncomputable def eqL (a b : List S26) : Bool := @decide (a = b) (Classical.propDecidable _)
theorem eqT_iff {x y : S26} : eqT x y = true ↔ x = y := by
  unfold eqT; exact @decide_eq_true_iff _ (Classical.propDecidable _)
theorem eqL_iff {x y : List S26} : eqL x y = true ↔ x = y := by
  unfold eqL; exact @decide_eq_true_iff _ (Classical.propDecidable _)
theorem eqL_nil : eqL [] [] = true := eqL_iff.2 rfl
theorem eqL_cons (x y : S26) (a b : List S26) : eqL (x :: a) (y :: b) = (eqT x y && eqL a b) := by
  rw [Bool.eq_iff_iff, Bool.and_eq_true, eqL_iff, eqT_iff, eqL_iff, List.cons.injEq]
theorem eqT_mk (x y : S26) : eqT x y = (decide (x.f0 = y.f0) && (decide (x.f1.toList = y.f1.toList) && (decide (x.f2 = y.f2) && eqL x.f3 y.f3))) := by
  rw [Bool.eq_iff_iff, eqT_iff]
  simp only [Bool.and_eq_true, decide_eq_true_eq, eqL_iff]
  constructor
  · rintro rfl; exact ⟨rfl, rfl, rfl, rfl⟩
  · rintro ⟨e0, e1, e2, e3⟩
    exact node_ext e0 (bytes_ext e1) e2 e3
theorem eqL_len {a b : List S26} (h : a.length ≠ b.length) : eqL a b = false := by
  rw [Bool.eq_false_iff]
  intro g
  rw [eqL_iff] at g
  exact h (by rw [g])
theorem same_loop (a b : List S26) (hl : a.length = b.length) (hb : a.length ≤ 1000000)
    (ih : ∀ x, x ∈ a → ∀ y, Ev (fun k => vinculumref09_Equal.f k x.f0 x.f1 x.f2 x.f3 y.f0 y.f1 y.f2 y.f3) (eqT x y)) :
    ∀ (d j : Nat), a.length - j = d → j ≤ a.length → Ev (fun k => vinculumref09_SameItems.l0 k a b (j : Int)) (eqL (a.drop j) (b.drop j)) := by
  intro d
  induction d with
  | zero =>
    intro j hd hj
    obtain rfl : j = a.length := by omega
    refine Ev.step (f := fun _ => some true) (fun k => by rw [vinculumref09_SameItems.l0, if_neg (by omega)]) ?_
    rw [List.drop_length, hl, List.drop_length, eqL_nil]
    exact Ev.now _
  | succ d ihd =>
    intro j hd hj
    have h1 : j < a.length := by omega
    have h2 : j < b.length := by omega
    rw [drop_at h1, drop_at h2, eqL_cons]
    apply Ev.step
    · intro k; rw [vinculumref09_SameItems.l0, if_pos (by omega), if_pos (by omega), if_pos (by omega), rd_at h1, rd_at h2]
    refine Ev.bind (ih _ (List.getElem_mem h1) _) ?_
    cases eqT a[j] b[j] with
    | false => exact Ev.congr (fun k => if_neg Bool.false_ne_true) (Ev.now _)
    | true =>
      refine Ev.congr (fun k => if_pos rfl) ?_
      rw [wrap64_id (by omega) (by omega)]
      have := ihd (j + 1) (by omega) (by omega)
      simpa using this
theorem same_ev (a b : List S26) (hb : a.length ≤ 1000000)
    (ih : ∀ x, x ∈ a → ∀ y, Ev (fun k => vinculumref09_Equal.f k x.f0 x.f1 x.f2 x.f3 y.f0 y.f1 y.f2 y.f3) (eqT x y)) :
    Ev (fun k => vinculumref09_SameItems.f k a b) (eqL a b) := by
  by_cases hl : a.length = b.length
  · apply Ev.step
    · intro k; rw [vinculumref09_SameItems.f, if_pos (by omega)]
    have := same_loop a b hl hb ih _ 0 rfl (by omega)
    simpa using this
  · rw [eqL_len hl]
    refine Ev.step (f := fun _ => some false) (fun k => by rw [vinculumref09_SameItems.f, if_neg (by omega)]) (Ev.now _)
theorem rEqual_ev : ∀ x : S26, cnt x ≤ 1000000 → ∀ y : S26, Ev (fun k => vinculumref09_Equal.f k x.f0 x.f1 x.f2 x.f3 y.f0 y.f1 y.f2 y.f3) (eqT x y) := by
  refine tree_ind (fun x ih hb y => ?_)
  have hce := cnt_eq x
  have hl := length_le_cntL x.f3
  rw [eqT_mk]
  by_cases h0 : x.f0 = y.f0
  · by_cases h1 : x.f1.toList = y.f1.toList
    · by_cases h2 : x.f2 = y.f2
      · apply Ev.step
        · intro k; rw [vinculumref09_Equal.f, if_pos h0, if_pos h1, if_pos h2]
        rw [decide_eq_true h0, decide_eq_true h1, decide_eq_true h2, Bool.true_and, Bool.true_and, Bool.true_and]
        refine Ev.bind (same_ev _ _ (by omega) (fun z hz w => ih z hz (by have := cnt_mem hz; omega) w)) (Ev.now _)
      · rw [decide_eq_false h2, Bool.false_and, Bool.and_false, Bool.and_false]
        exact Ev.step (f := fun _ => some false) (fun k => by rw [vinculumref09_Equal.f, if_pos h0, if_pos h1, if_neg h2]) (Ev.now _)
    · rw [decide_eq_false h1, Bool.false_and, Bool.and_false]
      exact Ev.step (f := fun _ => some false) (fun k => by rw [vinculumref09_Equal.f, if_pos h0, if_neg h1]) (Ev.now _)
  · rw [decide_eq_false h0, Bool.false_and]
    exact Ev.step (f := fun _ => some false) (fun k => by rw [vinculumref09_Equal.f, if_neg h0]) (Ev.now _)
theorem rSame_ev (a b : List S26) (hb : cntL a ≤ 1000000) : Ev (fun k => vinculumref09_SameItems.f k a b) (eqL a b) :=
  same_ev a b (by have := length_le_cntL a; omega) (fun x hx y => rEqual_ev x (by have := cnt_mem hx; omega) y)
theorem nsame_loop (a b : List S26) (hl : a.length = b.length) (hb : a.length ≤ 1000000)
    (ih : ∀ x, x ∈ a → ∀ y, Ev (fun k => node_Equal.f k x.f0 x.f1 x.f2 x.f3 y.f0 y.f1 y.f2 y.f3) (eqT x y)) :
    ∀ (d j : Nat), a.length - j = d → j ≤ a.length → Ev (fun k => node_EqualFunc.l0 k a b (j : Int)) (eqL (a.drop j) (b.drop j)) := by
  intro d
  induction d with
  | zero =>
    intro j hd hj
    obtain rfl : j = a.length := by omega
    refine Ev.step (f := fun _ => some true) (fun k => by rw [node_EqualFunc.l0, if_neg (by omega)]) ?_
    rw [List.drop_length, hl, List.drop_length, eqL_nil]
    exact Ev.now _
  | succ d ihd =>
    intro j hd hj
    have h1 : j < a.length := by omega
    have h2 : j < b.length := by omega
    rw [drop_at h1, drop_at h2, eqL_cons]
    apply Ev.step
    · intro k; rw [node_EqualFunc.l0, if_pos (by omega), if_pos (by omega), if_pos (by omega), rd_at h1, rd_at h2]
    refine Ev.bind (ih _ (List.getElem_mem h1) _) ?_
    cases eqT a[j] b[j] with
    | false => exact Ev.congr (fun k => if_neg Bool.false_ne_true) (Ev.now _)
    | true =>
      refine Ev.congr (fun k => if_pos rfl) ?_
      rw [wrap64_id (by omega) (by omega)]
      have := ihd (j + 1) (by omega) (by omega)
      simpa using this
theorem nsame_ev (a b : List S26) (hb : a.length ≤ 1000000)
    (ih : ∀ x, x ∈ a → ∀ y, Ev (fun k => node_Equal.f k x.f0 x.f1 x.f2 x.f3 y.f0 y.f1 y.f2 y.f3) (eqT x y)) :
    Ev (fun k => node_EqualFunc.f k a b) (eqL a b) := by
  by_cases hl : a.length = b.length
  · apply Ev.step
    · intro k; rw [node_EqualFunc.f, if_pos (by omega)]
    have := nsame_loop a b hl hb ih _ 0 rfl (by omega)
    simpa using this
  · rw [eqL_len hl]
    refine Ev.step (f := fun _ => some false) (fun k => by rw [node_EqualFunc.f, if_neg (by omega)]) (Ev.now _)
theorem nEqual_ev : ∀ x : S26, cnt x ≤ 1000000 → ∀ y : S26, Ev (fun k => node_Equal.f k x.f0 x.f1 x.f2 x.f3 y.f0 y.f1 y.f2 y.f3) (eqT x y) := by
  refine tree_ind (fun x ih hb y => ?_)
  have hce := cnt_eq x
  have hl := length_le_cntL x.f3
  rw [eqT_mk]
  by_cases h0 : x.f0 = y.f0
  · by_cases h1 : x.f1.toList = y.f1.toList
    · by_cases h2 : x.f2 = y.f2
      · apply Ev.step
        · intro k; rw [node_Equal.f, if_pos h0, if_pos h1, if_pos h2]
        rw [decide_eq_true h0, decide_eq_true h1, decide_eq_true h2, Bool.true_and, Bool.true_and, Bool.true_and]
        exact nsame_ev _ _ (by omega) (fun z hz w => ih z hz (by have := cnt_mem hz; omega) w)
      · rw [decide_eq_false h2, Bool.false_and, Bool.and_false, Bool.and_false]
        exact Ev.step (f := fun _ => some false) (fun k => by rw [node_Equal.f, if_pos h0, if_pos h1, if_neg h2]) (Ev.now _)
    · rw [decide_eq_false h1, Bool.false_and, Bool.and_false]
      exact Ev.step (f := fun _ => some false) (fun k => by rw [node_Equal.f, if_pos h0, if_neg h1]) (Ev.now _)
  · rw [decide_eq_false h0, Bool.false_and]
    exact Ev.step (f := fun _ => some false) (fun k => by rw [node_Equal.f, if_neg h0]) (Ev.now _)
end Go.Proofs.YtnimhdhnjfoalaaGreatDoor.A
