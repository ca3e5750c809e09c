/- Plain laws: valid trees, as the program and as the reference tell them. -/
import Derived.Test.YtnimhdhnjfoalaaGreatDoorPl9
import Derived.Test.YtnimhdhnjfoalaaGreatDoorAx7
namespace Go.Proofs.YtnimhdhnjfoalaaGreatDoor.A
open Go.RowKit Go.Proofs.YtnimhdhnjfoalaaGreatDoorW.PrintWords Go.Proofs.YtnimhdhnjfoalaaGreatDoorW.PrintLast Go.Proofs.YtnimhdhnjfoalaaGreatDoorW.PrintMore
set_option linter.unusedVariables false

mutual
def depT (x : S26) : Nat := 1 + depL x.f3
termination_by 2 * cnt x
decreasing_by (have := cnt_eq x; omega)
def depL : List S26 → Nat
  | [] => 0
  | x :: r => max (depT x) (depL r)
termination_by l => 2 * cntL l + 1
decreasing_by all_goals (simp only [cntL]; have := cnt_eq x; omega)
end
theorem depT_eq (x : S26) : depT x = 1 + depL x.f3 := by rw [depT]
mutual
/-- All nodes of a tree have the form of their kind. -/
def formT : S26 → Bool
  | ⟨k, s, c, l⟩ => shT k s c l.length && formL k l
def formL (k : Int) : List S26 → Bool
  | [] => true
  | x :: r => (!((x.f0 == 1) == (k == 1))) && formT x && formL k r
end
theorem formT_eq (x : S26) : formT x = (shT x.f0 x.f1 x.f2 x.f3.length && formL x.f0 x.f3) := by
  obtain ⟨f0, f1, f2, f3⟩ := x
  simp [formT]
theorem depT_le_cnt : ∀ x : S26, depT x ≤ cnt x := by
  refine tree_ind (fun x ih => ?_)
  rw [depT_eq, cnt_eq]
  have : ∀ l : List S26, (∀ y, y ∈ l → depT y ≤ cnt y) → depL l ≤ cntL l := by
    intro l
    induction l with
    | nil => intro _; simp [depL]
    | cons y r ih =>
      intro h
      have h1 := h y (List.mem_cons_self ..)
      have h2 := ih (fun z hz => h z (List.mem_cons_of_mem _ hz))
      simp only [depL, cntL]
      omega
  have := this x.f3 ih
  omega
theorem wf_size {x : S26} (h : Wf26 x) : x.f1.size ≤ 9223372036854775807 := by
  have := h.w1
  unfold maxLen at this
  omega

theorem mx_split {A B d : Nat} (hd : 1 ≤ d) : max A B + 1 ≤ d ↔ A ≤ d - 1 ∧ B + 1 ≤ d := by omega
theorem le_join {a b n : Nat} (h : a ≤ n) (g : b ≤ n - a) : a + b ≤ n := by omega
theorem le_part {a b n : Nat} (h : a ≤ n) (g : a + b ≤ n) : b ≤ n - a := by omega
theorem sub_join {a b n : Nat} (h : a ≤ n) : ((n - a : Nat) : Int) - (b : Int) = (n : Int) - ((a + b : Nat) : Int) := by omega
/-- The program's checker. -/
theorem check_ev : ∀ x : S26, Wf26 x → cnt x ≤ 1000000 → ∀ left d : Nat, left ≤ 1000000 → d ≤ 1000 →
    ∃ (b : Bool) (L : Int), Ev (fun k => node_check.f k (left : Int) x.f0 x.f1 x.f2 x.f3 (d : Int)) (b, L) ∧ (b = true ↔ (formT x = true ∧ cnt x ≤ left ∧ depT x ≤ d)) ∧ (b = true → L = (left : Int) - cnt x) := by
  refine tree_ind (fun x ih hw hb left d hleft hd => ?_)
  have hce := cnt_eq x
  obtain ⟨D, hDx, hDl⟩ : ∃ D, depT x = 1 + D ∧ Aside0 (D = depL x.f3) := ⟨_, depT_eq x, ⟨rfl⟩⟩
  rw [hDx]
  clear hDx
  have hfe := formT_eq x
  have hlen := length_le_cntL x.f3
  have hcl : cntL x.f3 ≤ 1000000 := by omega
  obtain ⟨_, hwk⟩ := hw.w3
  by_cases h0 : left = 0
  · refine ⟨false, wrap64 ((left : Int) - 1), ?_, ⟨fun h => by simp at h, fun h => by omega⟩, fun h => by simp at h⟩
    apply Ev.step
    · intro k; rw [node_check.f, if_pos (by rw [wrap64_id (by omega) (by omega)]; omega)]
    exact Ev.now _
  have wl : wrap64 ((left : Int) - 1) = ((left - 1 : Nat) : Int) := by rw [wrap64_id (by omega) (by omega)]; omega
  by_cases h1 : d = 0
  · refine ⟨false, ((left - 1 : Nat) : Int), ?_, ⟨fun h => by simp at h, fun h => by omega⟩, fun h => by simp at h⟩
    apply Ev.step
    · intro k; rw [node_check.f, wl, if_neg (by omega), if_pos (by omega)]
    exact Ev.now _
  have wd : wrap64 ((d : Int) - 1) = ((d - 1 : Nat) : Int) := by rw [wrap64_id (by omega) (by omega)]; omega
  have loop : ∀ (e j lf : Nat), x.f3.length - j = e → j ≤ x.f3.length → lf ≤ 1000000 →
      ∃ (b : Bool) (L : Int), Ev (fun k => node_check.l0 k (lf : Int) x.f0 x.f3 (d : Int) (j : Int)) (b, L) ∧ (b = true ↔ (formL x.f0 (x.f3.drop j) = true ∧ cntL (x.f3.drop j) ≤ lf ∧ depL (x.f3.drop j) + 1 ≤ d)) ∧ (b = true → L = (lf : Int) - cntL (x.f3.drop j)) := by
    have wdA := Aside0.mk wd
    clear wl wd hfe
    intro e
    induction e with
    | zero =>
      intro j lf he hj hlf
      obtain rfl : j = x.f3.length := by omega
      rw [List.drop_length]
      refine ⟨true, (lf : Int), ?_, ⟨fun _ => ⟨rfl, by simp [cntL], by simp only [depL]; omega⟩, fun _ => rfl⟩, fun _ => by simp [cntL]⟩
      apply Ev.step
      · intro k; rw [node_check.l0, if_neg (by omega)]
      exact Ev.now _
    | succ e ihe =>
      intro j lf he hj hlf
      have hlt : j < x.f3.length := by omega
      have c1 : (j : Int) < (x.f3.length : Int) := by omega
      have c0 : (0 : Int) ≤ (j : Int) := by omega
      have wj : wrap64 ((j : Int) + 1) = ((j + 1 : Nat) : Int) := by rw [wrap64_id (by omega) (by omega)]; omega
      have hd1 : d - 1 ≤ 1000 := Nat.le_trans (Nat.sub_le _ _) hd
      have n1 : x.f3.length - (j + 1) = e := by rw [Nat.sub_succ, he]; rfl
      have hd0 : 1 ≤ d := Nat.pos_of_ne_zero h1
      have hm := List.getElem_mem hlt
      have hcm := cnt_mem hm
      have hcx : cnt x.f3[j] ≤ 1000000 := Nat.le_trans hcm hcl
      rw [drop_at hlt, formL, cntL, depL]
      clear hce hleft hb
      by_cases hk : (x.f3[j].f0 == 1) = (x.f0 == 1)
      · refine ⟨false, (lf : Int), ?_, ⟨fun h => by simp at h, fun h => ?_⟩, fun h => by simp at h⟩
        · apply Ev.step
          · intro k; rw [node_check.l0, if_pos c1, if_pos c0, rd_at hlt, if_pos hk]
          exact Ev.now _
        · rw [hk] at h
          simp at h
      · have hk' : (!((x.f3[j].f0 == 1) == (x.f0 == 1))) = true := by simpa using hk
        rw [hk', Bool.true_and]
        obtain ⟨b1, L1, e1, p1, q1⟩ := ih _ hm (hwk _ hm) hcx lf (d - 1) hlf hd1
        cases hb1 : b1 with
        | false =>
          rw [hb1] at e1 p1
          refine ⟨false, L1, ?_, ⟨fun h => by simp at h, fun h => ?_⟩, fun h => by simp at h⟩
          · apply Ev.step
            · intro k; rw [node_check.l0, if_pos c1, if_pos c0, rd_at hlt, if_neg hk, wdA.out]
            refine Ev.bind e1 ?_
            exact Ev.now _
          · obtain ⟨h2, h3, h4⟩ := h
            rw [Bool.and_eq_true] at h2
            exact p1.2 ⟨h2.1, Nat.le_trans (Nat.le_add_right _ _) h3, (mx_split hd0).1 h4 |>.1⟩
        | true =>
          rw [hb1] at e1 p1 q1
          obtain ⟨f1, f2, f3⟩ := p1.1 rfl
          have hL := q1 rfl
          obtain ⟨b2, L2, e2, p2, q2⟩ := ihe (j + 1) (lf - cnt x.f3[j]) n1 hlt (Nat.le_trans (Nat.sub_le _ _) hlf)
          have hL' : L1 = ((lf - cnt x.f3[j] : Nat) : Int) := by rw [hL]; exact (Int.ofNat_sub f2).symm
          refine ⟨b2, L2, ?_, ?_, fun h => ?_⟩
          · apply Ev.step
            · intro k; rw [node_check.l0, if_pos c1, if_pos c0, rd_at hlt, if_neg hk, wdA.out, wj]
            refine Ev.bind e1 ?_
            rw [hL']
            refine Ev.congr (f := fun k => node_check.l0 k ((lf - cnt x.f3[j] : Nat) : Int) x.f0 x.f3 (d : Int) ((j + 1 : Nat) : Int)) (fun k => if_pos rfl) ?_
            exact e2
          · rw [p2, f1, Bool.true_and]
            constructor
            · rintro ⟨g1, g2, g3⟩; exact ⟨g1, le_join f2 g2, (mx_split hd0).2 ⟨f3, g3⟩⟩
            · rintro ⟨g1, g2, g3⟩; exact ⟨g1, le_part f2 g2, ((mx_split hd0).1 g3).2⟩
          · have h5 := q2 h
            rw [h5]
            exact sub_join f2
  cases hs : shT x.f0 x.f1 x.f2 x.f3.length with
  | false =>
    refine ⟨false, ((left - 1 : Nat) : Int), ?_, ⟨fun h => by simp at h, fun h => by rw [hfe, hs] at h; simp at h⟩, fun h => by simp at h⟩
    apply Ev.step
    · intro k; rw [node_check.f, wl, if_neg (by omega), if_neg (by omega)]
    refine Ev.bind (shape_ev x.f0 x.f1 x.f2 x.f3.length (wf_size hw)) ?_
    rw [hs]
    exact Ev.now _
  | true =>
    obtain ⟨b, L, e, p, q⟩ := loop _ 0 (left - 1) rfl (by omega) (by omega)
    rw [List.drop_zero] at p q
    rw [← hDl.out] at p
    refine ⟨b, L, ?_, ?_, fun h => ?_⟩
    · apply Ev.step
      · intro k; rw [node_check.f, wl, if_neg (by omega), if_neg (by omega)]
      refine Ev.bind (shape_ev x.f0 x.f1 x.f2 x.f3.length (wf_size hw)) ?_
      rw [hs]
      refine Ev.congr (f := fun k => node_check.l0 k ((left - 1 : Nat) : Int) x.f0 x.f3 (d : Int) 0) (fun k => if_pos rfl) ?_
      exact e
    · rw [p, hfe, hs, Bool.true_and]
      constructor
      · rintro ⟨g1, g2, g3⟩; exact ⟨g1, by omega, by omega⟩
      · rintro ⟨g1, g2, g3⟩; exact ⟨g1, by omega, by omega⟩
    · have := q h
      rw [this]
      omega
/-- The trees that are valid. -/
def validT (x : S26) : Bool := decide (x.f0 = 1) && formT x && decide (cnt x ≤ 1000) && decide (depT x ≤ 24)
theorem nValid_ev (x : S26) (hw : Wf26 x) (hb : cnt x ≤ 1000000) : Ev (fun k => node_Valid.f k x.f0 x.f1 x.f2 x.f3) (validT x) := by
  unfold node_Valid.f validT
  by_cases h1 : x.f0 = 1
  · rw [decide_eq_true h1, Bool.true_and]
    apply Ev.congr
    · intro k; rw [if_pos h1]
    obtain ⟨b, L, e, p, q⟩ := check_ev x hw hb 1000 24 (by omega) (by omega)
    refine Ev.bind e ?_
    have : b = (formT x && decide (cnt x ≤ 1000) && decide (depT x ≤ 24)) := by
      rw [Bool.eq_iff_iff, p]
      simp [and_assoc]
    rw [← this]
    exact Ev.now _
  · rw [decide_eq_false h1]
    exact Ev.congr (f := fun _ => some false) (fun k => if_neg h1) (Ev.now _)
theorem rForm_ev : ∀ x : S26, Wf26 x → cnt x ≤ 1000000 → Ev (fun k => vinculumref09_form.f k x.f0 x.f1 x.f2 x.f3) (formT x) := by
  refine tree_ind (fun x ih hw hb => ?_)
  have hce := cnt_eq x
  have hfe := formT_eq x
  have hlen := length_le_cntL x.f3
  obtain ⟨_, hwk⟩ := hw.w3
  have loop : ∀ (e j : Nat), x.f3.length - j = e → j ≤ x.f3.length → Ev (fun k => vinculumref09_form.l0 k (j : Int) x.f0 x.f1 x.f2 x.f3) (formL x.f0 (x.f3.drop j)) := by
    intro e
    induction e with
    | zero =>
      intro j he hj
      obtain rfl : j = x.f3.length := by omega
      rw [List.drop_length]
      apply Ev.step
      · intro k; rw [vinculumref09_form.l0, if_neg (by omega)]
      exact Ev.now _
    | succ e ihe =>
      intro j he hj
      have hlt : j < x.f3.length := by omega
      rw [drop_at hlt]
      simp only [formL]
      have wj : wrap64 ((j : Int) + 1) = ((j + 1 : Nat) : Int) := by rw [wrap64_id (by omega) (by omega)]; omega
      have hm := List.getElem_mem hlt
      have hcm := cnt_mem hm
      cases hk : ((x.f3[j].f0 == 1) == (x.f0 == 1)) with
      | true =>
        apply Ev.step
        · intro k; rw [vinculumref09_form.l0, if_pos (by omega), if_pos (by omega), rd_at hlt, if_pos hk]
        exact Ev.now _
      | false =>
        apply Ev.step
        · intro k; rw [vinculumref09_form.l0, if_pos (by omega), if_pos (by omega), rd_at hlt, if_neg (by rw [hk]; exact Bool.false_ne_true), wj]
        refine Ev.bind (ih _ hm (hwk _ hm) (by omega)) ?_
        rw [Bool.not_false, Bool.true_and]
        cases formT x.f3[j] with
        | true =>
          rw [Bool.true_and]
          exact Ev.congr (fun k => if_pos rfl) (ihe (j + 1) (by omega) (by omega))
        | false => exact Ev.now false
  have j0 : ∀ b : Bool, Ev (fun k => vinculumref09_form.j0 k b x.f0 x.f1 x.f2 x.f3) (!b && formL x.f0 x.f3) := by
    intro b
    cases b with
    | true =>
      apply Ev.step
      · intro k; rw [vinculumref09_form.j0, if_pos rfl]
      exact Ev.now _
    | false =>
      apply Ev.step
      · intro k; rw [vinculumref09_form.j0, if_neg Bool.false_ne_true]
      simpa using loop _ 0 rfl (by omega)
  apply Ev.step
  · intro k; rw [vinculumref09_form.f]
  refine Ev.bind (rTx_ev x.f0 x.f1 x.f2 x.f3 (wf_size hw)) ?_
  rw [hfe]
  unfold shT
  cases txT x.f0 x.f1 with
  | true =>
    rw [Bool.true_and]
    refine Ev.congr (fun k => if_pos rfl) (Ev.bind (rKd_ev x.f0 x.f1 x.f2 x.f3) ?_)
    simpa using j0 (!kdT x.f0 x.f2 x.f3.length)
  | false =>
    exact Ev.congr (fun k => if_neg Bool.false_ne_true) (j0 true)
theorem mx_nat (a b : Nat) : mx (a : Int) (b : Int) = ((max a b : Nat) : Int) := by
  unfold mx
  split <;> omega
theorem rDepth_ev : ∀ x : S26, cnt x ≤ 1000000 → Ev (fun k => vinculumref09_Depth.f k x.f0 x.f1 x.f2 x.f3) (depT x : Int) := by
  refine tree_ind (fun x ih hb => ?_)
  have hce := cnt_eq x
  have hdc := depT_le_cnt x
  obtain ⟨D, hDx, hDl⟩ : ∃ D, depT x = 1 + D ∧ Aside0 (D = depL x.f3) := ⟨_, depT_eq x, ⟨rfl⟩⟩
  rw [hDx] at hdc ⊢
  clear hDx
  have hlen := length_le_cntL x.f3
  have hcl : cntL x.f3 ≤ 1000000 := by omega
  have loop : ∀ (e j m : Nat), x.f3.length - j = e → j ≤ x.f3.length → m ≤ D → max m (depL (x.f3.drop j)) = D → Ev (fun k => vinculumref09_Depth.l0 k (m : Int) (j : Int) x.f0 x.f1 x.f2 x.f3) ((1 + D : Nat) : Int) := by
    intro e
    induction e with
    | zero =>
      intro j m he hj hm1
      obtain rfl : j = x.f3.length := by omega
      rw [List.drop_length]
      intro hm
      simp only [depL] at hm
      apply Ev.step
      · intro k; rw [vinculumref09_Depth.l0, if_neg (by omega), wrap64_id (by omega) (by omega)]
      rw [show ((1 + D : Nat) : Int) = (m : Int) + 1 by omega]
      exact Ev.now _
    | succ e ihe =>
      intro j m he hj hm1
      have hlt : j < x.f3.length := by omega
      have c1 : (j : Int) < (x.f3.length : Int) := by omega
      have c0 : (0 : Int) ≤ (j : Int) := by omega
      have wj : wrap64 ((j : Int) + 1) = ((j + 1 : Nat) : Int) := by rw [wrap64_id (by omega) (by omega)]; omega
      have n1 : x.f3.length - (j + 1) = e := by omega
      intro hm
      have hmem := List.getElem_mem hlt
      have hcm := cnt_mem hmem
      have hcx : cnt x.f3[j] ≤ 1000000 := Nat.le_trans hcm hcl
      rw [drop_at hlt, depL, ← Nat.max_assoc] at hm
      have n2 : max m (depT x.f3[j]) ≤ D := by rw [← hm]; exact Nat.le_max_left _ _
      apply Ev.step
      · intro k; rw [vinculumref09_Depth.l0, if_pos c1, if_pos c0, rd_at hlt, wj]
      refine Ev.bind (ih _ hmem hcx) ?_
      rw [mx_nat]
      exact ihe (j + 1) _ n1 hlt n2 hm
  apply Ev.step
  · intro k; rw [vinculumref09_Depth.f]
  exact loop _ 0 0 rfl (Nat.zero_le _) (Nat.zero_le _) (by rw [List.drop_zero, ← hDl.out]; exact Nat.max_eq_right (Nat.zero_le _))
theorem rValid_ev (x : S26) (hw : Wf26 x) (hb : cnt x ≤ 1000000) : Ev (fun k => vinculumref09_Valid.f k x.f0 x.f1 x.f2 x.f3) (validT x) := by
  unfold vinculumref09_Valid.f validT
  by_cases h1 : x.f0 = 1
  · rw [decide_eq_true h1, Bool.true_and]
    refine Ev.congr (fun k => if_pos h1) (Ev.bind (rForm_ev x hw hb) ?_)
    cases formT x with
    | false => exact Ev.now false
    | true =>
      rw [Bool.true_and]
      refine Ev.congr (fun k => if_pos rfl) (Ev.bind (vinculumref09_Count_ev x (by omega)) ?_)
      by_cases h2 : cnt x ≤ 1000
      · rw [decide_eq_true h2, Bool.true_and]
        refine Ev.congr (fun k => if_pos (by omega)) (Ev.bind (rDepth_ev x hb) ?_)
        rw [show decide (depT x ≤ 24) = decide ((depT x : Int) ≤ 24) by congr 1; rw [eq_iff_iff]; omega]
        exact Ev.now _
      · rw [decide_eq_false h2, Bool.false_and]
        exact Ev.congr (f := fun _ => some false) (fun k => if_neg (by omega)) (Ev.now _)
  · rw [decide_eq_false h1]
    exact Ev.congr (f := fun _ => some false) (fun k => if_neg h1) (Ev.now _)
end Go.Proofs.YtnimhdhnjfoalaaGreatDoor.A
