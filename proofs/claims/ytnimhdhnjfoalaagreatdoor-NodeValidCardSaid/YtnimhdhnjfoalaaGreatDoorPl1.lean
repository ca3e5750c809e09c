/- Plain laws: the number of nodes of a tree, Few, Count. -/
import Derived.Test.YtnimhdhnjfoalaaGreatDoorAo
import Derived.Test.YtnimhdhnjfoalaaGreatDoorAx4
namespace Go.Proofs.YtnimhdhnjfoalaaGreatDoor.A
open Go.RowKit Go.Proofs.YtnimhdhnjfoalaaGreatDoorW.PrintWords Go.Proofs.YtnimhdhnjfoalaaGreatDoorW.PrintLast Go.Proofs.YtnimhdhnjfoalaaGreatDoorW.PrintMore
set_option linter.unusedVariables false

theorem wrap64_id {x : Int} (h1 : -9223372036854775808 ≤ x) (h2 : x ≤ 9223372036854775807) : wrap64 x = x := by
  unfold wrap64
  omega
mutual
def cnt : S26 → Nat
  | ⟨_, _, _, l⟩ => 1 + cntL l
def cntL : List S26 → Nat
  | [] => 0
  | x :: r => cnt x + cntL r
end
theorem cnt_eq (x : S26) : cnt x = 1 + cntL x.f3 := by
  obtain ⟨f0, f1, f2, f3⟩ := x
  simp [cnt]
theorem cntL_append (a b : List S26) : cntL (a ++ b) = cntL a + cntL b := by
  induction a with
  | nil => simp [cntL]
  | cons x r ih => simp [cntL, ih]; omega
theorem cnt_mem {x : S26} {l : List S26} (h : x ∈ l) : cnt x ≤ cntL l := by
  induction l with
  | nil => cases h
  | cons y r ih =>
    simp only [cntL]
    rcases List.mem_cons.1 h with rfl | h
    · omega
    · have := ih h; omega
theorem length_le_cntL (l : List S26) : l.length ≤ cntL l := by
  induction l with
  | nil => simp [cntL]
  | cons x r ih => have := cnt_eq x; simp only [cntL, List.length_cons]; omega
theorem rd_at {l : List S26} {j : Nat} (h : j < l.length) : rd_T26 l (j : Int) = l[j] := by
  unfold rd_T26
  rw [List.getD_eq_getElem?_getD, Int.toNat_natCast, List.getElem?_eq_getElem h]
  rfl
theorem drop_at {α : Type} {l : List α} {j : Nat} (h : j < l.length) : l.drop j = l[j] :: l.drop (j + 1) := List.drop_eq_getElem_cons h
/-- Induction over trees, by their number of nodes. -/
theorem tree_ind {P : S26 → Prop} (h : ∀ x, (∀ y, y ∈ x.f3 → P y) → P x) : ∀ x, P x := by
  have : ∀ n x, cnt x ≤ n → P x := by
    intro n
    induction n with
    | zero => intro x hx; have := cnt_eq x; omega
    | succ n ih =>
      intro x hx
      refine h x (fun y hy => ih y ?_)
      have := cnt_mem hy; have := cnt_eq x; omega
  exact fun x => this _ x (Nat.le_refl _)

theorem vinculumref09_Count_ev : ∀ x : S26, cnt x ≤ 4611686018427387904 → Ev (fun k => vinculumref09_Count.f k x.f0 x.f1 x.f2 x.f3) (cnt x : Int) := by
  refine tree_ind (fun x ih hx => ?_)
  have hce := cnt_eq x
  have loop : ∀ (d j : Nat) (acc : Int), x.f3.length - j = d → j ≤ x.f3.length → 0 ≤ acc → acc + cntL (x.f3.drop j) ≤ 4611686018427387904 → Ev (fun k => vinculumref09_Count.l0 k acc (j : Int) x.f0 x.f1 x.f2 x.f3) (acc + cntL (x.f3.drop j)) := by
    intro d
    induction d with
    | zero =>
      intro j acc hd hj h0 hb
      obtain rfl : j = x.f3.length := by omega
      refine Ev.step (f := fun _ => some acc) (fun k => by simp only [vinculumref09_Count.l0]; rw [if_neg (by omega)]) ?_
      rw [List.drop_length]
      simp only [cntL, Int.natCast_zero, Int.add_zero]
      exact Ev.now _
    | succ d ihd =>
      intro j acc hd hj h0 hb
      have hlt : j < x.f3.length := by omega
      rw [drop_at hlt] at hb ⊢
      simp only [cntL] at hb ⊢
      refine Ev.step (f := fun k => (vinculumref09_Count.f k (rd_T26 x.f3 j).f0 (rd_T26 x.f3 j).f1 (rd_T26 x.f3 j).f2 (rd_T26 x.f3 j).f3).bind fun t => vinculumref09_Count.l0 k (wrap64 (acc + t)) (wrap64 ((j : Int) + 1)) x.f0 x.f1 x.f2 x.f3) (fun k => by simp only [vinculumref09_Count.l0]; rw [if_pos (by omega), if_pos (by omega)]) ?_
      rw [rd_at hlt]
      refine Ev.bind (ih _ (List.getElem_mem hlt) (by omega)) ?_
      have hl := length_le_cntL x.f3
      rw [wrap64_id (by omega) (by omega), wrap64_id (by omega) (by omega)]
      have := ihd (j + 1) (acc + cnt x.f3[j]) (by omega) (by omega) (by omega) (by omega)
      simpa [Int.add_assoc] using this
  refine Ev.step (f := fun k => vinculumref09_Count.l0 k 1 0 x.f0 x.f1 x.f2 x.f3) (fun k => by simp only [vinculumref09_Count.f]) ?_
  have := loop _ 0 1 rfl (by omega) (by omega) (by simp; omega)
  rw [hce]
  simpa using this

/-- What 'left' gives: the number that is left, or -1. -/
def leftZ (m : Int) (n : Nat) : Int := if (n : Int) ≤ m then m - n else -1
theorem leftZ_zero {m : Int} (h : -1 ≤ m) : leftZ m 0 = m := by
  unfold leftZ
  by_cases h1 : ((0 : Nat) : Int) ≤ m
  · rw [if_pos h1]; omega
  · rw [if_neg h1]; omega
theorem leftZ_add (m : Int) (a b : Nat) : leftZ (leftZ m a) b = leftZ m (a + b) := by
  unfold leftZ
  by_cases h1 : (a : Int) ≤ m
  · rw [if_pos h1]
    by_cases h2 : (b : Int) ≤ m - a
    · rw [if_pos h2, if_pos (by omega)]; omega
    · rw [if_neg h2, if_neg (by omega)]
  · rw [if_neg h1, if_neg (by omega), if_neg (by omega)]
theorem leftZ_neg {m : Int} {a : Nat} (h : m = -1) : leftZ m a = -1 := by
  unfold leftZ
  rw [if_neg (by omega)]
theorem vinculumref09_left_ev : ∀ x : S26, Wf26 x → ∀ m : Int, 0 ≤ m → m ≤ 4611686018427387904 → Ev (fun k => vinculumref09_left.f k x.f0 x.f1 x.f2 x.f3 m) (leftZ m (cnt x)) := by
  refine tree_ind (fun x ih hw m hm0 hm1 => ?_)
  have hce := cnt_eq x
  obtain ⟨hwl, hwk⟩ := hw.w3
  unfold maxLen at hwl
  have loop : ∀ (d j : Nat) (m : Int), x.f3.length - j = d → j ≤ x.f3.length → -1 ≤ m → m ≤ 4611686018427387904 → Ev (fun k => vinculumref09_left.l0 k m (j : Int) x.f0 x.f1 x.f2 x.f3) (leftZ m (cntL (x.f3.drop j))) := by
    intro d
    induction d with
    | zero =>
      intro j m hd hj h0 hb
      obtain rfl : j = x.f3.length := by omega
      refine Ev.step (f := fun _ => some m) (fun k => by simp only [vinculumref09_left.l0]; rw [if_neg (by omega)]) ?_
      rw [List.drop_length]
      rw [show cntL ([] : List S26) = 0 from rfl, leftZ_zero h0]
      exact Ev.now _
    | succ d ihd =>
      intro j m hd hj h0 hb
      have hlt : j < x.f3.length := by omega
      by_cases hm : m ≥ 0
      · rw [drop_at hlt]
        refine Ev.step (f := fun k => (vinculumref09_left.f k (rd_T26 x.f3 j).f0 (rd_T26 x.f3 j).f1 (rd_T26 x.f3 j).f2 (rd_T26 x.f3 j).f3 m).bind fun t => vinculumref09_left.l0 k t (wrap64 ((j : Int) + 1)) x.f0 x.f1 x.f2 x.f3) (fun k => by simp only [vinculumref09_left.l0]; rw [if_pos (by omega), if_pos hm, if_pos (by omega)]) ?_
        rw [rd_at hlt]
        refine Ev.bind (ih _ (List.getElem_mem hlt) (hwk _ (List.getElem_mem hlt)) m hm hb) ?_
        rw [wrap64_id (by omega) (by omega)]
        have hr : -1 ≤ leftZ m (cnt x.f3[j]) ∧ leftZ m (cnt x.f3[j]) ≤ m := by unfold leftZ; split <;> omega
        have := ihd (j + 1) (leftZ m (cnt x.f3[j])) (by omega) (by omega) hr.1 (by omega)
        have e : leftZ (leftZ m (cnt x.f3[j])) (cntL (x.f3.drop (j + 1))) = leftZ m (cntL (x.f3[j] :: x.f3.drop (j + 1))) := by
          simp only [cntL]
          exact leftZ_add _ _ _
        rw [e] at this
        exact this
      · refine Ev.step (f := fun _ => some m) (fun k => by simp only [vinculumref09_left.l0]; rw [if_pos (by omega), if_neg hm]) ?_
        have : leftZ m (cntL (x.f3.drop j)) = m := by rw [leftZ_neg (by omega)]; omega
        rw [this]
        exact Ev.now _
  refine Ev.step (f := fun k => vinculumref09_left.l0 k (wrap64 (m - 1)) 0 x.f0 x.f1 x.f2 x.f3) (fun k => by simp only [vinculumref09_left.f]) ?_
  rw [wrap64_id (by omega) (by omega)]
  have := loop _ 0 (m - 1) rfl (by omega) (by omega) (by omega)
  have e : leftZ (m - 1) (cntL (x.f3.drop 0)) = leftZ m (cnt x) := by
    rw [hce, List.drop_zero, ← leftZ_add]
    have : leftZ m 1 = m - 1 := by
      unfold leftZ
      by_cases h1 : ((1 : Nat) : Int) ≤ m
      · rw [if_pos h1]; omega
      · rw [if_neg h1]; omega
    rw [this]
  rw [e] at this
  exact this
theorem vinculumref09_Few_ev (x : S26) (hw : Wf26 x) (m : Int) (h0 : 0 ≤ m) (h1 : m ≤ 4611686018427387904) : Ev (fun k => vinculumref09_Few.f k x.f0 x.f1 x.f2 x.f3 m) (decide ((cnt x : Int) ≤ m)) := by
  unfold vinculumref09_Few.f
  refine Ev.bind (vinculumref09_left_ev x hw m h0 h1) ?_
  have e : decide (leftZ m (cnt x) ≥ 0) = decide ((cnt x : Int) ≤ m) := by
    unfold leftZ
    by_cases h1 : (cnt x : Int) ≤ m
    · rw [if_pos h1, decide_eq_true h1]; simp; omega
    · rw [if_neg h1, decide_eq_false h1]; rfl
  rw [e]
  exact Ev.now _
end Go.Proofs.YtnimhdhnjfoalaaGreatDoor.A
