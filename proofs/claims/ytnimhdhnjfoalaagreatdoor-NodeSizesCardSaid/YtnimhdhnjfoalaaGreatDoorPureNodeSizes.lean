/- The plain law: Count and Depth of any tree are the reference's numbers. -/
import Derived.Test.YtnimhdhnjfoalaaGreatDoorSayNodeSizes
import Derived.Test.YtnimhdhnjfoalaaGreatDoorPlA
namespace Go.Proofs.YtnimhdhnjfoalaaGreatDoor.A
open Go.RowKit Go.Proofs.YtnimhdhnjfoalaaGreatDoorW.PrintWords Go.Proofs.YtnimhdhnjfoalaaGreatDoorW.PrintLast Go.Proofs.YtnimhdhnjfoalaaGreatDoorW.PrintMore
set_option linter.unusedVariables false
theorem node_Count_ev : ∀ x : S26, cnt x ≤ 4611686018427387904 → Ev (fun k => node_Count.f k x.f0 x.f1 x.f2 x.f3) (cnt x : Int) := by
  refine tree_ind (fun x ih hx => ?_)
  have hce := cnt_eq x
  have loop : ∀ (d j : Nat) (acc : Int), x.f3.length - j = d → j ≤ x.f3.length → 0 ≤ acc → acc + cntL (x.f3.drop j) ≤ 4611686018427387904 → Ev (fun k => node_Count.l0 k acc x.f3 (x.f3.length : Int) (j : Int)) (acc + cntL (x.f3.drop j)) := by
    intro d
    induction d with
    | zero =>
      intro j acc hd hj h0 hb
      obtain rfl : j = x.f3.length := by omega
      refine Ev.step (f := fun _ => some acc) (fun k => by simp only [node_Count.l0]; rw [if_neg (by omega)]) ?_
      rw [List.drop_length]
      simp only [cntL, Int.natCast_zero, Int.add_zero]
      exact Ev.now _
    | succ d ihd =>
      intro j acc hd hj h0 hb
      have hlt : j < x.f3.length := by omega
      rw [drop_at hlt] at hb ⊢
      simp only [cntL] at hb ⊢
      refine Ev.step (f := fun k => (node_Count.f k (rd_T26 x.f3 j).f0 (rd_T26 x.f3 j).f1 (rd_T26 x.f3 j).f2 (rd_T26 x.f3 j).f3).bind fun t => node_Count.l0 k (wrap64 (acc + t)) x.f3 (x.f3.length : Int) (wrap64 ((j : Int) + 1))) (fun k => by simp only [node_Count.l0]; rw [if_pos (by omega), if_pos (by omega), if_pos (by omega)]) ?_
      rw [rd_at hlt]
      refine Ev.bind (ih _ (List.getElem_mem hlt) (by omega)) ?_
      have hl := length_le_cntL x.f3
      rw [wrap64_id (by omega) (by omega), wrap64_id (by omega) (by omega)]
      have := ihd (j + 1) (acc + cnt x.f3[j]) (by omega) (by omega) (by omega) (by omega)
      simpa [Int.add_assoc] using this
  refine Ev.step (f := fun k => node_Count.l0 k 1 x.f3 (x.f3.length : Int) 0) (fun k => by simp only [node_Count.f]) ?_
  have := loop _ 0 1 rfl (by omega) (by omega) (by simp; omega)
  rw [hce]
  simpa using this
theorem nDepth_ev : ∀ x : S26, cnt x ≤ 1000000 → Ev (fun k => node_Depth.f k x.f0 x.f1 x.f2 x.f3) (depT x : Int) := by
  refine tree_ind (fun x ih hb => ?_)
  have hce := cnt_eq x
  have hdc := depT_le_cnt x
  obtain ⟨D, hDx, hDl⟩ : ∃ D, depT x = 1 + D ∧ Aside0 (D = depL x.f3) := ⟨_, depT_eq x, ⟨rfl⟩⟩
  rw [hDx] at hdc ⊢
  clear hDx
  have hlen := length_le_cntL x.f3
  have hcl : cntL x.f3 ≤ 1000000 := by omega
  have loop : ∀ (e j m : Nat), x.f3.length - j = e → j ≤ x.f3.length → m ≤ D → max m (depL (x.f3.drop j)) = D → Ev (fun k => node_Depth.l0 k (m : Int) x.f3 (x.f3.length : Int) (j : Int)) ((1 + D : Nat) : Int) := by
    intro e
    induction e with
    | zero =>
      intro j m he hj hm1
      obtain rfl : j = x.f3.length := by omega
      rw [List.drop_length]
      intro hm
      simp only [depL] at hm
      apply Ev.step
      · intro k; rw [node_Depth.l0, if_neg (by omega), wrap64_id (by omega) (by omega)]
      rw [show ((1 + D : Nat) : Int) = 1 + (m : Int) by omega]
      exact Ev.now _
    | succ e ihe =>
      intro j m he hj hm1
      have hlt : j < x.f3.length := by omega
      have c1 : (j : Int) < (x.f3.length : Int) := by omega
      have c0 : (0 : Int) ≤ (j : Int) := by omega
      have wj : wrap64 ((j : Int) + 1) = ((j + 1 : Nat) : Int) := by rw [wrap64_id (by omega) (by omega)]; omega
      have n1 : x.f3.length - (j + 1) = e := by omega
      intro hm
      have hmem := List.getElem_mem hlt
      have hcm := cnt_mem hmem
      have hcx : cnt x.f3[j] ≤ 1000000 := Nat.le_trans hcm hcl
      rw [drop_at hlt, depL, ← Nat.max_assoc] at hm
      have n2 : max m (depT x.f3[j]) ≤ D := by rw [← hm]; exact Nat.le_max_left _ _
      apply Ev.step
      · intro k; rw [node_Depth.l0, if_pos c1, if_pos c0, if_pos c1, rd_at hlt, wj]
      refine Ev.bind (ih _ hmem hcx) ?_
      rw [mx_nat]
      exact ihe (j + 1) _ n1 hlt n2 hm
  apply Ev.step
  · intro k; rw [node_Depth.f]
  exact loop _ 0 0 rfl (Nat.zero_le _) (Nat.zero_le _) (by rw [List.drop_zero, ← hDl.out]; exact Nat.max_eq_right (Nat.zero_le _))
end Go.Proofs.YtnimhdhnjfoalaaGreatDoor.A
namespace Go.Proofs.YtnimhdhnjfoalaaGreatDoor.Pure
open Go.RowKit Go.Proofs.YtnimhdhnjfoalaaGreatDoorW.PrintWords Go.Proofs.YtnimhdhnjfoalaaGreatDoorW.PrintLast Go.Proofs.YtnimhdhnjfoalaaGreatDoorW.PrintMore
open Go.Proofs.YtnimhdhnjfoalaaGreatDoor.A
set_option linter.unusedVariables false
theorem awake_ev : Ev (fun k => vinculumlaw09_awake.f k) true := Ev.of (fun k => vinculumlaw09_awake.mono k) (k := 60) (by kernel_rfl)
theorem few_ev (x : S26) (hx : Wf26 x) : Ev (fun k => vinculumlaw09_few.f k x.f0 x.f1 x.f2 x.f3) (decide ((cnt x : Int) ≤ 300)) := by
  unfold vinculumlaw09_few.f
  exact Ev.bind (vinculumref09_Few_ev x hx 300 (by omega) (by omega)) (Ev.now _)
theorem NodeSizes : vinculumlaw09_NodeSizes.Pure := by
  intro x hx
  refine Ev.rounds ?_
  unfold vinculumlaw09_NodeSizes.f
  refine Ev.bind awake_ev (Ev.congr (fun k => if_pos rfl) (Ev.bind (few_ev x hx) ?_))
  by_cases h : (cnt x : Int) ≤ 300
  · rw [decide_eq_true h]
    have hb : cnt x ≤ 1000000 := by omega
    refine Ev.step (f := fun k => (node_Count.f k x.f0 x.f1 x.f2 x.f3).bind fun t234 => ((vinculumref09_Count.f k x.f0 x.f1 x.f2 x.f3).bind fun t235 => (if t234 = t235 then ((node_Depth.f k x.f0 x.f1 x.f2 x.f3).bind fun t236 => ((vinculumref09_Depth.f k x.f0 x.f1 x.f2 x.f3).bind fun t237 => (some (t236 == t237)))) else (some false)))) (fun k => by rw [vinculumlaw09_NodeSizes.j0]; exact if_neg (by decide)) ?_
    refine Ev.bind (node_Count_ev x (by omega)) (Ev.bind (vinculumref09_Count_ev x (by omega)) ?_)
    refine Ev.congr (fun k => if_pos rfl) ?_
    refine Ev.bind (nDepth_ev x hb) (Ev.bind (rDepth_ev x hb) ?_)
    rw [beq_self_eq_true]
    exact Ev.now _
  · rw [decide_eq_false h]
    refine Ev.step (f := fun k => (vinculumlaw09_awake.f k).bind fun t233 => (some t233)) (fun k => by rw [vinculumlaw09_NodeSizes.j0]; exact if_pos (by decide)) ?_
    exact Ev.bind awake_ev (Ev.now _)
end Go.Proofs.YtnimhdhnjfoalaaGreatDoor.Pure
