/- The plain law: Valid, ValidItems and Slots of any tree are what the reference tells. -/
import Derived.Test.YtnimhdhnjfoalaaGreatDoorSayNodeValid
import Derived.Test.YtnimhdhnjfoalaaGreatDoorPlA
namespace Go.Proofs.YtnimhdhnjfoalaaGreatDoor.Pure
open Go.RowKit Go.Proofs.YtnimhdhnjfoalaaGreatDoorW.PrintWords Go.Proofs.YtnimhdhnjfoalaaGreatDoorW.PrintLast Go.Proofs.YtnimhdhnjfoalaaGreatDoorW.PrintMore
open Go.Proofs.YtnimhdhnjfoalaaGreatDoor.A
set_option linter.unusedVariables false
theorem awake_ev : Ev (fun k => vinculumlaw09_awake.f k) true := Ev.of (fun k => vinculumlaw09_awake.mono k) (k := 60) (by kernel_rfl)
theorem slots_same (x : S26) : vinculumref09_Slots.f x.f0 x.f1 x.f2 x.f3 = node_Slots.f x.f0 x.f1 x.f2 x.f3 := rfl
theorem slots_some (x : S26) : ∃ r, node_Slots.f x.f0 x.f1 x.f2 x.f3 = some r := by
  unfold node_Slots.f
  split
  · exact ⟨_, rfl⟩
  · exact ⟨_, rfl⟩
theorem row_wf {x : S26} (hx : Wf26 x) : Wf26 ⟨1, ⟨#[]⟩, 0, x.f3⟩ := by
  cases hx with
  | mk h0 h1 h2 h3 u3 => exact .mk (by decide) (by decide) (by decide) h3 u3
theorem loop (x : S26) (hx : Wf26 x) (hb : cnt x ≤ 1000000) : ∀ (d j : Nat), x.f3.length - j = d → j ≤ x.f3.length → Ev (fun k => vinculumlaw09_NodeValid.l0 k x.f3 (x.f3.length : Int) (j : Int) x.f0 x.f1 x.f2 x.f3) true := by
  have hce := cnt_eq x
  have hl := length_le_cntL x.f3
  have hb1 : cnt (⟨1, ⟨#[]⟩, 0, x.f3⟩ : S26) ≤ 1000000 := by rw [cnt_eq]; show 1 + cntL x.f3 ≤ _; omega
  intro d
  induction d with
  | zero =>
    intro j hd hj
    refine Ev.step (f := fun k => (node_Valid.f k x.f0 x.f1 x.f2 x.f3).bind fun t214 => ((vinculumref09_Valid.f k x.f0 x.f1 x.f2 x.f3).bind fun t215 => (if (t214 == t215) = true then ((node_ValidItems.f k x.f3).bind fun t216 => ((vinculumref09_ValidItems.f k x.f3).bind fun t217 => (if (t216 == t217) = true then ((node_Slots.f x.f0 x.f1 x.f2 x.f3).bind fun t218 => ((vinculumref09_Slots.f x.f0 x.f1 x.f2 x.f3).bind fun t219 => (some (t218 == t219)))) else (some false)))) else (some false)))) (fun k => by rw [vinculumlaw09_NodeValid.l0]; exact if_neg (by omega)) ?_
    refine Ev.bind (nValid_ev x hx hb) (Ev.bind (rValid_ev x hx hb) ?_)
    refine Ev.congr (fun k => if_pos (beq_self_eq_true _)) ?_
    have v1 : Ev (fun k => node_ValidItems.f k x.f3) (validT ⟨1, ⟨#[]⟩, 0, x.f3⟩) := by
      unfold node_ValidItems.f
      exact Ev.bind (nValid_ev ⟨1, ⟨#[]⟩, 0, x.f3⟩ (row_wf hx) hb1) (Ev.now _)
    have v2 : Ev (fun k => vinculumref09_ValidItems.f k x.f3) (validT ⟨1, ⟨#[]⟩, 0, x.f3⟩) := by
      unfold vinculumref09_ValidItems.f vinculumref09_ToRow.f
      refine Ev.congr (fun k => Option.bind_some _ _) ?_
      exact Ev.bind (rValid_ev ⟨1, ⟨#[]⟩, 0, x.f3⟩ (row_wf hx) hb1) (Ev.now _)
    refine Ev.bind v1 (Ev.bind v2 ?_)
    refine Ev.congr (fun k => if_pos (beq_self_eq_true _)) ?_
    obtain ⟨r, hr⟩ := slots_some x
    rw [slots_same, hr]
    refine Ev.congr (f := fun _ => some true) (fun k => ?_) (Ev.now _)
    rw [Option.bind_some, Option.bind_some, beq_self_eq_true]
  | succ d ih =>
    intro j hd hj
    have hlt : j < x.f3.length := by omega
    have c1 : (j : Int) < (x.f3.length : Int) := by omega
    obtain ⟨r, hr⟩ := slots_some x.f3[j]
    refine Ev.step (f := fun k => vinculumlaw09_NodeValid.l0 k x.f3 (x.f3.length : Int) ((j + 1 : Nat) : Int) x.f0 x.f1 x.f2 x.f3) (fun k => ?_) (ih (j + 1) (by omega) (by omega))
    rw [vinculumlaw09_NodeValid.l0, if_pos c1, if_pos (by omega), if_pos c1, rd_at hlt, slots_same, hr, Option.bind_some, Option.bind_some, if_pos rfl, wrap64_id (by omega) (by omega)]
    rfl
theorem NodeValid : vinculumlaw09_NodeValid.Pure := by
  intro x hx
  refine Ev.rounds ?_
  unfold vinculumlaw09_NodeValid.f
  refine Ev.bind awake_ev (Ev.congr (fun k => if_pos rfl) (Ev.bind (vinculumref09_Few_ev x hx 1100 (by omega) (by omega)) ?_))
  by_cases h : (cnt x : Int) ≤ 1100
  · rw [decide_eq_true h]
    refine Ev.step (f := fun k => vinculumlaw09_NodeValid.l0 k x.f3 (x.f3.length : Int) 0 x.f0 x.f1 x.f2 x.f3) (fun k => by rw [vinculumlaw09_NodeValid.j0]; exact if_neg (by decide)) ?_
    exact loop x hx (by omega) _ 0 rfl (by omega)
  · rw [decide_eq_false h]
    refine Ev.step (f := fun k => (vinculumlaw09_awake.f k).bind fun t209 => (some t209)) (fun k => by rw [vinculumlaw09_NodeValid.j0]; exact if_pos (by decide)) ?_
    exact Ev.bind awake_ev (Ev.now _)
end Go.Proofs.YtnimhdhnjfoalaaGreatDoor.Pure
