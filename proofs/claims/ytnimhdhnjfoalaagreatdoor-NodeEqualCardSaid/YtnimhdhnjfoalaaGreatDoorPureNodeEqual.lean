/- The plain law: Equal tells whether two trees are equal, as the reference does, in both directions, and of a tree and itself. -/
import Derived.Test.YtnimhdhnjfoalaaGreatDoorSayNodeEqual
import Derived.Test.YtnimhdhnjfoalaaGreatDoorPlD
namespace Go.Proofs.YtnimhdhnjfoalaaGreatDoor.Pure
open Go.RowKit Go.Proofs.YtnimhdhnjfoalaaGreatDoorW.PrintWords Go.Proofs.YtnimhdhnjfoalaaGreatDoorW.PrintLast Go.Proofs.YtnimhdhnjfoalaaGreatDoorW.PrintMore
open Go.Proofs.YtnimhdhnjfoalaaGreatDoor.A
set_option linter.unusedVariables false
theorem awake_ev : Ev (fun k => vinculumlaw09_awake.f k) true := Ev.of (fun k => vinculumlaw09_awake.mono k) (k := 60) (by kernel_rfl)
theorem few_ev (x : S26) (hx : Wf26 x) : Ev (fun k => vinculumlaw09_few.f k x.f0 x.f1 x.f2 x.f3) (decide ((cnt x : Int) ≤ 300)) := by
  unfold vinculumlaw09_few.f
  exact Ev.bind (vinculumref09_Few_ev x hx 300 (by omega) (by omega)) (Ev.now _)
theorem eqT_symm (x y : S26) : eqT y x = eqT x y := by
  rw [Bool.eq_iff_iff, eqT_iff, eqT_iff]
  exact eq_comm
theorem NodeEqual : vinculumlaw09_NodeEqual.Pure := by
  intro x y hx hy
  refine Ev.rounds ?_
  have big : Ev (fun k => vinculumlaw09_NodeEqual.j0 k true x.f0 x.f1 x.f2 x.f3 y.f0 y.f1 y.f2 y.f3) true := by
    refine Ev.step (f := fun k => (vinculumlaw09_awake.f k).bind fun t249 => (some t249)) (fun k => by rw [vinculumlaw09_NodeEqual.j0]; exact if_pos (by decide)) ?_
    exact Ev.bind awake_ev (Ev.now _)
  unfold vinculumlaw09_NodeEqual.f
  refine Ev.bind awake_ev (Ev.congr (fun k => if_pos rfl) (Ev.bind (few_ev x hx) ?_))
  by_cases h : (cnt x : Int) ≤ 300
  case neg => rw [decide_eq_false h]; exact Ev.congr (fun k => if_neg Bool.false_ne_true) big
  rw [decide_eq_true h]
  refine Ev.congr (fun k => if_pos rfl) (Ev.bind (few_ev y hy) ?_)
  by_cases g : (cnt y : Int) ≤ 300
  case neg => rw [decide_eq_false g]; exact big
  rw [decide_eq_true g]
  refine Ev.step (f := fun k => (node_Equal.f k x.f0 x.f1 x.f2 x.f3 y.f0 y.f1 y.f2 y.f3).bind fun t250 => ((vinculumref09_Equal.f k x.f0 x.f1 x.f2 x.f3 y.f0 y.f1 y.f2 y.f3).bind fun t251 => (if (t250 == t251) = true then ((node_Equal.f k y.f0 y.f1 y.f2 y.f3 x.f0 x.f1 x.f2 x.f3).bind fun t252 => (if (t250 == t252) = true then ((node_Equal.f k x.f0 x.f1 x.f2 x.f3 x.f0 x.f1 x.f2 x.f3).bind fun t253 => (some t253)) else (some false))) else (some false)))) (fun k => by rw [vinculumlaw09_NodeEqual.j0]; exact if_neg (by decide)) ?_
  refine Ev.bind (nEqual_ev x (by omega) y) (Ev.bind (rEqual_ev x (by omega) y) ?_)
  refine Ev.congr (fun k => if_pos (beq_self_eq_true _)) ?_
  refine Ev.bind (nEqual_ev y (by omega) x) ?_
  rw [eqT_symm]
  refine Ev.congr (fun k => if_pos (beq_self_eq_true _)) ?_
  refine Ev.bind (nEqual_ev x (by omega) x) ?_
  rw [eqT_iff.2 rfl]
  exact Ev.now _
end Go.Proofs.YtnimhdhnjfoalaaGreatDoor.Pure
