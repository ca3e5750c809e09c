/- The plain law: Symbol and Number tell what the reference tells. -/
import Derived.Test.YtnimhdhnjfoalaaGreatDoorAo
import Derived.Test.YtnimhdhnjfoalaaGreatDoorAx3
import Derived.Test.YtnimhdhnjfoalaaGreatDoorPl8
namespace Go.Proofs.YtnimhdhnjfoalaaGreatDoor.Pure
open Go.RowKit Go.Proofs.YtnimhdhnjfoalaaGreatDoorW.PrintWords Go.Proofs.YtnimhdhnjfoalaaGreatDoorW.PrintLast Go.Proofs.YtnimhdhnjfoalaaGreatDoorW.PrintMore
open Go.Proofs.YtnimhdhnjfoalaaGreatDoor.A
set_option linter.unusedVariables false
theorem awake_ev : Ev (fun k => vinculumlaw09_awake.f k) true := Ev.of (fun k => vinculumlaw09_awake.mono k) (k := 60) (by kernel_rfl)
theorem NodeNames (s : ByteArray) (hs : s.size ≤ maxLen) : ∃ k, vinculumlaw09_NodeNames.f k s = some true := by
  have hs' : s.size ≤ 9223372036854775807 := hs
  refine Ev.rounds ?_
  unfold vinculumlaw09_NodeNames.f
  refine Ev.bind awake_ev (Ev.congr (fun k => if_pos rfl) ?_)
  refine Ev.bind (nSym_ev s hs') (Ev.bind (rSym_ev s hs') ?_)
  refine Ev.congr (fun k => if_pos (beq_self_eq_true _)) ?_
  rw [nNum_ev]
  refine Ev.congr (fun k => Option.bind_some _ _) ?_
  refine Ev.bind (rNum_ev s hs') ?_
  rw [beq_self_eq_true]
  exact Ev.now _
end Go.Proofs.YtnimhdhnjfoalaaGreatDoor.Pure
