/- strings.Replacer of the pairs for a quoted text: how it is built. -/
import Derived.Test.YtnimhdhnjfoalaaGreatDoorR1
import Derived.Test.YtnimhdhnjfoalaaGreatDoorWMore
import Derived.Outline
import Derived.BigRegion
import Derived.Deep.QuietTactic
import Derived.BigQuiet
import Derived.Laws.CopyRow
import Derived.Laws.CopyOwn
import Derived.Lib.ConvBytes
import Derived.Lib.JoinLaws
namespace Go.Proofs.YtnimhdhnjfoalaaGreatDoor.R
open Go.RowKit Go.Proofs.YtnimhdhnjfoalaaGreatDoorW.PrintWords Go.Proofs.YtnimhdhnjfoalaaGreatDoorW.PrintLast Go.Proofs.YtnimhdhnjfoalaaGreatDoorW.PrintMore
set_option linter.unusedVariables false
set_option linter.unusedSimpArgs false

noncomputable def ARR (x y t : Value) : Array Value := ((Tryz.zeroCells147.setIfInBounds 92 x).setIfInBounds 34 y).setIfInBounds 256 t
def NIL : Value := .slice none 0 0
theorem arr_start (t : Value) : (Tryz.zeroCells147.toList.set 256 t).toArray = ARR NIL NIL t := by kernel_rfl
theorem arr_34 (x y t : Value) : (ARR x y t)[34]? = some y := by kernel_rfl
theorem arr_92 (x y t : Value) : (ARR x y t)[92]? = some x := by kernel_rfl
theorem arr_256 (x y t : Value) : (ARR x y t)[256]? = some t := by kernel_rfl
theorem arr_set34 (x y t u : Value) : (ARR x y t).setIfInBounds 34 u = ARR x u t := by kernel_rfl
theorem arr_set92 (x y t u : Value) : (ARR x y t).setIfInBounds 92 u = ARR u y t := by kernel_rfl
theorem arr_set256 (x y t u : Value) : (ARR x y t).setIfInBounds 256 u = ARR x y u := by kernel_rfl
theorem store_whole {P : Program} {W : World} {g t : Nat} {cur : Array Value} {vs : List Value} (hg : W.heap[g]? = some (.cells cur t (0, 0))) (hl : vs.length = cur.size) (h1 : ∀ v ∈ vs, v.oneCell' = true) :
    (storeCells ⟨g, 0, none⟩ vs 0).run P W = .ok () (W.setRow g vs.toArray) := by
  have := run_storeCells_at (P := P) g 0 t vs 0 cur W hg (by omega) h1
  rw [this]
  congr 2
  simp [hl]
end Go.Proofs.YtnimhdhnjfoalaaGreatDoor.R
