/- THE LAW NodeValid OF THE PROGRAM HOLDS: FOR EVERY INPUT THE CALL RETURNS true AND LEAVES ITS ARGUMENTS AS THEY WERE. Conditions: those of the given row (memory that can be read as data; package-level tables as the program's text lays them). -/
import Derived.Test.YtnimhdhnjfoalaaGreatDoorCards
import Derived.Test.YtnimhdhnjfoalaaGreatDoorTie
import Derived.Test.YtnimhdhnjfoalaaGreatDoorRows
import Derived.Test.YtnimhdhnjfoalaaGreatDoorPureNodeValid
import Derived.WalkKit
import Derived.ProofKit
import Derived.OpenShut
import Derived.ShutString
import Derived.ChangeOld
import Derived.Below
import Derived.Carry
import Derived.OpenVars
import Derived.Deep.DeepHandedRow
import Derived.Lib.LaidTab
import Derived.SizedLaws
namespace Go.Proofs.YtnimhdhnjfoalaaGreatDoor.nodeValid
open Go.ChangeShapes Go.WideShapes Go.ChangeAt Go.RowKit Go.Proofs.YtnimhdhnjfoalaaGreatDoor.A
open Go.ChangeMaps (open_string shut_string)
set_option linter.unusedVariables false
set_option linter.unusedSimpArgs false
theorem own : ownKnob Tryz.prog.godebug = none := by kernel_rfl
theorem laidOut : laidOutB Tryz.prog = true := by kernel_rfl
set_option maxRecDepth 100000 in
theorem contract (H : Type) (enc : TypeId × Value → H) (W : World) (base : Nat) (args : Array Value) (ds gs : List (DataW H)) (before : List MemPlace)
    (hval : ∀ (j : Nat) t v, Tryz.f5.params[j]? = some t → args[j]? = some v → Value.okWide Tryz.prog W .any base t v)
    (hW : DataW.Whole enc Tryz.prog Tryz.f5.params.toList Rows.nodeValidSpec.vars false W args.toList ds gs before) :
    Calls Tryz.prog 5 args W fun e W' => ∃ v, e = .returned v ∧ Rows.nodeValidSpec.post enc Tryz.prog Tryz.f5 false true false false W args v W' := by
  have hW' := hW
  obtain ⟨p, q, hA0, hV, rfl, hfz, hnd⟩ := hW
  have hA : DataW.TrodAll enc Tryz.prog W 0 (fun _ => true) true Tryz.f5.params.toList args.toList ds p := hA0
  rw [Tryz.params5] at hA hval
  obtain ⟨v0, vs0, d0, ds0, p0, q0, hargs, rfl, rfl, h0, r0⟩ := trodAll_cons hA
  obtain ⟨rfl, rfl, rfl⟩ := trodAll_nil r0
  obtain rfl : args = #[v0] := by cases args; simp_all
  obtain ⟨rfl, rfl⟩ := trodVars_none hV
  obtain ⟨cs0, rfl, _⟩ := okWide_struct Tryz.underlying26 (hval 0 26 v0 rfl rfl)
  have k0 := h0
  have lt0 : ∀ x ∈ p0, x.block < W.heap.size := by obtain ⟨m, hm⟩ := k0; exact DataW.trod_lt m _ _ _ hm
  obtain ⟨fuel0, hf0⟩ := h0
  obtain ⟨x0, hK0, wf0⟩ := opn_26 fuel0 _ _ hf0
  obtain ⟨A0_3, c0_3, e0, l0_3, g0_3⟩ := k26_open hK0
  obtain rfl : cs0 = #[.int .i64 x0.f0, .string x0.f1, .int .i64 x0.f2, .slice A0_3 x0.f3.length c0_3] := by
    have z : cs0.toList = [.int .i64 x0.f0, .string x0.f1, .int .i64 x0.f2, .slice A0_3 x0.f3.length c0_3] := e0
    rw [← Array.toArray_toList (xs := cs0), z]
  clear hA0
  obtain ⟨k, hk⟩ := Pure.NodeValid x0 wf0
  refine (vinculumlaw09_NodeValid.calls k x0.f0 x0.f1 x0.f2 _ _ x0.f3 true W g0_3 l0_3 hk).mono fun e W' ⟨he, bel⟩ => ?_
  subst he
  exact ⟨_, rfl, _, _, _, [], _, [], hW', trodAll_mk1 (shut_bool Tryz.underlying4 _), (trodAll_cons_mk (Below.trod laidOut (by kernel_rfl) (of_decide_eq_true (by kernel_rfl)) k0 bel lt0) trodAll_mk0), rfl, bel.frame _, fun h => by cases h⟩
def flatD {H : Type} : DataW H → List Value
  | .lit (.int k n) => [.int k n]
  | .lit (.bool b) => [.bool b]
  | .agg l => flatAll l
  | _ => []
where flatAll : List (DataW H) → List Value
  | [] => []
  | d :: r => flatD d ++ flatAll r
/-- A world for the witness: the listed tables as they are laid. -/
noncomputable def laidWorld (os : Os) : World := { World.holding Tryz.prog os ⟨#[], #[], []⟩ with heap := ((((((World.holding Tryz.prog os ⟨#[], #[], []⟩).heap).modify 4 (fun | .cells _ t frozen => .cells (flatD (H := Unit) Rows.laid_math_bits_deBruijn32tab).toArray t frozen | o => o)).modify 5 (fun | .cells _ t frozen => .cells (flatD (H := Unit) Rows.laid_math_bits_deBruijn64tab).toArray t frozen | o => o)).modify 3 (fun | .cells _ t frozen => .cells (flatD (H := Unit) Rows.laid_internal_strconv_uint64pow10).toArray t frozen | o => o)).modify 2 (fun | .cells _ t frozen => .cells (flatD (H := Unit) Rows.laid_unicode_utf8_acceptRanges).toArray t frozen | o => o)).modify 1 (fun | .cells _ t frozen => .cells (flatD (H := Unit) Rows.laid_unicode_utf8_first).toArray t frozen | o => o) }
theorem laid_met (os : Os) : laidMet Tryz.prog Rows.nodeValidRow.laid ((laidWorld os).forCall (fun _ _ => 0) ⟨#[], #[.agg #[.int .i64 0, .string ByteArray.empty, .int .i64 0, .slice none 0 0]], []⟩).memory :=
  laidMet_of_run' 8 (by kernel_rfl) (by kernel_rfl)
theorem reads (os : Os) {H : Type} (enc : TypeId × Value → H) : ∃ places, DataW.whole enc Tryz.prog ((laidWorld os).forCall (fun _ _ => 0) ⟨#[], #[.agg #[.int .i64 0, .string ByteArray.empty, .int .i64 0, .slice none 0 0]], []⟩).memory Tryz.f5.params.toList Rows.nodeValidSpec.vars false (#[.agg #[.int .i64 0, .string ByteArray.empty, .int .i64 0, .slice none 0 0]] : Array Value).toList 8 = some ([.agg [.lit (.int .i64 0), .lit (.string []), .lit (.int .i64 0), .nil]], [], places) :=
  ⟨[], by kernel_rfl⟩
set_option maxRecDepth 100000 in
theorem lifted (os : Os) (started : os.Started) (H : Type) (enc : TypeId × Value → H) (F : Stop.Interp) :
    ReturnsInHanded {} Tryz.checked os 5 .any ((OpenSpec.ofChange Rows.nodeValidSpec).preRow enc Tryz.prog Tryz.f5 Rows.nodeValidRow.domain false Rows.nodeValidRow.laid) (((OpenSpec.ofChange Rows.nodeValidSpec).at F).post enc Tryz.prog Tryz.f5 false true false false) := by
  obtain ⟨places, hx⟩ := reads os enc
  refine returnsInHanded_of_row (C := Tryz.checked) (s := OpenSpec.ofChange Rows.nodeValidSpec) own started (by kernel_rfl) Tryz.func5
    (witness_row_at (enc := enc) (C := Tryz.checked) false (laidWorld os) #[.agg #[.int .i64 0, .string ByteArray.empty, .int .i64 0, .slice none 0 0]] rfl (by kernel_rfl) (by kernel_rfl) (by kernel_rfl)
      (OpenSpec.preRow_of_cond 8 hx (by kernel_rfl) (fun k hk => by cases hk) (by kernel_rfl) (laid_met os))) ?_
  intro W base args ds gs before hval hW _ _ _ hL _ _
  exact contract H enc W base args ds gs before hval hW
theorem said : Rows.NodeValidSaid :=
  OpenClaim.holds_of_cond 5 Tryz.f5 rfl rfl rfl rfl rfl rfl rfl ⟨rfl, rfl, rfl, rfl, rfl⟩ rfl rfl rfl rfl rfl (by kernel_rfl) Tryz.func5 (by kernel_rfl)
    (of_decide_eq_true (by kernel_rfl)) (by unfold Func.isWrapper; first | (rw [if_pos (by decide +kernel)]; kernel_rfl) | (rw [if_neg (by decide +kernel)]; exact ⟨rfl, rfl⟩))
    (fun os started H enc _ F => by rw [OpenClaim.pre_eq_preRow]; exact lifted os started H enc F)
theorem plain (f : FuncId) (fn : Func) (hf : Tryz.pinned.checked.prog.funcNamed "vinculum/vinculumlaw09.NodeValid" = some f) (hfn : Tryz.pinned.checked.prog.funcs[f]? = some fn) :
    true = Tryz.pinned.checked.prog.looks [] ∧ ∀ (j : Nat) t, fn.params[j]? = some t → Tryz.pinned.checked.prog.wantsStandIn t = false := by
  obtain rfl : f = 5 := Option.some.inj ((show Tryz.prog.funcNamed "vinculum/vinculumlaw09.NodeValid" = some 5 by kernel_rfl).symm.trans hf) |>.symm
  obtain rfl : fn = Tryz.f5 := (Option.some.inj (Tryz.func5.symm.trans hfn)).symm
  refine ⟨by kernel_rfl, fun j t ht => ?_⟩
  rw [Tryz.params5] at ht
  have hm := Array.mem_of_getElem? ht
  simp only [List.mem_toArray, List.mem_cons, List.not_mem_nil, or_false] at hm
  subst hm
  exact (show Tryz.prog.wantsStandIn 26 = false by kernel_rfl)
theorem card : Rows.NodeValidCardSaid :=
  Claim7.holds_tied_plain_at .later [] _ _ _ _ said (fun _ h => by cases h) (by kernel_rfl) (fun _ h => by cases h) nodeValid_row_tie rfl ⟨rfl, rfl⟩ (by kernel_rfl) rfl plain (by kernel_rfl)
#print axioms card
end Go.Proofs.YtnimhdhnjfoalaaGreatDoor.nodeValid
namespace Go.Proofs.YtnimhdhnjfoalaaGreatDoor
theorem nodeValid_holds : Rows.NodeValidCardSaid := nodeValid.card
end Go.Proofs.YtnimhdhnjfoalaaGreatDoor
