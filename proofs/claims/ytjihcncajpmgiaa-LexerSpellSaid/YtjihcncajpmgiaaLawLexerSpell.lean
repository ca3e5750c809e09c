/- THE LAW LexerSpell OF THE PROGRAM HOLDS: FOR EVERY INPUT THE CALL RETURNS true AND LEAVES ITS ARGUMENTS AS THEY WERE. Conditions: those of the given row (memory that can be read as data; package-level tables as the program's text lays them). -/
import Derived.Test.YtjihcncajpmgiaaRows
import Derived.Test.YtjihcncajpmgiaaPureLexerSpell
import Derived.WalkKit
import Derived.ProofKit
import Derived.OpenShut
import Derived.ShutString
import Derived.ChangeOld
import Derived.Below
import Derived.Carry
import Derived.OpenVars
import Derived.Deep.DeepHandedRow
import Derived.Lib.LaidTab
import Derived.SizedLaws
namespace Go.Proofs.Ytjihcncajpmgiaa.lexerSpell
open Go.ChangeShapes Go.WideShapes Go.ChangeAt Go.RowKit Go.Proofs.Ytjihcncajpmgiaa.A
open Go.ChangeMaps (open_string shut_string)
set_option linter.unusedVariables false
set_option linter.unusedSimpArgs false
theorem own : ownKnob Try.prog.godebug = none := by kernel_rfl
theorem laidOut : laidOutB Try.prog = true := by kernel_rfl
set_option maxRecDepth 100000 in
theorem contract (H : Type) (enc : TypeId × Value → H) (W : World) (base : Nat) (args : Array Value) (ds gs : List (DataW H)) (before : List MemPlace)
    (hval : ∀ (j : Nat) t v, Try.f4.params[j]? = some t → args[j]? = some v → Value.okWide Try.prog W .any base t v)
    (hW : DataW.Whole enc Try.prog Try.f4.params.toList Rows.lexerSpellSpec.vars false W args.toList ds gs before) :
    Calls Try.prog 4 args W fun e W' => ∃ v, e = .returned v ∧ Rows.lexerSpellSpec.post enc Try.prog Try.f4 false true false false W args v W' := by
  have hW' := hW
  obtain ⟨p, q, hA0, hV, rfl, hfz, hnd⟩ := hW
  have hA : DataW.TrodAll enc Try.prog W 0 (fun _ => true) true Try.f4.params.toList args.toList ds p := hA0
  rw [Try.params4] at hA hval
  obtain ⟨v0, vs0, d0, ds0, p0, q0, hargs, rfl, rfl, h0, r0⟩ := trodAll_cons hA
  obtain ⟨v1, vs1, d1, ds1, p1, q1, rfl, rfl, rfl, h1, r1⟩ := trodAll_cons r0
  obtain ⟨rfl, rfl, rfl⟩ := trodAll_nil r1
  obtain rfl : args = #[v0, v1] := by cases args; simp_all
  obtain ⟨rfl, rfl⟩ := trodVars_none hV
  obtain ⟨cs0, rfl, _⟩ := okWide_struct Try.underlying31 (hval 0 31 v0 rfl rfl)
  have k0 := h0
  have lt0 : ∀ x ∈ p0, x.block < W.heap.size := by obtain ⟨m, hm⟩ := k0; exact DataW.trod_lt m _ _ _ hm
  obtain ⟨fuel0, hf0⟩ := h0
  obtain ⟨x0, hK0, wf0⟩ := opn_31 fuel0 _ _ hf0
  obtain e0 := k31_open hK0
  obtain rfl : cs0 = #[.int .i64 x0.f0, .string x0.f1, .int .i64 x0.f2, .int .i64 x0.f3] := by
    have z : cs0.toList = [.int .i64 x0.f0, .string x0.f1, .int .i64 x0.f2, .int .i64 x0.f3] := e0
    rw [← Array.toArray_toList (xs := cs0), z]
  obtain ⟨cs1, rfl, _⟩ := okWide_struct Try.underlying31 (hval 1 31 v1 rfl rfl)
  have k1 := h1
  have lt1 : ∀ x ∈ p1, x.block < W.heap.size := by obtain ⟨m, hm⟩ := k1; exact DataW.trod_lt m _ _ _ hm
  obtain ⟨fuel1, hf1⟩ := h1
  obtain ⟨x1, hK1, wf1⟩ := opn_31 fuel1 _ _ hf1
  obtain e1 := k31_open hK1
  obtain rfl : cs1 = #[.int .i64 x1.f0, .string x1.f1, .int .i64 x1.f2, .int .i64 x1.f3] := by
    have z : cs1.toList = [.int .i64 x1.f0, .string x1.f1, .int .i64 x1.f2, .int .i64 x1.f3] := e1
    rw [← Array.toArray_toList (xs := cs1), z]
  clear hA0
  obtain ⟨k, hk⟩ := Pure.LexerSpell x0 x1 wf0 wf1
  refine (vinculumlaw18_LexerSpell.calls k x0.f0 x0.f1 x0.f2 x0.f3 x1.f0 x1.f1 x1.f2 x1.f3 true W  hk).mono fun e W' ⟨he, bel⟩ => ?_
  subst he
  exact ⟨_, rfl, _, _, _, [], _, [], hW', trodAll_mk1 (shut_bool Try.underlying4 _), (trodAll_cons_mk (Below.trod laidOut (by kernel_rfl) (of_decide_eq_true (by kernel_rfl)) k0 bel lt0) (trodAll_cons_mk (Below.trod laidOut (by kernel_rfl) (of_decide_eq_true (by kernel_rfl)) k1 bel lt1) trodAll_mk0)), rfl, bel.frame _, fun h => by cases h⟩
/-- A world for the witness: the listed tables as they are laid. -/
noncomputable def laidWorld (os : Os) : World := { World.holding Try.prog os ⟨#[], #[], []⟩ with heap := (World.holding Try.prog os ⟨#[], #[], []⟩).heap }
theorem laid_met (os : Os) : laidMet Try.prog Rows.lexerSpellRow.laid ((laidWorld os).forCall (fun _ _ => 0) ⟨#[], #[.agg #[.int .i64 0, .string ByteArray.empty, .int .i64 0, .int .i64 0], .agg #[.int .i64 0, .string ByteArray.empty, .int .i64 0, .int .i64 0]], []⟩).memory :=
  laidMet_of_run' 8 (by kernel_rfl) (by kernel_rfl)
theorem reads (os : Os) {H : Type} (enc : TypeId × Value → H) : ∃ places, DataW.whole enc Try.prog ((laidWorld os).forCall (fun _ _ => 0) ⟨#[], #[.agg #[.int .i64 0, .string ByteArray.empty, .int .i64 0, .int .i64 0], .agg #[.int .i64 0, .string ByteArray.empty, .int .i64 0, .int .i64 0]], []⟩).memory Try.f4.params.toList Rows.lexerSpellSpec.vars false (#[.agg #[.int .i64 0, .string ByteArray.empty, .int .i64 0, .int .i64 0], .agg #[.int .i64 0, .string ByteArray.empty, .int .i64 0, .int .i64 0]] : Array Value).toList 8 = some ([.agg [.lit (.int .i64 0), .lit (.string []), .lit (.int .i64 0), .lit (.int .i64 0)], .agg [.lit (.int .i64 0), .lit (.string []), .lit (.int .i64 0), .lit (.int .i64 0)]], [], places) :=
  ⟨[], by kernel_rfl⟩
set_option maxRecDepth 100000 in
theorem lifted (os : Os) (started : os.Started) (H : Type) (enc : TypeId × Value → H) (F : Stop.Interp) :
    ReturnsInHanded {} Try.checked os 4 .any ((OpenSpec.ofChange Rows.lexerSpellSpec).preRow enc Try.prog Try.f4 Rows.lexerSpellRow.domain false Rows.lexerSpellRow.laid) (((OpenSpec.ofChange Rows.lexerSpellSpec).at F).post enc Try.prog Try.f4 false true false false) := by
  obtain ⟨places, hx⟩ := reads os enc
  refine returnsInHanded_of_row (C := Try.checked) (s := OpenSpec.ofChange Rows.lexerSpellSpec) own started (by kernel_rfl) Try.func4
    (witness_row_at (enc := enc) (C := Try.checked) false (laidWorld os) #[.agg #[.int .i64 0, .string ByteArray.empty, .int .i64 0, .int .i64 0], .agg #[.int .i64 0, .string ByteArray.empty, .int .i64 0, .int .i64 0]] rfl (by kernel_rfl) (by kernel_rfl) (by kernel_rfl)
      (OpenSpec.preRow_of_cond 8 hx (by kernel_rfl) (fun k hk => by cases hk) (by kernel_rfl) (laid_met os))) ?_
  intro W base args ds gs before hval hW _ _ _ hL _ _
  exact contract H enc W base args ds gs before hval hW
theorem said : Rows.LexerSpellSaid :=
  OpenClaim.holds_of_cond 4 Try.f4 rfl rfl rfl rfl rfl rfl rfl ⟨rfl, rfl, rfl, rfl, rfl⟩ rfl rfl rfl rfl rfl (by kernel_rfl) Try.func4 (by kernel_rfl)
    (of_decide_eq_true (by kernel_rfl)) (by unfold Func.isWrapper; first | (rw [if_pos (by decide +kernel)]; kernel_rfl) | (rw [if_neg (by decide +kernel)]; exact ⟨rfl, rfl⟩))
    (fun os started H enc _ F => by rw [OpenClaim.pre_eq_preRow]; exact lifted os started H enc F)
end Go.Proofs.Ytjihcncajpmgiaa.lexerSpell
namespace Go.Proofs.Ytjihcncajpmgiaa
theorem lexerSpell_holds : Rows.LexerSpellSaid := lexerSpell.said
end Go.Proofs.Ytjihcncajpmgiaa
