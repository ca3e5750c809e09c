/- lexer.Tokens: its plain twin, and that more rounds change nothing. -/
import Derived.Test.YtjihcncajpmgiaaL7
namespace Go.Proofs.Ytjihcncajpmgiaa.A
open Go.RowKit Go.Proofs.YtjihcncajpmgiaaW.PrintWords Go.Proofs.YtjihcncajpmgiaaW.PrintLast Go.Proofs.YtjihcncajpmgiaaW.PrintMore Go.Proofs.Ytjihcncajpmgiaa.R
set_option linter.unusedVariables false
set_option linter.unusedSimpArgs false

def tokStep (long : Option Bool) (n : Nat) (i : Int) (next : Option (List S28 × Int × Int)) : Option (Int × Int) → Option (List S28 × Int × Int)
  | some (a, e) => some ([], a, e)
  | none => long.bind fun b => if b = true then some ([], i, 6) else (if (n : Int) = 8000 then some ([], i, 6) else (if n < 3518437208883 then next else none))
def lexer_Tokens.l0 : Nat → ByteArray → List S28 → Int → Option (List S28 × Int × Int)
  | 0, _, _, _ => none
  | k + 1, s, out, i => if i < (s.size : Int) then (lexer_next.f k s i).bind fun p => tokStep (lexer_long.f p.1.f0 p.1.f1 p.1.f2 p.1.f3) out.length i ((lexer_run.l0 lexer_blank.f k s p.1.f3).bind fun j => lexer_Tokens.l0 k s (out ++ [p.1]) j) p.2 else some (out, 0, 0)
def lexer_Tokens.f (k : Nat) (s : ByteArray) : Option (List S28 × Int × Int) := (lexer_run.l0 lexer_blank.f k s 0).bind fun i => lexer_Tokens.l0 k s [] i
theorem run_mono (p : Int → Option Bool) : ∀ k s i, LeO (lexer_run.l0 p k s i) (lexer_run.l0 p (k + 1) s i)
  | 0 => fun _ _ r h => by simp [lexer_run.l0] at h
  | k + 1 => fun s i => by
    have ih := run_mono p k
    unfold lexer_run.l0
    repeat' first
      | with_reducible exact ih _ _
      | with_reducible exact LeO.refl _
      | refine LeO.ite ?_ ?_
      | refine LeO.bind ?_ (fun _ => ?_)
theorem number_mono (k : Nat) (s : ByteArray) (i : Int) : LeO (lexer_number.f k s i) (lexer_number.f (k + 1) s i) := by
  unfold lexer_number.f
  repeat' first
    | with_reducible exact run_mono _ _ _ _
    | with_reducible exact LeO.refl _
    | refine LeO.ite ?_ ?_
    | refine LeO.bind ?_ (fun _ => ?_)
theorem quoted_mono : ∀ k s a acc i, LeO (lexer_quoted.l0 k s a acc i) (lexer_quoted.l0 (k + 1) s a acc i)
  | 0 => fun _ _ _ _ r h => by simp [lexer_quoted.l0] at h
  | k + 1 => fun s a acc i => by
    have ih := quoted_mono k
    unfold lexer_quoted.l0
    repeat' first
      | with_reducible exact ih _ _ _ _
      | with_reducible exact LeO.refl _
      | refine LeO.ite ?_ ?_
theorem quotedf_mono (k : Nat) (s : ByteArray) (a : Int) : LeO (lexer_quoted.f k s a) (lexer_quoted.f (k + 1) s a) := quoted_mono k s a [] _
theorem name_mono (k : Nat) (s : ByteArray) (i : Int) : LeO (lexer_name.f k s i) (lexer_name.f (k + 1) s i) := by
  unfold lexer_name.f
  exact LeO.bind (run_mono _ _ _ _) (fun _ => LeO.refl _)
theorem sym_mono (k : Nat) (s : ByteArray) (i : Int) : LeO (symOf k s i) (symOf (k + 1) s i) := by
  unfold symOf
  exact LeO.ite (LeO.bind (node_Symbol.mono _ _) (fun _ => LeO.refl _)) (LeO.refl _)
theorem next_mono (k : Nat) (s : ByteArray) (i : Int) : LeO (lexer_next.f k s i) (lexer_next.f (k + 1) s i) := by
  unfold lexer_next.f
  repeat' first
    | with_reducible exact number_mono _ _ _
    | with_reducible exact quotedf_mono _ _ _
    | with_reducible exact name_mono _ _ _
    | with_reducible exact sym_mono _ _ _
    | with_reducible exact LeO.refl _
    | refine LeO.ite ?_ ?_
    | refine LeO.bind ?_ (fun _ => ?_)
theorem step_mono (long : Option Bool) (n : Nat) (i : Int) {x y : Option (List S28 × Int × Int)} (h : LeO x y) (o : Option (Int × Int)) : LeO (tokStep long n i x o) (tokStep long n i y o) := by
  cases o with
  | some p => exact LeO.refl _
  | none => exact LeO.bind (LeO.refl _) (fun _ => LeO.ite (LeO.refl _) (LeO.ite (LeO.refl _) (LeO.ite h (LeO.refl _))))
theorem lexer_Tokens.mono_l : ∀ k s out i, LeO (lexer_Tokens.l0 k s out i) (lexer_Tokens.l0 (k + 1) s out i)
  | 0 => fun _ _ _ r h => by simp [lexer_Tokens.l0] at h
  | k + 1 => fun s out i => by
    have ih := lexer_Tokens.mono_l k
    unfold lexer_Tokens.l0
    exact LeO.ite (LeO.bind (next_mono _ _ _) (fun _ => step_mono _ _ _ (LeO.bind (run_mono _ _ _ _) (fun _ => ih _ _ _)) _)) (LeO.refl _)
theorem lexer_Tokens.mono : ∀ s k, LeO (lexer_Tokens.f k s) (lexer_Tokens.f (k + 1) s) := by
  intro s k
  unfold lexer_Tokens.f
  exact LeO.bind (run_mono _ _ _ _) (fun _ => lexer_Tokens.mono_l _ _ _ _)
end Go.Proofs.Ytjihcncajpmgiaa.A
