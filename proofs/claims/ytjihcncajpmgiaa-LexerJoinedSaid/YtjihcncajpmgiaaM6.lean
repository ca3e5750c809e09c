/- What the laws of the lexer share: the example, spelling, blanks, the lists' items. -/
import Derived.Test.YtjihcncajpmgiaaM5
import Derived.Test.YtjihcncajpmgiaaAx2
namespace Go.Proofs.Ytjihcncajpmgiaa.M
open Go.RowKit Go.Proofs.YtjihcncajpmgiaaW.PrintWords Go.Proofs.YtjihcncajpmgiaaW.PrintLast Go.Proofs.YtjihcncajpmgiaaW.PrintMore Go.Proofs.Ytjihcncajpmgiaa.R Go.Proofs.Ytjihcncajpmgiaa.A
set_option linter.unusedVariables false
set_option linter.unusedSimpArgs false

set_option maxRecDepth 100000 in
theorem awake_some : vinculumlaw18_awake.f 60 = some true := by kernel_rfl
theorem awake_ev : Ev vinculumlaw18_awake.f true := Ev.of vinculumlaw18_awake.mono awake_some
theorem rd_drop {ts : List S28} {j : Nat} {tk : S28} {rest : List S28} (h : ts.drop j = tk :: rest) : rd_T28 ts (j : Int) = tk ∧ j < ts.length ∧ ts.drop (j + 1) = rest := by
  have hl : j < ts.length := by
    apply Classical.byContradiction
    intro hn
    rw [List.drop_of_length_le (by omega)] at h
    cases h
  have h2 := List.drop_eq_getElem_cons hl
  rw [h] at h2
  injection h2 with h3 h4
  refine ⟨?_, hl, h4.symm⟩
  unfold rd_T28
  rw [Int.toNat_natCast, List.getD_eq_getElem?_getD, List.getElem?_eq_getElem hl, Option.getD_some, h3]
theorem spell_eval (kd : Int) (t : Bs) (x y : Int) (h : t.length ≤ 1000000) : lexer_Spell.f kd (mk t) x y = some (mk (spM kd t)) := by
  have e : ∀ a b : ByteArray, L a = L b → some a = some b := fun a b h => by rw [ba_ext h]
  unfold lexer_Spell.f spM
  rw [mk_size, if_pos (by omega)]
  by_cases h1 : kd = 3
  · rw [if_pos h1, if_pos h1]
    refine e _ _ ?_
    rw [L_append, L_append, L_mk]
    show [34] ++ esc t ++ [34] = _
    simp
  rw [if_neg h1, if_neg h1]
  by_cases h2 : kd = 4
  · rw [if_pos h2, if_pos h2]
    refine e _ _ ?_
    rw [L_append, L_mk]
    rfl
  rw [if_neg h2, if_neg h2]
  by_cases h3 : kd = 5
  · rw [if_pos h3, if_pos h3]
    refine e _ _ ?_
    rw [L_append, L_mk]
    rfl
  rw [if_neg h3, if_neg h3]
  by_cases h4 : kd = 6
  · rw [if_pos h4, if_pos h4]
    refine e _ _ ?_
    rw [L_append, L_mk]
    rfl
  rw [if_neg h4, if_neg h4]
end Go.Proofs.Ytjihcncajpmgiaa.M
