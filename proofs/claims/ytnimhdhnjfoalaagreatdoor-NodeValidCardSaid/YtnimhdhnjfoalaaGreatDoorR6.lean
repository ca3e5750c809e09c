/- Plain laws: a text with a backslash before each quotation mark and backslash. -/
import Derived.Lib.Bytealg
namespace Go.Proofs.YtnimhdhnjfoalaaGreatDoor.R
def escB (c : UInt8) : List UInt8 := if c = 92 then [92, 92] else if c = 34 then [92, 34] else [c]
def esc : List UInt8 → List UInt8
  | [] => []
  | c :: l => escB c ++ esc l
def chgB (l : List UInt8) : Bool := l.any fun c => c == 34 || c == 92
theorem esc_append : ∀ a b : List UInt8, esc (a ++ b) = esc a ++ esc b
  | [], b => rfl
  | c :: a, b => by simp only [List.cons_append, esc, esc_append a b, List.append_assoc]
theorem esc_snoc (a : List UInt8) (c : UInt8) : esc (a ++ [c]) = esc a ++ escB c := by
  rw [esc_append]
  simp [esc]
theorem escB_len (c : UInt8) : (escB c).length = 1 + (if c = 34 then 1 else 0) + (if c = 92 then 1 else 0) := by
  unfold escB
  by_cases h : c = 92
  · subst h; rfl
  · by_cases g : c = 34
    · subst g; rfl
    · rw [if_neg h, if_neg g, if_neg g, if_neg h]; rfl
theorem esc_len : ∀ l : List UInt8, (esc l).length = l.length + l.count 34 + l.count 92
  | [] => rfl
  | c :: l => by
    rw [esc, List.length_append, escB_len, esc_len l, List.count_cons, List.count_cons, List.length_cons]
    by_cases h : c = 34
    · subst h; simp; omega
    · by_cases g : c = 92
      · subst g; simp; omega
      · simp [h, g]; omega
theorem esc_same : ∀ l : List UInt8, chgB l = false → esc l = l
  | [], _ => rfl
  | c :: l, h => by
    simp only [chgB, List.any_cons, Bool.or_eq_false_iff, beq_eq_false_iff_ne] at h
    obtain ⟨⟨h1, h2⟩, h3⟩ := h
    rw [esc, esc_same l h3, escB, if_neg h2, if_neg h1]
    rfl
theorem chg_snoc (a : List UInt8) (c : UInt8) : chgB (a ++ [c]) = (chgB a || (c == 34 || c == 92)) := by simp [chgB]
theorem chg_count : ∀ l : List UInt8, chgB l = (decide (l.count 34 ≠ 0) || decide (l.count 92 ≠ 0))
  | [] => rfl
  | c :: l => by
    have ih := chg_count l
    have e : chgB (c :: l) = ((c == 34 || c == 92) || chgB l) := by simp [chgB]
    rw [e, ih, List.count_cons, List.count_cons]
    by_cases h : c = 34
    · subst h; simp
    · by_cases g : c = 92
      · subst g; simp
      · simp [h, g]
theorem esc_take_len (l : List UInt8) (k : Nat) : (esc (l.take k)).length ≤ (esc l).length := by
  have : esc l = esc (l.take k) ++ esc (l.drop k) := by rw [← esc_append, List.take_append_drop]
  rw [this, List.length_append]
  omega
theorem take_next (l : List UInt8) (k : Nat) (h : k < l.length) : l.take (k + 1) = l.take k ++ [l[k]] := List.take_succ_eq_append_getElem h
theorem esc_room (l : List UInt8) (k : Nat) (h : k < l.length) : (esc (l.take k)).length + (escB l[k]).length ≤ (esc l).length := by
  have := esc_take_len l (k + 1)
  rw [take_next l k h, esc_snoc, List.length_append] at this
  exact this
end Go.Proofs.YtnimhdhnjfoalaaGreatDoor.R
