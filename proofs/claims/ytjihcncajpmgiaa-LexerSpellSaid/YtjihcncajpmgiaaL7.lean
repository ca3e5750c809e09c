/- lexer.next, as one function. -/
import Derived.Test.YtjihcncajpmgiaaL6
namespace Go.Proofs.Ytjihcncajpmgiaa.A
open Go.RowKit Go.Proofs.YtjihcncajpmgiaaW.PrintWords Go.Proofs.YtjihcncajpmgiaaW.PrintLast Go.Proofs.YtjihcncajpmgiaaW.PrintMore Go.Proofs.Ytjihcncajpmgiaa.R
set_option linter.unusedVariables false
set_option linter.unusedSimpArgs false

def afterOf (s : ByteArray) (i : Int) : Option Int := if wrap64 (i + 1) < (s.size : Int) then (if 0 ≤ wrap64 (i + 1) then some (bt s (wrap64 (i + 1))) else none) else some 0
theorem after_of {s : ByteArray} {i av : Int} (h : afterOf s i = some av) : After s i av := by
  unfold afterOf at h
  by_cases c1 : wrap64 (i + 1) < (s.size : Int)
  · rw [if_pos c1] at h
    by_cases c2 : 0 ≤ wrap64 (i + 1)
    · rw [if_pos c2] at h
      obtain rfl := Option.some.inj h
      exact .has c1 c2
    · rw [if_neg c2] at h
      cases h
  · rw [if_neg c1] at h
    obtain rfl := Option.some.inj h
    exact .no c1
def symOf (k : Nat) (s : ByteArray) (i : Int) : Option (S28 × Option (Int × Int)) :=
  if i ≤ wrap64 (i + 1) ∧ wrap64 (i + 1) ≤ (s.size : Int) then (node_Symbol.f k (s.extract i.toNat (wrap64 (i + 1)).toNat)).bind fun b => if b = true then some (⟨1, s.extract i.toNat (wrap64 (i + 1)).toNat, i, wrap64 (i + 1)⟩, none) else some (z28, some (i, 3)) else none
theorem sym_cases {k : Nat} {s : ByteArray} {i : Int} {t : S28} {o : Option (Int × Int)} (h : symOf k s i = some (t, o)) : i ≤ wrap64 (i + 1) ∧ wrap64 (i + 1) ≤ (s.size : Int) ∧
    ((node_Symbol.f k (s.extract i.toNat (wrap64 (i + 1)).toNat) = some true ∧ t = ⟨1, s.extract i.toNat (wrap64 (i + 1)).toNat, i, wrap64 (i + 1)⟩ ∧ o = none)
     ∨ (node_Symbol.f k (s.extract i.toNat (wrap64 (i + 1)).toNat) = some false ∧ t = z28 ∧ o = some (i, 3))) := by
  unfold symOf at h
  by_cases c : i ≤ wrap64 (i + 1) ∧ wrap64 (i + 1) ≤ (s.size : Int)
  case neg => rw [if_neg c] at h; cases h
  rw [if_pos c] at h
  obtain ⟨b, hb, h⟩ := Option.bind_eq_some_iff.mp h
  refine ⟨c.1, c.2, ?_⟩
  cases b with
  | true => rw [if_pos rfl] at h; cases h; exact .inl ⟨hb, rfl, rfl⟩
  | false => rw [if_neg Bool.false_ne_true] at h; cases h; exact .inr ⟨hb, rfl, rfl⟩
def lexer_next.f (k : Nat) (s : ByteArray) (i : Int) : Option (S28 × Option (Int × Int)) :=
  if 0 ≤ i ∧ i < (s.size : Int) then
    (afterOf s i).bind fun av => (lexer_digit.f (bt s i)).bind fun d =>
      if d = true then (lexer_number.f k s i).bind fun e => if i ≤ e ∧ e ≤ (s.size : Int) then some (⟨2, s.extract i.toNat e.toNat, i, e⟩, none) else none
      else if 0 ≤ inMarks (bt s i) then (if i ≤ wrap64 (i + 1) ∧ wrap64 (i + 1) ≤ (s.size : Int) then some (⟨7, s.extract i.toNat (wrap64 (i + 1)).toNat, i, wrap64 (i + 1)⟩, none) else none)
      else if bt s i = 34 then lexer_quoted.f k s i
      else if bt s i = 92 then (if av = 92 then (if i ≤ wrap64 (i + 2) ∧ wrap64 (i + 2) ≤ (s.size : Int) then some (⟨8, s.extract i.toNat (wrap64 (i + 2)).toNat, i, wrap64 (i + 2)⟩, none) else none)
        else (lexer_letter.f av).bind fun b => if b = true then lexer_name.f k s i else symOf k s i)
      else if bt s i = 35 then (if 49 ≤ av then (if av ≤ 52 then (if 0 ≤ wrap64 (i + 1) ∧ wrap64 (i + 1) ≤ wrap64 (i + 2) ∧ wrap64 (i + 2) ≤ (s.size : Int) then some (⟨6, s.extract (wrap64 (i + 1)).toNat (wrap64 (i + 2)).toNat, i, wrap64 (i + 2)⟩, none) else none) else symOf k s i) else symOf k s i)
      else symOf k s i
  else none
theorem lexer_next.calls (k : Nat) (s : ByteArray) (i : Int) (t : S28) (o : Option (Int × Int)) (w : World) (h : lexer_next.f k s i = some (t, o)) : Calls Try.prog 18 #[.string s, .int .i64 i] w (Found t o w) := by
  unfold lexer_next.f at h
  by_cases c0 : 0 ≤ i ∧ i < (s.size : Int)
  case neg => rw [if_neg c0] at h; cases h
  rw [if_pos c0] at h
  obtain ⟨h0, h1⟩ := c0
  obtain ⟨av, ha, h⟩ := Option.bind_eq_some_iff.mp h
  have hA := after_of ha
  obtain ⟨d, hd, h⟩ := Option.bind_eq_some_iff.mp h
  cases d with
  | true =>
    rw [if_pos rfl] at h
    obtain ⟨e, he, h⟩ := Option.bind_eq_some_iff.mp h
    by_cases c : i ≤ e ∧ e ≤ (s.size : Int)
    case neg => rw [if_neg c] at h; cases h
    rw [if_pos c] at h
    cases h
    exact next_num s i av w h0 h1 hA k e hd he c.1 c.2
  | false =>
    rw [if_neg Bool.false_ne_true] at h
    by_cases c1 : 0 ≤ inMarks (bt s i)
    · rw [if_pos c1] at h
      by_cases c : i ≤ wrap64 (i + 1) ∧ wrap64 (i + 1) ≤ (s.size : Int)
      case neg => rw [if_neg c] at h; cases h
      rw [if_pos c] at h
      cases h
      exact next_mark s i av w h0 h1 hA hd c1 c.1 c.2
    rw [if_neg c1] at h
    by_cases c2 : bt s i = 34
    · rw [if_pos c2] at h
      exact next_quoted s i av w h0 h1 hA k t o hd c1 c2 h
    rw [if_neg c2] at h
    by_cases c3 : bt s i = 92
    · rw [if_pos c3] at h
      by_cases c4 : av = 92
      · rw [if_pos c4] at h
        by_cases c : i ≤ wrap64 (i + 2) ∧ wrap64 (i + 2) ≤ (s.size : Int)
        case neg => rw [if_neg c] at h; cases h
        rw [if_pos c] at h
        cases h
        exact next_break s i av w h0 h1 hA hd c1 c2 c3 c4 c.1 c.2
      rw [if_neg c4] at h
      obtain ⟨b, hl, h⟩ := Option.bind_eq_some_iff.mp h
      cases b with
      | true =>
        rw [if_pos rfl] at h
        exact next_name s i av w h0 h1 hA k t o hd c1 c2 c3 c4 hl h
      | false =>
        rw [if_neg Bool.false_ne_true] at h
        obtain ⟨b1, b2, ⟨hy, rfl, rfl⟩ | ⟨hy, rfl, rfl⟩⟩ := sym_cases h
        · exact next_syma s i av w h0 h1 hA k hd c1 c2 c3 c4 hl b1 b2 hy
        · exact next_nonea s i av w h0 h1 hA k hd c1 c2 c3 c4 hl b1 b2 hy
    rw [if_neg c3] at h
    by_cases c4 : bt s i = 35
    · rw [if_pos c4] at h
      by_cases c5 : 49 ≤ av
      · rw [if_pos c5] at h
        by_cases c6 : av ≤ 52
        · rw [if_pos c6] at h
          by_cases c : 0 ≤ wrap64 (i + 1) ∧ wrap64 (i + 1) ≤ wrap64 (i + 2) ∧ wrap64 (i + 2) ≤ (s.size : Int)
          case neg => rw [if_neg c] at h; cases h
          rw [if_pos c] at h
          cases h
          exact next_param s i av w h0 h1 hA hd c1 c2 c3 c4 c5 c6 c.1 c.2.1 c.2.2
        rw [if_neg c6] at h
        obtain ⟨b1, b2, ⟨hy, rfl, rfl⟩ | ⟨hy, rfl, rfl⟩⟩ := sym_cases h
        · exact next_symc s i av w h0 h1 hA k hd c1 c2 c3 c4 c5 c6 b1 b2 hy
        · exact next_nonec s i av w h0 h1 hA k hd c1 c2 c3 c4 c5 c6 b1 b2 hy
      rw [if_neg c5] at h
      obtain ⟨b1, b2, ⟨hy, rfl, rfl⟩ | ⟨hy, rfl, rfl⟩⟩ := sym_cases h
      · exact next_symb s i av w h0 h1 hA k hd c1 c2 c3 c4 c5 b1 b2 hy
      · exact next_noneb s i av w h0 h1 hA k hd c1 c2 c3 c4 c5 b1 b2 hy
    rw [if_neg c4] at h
    obtain ⟨b1, b2, ⟨hy, rfl, rfl⟩ | ⟨hy, rfl, rfl⟩⟩ := sym_cases h
    · exact next_symd s i av w h0 h1 hA k hd c1 c2 c3 c4 b1 b2 hy
    · exact next_noned s i av w h0 h1 hA k hd c1 c2 c3 c4 b1 b2 hy
end Go.Proofs.Ytjihcncajpmgiaa.A
