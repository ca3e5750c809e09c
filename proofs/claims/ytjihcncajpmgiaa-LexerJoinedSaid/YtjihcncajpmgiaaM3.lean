/- The tokens of a text: which kinds and texts a token can have, and that a token's spelling is read as this token where what follows does not join. -/
import Derived.Test.YtjihcncajpmgiaaM2
namespace Go.Proofs.Ytjihcncajpmgiaa.M
open Go.RowKit Go.Proofs.YtjihcncajpmgiaaW.PrintWords Go.Proofs.YtjihcncajpmgiaaW.PrintLast Go.Proofs.YtjihcncajpmgiaaW.PrintMore Go.Proofs.Ytjihcncajpmgiaa.R Go.Proofs.Ytjihcncajpmgiaa.A
set_option linter.unusedVariables false
set_option linter.unusedSimpArgs false

def FENCE : Bs := [102, 101, 110, 99, 101]
def spM (kd : Int) (t : Bs) : Bs := if kd = 3 then 34 :: (esc t ++ [34]) else if kd = 4 then 92 :: t else if kd = 5 then 92 :: (FENCE ++ t) else if kd = 6 then 35 :: t else t
def prn (c : UInt8) : Bool := decide (32 ≤ c.toNat) && decide (c.toNat ≤ 126)
inductive NumT : Bs → Prop
  | whole (d : UInt8) (ds : Bs) : isDig d = true → ds.all isDig = true → NumT (d :: ds)
  | point (d : UInt8) (ds : Bs) (e : UInt8) (es : Bs) : isDig d = true → ds.all isDig = true → isDig e = true → es.all isDig = true → NumT (d :: (ds ++ 46 :: e :: es))
inductive TokOK : Int → Bs → Prop
  | num (t) : NumT t → TokOK 2 t
  | mark (c) : isMark c = true → TokOK 7 [c]
  | text (u) : u.all prn = true → TokOK 3 u
  | brk : TokOK 8 [92, 92]
  | name (t) : t ≠ [] → t.all isLet = true → t ≠ FENCE → TokOK 4 t
  | fence (a b) : isDelim a = true → isDelim b = true → TokOK 5 [a, b]
  | param (a) : 49 ≤ a.toNat ∧ a.toNat ≤ 52 → TokOK 6 [a]
  | sym (c) : isSym c = true → TokOK 1 [c]
/-- What may stand behind a token. -/
def okb (kd : Int) (r : Bs) : Prop := ∀ c r', r = c :: r' → (kd = 2 → isDig c = false ∧ c ≠ 46) ∧ (kd = 4 → isLet c = false)

theorem all_u8 {P : UInt8 → Bool} (h : (List.range 256).all (fun n => P (UInt8.ofNat n)) = true) (c : UInt8) : P c = true := by
  have := List.all_eq_true.1 h c.toNat (List.mem_range.2 c.toNat_lt)
  simpa using this
theorem sym_apart (c : UInt8) (h : isSym c = true) : isDig c = false ∧ isMark c = false ∧ c ≠ 34 ∧ c ≠ 92 ∧ c ≠ 35 ∧ c ≠ 46 ∧ isBl c = false := by
  have h1 := all_u8 (P := fun c => !isSym c || (!isDig c && !isMark c && c != 34 && c != 92 && c != 35 && c != 46 && !isBl c)) (by decide +kernel) c
  simp [h] at h1
  simp [h1]
theorem mark_apart (c : UInt8) (h : isMark c = true) : isDig c = false ∧ isLet c = false ∧ c ≠ 46 ∧ isBl c = false := by
  have h1 := all_u8 (P := fun c => !isMark c || (!isDig c && !isLet c && c != 46 && !isBl c)) (by decide +kernel) c
  simp [h] at h1
  simp [h1]
theorem dig_apart (c : UInt8) (h : isDig c = true) : isLet c = false ∧ c ≠ 46 ∧ isBl c = false := by
  have h1 := all_u8 (P := fun c => !isDig c || (!isLet c && c != 46 && !isBl c)) (by decide +kernel) c
  simp [h] at h1
  simp [h1]
theorem delim_let (c : UInt8) (h : isDelim c = true) : isLet c = false := by
  have h1 := all_u8 (P := fun c => !isDelim c || !isLet c) (by decide +kernel) c
  simp [h] at h1
  exact h1
theorem bl_apart (c : UInt8) (h : isBl c = true) : isDig c = false ∧ isLet c = false ∧ c ≠ 46 := by
  have h1 := all_u8 (P := fun c => !isBl c || (!isDig c && !isLet c && c != 46)) (by decide +kernel) c
  simp [h] at h1
  simp [h1]

theorem runL_all {p : UInt8 → Bool} : ∀ {a : Bs} (_ : a.all p = true) (b : Bs), runL p (a ++ b) = a.length + runL p b
  | [], _, b => by simp
  | c :: a, h, b => by
    simp only [List.all_cons, Bool.and_eq_true] at h
    have ih := runL_all h.2 b
    unfold runL at ih ⊢
    rw [List.cons_append, List.takeWhile_cons, if_pos h.1, List.length_cons, ih, List.length_cons]
    omega
theorem runL_stop {p : UInt8 → Bool} {c : UInt8} (h : p c = false) (r : Bs) : runL p (c :: r) = 0 := by
  unfold runL
  rw [List.takeWhile_cons, if_neg (by simp [h])]
  rfl
theorem runL_go {p : UInt8 → Bool} {c : UInt8} (h : p c = true) (r : Bs) : runL p (c :: r) = 1 + runL p r := by
  have := runL_all (p := p) (a := [c]) (by simp [h]) r
  simpa using this
theorem runL_split (p : UInt8 → Bool) (l : Bs) : ∃ a b, l = a ++ b ∧ a.all p = true ∧ a.length = runL p l ∧ (∀ c r, b = c :: r → p c = false) := by
  induction l with
  | nil => exact ⟨[], [], rfl, rfl, rfl, fun c r h => by cases h⟩
  | cons c l ih =>
    by_cases h : p c = true
    · obtain ⟨a, b, h1, h2, h3, h4⟩ := ih
      exact ⟨c :: a, b, by rw [h1]; rfl, by simp [h, h2], by rw [runL_go h, List.length_cons, h3]; omega, h4⟩
    · exact ⟨[], c :: l, rfl, rfl, by rw [runL_stop (by simpa using h)]; rfl, fun c' r he => by injection he with he; subst he; simpa using h⟩
theorem drop_len_app (a b : Bs) : (a ++ b).drop a.length = b := by simp
theorem take_len_app (a b : Bs) : (a ++ b).take a.length = a := by simp

theorem quoted_tok : ∀ (n : Nat) (l : Bs) (acc : Bs) (d : Nat) (kd : Int) (t : Bs) (m : Nat), l.length ≤ n → quotedM l acc d = .tok kd t m →
    kd = 3 ∧ ∃ u rest, l = esc u ++ 34 :: rest ∧ t = acc ++ u ∧ m = d + (esc u).length + 1 ∧ u.all prn = true := by
  intro n
  induction n with
  | zero =>
    intro l acc d kd t m hl h
    obtain rfl := List.eq_nil_of_length_eq_zero (Nat.le_zero.1 hl)
    unfold quotedM at h
    cases h
  | succ n ih =>
    intro l acc d kd t m hl h
    cases l with
    | nil => unfold quotedM at h; cases h
    | cons c r =>
      unfold quotedM at h
      by_cases c1 : c = 34
      · rw [if_pos c1] at h
        cases h
        subst c1
        exact ⟨rfl, [], r, rfl, by simp, rfl, rfl⟩
      rw [if_neg c1] at h
      by_cases c2 : c = 92
      · rw [if_pos c2] at h
        cases r with
        | nil => cases h
        | cons b r' =>
          have h' : (if b = 34 ∨ b = 92 then quotedM r' (acc ++ [b]) (d + 2) else .err d 3) = Nx.tok kd t m := h
          by_cases c3 : b = 34 ∨ b = 92
          · rw [if_pos c3] at h'
            simp only [List.length_cons] at hl
            obtain ⟨h1, u, rest, h2, h3, h4, h5⟩ := ih r' _ _ _ _ _ (by omega) h'
            refine ⟨h1, b :: u, rest, ?_, by rw [h3]; simp, ?_, ?_⟩
            · rcases c3 with rfl | rfl
              · rw [c2, h2]; rfl
              · rw [c2, h2]; rfl
            · rcases c3 with rfl | rfl
              · simp [esc, escB, h4]; omega
              · simp [esc, escB, h4]; omega
            · rcases c3 with rfl | rfl
              · rw [List.all_cons, h5, Bool.and_true]; decide
              · rw [List.all_cons, h5, Bool.and_true]; decide
          · rw [if_neg c3] at h'
            cases h'
      rw [if_neg c2] at h
      by_cases c3 : c.toNat < 32 ∨ 126 < c.toNat
      · rw [if_pos c3] at h; cases h
      rw [if_neg c3] at h
      simp only [List.length_cons] at hl
      obtain ⟨h1, u, rest, h2, h3, h4, h5⟩ := ih r _ _ _ _ _ (by omega) h
      have he : esc (c :: u) = c :: esc u := by simp [esc, escB, c1, c2]
      refine ⟨h1, c :: u, rest, by rw [he, h2]; rfl, by rw [h3]; simp, by rw [he, List.length_cons]; omega, ?_⟩
      rw [List.all_cons, h5, Bool.and_true]
      unfold prn
      rw [decide_eq_true (by omega), decide_eq_true (by omega)]
      rfl
theorem quoted_back : ∀ (u : Bs) (rest acc : Bs) (d : Nat), u.all prn = true → quotedM (esc u ++ 34 :: rest) acc d = .tok 3 (acc ++ u) (d + (esc u).length + 1)
  | [], rest, acc, d, _ => by
    unfold quotedM
    simp [esc]
  | c :: u, rest, acc, d, h => by
    simp only [List.all_cons, Bool.and_eq_true] at h
    have ih := quoted_back u rest
    by_cases c1 : c = 34
    · subst c1
      show quotedM (92 :: 34 :: (esc u ++ 34 :: rest)) acc d = _
      unfold quotedM
      rw [if_neg (by decide), if_pos rfl]
      show (if (34 : UInt8) = 34 ∨ (34 : UInt8) = 92 then quotedM (esc u ++ 34 :: rest) (acc ++ [34]) (d + 2) else .err d 3) = _
      rw [if_pos (.inl rfl), ih _ _ h.2]
      simp [esc, escB]
      omega
    by_cases c2 : c = 92
    · subst c2
      show quotedM (92 :: 92 :: (esc u ++ 34 :: rest)) acc d = _
      unfold quotedM
      rw [if_neg (by decide), if_pos rfl]
      show (if (92 : UInt8) = 34 ∨ (92 : UInt8) = 92 then quotedM (esc u ++ 34 :: rest) (acc ++ [92]) (d + 2) else .err d 3) = _
      rw [if_pos (.inr rfl), ih _ _ h.2]
      simp [esc, escB]
      omega
    have he : esc (c :: u) = c :: esc u := by simp [esc, escB, c1, c2]
    rw [he]
    show quotedM (c :: (esc u ++ 34 :: rest)) acc d = _
    unfold quotedM
    have hp := h.1
    unfold prn at hp
    simp only [Bool.and_eq_true, decide_eq_true_eq] at hp
    rw [if_neg c1, if_neg c2, if_neg (by omega), ih _ _ h.2]
    simp
    omega
/-! numbers -/
theorem numL_tok {c : UInt8} {r : Bs} (hc : isDig c = true) : NumT ((c :: r).take (numL (c :: r))) ∧ 1 ≤ numL (c :: r) := by
  obtain ⟨a, b, h1, h2, h3, h4⟩ := runL_split isDig (c :: r)
  have ha : ∃ ds, a = c :: ds := by
    cases a with
    | nil =>
      rw [List.nil_append] at h1
      have := h4 c r h1.symm
      rw [hc] at this
      cases this
    | cons x ds => injection h1 with h1 _; exact ⟨ds, by rw [h1]⟩
  obtain ⟨ds, rfl⟩ := ha
  simp only [List.all_cons, Bool.and_eq_true] at h2
  have e1 : (c :: r).drop (runL isDig (c :: r)) = b := by rw [← h3, h1, drop_len_app]
  have hlen : (c :: ds).length = ds.length + 1 := rfl
  by_cases hb : ∃ e r', b = 46 :: e :: r' ∧ isDig e = true
  · obtain ⟨e, r', rfl, he⟩ := hb
    obtain ⟨a2, b2, g1, g2, g3, g4⟩ := runL_split isDig (e :: r')
    have ha2 : ∃ es, a2 = e :: es := by
      cases a2 with
      | nil =>
        rw [List.nil_append] at g1
        have := g4 e r' g1.symm
        rw [he] at this
        cases this
      | cons x es => injection g1 with g1 _; exact ⟨es, by rw [g1]⟩
    obtain ⟨es, rfl⟩ := ha2
    simp only [List.all_cons, Bool.and_eq_true] at g2
    have e2 : numL (c :: r) = (c :: ds).length + 1 + (e :: es).length := by
      unfold numL
      rw [e1]
      show (if isDig e = true then _ else _) = _
      rw [if_pos he, ← h3, ← g3]
    rw [e2]
    refine ⟨?_, by omega⟩
    have : (c :: r).take ((c :: ds).length + 1 + (e :: es).length) = c :: (ds ++ 46 :: e :: es) := by
      rw [h1, g1]
      have := take_len_app ((c :: ds) ++ 46 :: (e :: es)) b2
      rw [List.length_append, List.length_cons (a := 46), show (c :: ds).length + ((e :: es).length + 1) = (c :: ds).length + 1 + (e :: es).length by omega] at this
      rw [List.append_assoc] at this
      exact this
    rw [this]
    exact .point c ds e es hc h2.2 he g2.2
  · have e2 : numL (c :: r) = runL isDig (c :: r) := by
      unfold numL
      rw [e1]
      split
      · rename_i e r'
        rw [if_neg (fun he => hb ⟨e, r', rfl, he⟩)]
      · rfl
    rw [e2, ← h3]
    have : (c :: r).take (c :: ds).length = c :: ds := by rw [h1]; exact take_len_app _ _
    rw [this]
    exact ⟨.whole c ds hc h2.2, by omega⟩
theorem numL_back {t : Bs} (h : NumT t) (r : Bs) (hr : ∀ c r', r = c :: r' → isDig c = false ∧ c ≠ 46) : numL (t ++ r) = t.length := by
  cases h with
  | whole d ds h1 h2 =>
    have hr0 : runL isDig r = 0 := by
      cases r with
      | nil => rfl
      | cons c r' => exact runL_stop (hr c r' rfl).1 r'
    have ha : (d :: ds).all isDig = true := by simp [h1, h2]
    have e : runL isDig ((d :: ds) ++ r) = (d :: ds).length := by rw [runL_all ha, hr0]; rfl
    unfold numL
    rw [e, drop_len_app]
    split
    · exact absurd rfl (hr 46 _ rfl).2
    · rfl
  | point d ds e es h1 h2 h3 h4 =>
    have hr0 : runL isDig r = 0 := by
      cases r with
      | nil => rfl
      | cons c r' => exact runL_stop (hr c r' rfl).1 r'
    have ha : (d :: ds).all isDig = true := by simp [h1, h2]
    have hb : (e :: es).all isDig = true := by simp [h3, h4]
    have e0 : d :: (ds ++ 46 :: e :: es) ++ r = (d :: ds) ++ (46 :: ((e :: es) ++ r)) := by simp
    have e1 : runL isDig ((d :: ds) ++ (46 :: ((e :: es) ++ r))) = (d :: ds).length := by rw [runL_all ha, runL_stop (by decide)]; rfl
    have e2 : runL isDig ((e :: es) ++ r) = (e :: es).length := by rw [runL_all hb, hr0]; rfl
    unfold numL
    rw [e0, e1, drop_len_app]
    show (if isDig e = true then (d :: ds).length + 1 + runL isDig ((e :: es) ++ r) else _) = _
    rw [if_pos h3, e2]
    simp
    omega
/-- Another digit behind a number makes it longer. -/
theorem numL_more {t : Bs} (h : NumT t) (c : UInt8) (r : Bs) (hc : isDig c = true) : t.length < numL (t ++ c :: r) := by
  cases h with
  | whole d ds h1 h2 =>
    have ha : (d :: ds).all isDig = true := by simp [h1, h2]
    have := (numL_le ((d :: ds) ++ c :: r)).1
    rw [runL_all ha, runL_go hc] at this
    omega
  | point d ds e es h1 h2 h3 h4 =>
    have ha : (d :: ds).all isDig = true := by simp [h1, h2]
    have hb : (e :: es).all isDig = true := by simp [h3, h4]
    have e0 : d :: (ds ++ 46 :: e :: es) ++ c :: r = (d :: ds) ++ (46 :: ((e :: es) ++ c :: r)) := by simp
    have e1 : runL isDig ((d :: ds) ++ (46 :: ((e :: es) ++ c :: r))) = (d :: ds).length := by rw [runL_all ha, runL_stop (by decide)]; rfl
    have e2 : runL isDig ((e :: es) ++ c :: r) = (e :: es).length + (1 + runL isDig r) := by rw [runL_all hb, runL_go hc]
    unfold numL
    rw [e0, e1, drop_len_app]
    show _ < (if isDig e = true then (d :: ds).length + 1 + runL isDig ((e :: es) ++ c :: r) else _)
    rw [if_pos h3, e2]
    simp
    omega
theorem numT_head {t : Bs} (h : NumT t) : ∃ d r, t = d :: r ∧ isDig d = true := by
  cases h with
  | whole d ds h1 h2 => exact ⟨d, ds, rfl, h1⟩
  | point d ds e es h1 h2 h3 h4 => exact ⟨d, _, rfl, h1⟩
end Go.Proofs.Ytjihcncajpmgiaa.M
