/- The lexer's next token: the Go code's twin comes to the model. -/
import Derived.Test.YtjihcncajpmgiaaM1
namespace Go.Proofs.Ytjihcncajpmgiaa.M
open Go.RowKit Go.Proofs.YtjihcncajpmgiaaW.PrintWords Go.Proofs.YtjihcncajpmgiaaW.PrintLast Go.Proofs.YtjihcncajpmgiaaW.PrintMore Go.Proofs.Ytjihcncajpmgiaa.R Go.Proofs.Ytjihcncajpmgiaa.A
set_option linter.unusedVariables false
set_option linter.unusedSimpArgs false

theorem runL_le (p : UInt8 → Bool) (l : Bs) : runL p l ≤ l.length := by
  unfold runL
  exact (List.takeWhile_sublist p).length_le
theorem runL_drop (p : UInt8 → Bool) (l : Bs) : l.drop (runL p l) = l.dropWhile p := by
  unfold runL
  induction l with
  | nil => rfl
  | cons c r ih =>
    rw [List.takeWhile_cons, List.dropWhile_cons]
    by_cases h : p c = true
    · rw [if_pos h, if_pos h, List.length_cons, List.drop_succ_cons, ih]
    · rw [if_neg h, if_neg h]
      rfl
theorem runL_take (p : UInt8 → Bool) (l : Bs) : l.take (runL p l) = l.takeWhile p := by
  unfold runL
  induction l with
  | nil => rfl
  | cons c r ih =>
    rw [List.takeWhile_cons]
    by_cases h : p c = true
    · rw [if_pos h, List.length_cons, List.take_succ_cons, ih]
    · rw [if_neg h]
      rfl
theorem numL_le (l : Bs) : runL isDig l ≤ numL l ∧ numL l ≤ l.length := by
  have h := runL_le isDig l
  unfold numL
  split
  · rename_i b r he
    have hl : l.length - runL isDig l = (46 :: b :: r).length := by rw [← he, List.length_drop]
    simp only [List.length_cons] at hl
    split
    · have := runL_le isDig (b :: r)
      simp only [List.length_cons] at this
      omega
    · omega
  · omega
theorem drop_drop' {s : ByteArray} {n : Nat} {l : Bs} (h : (L s).drop n = l) (m : Nat) : (L s).drop (n + m) = l.drop m := by rw [← h, List.drop_drop]
theorem number_eval (s : ByteArray) (hs : s.size ≤ 4611686018427387904) (n : Nat) (hn : n ≤ s.size) (k : Nat) (hk : s.size - n < k) : lexer_number.f k s (n : Int) = some ((n + numL ((L s).drop n) : Nat) : Int) := by
  unfold lexer_number.f
  rw [run_eval dig_eval s hs k n hn hk, Option.bind_some]
  have hle := runL_le isDig ((L s).drop n)
  rw [List.length_drop, L_len] at hle
  have hd := drop_drop' (s := s) (n := n) rfl (runL isDig ((L s).drop n))
  unfold numL
  generalize runL isDig ((L s).drop n) = m at hle hd ⊢
  rw [w64_1 (by omega)]
  rw [← hd]
  rcases drop_cases s (n + m) with ⟨h1, h2⟩ | ⟨c, r, h⟩
  · rw [if_neg (by omega), h2]
  · obtain ⟨h1, h2, h3⟩ := bt_drop h
    rw [h]
    rcases drop_cases s (n + m + 1) with ⟨g1, g2⟩ | ⟨b, r', g⟩
    · rw [if_neg (by omega)]
      rw [h3] at g2
      subst g2
      split
      · rename_i heq
        cases heq
      · rfl
    · obtain ⟨g1, g2, g3⟩ := bt_drop g
      rw [if_pos (by omega), if_pos (by omega), if_pos (by omega), h1]
      rw [h3] at g
      subst g
      by_cases h46 : (c.toNat : Int) = 46
      · rw [if_pos h46, if_pos (by omega), g1, dig_eval, Option.bind_some]
        have e := (u8_eq c 46 (by omega)).2 h46
        subst e
        by_cases hb : isDig b = true
        · rw [if_pos hb, run_eval dig_eval s hs k (n + m + 1) (by omega) (by omega), h3]
          show _ = some ((n + (if isDig b = true then _ else _) : Nat) : Int)
          rw [if_pos hb]
          congr 2
          omega
        · rw [if_neg hb]
          show _ = some ((n + (if isDig b = true then _ else _) : Nat) : Int)
          rw [if_neg hb]
      · rw [if_neg h46]
        split
        · rename_i heq
          injection heq with heq
          exact absurd ((u8_eq c 46 (by omega)).1 heq) h46
        · rfl
theorem one_byte {s : ByteArray} {n : Nat} {c : UInt8} {r : Bs} (h : (L s).drop n = c :: r) : s.extract n (n + 1) = mk [c] := by
  apply ba_ext
  rw [L_extract, h, L_mk, Nat.add_sub_cancel_left]
  rfl
theorem index_ge (l : Bs) (c : UInt8) : decide (Lib.indexByte l c ≥ 0) = l.contains c := by
  induction l with
  | nil => rfl
  | cons a t ih =>
    have hg := Lib.indexByte_ge t c
    rw [List.contains_cons]
    unfold Lib.indexByte
    by_cases h : a = c
    · subst h
      simp
    · have h1 : (a == c) = false := beq_eq_false_iff_ne.2 h
      have h2 : (c == a) = false := beq_eq_false_iff_ne.2 (Ne.symm h)
      rw [h1, h2, Bool.false_or, ← ih, if_neg Bool.false_ne_true]
      by_cases h3 : Lib.indexByte t c = -1
      · rw [h3]
        rfl
      · have h4 : (Lib.indexByte t c == -1) = false := beq_eq_false_iff_ne.2 h3
        rw [h4, if_neg Bool.false_ne_true]
        exact decide_eq_decide.2 (by omega)
theorem contains_byte (l : Bs) (c : UInt8) : strings_Contains.f (mk l) (mk [c]) = some (l.contains c) := by
  unfold strings_Contains.f strings_Index.f stringslite_Index.f
  rw [if_pos (show (mk [c]).size = 1 from rfl), Option.bind_some, Option.bind_some]
  congr 1
  exact index_ge l c
theorem marks_eval (c : UInt8) : (0 ≤ inMarks (c.toNat : Int)) ↔ isMark c = true := by
  have e : ((c.toNat : Int).toNat).toUInt8 = c := by
    rw [Int.toNat_natCast]
    exact UInt8.ofNat_toNat
  unfold inMarks
  rw [e]
  have h := index_ge [123, 125, 40, 41, 91, 93, 94, 95, 38] c
  unfold isMark
  rw [← h]
  exact (decide_eq_true_iff).symm
theorem node_let (c : UInt8) : node_letter.f (c.toNat : Int) = some (isLet c) := let_eval c
theorem bt_one (c : UInt8) : bt (mk [c]) 0 = (c.toNat : Int) := (bt_drop (s := mk [c]) (n := 0) rfl).1
theorem sym_eval (k : Nat) (c : UInt8) : node_Symbol.f k (mk [c]) = some (isSym c) := by
  unfold node_Symbol.f
  rw [if_pos (show ((mk [c]).size : Int) = 1 from rfl), if_pos (show (0 : Int) < ((mk [c]).size : Int) from Int.one_pos), bt_one, node_let, Option.bind_some]
  unfold isSym
  by_cases h : isLet c = true
  · rw [if_pos h, h, Bool.true_or]
  · rw [if_neg h, eq_false_of_ne_true h, Bool.false_or]
    have := contains_byte [43, 45, 42, 47, 61, 60, 62, 44, 59, 58, 33, 124, 39, 63, 126, 64] c
    show (strings_Contains.f (mk [43, 45, 42, 47, 61, 60, 62, 44, 59, 58, 33, 124, 39, 63, 126, 64]) (mk [c])).bind _ = _
    rw [this, Option.bind_some]
def toS (n : Nat) : Nx → S28 × Option (Int × Int)
  | .tok kd t m => (⟨kd, mk t, (n : Int), ((n + m : Nat) : Int)⟩, none)
  | .err o e => (z28, some (((n + o : Nat) : Int), e))
theorem b8_drop {s : ByteArray} {n : Nat} {c : UInt8} {r : Bs} (h : (L s).drop n = c :: r) : b8 s (n : Int) = c := by
  unfold b8
  rw [(bt_drop h).1, Int.toNat_natCast]
  exact UInt8.ofNat_toNat
theorem quoted_eval (s : ByteArray) (hs : s.size ≤ 1000000) (n : Nat) : ∀ k d acc, n + d ≤ s.size → acc.length ≤ d → s.size - (n + d) < k →
    lexer_quoted.l0 k s (n : Int) acc ((n + d : Nat) : Int) = some (toS n (quotedM ((L s).drop (n + d)) acc d)) := by
  intro k
  induction k with
  | zero => intro d acc _ _ h; omega
  | succ k ih =>
    intro d acc hn ha hk
    simp only [lexer_quoted.l0]
    rcases drop_cases s (n + d) with ⟨h1, h2⟩ | ⟨c, r, h⟩
    · rw [if_neg (by omega), h2]
      rfl
    · obtain ⟨h1, h2, h3⟩ := bt_drop h
      have e34 : c = 34 ↔ (c.toNat : Int) = 34 := u8_eq c 34 (by omega)
      have e92 : c = 92 ↔ (c.toNat : Int) = 92 := u8_eq c 92 (by omega)
      rw [if_pos (by omega), if_pos (by omega), h1, h, w64_1 (by omega)]
      unfold quotedM
      by_cases c1 : (c.toNat : Int) = 34
      · rw [if_pos c1, if_pos (e34.2 c1)]
        rfl
      rw [if_neg c1, if_neg (fun h => c1 (e34.1 h))]
      by_cases c2 : (c.toNat : Int) = 92
      · rw [if_pos c2, if_pos (e92.2 c2)]
        rcases drop_cases s (n + d + 1) with ⟨g1, g2⟩ | ⟨b, r', g⟩
        · rw [if_neg (by omega), if_pos (by omega)]
          rw [h3] at g2
          subst g2
          have e : wrap64 (((n + d + 1 : Nat) : Int) - 1) = ((n + d : Nat) : Int) := by unfold wrap64; omega
          rw [e]
          rfl
        · obtain ⟨g1, g2, g3⟩ := bt_drop g
          rw [h3] at g
          subst g
          have f34 : b = 34 ↔ (b.toNat : Int) = 34 := u8_eq b 34 (by omega)
          have f92 : b = 92 ↔ (b.toNat : Int) = 92 := u8_eq b 92 (by omega)
          rw [if_pos (by omega), if_pos (by omega), g1]
          by_cases c3 : (b.toNat : Int) ≠ 34 ∧ (b.toNat : Int) ≠ 92
          · rw [if_pos c3]
            show _ = some (toS n (if b = 34 ∨ b = 92 then _ else _))
            rw [if_neg (fun h => h.elim (fun h => c3.1 (f34.1 h)) (fun h => c3.2 (f92.1 h)))]
            rfl
          · rw [if_neg c3, if_pos (by omega), b8_drop (r := r') h3, w64_1 (by omega)]
            show _ = some (toS n (if b = 34 ∨ b = 92 then _ else _))
            rw [if_pos (Classical.byContradiction fun h => c3 ⟨fun h1 => h (.inl (f34.2 h1)), fun h1 => h (.inr (f92.2 h1))⟩)]
            have := ih (d + 2) (acc ++ [b]) (by omega) (by rw [List.length_append]; simp only [List.length_cons, List.length_nil]; omega) (by omega)
            rw [show n + (d + 2) = n + d + 1 + 1 by omega] at this
            rw [this, g3]
      · rw [if_neg c2, if_neg (fun h => c2 (e92.1 h))]
        by_cases c3 : (c.toNat : Int) < 32 ∨ 126 < (c.toNat : Int)
        · rw [if_pos c3, if_pos (by omega)]
          rfl
        · have c3' : ¬ (c.toNat < 32 ∨ 126 < c.toNat) := by omega
          rw [if_neg c3, if_neg c3', if_pos (show acc.length + 1 ≤ 140737488355328 by omega), b8_drop h]
          have := ih (d + 1) (acc ++ [c]) (by omega) (by rw [List.length_append]; simp only [List.length_cons, List.length_nil]; omega) (by omega)
          rw [show n + (d + 1) = n + d + 1 by omega] at this
          rw [this, h3]
theorem L_toList (s : ByteArray) : s.toList = L s := ByteArray.toList_eq s
theorem ext_at {s : ByteArray} {n : Nat} {l : Bs} (h : (L s).drop n = l) (m : Nat) : s.extract n (n + m) = mk (l.take m) := by
  apply ba_ext
  rw [L_extract, h, L_mk, Nat.add_sub_cancel_left]
theorem isDelim_eval (c : UInt8) : strings_Contains.f DELIMS (mk [c]) = some (isDelim c) := contains_byte _ c
theorem name_eval (s : ByteArray) (hs : s.size ≤ 1000000) (n : Nat) (k : Nat) (r : Bs) (h : (L s).drop (n + 1) = r) (hn : n + 1 ≤ s.size) (hk : s.size - n < k) : lexer_name.f k s (n : Int) = some (toS n (nameM r)) := by
  have hl := drop_len h
  have hle := runL_le isLet r
  unfold lexer_name.f nameM
  rw [w64_1 (by omega), run_eval let_eval s (by omega) k (n + 1) hn (by omega), Option.bind_some, h]
  have hd := drop_drop' h (runL isLet r)
  generalize runL isLet r = m at hle hd ⊢
  rw [if_pos ⟨by omega, by omega, by omega⟩, Int.toNat_natCast, Int.toNat_natCast, ext_at h, L_toList, L_mk]
  by_cases c1 : r.take m = [102, 101, 110, 99, 101]
  · have hm : m = 5 := by
      have := congrArg List.length c1
      rw [List.length_take] at this
      simp only [List.length_cons, List.length_nil] at this
      omega
    subst hm
    rw [c1, if_neg (by simp), if_pos rfl, ← hd, w64_1 (by omega), w64_2 (by omega)]
    rcases drop_cases s (n + 1 + 5) with ⟨g1, g2⟩ | ⟨a, r1, g⟩
    · rw [if_pos (by omega), g2]
      rfl
    · obtain ⟨g1, g2, g3⟩ := bt_drop g
      rcases drop_cases s (n + 1 + 5 + 1) with ⟨i1, i2⟩ | ⟨b, r2, i⟩
      · rw [if_pos (by omega), g]
        rw [g3] at i2
        subst i2
        rfl
      · obtain ⟨i1, i2, i3⟩ := bt_drop i
        have ga := ext_at g 1
        have gb := ext_at i 1
        have gab := ext_at g 2
        have hr : r1 = b :: r2 := by rw [← g3, i]
        rw [if_neg (by omega), if_pos ⟨by omega, by omega, by omega, by omega, by omega, by omega, by omega⟩]
        simp only [Int.toNat_natCast]
        rw [show n + 1 + 5 + 1 + 1 = n + 1 + 5 + 2 by omega] at gb
        rw [ga, gb, gab, g, hr]
        show ((strings_Contains.f DELIMS (mk [a])).bind fun b1 => if b1 = true then ((strings_Contains.f DELIMS (mk [b])).bind fun b2 => _) else _) = some (toS n (if isDelim a = true ∧ isDelim b = true then _ else _))
        rw [isDelim_eval, Option.bind_some]
        by_cases d1 : isDelim a = true
        · rw [if_pos d1, isDelim_eval, Option.bind_some]
          by_cases d2 : isDelim b = true
          · rw [if_pos d2, if_pos ⟨d1, d2⟩]
            rfl
          · rw [if_neg d2, if_neg (fun h => d2 h.2)]
            rfl
        · rw [if_neg d1, if_neg (fun h => d1 h.1)]
          rfl
  · rw [if_pos (by simpa using c1), if_neg c1]
    show some _ = some (toS n (.tok 4 (r.take m) (1 + m)))
    unfold toS
    rw [show n + 1 + m = n + (1 + m) by omega]
theorem sym_of (k : Nat) (s : ByteArray) (n : Nat) (c : UInt8) (r : Bs) (h : (L s).drop n = c :: r) (hs : s.size ≤ 1000000) : symOf k s (n : Int) = some (toS n (if isSym c then .tok 1 [c] 1 else .err 0 3)) := by
  obtain ⟨h1, h2, h3⟩ := bt_drop h
  unfold symOf
  rw [w64_1 (by omega), if_pos ⟨by omega, by omega⟩, Int.toNat_natCast, Int.toNat_natCast, one_byte h, sym_eval, Option.bind_some]
  by_cases c1 : isSym c = true
  · rw [if_pos c1, if_pos c1]
    rfl
  · rw [if_neg c1, if_neg c1]
    rfl
theorem next_eval (s : ByteArray) (hs : s.size ≤ 1000000) (n : Nat) (c : UInt8) (r : Bs) (h : (L s).drop n = c :: r) (k : Nat) (hk : s.size - n < k) : lexer_next.f k s (n : Int) = some (toS n (nextM c r)) := by
  obtain ⟨h1, h2, h3⟩ := bt_drop h
  have e34 : c = 34 ↔ (c.toNat : Int) = 34 := u8_eq c 34 (by omega)
  have e92 : c = 92 ↔ (c.toNat : Int) = 92 := u8_eq c 92 (by omega)
  have e35 : c = 35 ↔ (c.toNat : Int) = 35 := u8_eq c 35 (by omega)
  have hav : afterOf s (n : Int) = some (match r with | [] => 0 | a :: _ => (a.toNat : Int)) := by
    unfold afterOf
    rw [w64_1 (by omega)]
    rcases drop_cases s (n + 1) with ⟨g1, g2⟩ | ⟨a, r1, g⟩
    · rw [if_neg (by omega)]
      rw [h3] at g2
      subst g2
      rfl
    · obtain ⟨g1, g2, g3⟩ := bt_drop g
      rw [h3] at g
      subst g
      rw [if_pos (by omega), if_pos (by omega), g1]
  have hsy := sym_of k s n c r h hs
  unfold lexer_next.f nextM
  rw [if_pos ⟨by omega, by omega⟩, hav, Option.bind_some, h1, dig_eval, Option.bind_some]
  by_cases c1 : isDig c = true
  · rw [if_pos c1, if_pos c1, number_eval s (by omega) n (by omega) k hk, Option.bind_some, h]
    have := numL_le (c :: r)
    have hl := drop_len h
    rw [if_pos ⟨by omega, by omega⟩, Int.toNat_natCast, Int.toNat_natCast, ext_at h]
    rfl
  rw [if_neg c1, if_neg c1]
  by_cases c2 : isMark c = true
  · rw [if_pos ((marks_eval c).2 c2), if_pos c2, w64_1 (by omega), if_pos ⟨by omega, by omega⟩, Int.toNat_natCast, Int.toNat_natCast, one_byte h]
    rfl
  rw [if_neg (fun h => c2 ((marks_eval c).1 h)), if_neg c2]
  by_cases c3 : (c.toNat : Int) = 34
  · rw [if_pos c3, if_pos (e34.2 c3)]
    unfold lexer_quoted.f
    have := quoted_eval s hs n k 1 [] (by omega) (by simp) (by omega)
    rw [w64_1 (by omega), this, h3]
  rw [if_neg c3, if_neg (fun h => c3 (e34.1 h))]
  by_cases c4 : (c.toNat : Int) = 92
  · have hc := e92.2 c4
    rw [if_pos c4, if_pos hc]
    rw [if_neg (by rw [hc]; decide)] at hsy
    cases r with
    | nil =>
      show (if (0 : Int) = 92 then _ else _) = _
      rw [if_neg (by omega)]
      show (lexer_letter.f 0).bind _ = _
      rw [show lexer_letter.f 0 = some false from rfl, Option.bind_some, if_neg Bool.false_ne_true]
      exact hsy
    | cons a r1 =>
      obtain ⟨g1, g2, g3⟩ := bt_drop h3
      have f92 : a = 92 ↔ (a.toNat : Int) = 92 := u8_eq a 92 (by omega)
      show (if (a.toNat : Int) = 92 then _ else _) = some (toS n (if a = 92 then _ else _))
      by_cases d1 : (a.toNat : Int) = 92
      · rw [if_pos d1, if_pos (f92.2 d1), w64_2 (by omega), if_pos ⟨by omega, by omega⟩, Int.toNat_natCast, Int.toNat_natCast, ext_at h 2, hc, f92.2 d1]
        rfl
      · rw [if_neg d1, if_neg (fun h => d1 (f92.1 h))]
        show (lexer_letter.f (a.toNat : Int)).bind _ = _
        rw [let_eval, Option.bind_some]
        by_cases d2 : isLet a = true
        · rw [if_pos d2, if_pos d2, name_eval s hs n k (a :: r1) h3 (by omega) hk]
        · rw [if_neg d2, if_neg d2]
          exact hsy
  rw [if_neg c4, if_neg (fun h => c4 (e92.1 h))]
  by_cases c5 : (c.toNat : Int) = 35
  · have hc := e35.2 c5
    rw [if_pos c5, if_pos hc]
    rw [if_neg (by rw [hc]; decide)] at hsy
    cases r with
    | nil =>
      show (if 49 ≤ (0 : Int) then _ else _) = _
      rw [if_neg (by omega)]
      exact hsy
    | cons a r1 =>
      obtain ⟨g1, g2, g3⟩ := bt_drop h3
      show (if 49 ≤ (a.toNat : Int) then (if (a.toNat : Int) ≤ 52 then _ else _) else _) = some (toS n (if 49 ≤ a.toNat ∧ a.toNat ≤ 52 then _ else _))
      by_cases d1 : 49 ≤ a.toNat
      · rw [if_pos (by omega)]
        by_cases d2 : a.toNat ≤ 52
        · rw [if_pos (by omega), if_pos (show 49 ≤ a.toNat ∧ a.toNat ≤ 52 from ⟨d1, d2⟩), w64_1 (by omega), w64_2 (by omega), if_pos ⟨by omega, by omega, by omega⟩, Int.toNat_natCast, Int.toNat_natCast, show n + 2 = n + 1 + 1 by omega, one_byte h3]
          rfl
        · rw [if_neg (by omega), if_neg (show ¬ (49 ≤ a.toNat ∧ a.toNat ≤ 52) from fun h => d2 h.2)]
          exact hsy
      · rw [if_neg (by omega), if_neg (show ¬ (49 ≤ a.toNat ∧ a.toNat ≤ 52) from fun h => d1 h.1)]
        exact hsy
  rw [if_neg c5, if_neg (fun h => c5 (e35.1 h))]
  exact hsy
end Go.Proofs.Ytjihcncajpmgiaa.M
