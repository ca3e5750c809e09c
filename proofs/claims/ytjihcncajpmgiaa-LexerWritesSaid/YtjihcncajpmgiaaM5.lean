/- The tokens of a text: the Go code's twin, and the list of tokens as a relation. -/
import Derived.Test.YtjihcncajpmgiaaM4
namespace Go.Proofs.Ytjihcncajpmgiaa.M
open Go.RowKit Go.Proofs.YtjihcncajpmgiaaW.PrintWords Go.Proofs.YtjihcncajpmgiaaW.PrintLast Go.Proofs.YtjihcncajpmgiaaW.PrintMore Go.Proofs.Ytjihcncajpmgiaa.R Go.Proofs.Ytjihcncajpmgiaa.A
set_option linter.unusedVariables false
set_option linter.unusedSimpArgs false

inductive TokP : Nat → Bs → List S28 → Prop
  | nil (n : Nat) (l : Bs) : l.all isBl = true → TokP n l []
  | cons (n : Nat) (b : Bs) (c : UInt8) (r : Bs) (kd : Int) (t : Bs) (m : Nat) (ts : List S28) : b.all isBl = true → isBl c = false → nextM c r = .tok kd t m → longM kd t = false →
      TokP (n + b.length + m) ((c :: r).drop m) ts → TokP n (b ++ c :: r) (⟨kd, mk t, ((n + b.length : Nat) : Int), ((n + b.length + m : Nat) : Int)⟩ :: ts)
theorem long_eval (kd : Int) (t : Bs) (x y : Int) : lexer_long.f kd (mk t) x y = some (longM kd t) := by
  unfold lexer_long.f longM
  rw [mk_size]
  by_cases h1 : kd = 4
  · rw [if_pos h1, if_pos h1]
    congr 1
    exact decide_eq_decide.2 (by omega)
  · rw [if_neg h1, if_neg h1]
    by_cases h2 : kd = 2
    · rw [if_pos h2, if_pos h2]
      congr 1
      exact decide_eq_decide.2 (by omega)
    · rw [if_neg h2, if_neg h2]
      by_cases h3 : kd = 3
      · rw [if_pos h3, if_pos h3]
        congr 1
        exact decide_eq_decide.2 (by omega)
      · rw [if_neg h3, if_neg h3]
theorem quoted_err : ∀ (n : Nat) (l : Bs) (acc : Bs) (d : Nat) (o : Nat) (e : Int), l.length ≤ n → quotedM l acc d = .err o e → o ≤ d + l.length ∧ e ≠ 0 := by
  intro n
  induction n with
  | zero =>
    intro l acc d o e hl h
    obtain rfl := List.eq_nil_of_length_eq_zero (Nat.le_zero.1 hl)
    unfold quotedM at h
    cases h
    exact ⟨by omega, by decide⟩
  | succ n ih =>
    intro l acc d o e hl h
    cases l with
    | nil => unfold quotedM at h; cases h; exact ⟨by omega, by decide⟩
    | cons c r =>
      simp only [List.length_cons] at hl ⊢
      unfold quotedM at h
      by_cases c1 : c = 34
      · rw [if_pos c1] at h
        cases h
      rw [if_neg c1] at h
      by_cases c2 : c = 92
      · rw [if_pos c2] at h
        cases r with
        | nil => cases h; exact ⟨by omega, by decide⟩
        | cons b r' =>
          have h' : (if b = 34 ∨ b = 92 then quotedM r' (acc ++ [b]) (d + 2) else .err d 3) = Nx.err o e := h
          simp only [List.length_cons] at hl ⊢
          by_cases c3 : b = 34 ∨ b = 92
          · rw [if_pos c3] at h'
            obtain ⟨h1, h2⟩ := ih r' _ _ _ _ (by omega) h'
            exact ⟨by omega, h2⟩
          · rw [if_neg c3] at h'
            cases h'
            exact ⟨by omega, by decide⟩
      rw [if_neg c2] at h
      by_cases c3 : c.toNat < 32 ∨ 126 < c.toNat
      · rw [if_pos c3] at h; cases h; exact ⟨by omega, by decide⟩
      rw [if_neg c3] at h
      obtain ⟨h1, h2⟩ := ih r _ _ _ _ (by omega) h
      exact ⟨by omega, h2⟩
theorem err0 {o : Nat} {e : Int} {n : Nat} (h : Nx.err 0 3 = .err o e) : o ≤ n ∧ e ≠ 0 := by
  cases h
  exact ⟨by omega, by decide⟩
theorem name_err {r : Bs} {o : Nat} {e : Int} (h : nameM r = .err o e) (n : Nat) : o ≤ n ∧ e ≠ 0 := by
  unfold nameM at h
  split at h
  · split at h
    · split at h
      · cases h
      · exact err0 h
    · exact err0 h
  · cases h
theorem next_err {c : UInt8} {r : Bs} {o : Nat} {e : Int} (h : nextM c r = .err o e) : o ≤ r.length + 1 ∧ e ≠ 0 := by
  unfold nextM at h
  split at h
  · cases h
  split at h
  · cases h
  split at h
  · obtain ⟨h1, h2⟩ := quoted_err r.length r _ _ _ _ (Nat.le_refl _) h
    exact ⟨by omega, h2⟩
  split at h
  · split at h
    · exact err0 h
    · split at h
      · cases h
      · split at h
        · exact name_err h _
        · exact err0 h
  split at h
  · split at h
    · exact err0 h
    · split at h
      · cases h
      · exact err0 h
  split at h
  · cases h
  · exact err0 h
theorem sp_pos {kd : Int} {t : Bs} (h : TokOK kd t) : 1 ≤ (spM kd t).length := by
  obtain ⟨c, r, e, _⟩ := sp_head h
  rw [e, List.length_cons]
  omega
theorem next_tok {c : UInt8} {r : Bs} {kd : Int} {t : Bs} {m : Nat} (h : nextM c r = .tok kd t m) : 1 ≤ m ∧ m ≤ (c :: r).length := by
  obtain ⟨h1, h2, h3⟩ := tok_of h
  have := sp_pos h1
  have h4 := congrArg List.length h2
  rw [List.length_append] at h4
  omega
/-- One round that ends. -/
theorem stop_eval (s : ByteArray) (hs : s.size ≤ 1000000) (out : List S28) (k : Nat) : lexer_Tokens.l0 (k + 1) s out (s.size : Int) = some (out, 0, 0) := by
  unfold lexer_Tokens.l0
  rw [if_neg (by omega)]
theorem fail_eval (s : ByteArray) (hs : s.size ≤ 1000000) (n : Nat) (c : UInt8) (r : Bs) (h : (L s).drop n = c :: r) (out : List S28) {o : Nat} {e : Int} (hn : nextM c r = .err o e) (k : Nat) (hk : s.size - n < k) :
    lexer_Tokens.l0 (k + 1) s out (n : Int) = some ([], ((n + o : Nat) : Int), e) := by
  obtain ⟨h1, h2, h3⟩ := bt_drop h
  unfold lexer_Tokens.l0
  rw [if_pos (by omega), next_eval s hs n c r h k hk, Option.bind_some, hn]
  rfl
theorem limit_eval (s : ByteArray) (hs : s.size ≤ 1000000) (n : Nat) (c : UInt8) (r : Bs) (h : (L s).drop n = c :: r) (out : List S28) {kd : Int} {t : Bs} {m : Nat} (hn : nextM c r = .tok kd t m)
    (hl : longM kd t = true ∨ out.length = 8000) (k : Nat) (hk : s.size - n < k) : lexer_Tokens.l0 (k + 1) s out (n : Int) = some ([], (n : Int), 6) := by
  obtain ⟨h1, h2, h3⟩ := bt_drop h
  unfold lexer_Tokens.l0
  rw [if_pos (by omega), next_eval s hs n c r h k hk, Option.bind_some, hn]
  show tokStep (lexer_long.f kd (mk t) _ _) _ _ _ none = _
  rw [long_eval]
  unfold tokStep
  show (if longM kd t = true then _ else _) = _
  by_cases c1 : longM kd t = true
  · rw [if_pos c1]
  · rw [if_neg c1, if_pos (by rcases hl with h | h; exact absurd h c1; omega)]
theorem go_eval (s : ByteArray) (hs : s.size ≤ 1000000) (n : Nat) (c : UInt8) (r : Bs) (h : (L s).drop n = c :: r) (out : List S28) {kd : Int} {t : Bs} {m : Nat} (hn : nextM c r = .tok kd t m)
    (hl : longM kd t = false) (ho : out.length < 8000) (k : Nat) (hk : s.size - n < k) :
    lexer_Tokens.l0 (k + 1) s out (n : Int) = lexer_Tokens.l0 k s (out ++ [⟨kd, mk t, (n : Int), ((n + m : Nat) : Int)⟩]) ((n + m + runL isBl ((c :: r).drop m) : Nat) : Int) := by
  obtain ⟨h1, h2, h3⟩ := bt_drop h
  have hb := next_tok hn
  have hd := drop_drop' h m
  have hlen := drop_len h
  conv => lhs; unfold lexer_Tokens.l0
  rw [if_pos (by omega), next_eval s hs n c r h k hk, Option.bind_some, hn]
  show tokStep (lexer_long.f kd (mk t) _ _) _ _ ((lexer_run.l0 lexer_blank.f k s ((n + m : Nat) : Int)).bind _) none = _
  rw [long_eval, run_eval bl_eval s (by omega) k (n + m) (by omega) (by omega), Option.bind_some, hd]
  unfold tokStep
  show (if longM kd t = true then _ else _) = _
  rw [hl, if_neg Bool.false_ne_true, if_neg (by omega), if_pos (by omega)]
  rfl
theorem drop_runL_head {l : Bs} {c : UInt8} {r : Bs} (h : l.drop (runL isBl l) = c :: r) : isBl c = false := by
  obtain ⟨a, b, h1, h2, h3, h4⟩ := runL_split isBl l
  rw [← h3, h1, drop_len_app] at h
  exact h4 c r h
theorem take_runL_all (l : Bs) : (l.take (runL isBl l)).all isBl = true := by
  obtain ⟨a, b, h1, h2, h3, h4⟩ := runL_split isBl l
  rw [← h3, h1, take_len_app]
  exact h2
/-- Every text has its tokens, or an error at a place in it. -/
theorem tokens_total (s : ByteArray) (hs : s.size ≤ 1000000) : ∀ (d n : Nat) (out : List S28), s.size - n ≤ d → n ≤ s.size → out.length ≤ 8000 → ∃ K, ∀ k, K ≤ k →
    (∃ ts, TokP n ((L s).drop n) ts ∧ (out ++ ts).length ≤ 8000 ∧ lexer_Tokens.l0 k s out ((n + runL isBl ((L s).drop n) : Nat) : Int) = some (out ++ ts, 0, 0))
    ∨ (∃ a e, e ≠ 0 ∧ (a : Nat) ≤ s.size ∧ lexer_Tokens.l0 k s out ((n + runL isBl ((L s).drop n) : Nat) : Int) = some ([], (a : Int), e)) := by
  intro d
  induction d with
  | zero =>
    intro n out hd hn ho0
    have : n = s.size := by omega
    subst this
    refine ⟨1, fun k hk => .inl ⟨[], ?_, by simpa using ho0, ?_⟩⟩
    · rw [List.drop_of_length_le (Nat.le_of_eq (L_len s))]
      exact .nil _ _ rfl
    · obtain ⟨k, rfl⟩ : ∃ j, k = j + 1 := ⟨k - 1, by omega⟩
      rw [List.drop_of_length_le (Nat.le_of_eq (L_len s)), List.append_nil]
      exact stop_eval s hs out k
  | succ d ih =>
    intro n out hd hn ho0
    have hle := runL_le isBl ((L s).drop n)
    rw [List.length_drop, L_len] at hle
    have hdd := drop_drop' (s := s) (n := n) rfl (runL isBl ((L s).drop n))
    have hta := List.take_append_drop (runL isBl ((L s).drop n)) ((L s).drop n)
    have hal := take_runL_all ((L s).drop n)
    have hhd : ∀ c r, ((L s).drop n).drop (runL isBl ((L s).drop n)) = c :: r → isBl c = false := fun c r h => drop_runL_head h
    have hlt : ((List.drop n (L s)).take (runL isBl (List.drop n (L s)))).length = runL isBl (List.drop n (L s)) := by rw [List.length_take, List.length_drop, L_len]; omega
    rw [← hdd] at hta hhd
    generalize ((List.drop n (L s)).take (runL isBl (List.drop n (L s)))) = b at hta hal hlt
    generalize runL isBl ((L s).drop n) = q at hle hdd hta hhd hlt ⊢
    rcases drop_cases s (n + q) with ⟨h1, h2⟩ | ⟨c, r, h⟩
    · have e : n + q = s.size := by omega
      refine ⟨1, fun k hk => .inl ⟨[], ?_, by simpa using ho0, ?_⟩⟩
      · rw [h2, List.append_nil] at hta
        rw [← hta]
        exact .nil _ _ hal
      · obtain ⟨k, rfl⟩ : ∃ j, k = j + 1 := ⟨k - 1, by omega⟩
        rw [List.append_nil, e]
        exact stop_eval s hs out k
    · have hcb := hhd c r h
      obtain ⟨h1, h2, h3⟩ := bt_drop h
      cases hn : nextM c r with
      | err o e =>
        obtain ⟨g1, g2⟩ := next_err hn
        refine ⟨s.size + 2, fun k hk => .inr ⟨n + q + o, e, g2, ?_, ?_⟩⟩
        · have := drop_len h
          rw [List.length_cons] at this
          omega
        · obtain ⟨k, rfl⟩ : ∃ j, k = j + 1 := ⟨k - 1, by omega⟩
          exact fail_eval s hs (n + q) c r h out hn k (by omega)
      | tok kd t m =>
        by_cases hl : longM kd t = true ∨ out.length = 8000
        · refine ⟨s.size + 2, fun k hk => .inr ⟨n + q, 6, by decide, by omega, ?_⟩⟩
          obtain ⟨k, rfl⟩ : ∃ j, k = j + 1 := ⟨k - 1, by omega⟩
          exact limit_eval s hs (n + q) c r h out hn hl k (by omega)
        · by_cases ho : out.length < 8000
          case neg => exact absurd (.inr (by omega)) hl
          have hl1 : longM kd t = false := Bool.eq_false_iff.2 (fun h => hl (.inl h))
          have hb := next_tok hn
          have hlen := drop_len h
          have hd' := drop_drop' h m
          obtain ⟨K, hK⟩ := ih (n + q + m) (out ++ [⟨kd, mk t, ((n + q : Nat) : Int), ((n + q + m : Nat) : Int)⟩]) (by omega) (by omega) (by rw [List.length_append, List.length_cons, List.length_nil]; omega)
          refine ⟨K + s.size + 2, fun k hk => ?_⟩
          obtain ⟨k, rfl⟩ : ∃ j, k = j + 1 := ⟨k - 1, by omega⟩
          rw [go_eval s hs (n + q) c r h out hn hl1 ho k (by omega), ← hd']
          rcases hK k (by omega) with ⟨ts, g1, g2, g3⟩ | ⟨a, e, g1, g2, g3⟩
          · refine .inl ⟨⟨kd, mk t, ((n + q : Nat) : Int), ((n + q + m : Nat) : Int)⟩ :: ts, ?_, ?_, ?_⟩
            · rw [← hta, h]
              have := TokP.cons n b c r kd t m ts hal hcb hn hl1
              rw [hlt] at this
              exact this (by rw [← hd']; exact g1)
            · simpa [List.append_assoc] using g2
            · rw [g3, List.append_assoc]
              rfl
          · exact .inr ⟨a, e, g1, g2, g3⟩
theorem runL_bl {b : Bs} (hb : b.all isBl = true) {c : UInt8} (hc : isBl c = false) (r : Bs) : runL isBl (b ++ c :: r) = b.length := by rw [runL_all hb, runL_stop hc]; rfl
/-- What is a list of tokens is found. -/
theorem tokens_found (s : ByteArray) (hs : s.size ≤ 1000000) : ∀ (ts : List S28) (n : Nat) (out : List S28), TokP n ((L s).drop n) ts → n ≤ s.size → (out ++ ts).length ≤ 8000 → ∃ K, ∀ k, K ≤ k →
    lexer_Tokens.l0 k s out ((n + runL isBl ((L s).drop n) : Nat) : Int) = some (out ++ ts, 0, 0) := by
  intro ts
  induction ts with
  | nil =>
    intro n out h hn ho
    generalize hl : (L s).drop n = l at h
    cases h with
    | nil _ _ hb =>
      have e : n + runL isBl l = s.size := by
        have := runL_all hb []
        rw [List.append_nil] at this
        rw [this]
        have := drop_len hl
        show n + (l.length + 0) = _
        omega
      refine ⟨1, fun k hk => ?_⟩
      obtain ⟨k, rfl⟩ : ∃ j, k = j + 1 := ⟨k - 1, by omega⟩
      rw [e, List.append_nil]
      exact stop_eval s hs out k
  | cons tk ts ih =>
    intro n out h hn ho
    generalize hl : (L s).drop n = l at h
    cases h with
    | cons _ b c r kd t m _ hb hc hnx hlg hrest =>
      rw [runL_bl hb hc]
      have hd : (L s).drop (n + b.length) = c :: r := by rw [drop_drop' hl, drop_len_app]
      have hd' := drop_drop' hd m
      obtain ⟨h1, h2, h3⟩ := bt_drop hd
      have hb' := next_tok hnx
      have hlen := drop_len hd
      rw [List.length_append, List.length_cons] at ho
      rw [← hd'] at hrest
      obtain ⟨K, hK⟩ := ih (n + b.length + m) (out ++ [⟨kd, mk t, ((n + b.length : Nat) : Int), ((n + b.length + m : Nat) : Int)⟩]) hrest (by omega) (by simp only [List.length_append, List.length_cons, List.length_nil]; omega)
      refine ⟨K + s.size + 2, fun k hk => ?_⟩
      obtain ⟨k, rfl⟩ : ∃ j, k = j + 1 := ⟨k - 1, by omega⟩
      rw [go_eval s hs (n + b.length) c r hd out hnx hlg (by omega) k (by omega), ← hd', hK k (by omega), List.append_assoc]
      rfl
theorem Tokens_start (s : ByteArray) (hs : s.size ≤ 1000000) (k : Nat) (hk : s.size < k) : lexer_Tokens.f k s = lexer_Tokens.l0 k s [] ((0 + runL isBl ((L s).drop 0) : Nat) : Int) := by
  unfold lexer_Tokens.f
  have := run_eval bl_eval s (by omega) k 0 (by omega) (by omega)
  rw [show (0 : Int) = ((0 : Nat) : Int) from rfl, this, Option.bind_some]
theorem Tokens_total (s : ByteArray) (hs : s.size ≤ 1000000) : (∃ ts, TokP 0 (L s) ts ∧ ts.length ≤ 8000 ∧ Ev (fun k => lexer_Tokens.f k s) (ts, 0, 0))
    ∨ (∃ (a : Nat) (e : Int), e ≠ 0 ∧ a ≤ s.size ∧ Ev (fun k => lexer_Tokens.f k s) ([], (a : Int), e)) := by
  obtain ⟨K, hK⟩ := tokens_total s hs s.size 0 [] (by omega) (by omega) (by simp)
  rcases hK K (Nat.le_refl _) with ⟨ts, g1, g2, g3⟩ | ⟨a, e, g1, g2, g3⟩
  · refine .inl ⟨ts, g1, by simpa using g2, ⟨K + s.size + 1, fun k hk => ?_⟩⟩
    show lexer_Tokens.f k s = _
    rw [Tokens_start s hs k (by omega)]
    have : lexer_Tokens.l0 k s [] ((0 + runL isBl ((L s).drop 0) : Nat) : Int) = some ([] ++ ts, 0, 0) := at_rounds (g := fun k => lexer_Tokens.l0 k s [] ((0 + runL isBl ((L s).drop 0) : Nat) : Int)) (fun k => lexer_Tokens.mono_l k _ _ _) (by omega : K ≤ k) g3
    exact this
  · refine .inr ⟨a, e, g1, g2, ⟨K + s.size + 1, fun k hk => ?_⟩⟩
    show lexer_Tokens.f k s = _
    rw [Tokens_start s hs k (by omega)]
    exact at_rounds (g := fun k => lexer_Tokens.l0 k s [] ((0 + runL isBl ((L s).drop 0) : Nat) : Int)) (fun k => lexer_Tokens.mono_l k _ _ _) (by omega : K ≤ k) g3
theorem Tokens_found (s : ByteArray) (hs : s.size ≤ 1000000) (ts : List S28) (h : TokP 0 (L s) ts) (hl : ts.length ≤ 8000) : Ev (fun k => lexer_Tokens.f k s) (ts, 0, 0) := by
  obtain ⟨K, hK⟩ := tokens_found s hs ts 0 [] h (by omega) (by simpa using hl)
  refine ⟨K + s.size + 1, fun k hk => ?_⟩
  show lexer_Tokens.f k s = _
  rw [Tokens_start s hs k (by omega), hK k (by omega)]
  rfl
theorem TokP.len {n : Nat} {l : Bs} {ts : List S28} (h : TokP n l ts) : ts.length ≤ l.length := by
  induction h with
  | nil n l hb => exact Nat.zero_le _
  | cons n b c r kd t m ts h1 h2 h3 h4 h5 ih =>
    have := next_tok h3
    rw [List.length_drop] at ih
    simp only [List.length_cons, List.length_append] at this ih ⊢
    omega
end Go.Proofs.Ytjihcncajpmgiaa.M
