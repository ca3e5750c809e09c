/- A token's spelling, and what it is read as. -/
import Derived.Test.YtjihcncajpmgiaaM3
namespace Go.Proofs.Ytjihcncajpmgiaa.M
open Go.RowKit Go.Proofs.YtjihcncajpmgiaaW.PrintWords Go.Proofs.YtjihcncajpmgiaaW.PrintLast Go.Proofs.YtjihcncajpmgiaaW.PrintMore Go.Proofs.Ytjihcncajpmgiaa.R Go.Proofs.Ytjihcncajpmgiaa.A
set_option linter.unusedVariables false
set_option linter.unusedSimpArgs false

theorem sp1 (t : Bs) : spM 1 t = t := rfl
theorem sp2 (t : Bs) : spM 2 t = t := rfl
theorem sp3 (t : Bs) : spM 3 t = 34 :: (esc t ++ [34]) := rfl
theorem sp4 (t : Bs) : spM 4 t = 92 :: t := rfl
theorem sp5 (t : Bs) : spM 5 t = 92 :: (FENCE ++ t) := rfl
theorem sp6 (t : Bs) : spM 6 t = 35 :: t := rfl
theorem sp7 (t : Bs) : spM 7 t = t := rfl
theorem sp8 (t : Bs) : spM 8 t = t := rfl
theorem cut_app {l a b : Bs} {m : Nat} (h : l = a ++ b) (hm : m = a.length) : l = a ++ l.drop m ∧ m = a.length := by
  subst hm
  exact ⟨by rw [h, drop_len_app], rfl⟩
theorem one_app {c : UInt8} {r : Bs} : c :: r = [c] ++ (c :: r).drop 1 ∧ 1 = [c].length := ⟨rfl, rfl⟩
theorem name_tok {a : UInt8} {r1 : Bs} {kd : Int} {t : Bs} {m : Nat} (hl : isLet a = true) (h : nameM (a :: r1) = .tok kd t m) :
    TokOK kd t ∧ (92 :: a :: r1 = spM kd t ++ (92 :: a :: r1).drop m ∧ m = (spM kd t).length) := by
  unfold nameM at h
  have hle := runL_le isLet (a :: r1)
  have hall : ((a :: r1).take (runL isLet (a :: r1))).all isLet = true := by
    obtain ⟨x, y, h1, h2, h3, h4⟩ := runL_split isLet (a :: r1)
    rw [← h3, h1, take_len_app]
    exact h2
  have hpos : 1 ≤ runL isLet (a :: r1) := by rw [runL_go hl]; omega
  have hta := List.take_append_drop (runL isLet (a :: r1)) (a :: r1)
  generalize runL isLet (a :: r1) = n at h hle hall hpos hta
  by_cases c1 : (a :: r1).take n = [102, 101, 110, 99, 101]
  · rw [if_pos c1] at h
    generalize hd : (a :: r1).drop n = d at h hta
    match d, h with
    | [], h => cases h
    | [_], h => cases h
    | x :: y :: z, h =>
      have h' : (if isDelim x = true ∧ isDelim y = true then Nx.tok 5 [x, y] 8 else .err 0 3) = .tok kd t m := h
      by_cases c2 : isDelim x = true ∧ isDelim y = true
      · rw [if_pos c2] at h'
        cases h'
        refine ⟨.fence x y c2.1 c2.2, ?_⟩
        rw [sp5]
        refine cut_app (b := z) ?_ rfl
        rw [← hta, c1]
        rfl
      · rw [if_neg c2] at h'; cases h'
  · rw [if_neg c1] at h
    cases h
    refine ⟨.name _ ?_ hall c1, ?_⟩
    · intro e
      have := congrArg List.length e
      rw [List.length_take] at this
      simp only [List.length_nil] at this
      omega
    · rw [sp4]
      refine cut_app (b := (a :: r1).drop n) ?_ ?_
      · rw [List.cons_append, hta]
      · rw [List.length_cons, List.length_take]
        omega
theorem tok_of {c : UInt8} {r : Bs} {kd : Int} {t : Bs} {m : Nat} (h : nextM c r = .tok kd t m) : TokOK kd t ∧ (c :: r = spM kd t ++ (c :: r).drop m ∧ m = (spM kd t).length) := by
  unfold nextM at h
  by_cases c1 : isDig c = true
  · rw [if_pos c1] at h
    cases h
    refine ⟨.num _ (numL_tok c1).1, ?_⟩
    rw [sp2, List.take_append_drop, List.length_take]
    have := (numL_le (c :: r)).2
    exact ⟨rfl, by omega⟩
  rw [if_neg c1] at h
  by_cases c2 : isMark c = true
  · rw [if_pos c2] at h
    cases h
    exact ⟨.mark c c2, one_app⟩
  rw [if_neg c2] at h
  by_cases c3 : c = 34
  · rw [if_pos c3] at h
    obtain ⟨rfl, u, rest, h2, h3, h4, h5⟩ := quoted_tok r.length r _ _ _ _ _ (Nat.le_refl _) h
    rw [List.nil_append] at h3
    subst h3
    refine ⟨.text _ h5, ?_⟩
    rw [sp3, c3]
    refine cut_app (b := rest) (by rw [h2]; simp) (by rw [h4]; simp; omega)
  rw [if_neg c3] at h
  by_cases c4 : c = 92
  · rw [if_pos c4] at h
    cases r with
    | nil => cases h
    | cons a r1 =>
      have h' : (if a = 92 then Nx.tok 8 [92, 92] 2 else if isLet a then nameM (a :: r1) else .err 0 3) = .tok kd t m := h
      by_cases d1 : a = 92
      · rw [if_pos d1] at h'
        cases h'
        refine ⟨.brk, ?_⟩
        rw [c4, d1]
        exact ⟨rfl, rfl⟩
      rw [if_neg d1] at h'
      by_cases d2 : isLet a = true
      · rw [if_pos d2] at h'
        rw [c4]
        exact name_tok d2 h'
      · rw [if_neg d2] at h'; cases h'
  rw [if_neg c4] at h
  by_cases c5 : c = 35
  · rw [if_pos c5] at h
    cases r with
    | nil => cases h
    | cons a r1 =>
      have h' : (if 49 ≤ a.toNat ∧ a.toNat ≤ 52 then Nx.tok 6 [a] 2 else .err 0 3) = .tok kd t m := h
      by_cases d1 : 49 ≤ a.toNat ∧ a.toNat ≤ 52
      · rw [if_pos d1] at h'
        cases h'
        refine ⟨.param a d1, ?_⟩
        rw [c5]
        exact ⟨rfl, rfl⟩
      · rw [if_neg d1] at h'; cases h'
  rw [if_neg c5] at h
  by_cases c6 : isSym c = true
  · rw [if_pos c6] at h
    cases h
    exact ⟨.sym c c6, one_app⟩
  · rw [if_neg c6] at h; cases h
theorem nameM_plain {t : Bs} (h0 : t ≠ FENCE) (ha : t.all isLet = true) (r : Bs) (hr : ∀ c r', r = c :: r' → isLet c = false) : nameM (t ++ r) = .tok 4 t (1 + t.length) := by
  have hr0 : runL isLet r = 0 := by
    cases r with
    | nil => rfl
    | cons c r' => exact runL_stop (hr c r' rfl) r'
  have e : runL isLet (t ++ r) = t.length := by rw [runL_all ha, hr0]; rfl
  unfold nameM
  rw [e, take_len_app, if_neg (show ¬ t = [102, 101, 110, 99, 101] from h0)]
/-- A token's spelling is read as the token, if what stands behind it does not join. -/
theorem tok_back {kd : Int} {t : Bs} (h : TokOK kd t) (r : Bs) (hr : okb kd r) : ∃ c r', spM kd t ++ r = c :: r' ∧ nextM c r' = .tok kd t (spM kd t).length ∧ isBl c = false := by
  cases h with
  | num _ hn =>
    have hb := numL_back hn r (fun c r' e => (hr c r' e).1 rfl)
    obtain ⟨d, t', e, hd⟩ := numT_head hn
    rw [sp2]
    refine ⟨d, t' ++ r, by rw [e]; rfl, ?_, (dig_apart d hd).2.2⟩
    have e2 : d :: (t' ++ r) = t ++ r := by rw [e]; rfl
    unfold nextM
    rw [if_pos hd, e2, hb, take_len_app]
  | mark c hc =>
    obtain ⟨h1, h2, h3, h4⟩ := mark_apart c hc
    refine ⟨c, r, rfl, ?_, h4⟩
    unfold nextM
    rw [if_neg (by rw [h1]; decide), if_pos hc]
    rfl
  | text u hu =>
    refine ⟨34, esc t ++ 34 :: r, by rw [sp3]; simp, ?_, by decide⟩
    unfold nextM
    rw [if_neg (by decide), if_neg (by decide), if_pos rfl, quoted_back t r [] 1 hu, sp3]
    simp
    omega
  | brk => exact ⟨92, 92 :: r, rfl, rfl, by decide⟩
  | name _ h1 h2 h3 =>
    have hb := nameM_plain h3 h2 r (fun c r' e => (hr c r' e).2 rfl)
    cases t with
    | nil => exact absurd rfl h1
    | cons a t' =>
      refine ⟨92, a :: t' ++ r, rfl, ?_, by decide⟩
      have ha : isLet a = true := by simp only [List.all_cons, Bool.and_eq_true] at h2; exact h2.1
      have h92 : a ≠ 92 := by rintro rfl; exact absurd ha (by decide)
      unfold nextM
      rw [if_neg (by decide), if_neg (by decide), if_neg (by decide), if_pos rfl]
      show (if a = 92 then _ else if isLet a = true then nameM (a :: t' ++ r) else _) = _
      rw [if_neg h92, if_pos ha, hb, sp4]
      congr 1
      exact Nat.add_comm _ _
  | fence a b ha hb =>
    refine ⟨92, FENCE ++ (a :: b :: r), rfl, ?_, by decide⟩
    have e : runL isLet (FENCE ++ (a :: b :: r)) = 5 := by
      rw [runL_all (by decide), runL_stop (delim_let a ha)]
      rfl
    unfold nextM
    rw [if_neg (by decide), if_neg (by decide), if_neg (by decide), if_pos rfl]
    show (if (102 : UInt8) = 92 then _ else if isLet 102 = true then nameM (FENCE ++ (a :: b :: r)) else _) = _
    rw [if_neg (by decide), if_pos (by decide)]
    unfold nameM
    rw [e]
    show (if FENCE = [102, 101, 110, 99, 101] then (if isDelim a = true ∧ isDelim b = true then Nx.tok 5 [a, b] 8 else .err 0 3) else _) = _
    rw [if_pos (show FENCE = [102, 101, 110, 99, 101] from rfl), if_pos ⟨ha, hb⟩]
    rfl
  | param a ha =>
    refine ⟨35, a :: r, rfl, ?_, by decide⟩
    unfold nextM
    rw [if_neg (by decide), if_neg (by decide), if_neg (by decide), if_neg (by decide), if_pos rfl]
    show (if 49 ≤ a.toNat ∧ a.toNat ≤ 52 then _ else _) = _
    rw [if_pos ha]
    rfl
  | sym c hc =>
    obtain ⟨h1, h2, h3, h4, h5, h6, h7⟩ := sym_apart c hc
    refine ⟨c, r, rfl, ?_, h7⟩
    unfold nextM
    rw [if_neg (by rw [h1]; decide), if_neg (by rw [h2]; decide), if_neg h3, if_neg h4, if_neg h5, if_pos hc]
    rfl
def joinM (k1 k2 : Int) (t2 : Bs) : Bool := if k1 = 4 then (k2 == 1) && (match t2 with | [] => false | c :: _ => isLet c) else (k1 == 2) && (k2 == 2)
/-- How a spelling begins. -/
theorem sp_head {kd : Int} {t : Bs} (h : TokOK kd t) : ∃ c r, spM kd t = c :: r ∧ c ≠ 46 ∧ (isDig c = true → kd = 2) ∧ (isLet c = true → kd = 1 ∧ t = [c]) ∧ isBl c = false := by
  cases h with
  | num _ hn =>
    obtain ⟨d, t', e, hd⟩ := numT_head hn
    obtain ⟨h1, h2, h3⟩ := dig_apart d hd
    exact ⟨d, t', e, h2, fun _ => rfl, fun h => (by rw [h1] at h; cases h), h3⟩
  | mark c hc =>
    obtain ⟨h1, h2, h3, h4⟩ := mark_apart c hc
    exact ⟨c, [], rfl, h3, fun h => (by rw [h1] at h; cases h), fun h => (by rw [h2] at h; cases h), h4⟩
  | text u hu => exact ⟨34, _, rfl, by decide, fun h => absurd h (by decide), fun h => absurd h (by decide), by decide⟩
  | brk => exact ⟨92, _, rfl, by decide, fun h => absurd h (by decide), fun h => absurd h (by decide), by decide⟩
  | name _ h1 h2 h3 => exact ⟨92, _, rfl, by decide, fun h => absurd h (by decide), fun h => absurd h (by decide), by decide⟩
  | fence a b ha hb => exact ⟨92, _, rfl, by decide, fun h => absurd h (by decide), fun h => absurd h (by decide), by decide⟩
  | param a ha => exact ⟨35, _, rfl, by decide, fun h => absurd h (by decide), fun h => absurd h (by decide), by decide⟩
  | sym c hc =>
    obtain ⟨h1, h2, h3, h4, h5, h6, h7⟩ := sym_apart c hc
    exact ⟨c, [], rfl, h6, fun h => (by rw [h1] at h; cases h), fun _ => ⟨rfl, rfl⟩, h7⟩
theorem okb_nil (kd : Int) : okb kd [] := fun c r' h => by cases h
theorem okb_bl (kd : Int) {c : UInt8} (h : isBl c = true) (r : Bs) : okb kd (c :: r) := fun c' r' e => by
  injection e with e _
  subst e
  obtain ⟨h1, h2, h3⟩ := bl_apart c h
  exact ⟨fun _ => ⟨h1, h3⟩, fun _ => h2⟩
theorem okb_tok {k1 : Int} {k2 : Int} {t2 : Bs} (h2 : TokOK k2 t2) (hj : joinM k1 k2 t2 = false) (x : Bs) : okb k1 (spM k2 t2 ++ x) := by
  obtain ⟨c, r, e, n46, hd, hl, hb⟩ := sp_head h2
  intro c' r' e'
  rw [e, List.cons_append] at e'
  injection e' with e' _
  subst e'
  unfold joinM at hj
  refine ⟨fun hk => ⟨?_, n46⟩, fun hk => ?_⟩
  · rw [if_neg (by omega), hk] at hj
    apply Bool.eq_false_iff.2
    intro h
    rw [hd h] at hj
    cases hj
  · rw [if_pos hk] at hj
    apply Bool.eq_false_iff.2
    intro h
    obtain ⟨e1, e2⟩ := hl h
    rw [e1, e2] at hj
    simp [h] at hj
/-- Where two tokens join, the first one is read otherwise. -/
theorem tok_joined {k1 k2 : Int} {t1 t2 : Bs} (h1 : TokOK k1 t1) (h2 : TokOK k2 t2) (hj : joinM k1 k2 t2 = true) (x : Bs) {c : UInt8} {r : Bs} (he : spM k1 t1 ++ (spM k2 t2 ++ x) = c :: r) (m : Nat) : nextM c r ≠ .tok k1 t1 m := by
  unfold joinM at hj
  intro hn
  by_cases hk : k1 = 4
  · subst hk
    rw [if_pos rfl] at hj
    cases h1 with
    | name _ a1 a2 a3 =>
      simp only [Bool.and_eq_true, beq_iff_eq] at hj
      obtain ⟨rfl, hj⟩ := hj
      cases h2 with
      | sym d hd =>
        have hj' : isLet d = true := hj
        rw [sp4, sp1] at he
        cases t1 with
        | nil => exact absurd rfl a1
        | cons a t' =>
          injection he with e1 e2
          subst e1
          have ha : isLet a = true := by simp only [List.all_cons, Bool.and_eq_true] at a2; exact a2.1
          have h92 : a ≠ 92 := by rintro rfl; exact absurd ha (by decide)
          unfold nextM at hn
          rw [if_neg (by decide), if_neg (by decide), if_neg (by decide), if_pos rfl, ← e2] at hn
          have hn' : (if a = 92 then Nx.tok 8 [92, 92] 2 else if isLet a = true then nameM ((a :: t') ++ ([d] ++ x)) else .err 0 3) = .tok 4 (a :: t') m := hn
          rw [if_neg h92, if_pos ha] at hn'
          have e : runL isLet ((a :: t') ++ ([d] ++ x)) = (a :: t').length + (1 + runL isLet x) := by
            rw [runL_all a2]
            show _ + runL isLet (d :: x) = _
            rw [runL_go hj']
          unfold nameM at hn'
          split at hn'
          · split at hn'
            · split at hn'
              · cases hn'
              · cases hn'
            · cases hn'
          · injection hn' with _ e3 _
            have := congrArg List.length e3
            have hle := runL_le isLet ((a :: t') ++ ([d] ++ x))
            rw [List.length_take] at this
            omega
  · rw [if_neg hk] at hj
    simp only [Bool.and_eq_true, beq_iff_eq] at hj
    obtain ⟨rfl, rfl⟩ := hj
    cases h1 with
    | num _ n1 =>
      cases h2 with
      | num _ n2 =>
        obtain ⟨d, t', e, hd⟩ := numT_head n2
        obtain ⟨d1, t1', e1, hd1⟩ := numT_head n1
        rw [sp2, sp2, e] at he
        have hm := numL_more n1 d (t' ++ x) hd
        have hc : c = d1 := by
          rw [e1, List.cons_append] at he
          injection he with he _
          exact he.symm
        unfold nextM at hn
        rw [if_pos (by rw [hc]; exact hd1)] at hn
        injection hn with _ e3 _
        have := congrArg List.length e3
        rw [List.length_take] at this
        have hle := (numL_le (c :: r)).2
        have he' : t1 ++ d :: (t' ++ x) = c :: r := by rw [← he]; rfl
        rw [he'] at hm
        omega
end Go.Proofs.Ytjihcncajpmgiaa.M
