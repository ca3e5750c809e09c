/- LexerWrites, over lists alone. -/
import Derived.Test.YtjihcncajpmgiaaM8
import Derived.Test.YtjihcncajpmgiaaAx7
namespace Go.Proofs.Ytjihcncajpmgiaa.M
open Go.RowKit Go.Proofs.YtjihcncajpmgiaaW.PrintWords Go.Proofs.YtjihcncajpmgiaaW.PrintLast Go.Proofs.YtjihcncajpmgiaaW.PrintMore Go.Proofs.Ytjihcncajpmgiaa.R Go.Proofs.Ytjihcncajpmgiaa.A
set_option linter.unusedVariables false
set_option linter.unusedSimpArgs false

def BLS : List ByteArray := [(⟨#[]⟩ : ByteArray), (⟨#[]⟩ : ByteArray), (⟨#[32]⟩ : ByteArray), (⟨#[9, 10]⟩ : ByteArray), (⟨#[32, 32]⟩ : ByteArray)]
def pickM (x1 : List Int) (i : Nat) : Bs := if (i : Int) < (x1.length : Int) then L (rdOf ByteArray.empty BLS (Int.tmod (rd x1 (i : Int)) 5)) else []
def sepM (j : Bool) (x1 : List Int) (i : Nat) : Bs := (if j = true then [32] else []) ++ pickM x1 i
theorem bls_ok (v : Int) (h0 : 0 ≤ v) (h1 : v < 5) : (L (rdOf ByteArray.empty BLS v)).all isBl = true ∧ (L (rdOf ByteArray.empty BLS v)).length ≤ 2 := by
  have : v = 0 ∨ v = 1 ∨ v = 2 ∨ v = 3 ∨ v = 4 := by omega
  rcases this with rfl | rfl | rfl | rfl | rfl <;> exact ⟨rfl, by decide⟩
theorem tm5 (x : Int) (h : 0 ≤ x) : 0 ≤ Int.tmod x 5 ∧ Int.tmod x 5 < 5 := by
  rw [Int.tmod_eq_emod_of_nonneg h]
  omega
theorem rd_nn {x1 : List Int} (hx : ∀ x ∈ x1, 0 ≤ x) (i : Nat) (h : (i : Int) < (x1.length : Int)) : 0 ≤ rd x1 (i : Int) := by
  unfold rd
  rw [Int.toNat_natCast, List.getD_eq_getElem?_getD, List.getElem?_eq_getElem (by omega)]
  exact hx _ (List.getElem_mem _)
theorem pick_ok {x1 : List Int} (hx : ∀ x ∈ x1, 0 ≤ x) (i : Nat) : (pickM x1 i).all isBl = true ∧ (pickM x1 i).length ≤ 2 := by
  unfold pickM
  by_cases h : (i : Int) < (x1.length : Int)
  · rw [if_pos h]
    have hr : 0 ≤ rd x1 (i : Int) := by
      unfold rd
      rw [Int.toNat_natCast, List.getD_eq_getElem?_getD, List.getElem?_eq_getElem (by omega)]
      exact hx _ (List.getElem_mem _)
    exact bls_ok _ (tm5 _ hr).1 (tm5 _ hr).2
  · rw [if_neg h]
    exact ⟨rfl, by simp⟩
theorem sep_ok {x1 : List Int} (hx : ∀ x ∈ x1, 0 ≤ x) (j : Bool) (i : Nat) : (sepM j x1 i).all isBl = true ∧ (sepM j x1 i).length ≤ 3 ∧ (j = true → sepM j x1 i ≠ []) := by
  obtain ⟨h1, h2⟩ := pick_ok hx i
  unfold sepM
  cases j with
  | true =>
    rw [if_pos rfl]
    refine ⟨?_, by simp only [List.length_append, List.length_cons, List.length_nil]; omega, fun _ => by simp⟩
    rw [List.all_append, h1]
    rfl
  | false =>
    rw [if_neg Bool.false_ne_true, List.nil_append]
    exact ⟨h1, by omega, fun h => by cases h⟩
def joinP (p : Option S28) (t : S28) : Bool := match p with
  | none => false
  | some a => joinM a.f0 t.f0 (L t.f1)
def spS (t : S28) : Bs := spM t.f0 (L t.f1)
def wr (x1 : List Int) : Option S28 → Nat → List S28 → Bs
  | _, _, [] => []
  | p, i, t :: r => sepM (joinP p t) x1 i ++ (spS t ++ wr x1 (some t) (i + 1) r)
theorem wr_okb {x1 : List Int} (hx : ∀ x ∈ x1, 0 ≤ x) (a : S28) (i : Nat) (r : List S28) (hr : ∀ t ∈ r, TokOK t.f0 (L t.f1)) : okb a.f0 (wr x1 (some a) i r) := by
  cases r with
  | nil => exact okb_nil _
  | cons t r =>
    obtain ⟨h1, h2, h3⟩ := sep_ok hx (joinP (some a) t) i
    unfold wr
    cases hs : sepM (joinP (some a) t) x1 i with
    | cons c s' =>
      rw [hs] at h1
      simp only [List.all_cons, Bool.and_eq_true] at h1
      exact okb_bl _ h1.1 _
    | nil =>
      rw [List.nil_append]
      have hj : joinM a.f0 t.f0 (L t.f1) = false := by
        apply Bool.eq_false_iff.2
        intro h
        exact h3 h hs
      exact okb_tok (hr t (List.mem_cons_self ..)) hj _
theorem wr_toks {x1 : List Int} (hx : ∀ x ∈ x1, 0 ≤ x) : ∀ (r : List S28) (p : Option S28) (i n : Nat), (∀ t ∈ r, TokOK t.f0 (L t.f1) ∧ longM t.f0 (L t.f1) = false) → ∃ us, TokP n (wr x1 p i r) us ∧ us.map kt = r.map kt := by
  intro r
  induction r with
  | nil => intro p i n _; exact ⟨[], .nil _ _ rfl, rfl⟩
  | cons t r ih =>
    intro p i n h
    obtain ⟨h1, h2⟩ := h t (List.mem_cons_self ..)
    have hr := fun x hx => h x (List.mem_cons_of_mem _ hx)
    obtain ⟨us, g1, g2⟩ := ih (some t) (i + 1) (n + (sepM (joinP p t) x1 i).length + (spM t.f0 (L t.f1)).length) hr
    have hp := TokP.push h1 h2 (wr_okb hx t (i + 1) r (fun x hx => (hr x hx).1)) (sepM (joinP p t) x1 i) (sep_ok hx _ i).1 n g1
    refine ⟨_, hp, ?_⟩
    rw [List.map_cons, List.map_cons, g2]
    rfl
theorem wr_len {x1 : List Int} (hx : ∀ x ∈ x1, 0 ≤ x) : ∀ (r : List S28) (p : Option S28) (i : Nat), (wr x1 p i r).length ≤ 3 * r.length + (r.map fun t => (spS t).length).sum
  | [], _, _ => by simp [wr]
  | t :: r, p, i => by
    have ih := wr_len hx r (some t) (i + 1)
    have hs := (sep_ok hx (joinP p t) i).2.1
    unfold wr
    rw [List.length_append, List.length_append, List.map_cons, List.sum_cons, List.length_cons]
    omega
theorem TokP.sum {n : Nat} {l : Bs} {ts : List S28} (h : TokP n l ts) : (ts.map fun t => (spS t).length).sum ≤ l.length := by
  induction h with
  | nil n l hb => exact Nat.zero_le _
  | cons n b c r kd t m ts h1 h2 h3 h4 h5 ih =>
    obtain ⟨a1, a2, a3⟩ := tok_of h3
    have hb := next_tok h3
    rw [List.length_drop] at ih
    rw [List.map_cons, List.sum_cons]
    show (spM kd t).length + _ ≤ _
    simp only [List.length_append, List.length_cons] at hb ih ⊢
    omega
theorem prev_of (ts : List S28) (i : Nat) (h : i < ts.length) : ts.drop i = ts[i] :: ts.drop (i + 1) := List.drop_eq_getElem_cons h
def prevOf (ts : List S28) (i : Nat) : Option S28 := if i = 0 then none else ts[i - 1]?
theorem writes_loop (x1 : List Int) (hx : ∀ x ∈ x1, 0 ≤ x) (ts : List S28) (hts : ts.length ≤ 2000) (W : Bs) (hW : W.length ≤ 10000) (hok : ∀ t ∈ ts, TokOK t.f0 (L t.f1) ∧ longM t.f0 (L t.f1) = false)
    (hrun : ∃ us, TokP 0 W us ∧ us.map kt = ts.map kt) : ∀ (d i : Nat) (x8 : ByteArray), ts.length - i ≤ d → L x8 ++ wr x1 (prevOf ts i) i (ts.drop i) = W → ∃ K, ∀ k, K ≤ k →
    vinculumlaw18_LexerWrites.l0 k x1 ts x8 ts (ts.length : Int) (i : Int) = some true := by
  intro d
  induction d with
  | zero =>
    intro i x8 hd he
    rw [List.drop_of_length_le (by omega)] at he
    have he' : L x8 = W := by rw [← he]; simp [wr]
    have hsz : x8.size ≤ 10000 := by rw [← L_len, he']; exact hW
    obtain ⟨us, u1, u2⟩ := hrun
    have hul : us.length = ts.length := by have := congrArg List.length u2; rwa [List.length_map, List.length_map] at this
    obtain ⟨K1, p1⟩ := Tokens_found x8 (by omega) us (by rw [he']; exact u1) (by omega)
    obtain ⟨K2, p2⟩ := from_ev ts (by omega)
    obtain ⟨K3, p3⟩ := from_ev us (by omega)
    obtain ⟨K4, p4⟩ := same_ev ts us (by omega)
    refine ⟨K1 + K2 + K3 + K4 + 1, fun k hk => ?_⟩
    obtain ⟨k, rfl⟩ : ∃ j, k = j + 1 := ⟨k - 1, by omega⟩
    have p1' : lexer_Tokens.f k x8 = some (us, 0, 0) := p1 k (by omega)
    have p2' : vinculumlaw18_from.f k ts = some (ts.map conv) := p2 k (by omega)
    have p3' : vinculumlaw18_from.f k us = some (us.map conv) := p3 k (by omega)
    have p4' : vinculumref18_Same.f k (ts.map conv) (us.map conv) false = some (decide (ts.map kt = us.map kt)) := p4 k (by omega)
    rw [vinculumlaw18_LexerWrites.l0, if_neg (by omega), p1', Option.bind_some, if_pos rfl, p2', Option.bind_some, p3', Option.bind_some, p4', Option.bind_some, decide_eq_true u2.symm]
  | succ d ih =>
    intro i x8 hd he
    by_cases hi : i < ts.length
    case neg => exact ih i x8 (by omega) he
    have hdrop := prev_of ts i hi
    obtain ⟨g1, g2, g3⟩ := rd_drop hdrop
    have hok1 := hok ts[i] (List.getElem_mem _)
    have hprev : prevOf ts (i + 1) = some ts[i] := by
      unfold prevOf
      rw [if_neg (by omega), Nat.add_sub_cancel, List.getElem?_eq_getElem hi]
    rw [hdrop] at he
    unfold wr at he
    have hlen := congrArg List.length he
    rw [List.length_append, List.length_append, List.length_append, L_len] at hlen
    have hjoin : ∀ k, vinculumlaw18_LexerWrites.l0 (k + 1) x1 ts x8 ts (ts.length : Int) (i : Int) = vinculumlaw18_LexerWrites.j2 k x1 ts x8 (i : Int) ts (ts.length : Int) (i : Int) (joinP (prevOf ts i) ts[i]) ts[i].f0 ts[i].f1 ts[i].f2 ts[i].f3 := by
      intro k
      rw [vinculumlaw18_LexerWrites.l0, if_pos (by omega), if_pos (by omega), if_pos (by omega), g1]
      by_cases h0 : i = 0
      · rw [if_neg (by omega)]
        have : prevOf ts i = none := by unfold prevOf; rw [if_pos h0]
        rw [this]
        rfl
      · obtain ⟨i', rfl⟩ : ∃ j, i = j + 1 := ⟨i - 1, by omega⟩
        have hp := rd_drop (prev_of ts i' (by omega))
        have hm1 : wrap64 (((i' + 1 : Nat) : Int) - 1) = (i' : Int) := by unfold wrap64; omega
        have : prevOf ts (i' + 1) = some ts[i'] := by
          unfold prevOf
          rw [if_neg (by omega), Nat.add_sub_cancel, List.getElem?_eq_getElem (by omega)]
        have hj := joins_eval ts[i'].f0 ts[i' + 1].f0 (L ts[i'].f1) (L ts[i' + 1].f1) ts[i'].f2 ts[i'].f3 ts[i' + 1].f2 ts[i' + 1].f3
        rw [mk_L, mk_L] at hj
        rw [if_pos (by omega), hm1, if_pos (by omega), if_pos (by omega), hp.1, hj, Option.bind_some, this]
        rfl
    generalize ts[i] = t at hdrop g1 hok1 hprev he hlen hjoin
    have hsp := text_le hok1.1
    have hs := spell_eval t.f0 (L t.f1) t.f2 t.f3 (by unfold spS at hlen; omega)
    rw [mk_L] at hs
    have hsl : (mk (spM t.f0 (L t.f1))).size ≤ 10000 := by rw [mk_size]; unfold spS at hlen; omega
    obtain ⟨K, hK⟩ := ih (i + 1) (x8 ++ mk (sepM (joinP (prevOf ts i) t) x1 i) ++ mk (spS t)) (by omega) (by
      rw [hprev, L_append, L_append, L_mk, L_mk, List.append_assoc, List.append_assoc]
      exact he)
    refine ⟨K + 2, fun k hk => ?_⟩
    obtain ⟨k, rfl⟩ : ∃ j, k = j + 2 := ⟨k - 2, by omega⟩
    have hKk := hK k (by omega)
    rw [hjoin, vinculumlaw18_LexerWrites.j2]
    have hpk := (pick_ok hx i).2
    have hx8 : x8.size ≤ 10000 := by omega
    have hi64 : i ≤ 4611686018427387904 := by omega
    have hrd : (i : Int) < (x1.length : Int) → 0 ≤ Int.tmod (rd x1 (i : Int)) 5 ∧ Int.tmod (rd x1 (i : Int)) 5 < 5 := by
      intro h
      exact tm5 _ (rd_nn hx i h)
    have szA : ∀ a b : ByteArray, (a ++ b).size = a.size + b.size := fun a b => by rw [← L_len, L_append, List.length_append, L_len, L_len]
    have sz1 : (⟨#[32]⟩ : ByteArray).size = 1 := rfl
    cases hj : joinP (prevOf ts i) t with
    | true =>
      rw [hj] at hKk
      rw [if_pos rfl, if_pos (by omega)]
      by_cases hp : (i : Int) < (x1.length : Int)
      · have hr := hrd hp
        have e : mk (sepM true x1 i) = (⟨#[32]⟩ : ByteArray) ++ rdOf ByteArray.empty BLS (Int.tmod (rd x1 (i : Int)) 5) := by
          apply ba_ext
          unfold sepM pickM
          rw [if_pos rfl, if_pos hp, L_append, L_mk]
          rfl
        have hpl : (rdOf ByteArray.empty BLS (Int.tmod (rd x1 (i : Int)) 5)).size ≤ 2 := (bls_ok _ hr.1 hr.2).2
        rw [e, ← ByteArray.append_assoc] at hKk
        rw [if_pos hp, Option.bind_some, if_pos (by omega), if_pos hr.1, if_pos (by show _ < (5 : Int); exact hr.2)]
        show (if (x8 ++ (⟨#[32]⟩ : ByteArray)).size + (rdOf ByteArray.empty BLS (Int.tmod (rd x1 (i : Int)) 5)).size ≤ 9223372036854775807 then _ else _) = _
        rw [if_pos (by rw [szA, sz1]; omega), hs, Option.bind_some]
        show (if ((x8 ++ (⟨#[32]⟩ : ByteArray)) ++ (rdOf ByteArray.empty BLS (Int.tmod (rd x1 (i : Int)) 5))).size + (mk (spM t.f0 (L t.f1))).size ≤ 9223372036854775807 then _ else _) = _
        rw [if_pos (by rw [szA, szA, sz1]; omega), w64_1 hi64]
        exact hKk
      · have e : mk (sepM true x1 i) = (⟨#[32]⟩ : ByteArray) := by
          apply ba_ext
          unfold sepM pickM
          rw [if_pos rfl, if_neg hp]
          rfl
        rw [e] at hKk
        rw [if_neg hp, hs, Option.bind_some, if_pos (by rw [szA, sz1]; omega), w64_1 hi64]
        exact hKk
    | false =>
      rw [hj] at hKk
      rw [if_neg Bool.false_ne_true]
      by_cases hp : (i : Int) < (x1.length : Int)
      · have hr := hrd hp
        have e : mk (sepM false x1 i) = rdOf ByteArray.empty BLS (Int.tmod (rd x1 (i : Int)) 5) := by
          apply ba_ext
          unfold sepM pickM
          rw [if_neg Bool.false_ne_true, if_pos hp]
          rfl
        have hpl : (rdOf ByteArray.empty BLS (Int.tmod (rd x1 (i : Int)) 5)).size ≤ 2 := (bls_ok _ hr.1 hr.2).2
        rw [e] at hKk
        rw [if_pos hp, Option.bind_some, if_pos (by omega), if_pos hr.1, if_pos (by show _ < (5 : Int); exact hr.2)]
        show (if x8.size + (rdOf ByteArray.empty BLS (Int.tmod (rd x1 (i : Int)) 5)).size ≤ 9223372036854775807 then _ else _) = _
        rw [if_pos (by omega), hs, Option.bind_some]
        show (if (x8 ++ (rdOf ByteArray.empty BLS (Int.tmod (rd x1 (i : Int)) 5))).size + (mk (spM t.f0 (L t.f1))).size ≤ 9223372036854775807 then _ else _) = _
        rw [if_pos (by rw [szA]; omega), w64_1 hi64]
        exact hKk
      · have e : x8 ++ mk (sepM false x1 i) = x8 := by
          apply ba_ext
          unfold sepM pickM
          rw [if_neg Bool.false_ne_true, if_neg hp, L_append, L_mk]
          simp
        rw [e] at hKk
        rw [if_neg hp, hs, Option.bind_some, if_pos (by omega), w64_1 hi64]
        exact hKk
theorem writes_pure (a0 : ByteArray) (l1 : List Int) (h0 : a0.size ≤ 140737488351232) (hw : ∀ x ∈ l1, (Lit.int .u8 x).wf = true) : ∃ k, vinculumlaw18_LexerWrites.f k a0 l1 = some true := by
  have hx : ∀ x ∈ l1, 0 ≤ x := by
    intro x h
    have := hw x h
    simp only [Lit.wf, Bool.and_eq_true, decide_eq_true_eq] at this
    exact this.1
  refine Ev.rounds ?_
  show Ev (fun k => (vinculumlaw18_awake.f k).bind fun t193 => (if t193 = true then (if (a0.size : Int) > 2000 then (vinculumlaw18_LexerWrites.j0 k a0 l1 true) else (vinculumlaw18_LexerWrites.j0 k a0 l1 (decide ((l1.length : Int) > 100)))) else (vinculumlaw18_LexerWrites.j0 k a0 l1 true))) true
  have big : Ev (fun k => vinculumlaw18_LexerWrites.j0 k a0 l1 true) true := by
    refine Ev.step (f := fun k => (vinculumlaw18_awake.f k).bind fun t194 => (some t194)) (fun k => by rw [vinculumlaw18_LexerWrites.j0]; exact if_pos rfl) ?_
    exact Ev.bind awake_ev (Ev.now _)
  refine Ev.bind awake_ev ?_
  by_cases hs : a0.size ≤ 2000
  case neg => exact Ev.congr (fun k => by rw [if_pos rfl, if_pos (by omega)]) big
  refine Ev.congr (f := fun k => vinculumlaw18_LexerWrites.j0 k a0 l1 (decide ((l1.length : Int) > 100))) (fun k => by rw [if_pos rfl, if_neg (by omega)]) ?_
  by_cases hl : l1.length ≤ 100
  case neg => rw [decide_eq_true (by omega)]; exact big
  rw [decide_eq_false (by omega)]
  refine Ev.step (f := fun k => (lexer_Tokens.f k a0).bind fun bt195 => (if bt195.2.2 = 0 then (vinculumlaw18_LexerWrites.l0 k l1 bt195.1 (⟨#[]⟩ : ByteArray) bt195.1 (bt195.1.length : Int) 0) else (some true))) (fun k => by rw [vinculumlaw18_LexerWrites.j0]; exact if_neg Bool.false_ne_true) ?_
  rcases Tokens_total a0 (by omega) with ⟨ts, h1, h2, h3⟩ | ⟨a, e, h1, h2, h3⟩
  · refine Ev.bind h3 ?_
    refine Ev.congr (f := fun k => vinculumlaw18_LexerWrites.l0 k l1 ts (⟨#[]⟩ : ByteArray) ts (ts.length : Int) 0) (fun k => if_pos rfl) ?_
    have hok : ∀ t ∈ ts, TokOK t.f0 (L t.f1) ∧ longM t.f0 (L t.f1) = false := fun t ht => ⟨(h1.ok t ht).1, (h1.ok t ht).2.1⟩
    have hle := h1.len
    have hsum := h1.sum
    have hwl := wr_len hx ts none 0
    rw [L_len] at hle hsum
    exact writes_loop l1 hx ts (by omega) (wr l1 none 0 ts) (by omega) hok (wr_toks hx ts none 0 0 hok) ts.length 0 ⟨#[]⟩ (by omega) (by unfold prevOf; rw [if_pos rfl]; rfl)
  · refine Ev.bind h3 ?_
    refine Ev.congr (f := fun _ => some true) (fun k => ?_) (Ev.now _)
    exact if_neg h1
end Go.Proofs.Ytjihcncajpmgiaa.M
namespace Go.Proofs.Ytjihcncajpmgiaa.Pure
open Go.RowKit Go.Proofs.Ytjihcncajpmgiaa.A Go.Proofs.YtjihcncajpmgiaaW.PrintWords Go.Proofs.YtjihcncajpmgiaaW.PrintLast

theorem LexerWrites : vinculumlaw18_LexerWrites.Pure := fun a0 l1 h0 _ _ hw => M.writes_pure a0 l1 h0 hw

end Go.Proofs.Ytjihcncajpmgiaa.Pure
