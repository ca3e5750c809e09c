/- lexer.name: the token that begins with a backslash and a letter. -/
import Derived.Test.YtjihcncajpmgiaaL3
import Derived.Test.YtjihcncajpmgiaaL2
namespace Go.Proofs.Ytjihcncajpmgiaa.A
open Go.RowKit Go.Proofs.YtjihcncajpmgiaaW.PrintWords Go.Proofs.YtjihcncajpmgiaaW.PrintLast Go.Proofs.YtjihcncajpmgiaaW.PrintMore
set_option linter.unusedVariables false
set_option linter.unusedSimpArgs false

/-- What a pointer to a failure says. -/
def FailAt (w : World) (B : Nat) (v : Value) : Option (Int × Int) → Prop
  | none => v = .pointer none
  | some (a, e) => ∃ g, v = .pointer (some ⟨g, 0, none⟩) ∧ B ≤ g ∧ w.heap[g]? = some (.cells #[.int .i64 a, .int .i64 e] 48 (0, 0))
def Found (t : S28) (o : Option (Int × Int)) (w : World) (e : Ending) (w' : World) : Prop :=
  ∃ pv, e = .returned (.tuple #[.agg #[.int .i64 t.f0, .string t.f1, .int .i64 t.f2, .int .i64 t.f3], pv]) ∧ FailAt w' w.heap.size pv o ∧ Below w.heap.size w w'
/-- The four cells of a token that are written one after the other. -/
abbrev put4 (W : World) (g : Nat) (t : S28) : World := (((W.setCell ⟨g, 0, none⟩ (.int .i64 t.f0)).setCell ⟨g, 1, none⟩ (.string t.f1)).setCell ⟨g, 2, none⟩ (.int .i64 t.f2)).setCell ⟨g, 3, none⟩ (.int .i64 t.f3)
theorem put4_blk {W : World} {g : Nat} {x0 x1 x2 x3 : Value} (h : W.heap[g]? = some (.cells #[x0, x1, x2, x3] 28 (0, 0))) (t : S28) :
    (put4 W g t).heap[g]? = some (.cells #[.int .i64 t.f0, .string t.f1, .int .i64 t.f2, .int .i64 t.f3] 28 (0, 0)) :=
  blk_put (blk_put (blk_put (blk_put h 0 _ rfl) 1 _ rfl) 2 _ rfl) 3 _ rfl
theorem put4_far {W : World} {g g' : Nat} {T : TypeId} {cs : Array Value} (h : W.heap[g']? = some (.cells cs T (0, 0))) (hne : g' ≠ g) (t : S28) : (put4 W g t).heap[g']? = some (.cells cs T (0, 0)) :=
  blk_far (blk_far (blk_far (blk_far h (p := ⟨g, 0, none⟩) hne _) (p := ⟨g, 1, none⟩) hne _) (p := ⟨g, 2, none⟩) hne _) (p := ⟨g, 3, none⟩) hne _
theorem put4_below {w W : World} {B g : Nat} (h : Below B w W) (hg : B ≤ g) (t : S28) : Below B w (put4 W g t) :=
  (((h.setCell (p := ⟨g, 0, none⟩) hg _).setCell (p := ⟨g, 1, none⟩) hg _).setCell (p := ⟨g, 2, none⟩) hg _).setCell (p := ⟨g, 3, none⟩) hg _
theorem found_ret {fn : Func} (hf : fn.results = #[.cell 4 28, .tmp 5]) {t : S28} {o : Option (Int × Int)} {w W : World} {a : Act} {g : Nat} {x0 x1 x2 x3 : Value}
    (h4 : a.tmps.getD 4 undef = .pointer (some ⟨g, 0, none⟩)) (hd : a.defers = []) (hx : W.heap[g]? = some (.cells #[x0, x1, x2, x3] 28 (0, 0))) (hg : w.heap.size ≤ g) (hb : Below w.heap.size w W)
    (hF : FailAt W w.heap.size (a.tmps.getD 5 undef) o) (hne : ∀ x, o = some x → a.tmps.getD 5 undef ≠ .pointer (some ⟨g, 0, none⟩)) : bodyPost Try.prog fn (Found t o w) .ret a (put4 W g t) := by
  refine bodyPost_ret (results_ct hf _ _ g 28 _ (0, 0) _ h4 (put4_blk hx t) Try.underlying28 rfl (by kernel_rfl)) hd ?_
  refine ⟨_, rfl, ?_, put4_below hb hg t⟩
  cases o with
  | none => exact hF
  | some x =>
    obtain ⟨g', h1, h2, h3⟩ := hF
    exact ⟨g', h1, h2, put4_far h3 (fun e => hne x rfl (by rw [h1, e])) t⟩
theorem put4_size (W : World) (g : Nat) (t : S28) : (put4 W g t).heap.size = W.heap.size := by simp [World.setCell]
theorem found_fail {fn : Func} (hf : fn.results = #[.cell 4 28, .tmp 5]) {i e : Int} {w W : World} {a : Act} {g gf : Nat} {x0 x1 x2 x3 : Value}
    (h4 : a.tmps.getD 4 undef = .pointer (some ⟨g, 0, none⟩)) (h5 : a.tmps.getD 5 undef = .pointer (some ⟨gf, 0, none⟩)) (hgf : W.heap.size = gf) (hd : a.defers = []) (hx : W.heap[g]? = some (.cells #[x0, x1, x2, x3] 28 (0, 0)))
    (hg : w.heap.size ≤ g) (hb : Below w.heap.size w W) : bodyPost Try.prog fn (Found z28 (some (i, e)) w) .ret a ((put4 W g z28).alloc (.cells #[.int .i64 i, .int .i64 e] 48)) := by
  refine bodyPost_ret (results_ct hf _ _ g 28 _ (0, 0) _ h4 (blk_alloc (put4_blk hx z28) _) Try.underlying28 rfl (by kernel_rfl)) hd ?_
  refine ⟨_, rfl, ⟨gf, h5, by rw [← hgf]; exact hb.size, ?_⟩, below_alloc (put4_below hb hg z28) _⟩
  rw [← hgf, ← put4_size W g z28]
  exact blk_new _ _
set_option maxHeartbeats 1000000 in
set_option maxRecDepth 100000 in
theorem name_plain (k : Nat) (s : ByteArray) (i e : Int) (w : World) (he : lexer_run.l0 lexer_letter.f k s (wrap64 (i + 1)) = some e) (h0 : 0 ≤ wrap64 (i + 1)) (h1 : wrap64 (i + 1) ≤ e) (h2 : e ≤ (s.size : Int))
    (hn : ((s.extract (wrap64 (i + 1)).toNat e.toNat).toList == [102, 101, 110, 99, 101]) = false) :
    Calls Try.prog 29 #[.string s, .int .i64 i] w (Found ⟨4, s.extract (wrap64 (i + 1)).toNat e.toNat, i, e⟩ none w) := by
  have hu28 := Try.underlying28
  have HE := Aside0.mk he
  clear he
  replace h0 := eq_true h0
  replace h1 := eq_true h1
  replace h2 := eq_true h2
  go_enter Try.func29, Try.ntmps29
  go_wp2_with (first | (go_at_call 16; refine (run_letter k s _ _ _ HE.out).mono ?_; rintro e1 w1 ⟨rfl, ⟨m1, rfl⟩⟩; clear HE))
  exact found_ret rfl rfl rfl (blk_drewN (blk_new _ _) _) (Nat.le_refl _) (pw_below_drewN (below_alloc (Below.refl _ _) _) _) rfl (fun x e => by cases e)
def DELIMS : ByteArray := ⟨#[40, 41, 91, 93, 123, 125, 60, 62, 47, 124, 46]⟩
set_option maxHeartbeats 1000000 in
set_option maxRecDepth 100000 in
theorem name_short (k : Nat) (s : ByteArray) (i e : Int) (w : World) (he : lexer_run.l0 lexer_letter.f k s (wrap64 (i + 1)) = some e) (h0 : 0 ≤ wrap64 (i + 1)) (h1 : wrap64 (i + 1) ≤ e) (h2 : e ≤ (s.size : Int))
    (hn : ((s.extract (wrap64 (i + 1)).toNat e.toNat).toList == [102, 101, 110, 99, 101]) = true) (h3 : (s.size : Int) < wrap64 (e + 2)) :
    Calls Try.prog 29 #[.string s, .int .i64 i] w (Found z28 (some (i, 3)) w) := by
  have hu28 := Try.underlying28
  have hu48 := Try.underlying48
  have HE := Aside0.mk he
  clear he
  replace h0 := eq_true h0
  replace h1 := eq_true h1
  replace h2 := eq_true h2
  have h3b : decide ((s.size : Int) < wrap64 (e + 2)) = true := decide_eq_true h3
  clear h3
  go_enter Try.func29, Try.ntmps29
  go_wp2_with (first | (go_at_call 16; refine (run_letter k s _ _ _ HE.out).mono ?_; rintro e1 w1 ⟨rfl, ⟨m1, rfl⟩⟩; clear HE))
  exact found_fail rfl rfl rfl (by simp) rfl (blk_drewN (blk_new _ _) _) (Nat.le_refl _) (pw_below_drewN (below_alloc (Below.refl _ _) _) _)
set_option maxHeartbeats 1000000 in
set_option maxRecDepth 100000 in
theorem name_long (k : Nat) (s : ByteArray) (i e : Int) (w : World) (he : lexer_run.l0 lexer_letter.f k s (wrap64 (i + 1)) = some e) (h0 : 0 ≤ wrap64 (i + 1)) (h1 : wrap64 (i + 1) ≤ e) (h2 : e ≤ (s.size : Int))
    (hn : ((s.extract (wrap64 (i + 1)).toNat e.toNat).toList == [102, 101, 110, 99, 101]) = true) (h3 : ¬ (s.size : Int) < wrap64 (e + 2))
    (h4 : 0 ≤ e) (h5 : e ≤ wrap64 (e + 1)) (h6 : wrap64 (e + 1) ≤ (s.size : Int)) (h7 : 0 ≤ wrap64 (e + 1)) (h8 : wrap64 (e + 1) ≤ wrap64 (e + 2)) (h9 : wrap64 (e + 2) ≤ (s.size : Int)) (h10 : e ≤ wrap64 (e + 2))
    (hc1 : strings_Contains.f DELIMS (s.extract e.toNat (wrap64 (e + 1)).toNat) = some true) (hc2 : strings_Contains.f DELIMS (s.extract (wrap64 (e + 1)).toNat (wrap64 (e + 2)).toNat) = some true) :
    Calls Try.prog 29 #[.string s, .int .i64 i] w (Found ⟨5, s.extract e.toNat (wrap64 (e + 2)).toNat, i, wrap64 (e + 2)⟩ none w) := by
  have hu28 := Try.underlying28
  have hu48 := Try.underlying48
  have HE := Aside0.mk he
  have HC1 := Aside0.mk hc1
  have HC2 := Aside0.mk hc2
  clear he hc1 hc2
  replace h0 := eq_true h0
  replace h1 := eq_true h1
  replace h2 := eq_true h2
  have h3b : decide ((s.size : Int) < wrap64 (e + 2)) = false := decide_eq_false h3
  clear h3
  replace h4 := eq_true h4
  replace h5 := eq_true h5
  replace h6 := eq_true h6
  replace h7 := eq_true h7
  replace h8 := eq_true h8
  replace h9 := eq_true h9
  replace h10 := eq_true h10
  go_enter Try.func29, Try.ntmps29
  go_wp2_with (first | (go_at_call 16; refine (run_letter k s _ _ _ HE.out).mono ?_; rintro e1 w1 ⟨rfl, ⟨m1, rfl⟩⟩; clear HE) | (go_at_call 36; refine (strings_Contains.calls DELIMS _ _ _ HC1.out).mono ?_; rintro e1 w1 ⟨rfl, ⟨m2, rfl⟩⟩; clear HC1) | (go_at_call 36; refine (strings_Contains.calls DELIMS _ _ _ HC2.out).mono ?_; rintro e1 w1 ⟨rfl, ⟨m3, rfl⟩⟩; clear HC2))
  exact found_ret rfl rfl rfl (blk_drewN (blk_new _ _) _) (Nat.le_refl _) (pw_below_drewN (below_alloc (Below.refl _ _) _) _) rfl (fun x e => by cases e)
set_option maxHeartbeats 1000000 in
set_option maxRecDepth 100000 in
theorem name_bad1 (k : Nat) (s : ByteArray) (i e : Int) (w : World) (he : lexer_run.l0 lexer_letter.f k s (wrap64 (i + 1)) = some e) (h0 : 0 ≤ wrap64 (i + 1)) (h1 : wrap64 (i + 1) ≤ e) (h2 : e ≤ (s.size : Int))
    (hn : ((s.extract (wrap64 (i + 1)).toNat e.toNat).toList == [102, 101, 110, 99, 101]) = true) (h3 : ¬ (s.size : Int) < wrap64 (e + 2))
    (h4 : 0 ≤ e) (h5 : e ≤ wrap64 (e + 1)) (h6 : wrap64 (e + 1) ≤ (s.size : Int)) (h7 : 0 ≤ wrap64 (e + 1)) (h8 : wrap64 (e + 1) ≤ wrap64 (e + 2)) (h9 : wrap64 (e + 2) ≤ (s.size : Int)) (h10 : e ≤ wrap64 (e + 2))
    (hc1 : strings_Contains.f DELIMS (s.extract e.toNat (wrap64 (e + 1)).toNat) = some false) :
    Calls Try.prog 29 #[.string s, .int .i64 i] w (Found z28 (some (i, 3)) w) := by
  have hu28 := Try.underlying28
  have hu48 := Try.underlying48
  have HE := Aside0.mk he
  have HC1 := Aside0.mk hc1
  clear he hc1
  replace h0 := eq_true h0
  replace h1 := eq_true h1
  replace h2 := eq_true h2
  have h3b : decide ((s.size : Int) < wrap64 (e + 2)) = false := decide_eq_false h3
  clear h3
  replace h4 := eq_true h4
  replace h5 := eq_true h5
  replace h6 := eq_true h6
  replace h7 := eq_true h7
  replace h8 := eq_true h8
  replace h9 := eq_true h9
  replace h10 := eq_true h10
  go_enter Try.func29, Try.ntmps29
  go_wp2_with (first | (go_at_call 16; refine (run_letter k s _ _ _ HE.out).mono ?_; rintro e1 w1 ⟨rfl, ⟨m1, rfl⟩⟩; clear HE) | (go_at_call 36; refine (strings_Contains.calls DELIMS _ _ _ HC1.out).mono ?_; rintro e1 w1 ⟨rfl, ⟨m2, rfl⟩⟩; clear HC1))
  exact found_fail rfl rfl rfl (by simp) rfl (blk_drewN (blk_new _ _) _) (Nat.le_refl _) (pw_below_drewN (below_alloc (Below.refl _ _) _) _)
set_option maxHeartbeats 1000000 in
set_option maxRecDepth 100000 in
theorem name_bad2 (k : Nat) (s : ByteArray) (i e : Int) (w : World) (he : lexer_run.l0 lexer_letter.f k s (wrap64 (i + 1)) = some e) (h0 : 0 ≤ wrap64 (i + 1)) (h1 : wrap64 (i + 1) ≤ e) (h2 : e ≤ (s.size : Int))
    (hn : ((s.extract (wrap64 (i + 1)).toNat e.toNat).toList == [102, 101, 110, 99, 101]) = true) (h3 : ¬ (s.size : Int) < wrap64 (e + 2))
    (h4 : 0 ≤ e) (h5 : e ≤ wrap64 (e + 1)) (h6 : wrap64 (e + 1) ≤ (s.size : Int)) (h7 : 0 ≤ wrap64 (e + 1)) (h8 : wrap64 (e + 1) ≤ wrap64 (e + 2)) (h9 : wrap64 (e + 2) ≤ (s.size : Int)) (h10 : e ≤ wrap64 (e + 2))
    (hc1 : strings_Contains.f DELIMS (s.extract e.toNat (wrap64 (e + 1)).toNat) = some true) (hc2 : strings_Contains.f DELIMS (s.extract (wrap64 (e + 1)).toNat (wrap64 (e + 2)).toNat) = some false) :
    Calls Try.prog 29 #[.string s, .int .i64 i] w (Found z28 (some (i, 3)) w) := by
  have hu28 := Try.underlying28
  have hu48 := Try.underlying48
  have HE := Aside0.mk he
  have HC1 := Aside0.mk hc1
  have HC2 := Aside0.mk hc2
  clear he hc1 hc2
  replace h0 := eq_true h0
  replace h1 := eq_true h1
  replace h2 := eq_true h2
  have h3b : decide ((s.size : Int) < wrap64 (e + 2)) = false := decide_eq_false h3
  clear h3
  replace h4 := eq_true h4
  replace h5 := eq_true h5
  replace h6 := eq_true h6
  replace h7 := eq_true h7
  replace h8 := eq_true h8
  replace h9 := eq_true h9
  replace h10 := eq_true h10
  go_enter Try.func29, Try.ntmps29
  go_wp2_with (first | (go_at_call 16; refine (run_letter k s _ _ _ HE.out).mono ?_; rintro e1 w1 ⟨rfl, ⟨m1, rfl⟩⟩; clear HE) | (go_at_call 36; refine (strings_Contains.calls DELIMS _ _ _ HC1.out).mono ?_; rintro e1 w1 ⟨rfl, ⟨m2, rfl⟩⟩; clear HC1) | (go_at_call 36; refine (strings_Contains.calls DELIMS _ _ _ HC2.out).mono ?_; rintro e1 w1 ⟨rfl, ⟨m3, rfl⟩⟩; clear HC2))
  exact found_fail rfl rfl rfl (by simp) rfl (blk_drewN (blk_new _ _) _) (Nat.le_refl _) (pw_below_drewN (below_alloc (Below.refl _ _) _) _)
def lexer_name.f (k : Nat) (s : ByteArray) (i : Int) : Option (S28 × Option (Int × Int)) :=
  (lexer_run.l0 lexer_letter.f k s (wrap64 (i + 1))).bind fun e =>
    if 0 ≤ wrap64 (i + 1) ∧ wrap64 (i + 1) ≤ e ∧ e ≤ (s.size : Int) then (if ((s.extract (wrap64 (i + 1)).toNat e.toNat).toList == [102, 101, 110, 99, 101]) = false then some (⟨4, s.extract (wrap64 (i + 1)).toNat e.toNat, i, e⟩, none)
      else (if (s.size : Int) < wrap64 (e + 2) then some (z28, some (i, 3))
      else (if 0 ≤ e ∧ e ≤ wrap64 (e + 1) ∧ wrap64 (e + 1) ≤ (s.size : Int) ∧ 0 ≤ wrap64 (e + 1) ∧ wrap64 (e + 1) ≤ wrap64 (e + 2) ∧ wrap64 (e + 2) ≤ (s.size : Int) ∧ e ≤ wrap64 (e + 2) then
        ((strings_Contains.f DELIMS (s.extract e.toNat (wrap64 (e + 1)).toNat)).bind fun b1 => if b1 = true then ((strings_Contains.f DELIMS (s.extract (wrap64 (e + 1)).toNat (wrap64 (e + 2)).toNat)).bind fun b2 => if b2 = true then some (⟨5, s.extract e.toNat (wrap64 (e + 2)).toNat, i, wrap64 (e + 2)⟩, none) else some (z28, some (i, 3))) else some (z28, some (i, 3)))
      else none))) else none
theorem lexer_name.calls (k : Nat) (s : ByteArray) (i : Int) (t : S28) (o : Option (Int × Int)) (w : World) (h : lexer_name.f k s i = some (t, o)) : Calls Try.prog 29 #[.string s, .int .i64 i] w (Found t o w) := by
  unfold lexer_name.f at h
  obtain ⟨e, he, h⟩ := Option.bind_eq_some_iff.mp h
  by_cases c1 : 0 ≤ wrap64 (i + 1) ∧ wrap64 (i + 1) ≤ e ∧ e ≤ (s.size : Int)
  case neg => rw [if_neg c1] at h; cases h
  rw [if_pos c1] at h
  obtain ⟨h0, h1, h2⟩ := c1
  by_cases c2 : ((s.extract (wrap64 (i + 1)).toNat e.toNat).toList == [102, 101, 110, 99, 101]) = false
  · rw [if_pos c2] at h
    cases h
    exact name_plain k s i e w he h0 h1 h2 c2
  rw [if_neg c2] at h
  have hn := eq_true_of_ne_false c2
  by_cases c3 : (s.size : Int) < wrap64 (e + 2)
  · rw [if_pos c3] at h
    cases h
    exact name_short k s i e w he h0 h1 h2 hn c3
  rw [if_neg c3] at h
  by_cases c4 : 0 ≤ e ∧ e ≤ wrap64 (e + 1) ∧ wrap64 (e + 1) ≤ (s.size : Int) ∧ 0 ≤ wrap64 (e + 1) ∧ wrap64 (e + 1) ≤ wrap64 (e + 2) ∧ wrap64 (e + 2) ≤ (s.size : Int) ∧ e ≤ wrap64 (e + 2)
  case neg => rw [if_neg c4] at h; cases h
  rw [if_pos c4] at h
  obtain ⟨h4, h5, h6, h7, h8, h9, h10⟩ := c4
  obtain ⟨b1, hc1, h⟩ := Option.bind_eq_some_iff.mp h
  cases b1 with
  | false =>
    rw [if_neg Bool.false_ne_true] at h
    cases h
    exact name_bad1 k s i e w he h0 h1 h2 hn c3 h4 h5 h6 h7 h8 h9 h10 hc1
  | true =>
    rw [if_pos rfl] at h
    obtain ⟨b2, hc2, h⟩ := Option.bind_eq_some_iff.mp h
    cases b2 with
    | false =>
      rw [if_neg Bool.false_ne_true] at h
      cases h
      exact name_bad2 k s i e w he h0 h1 h2 hn c3 h4 h5 h6 h7 h8 h9 h10 hc1 hc2
    | true =>
      rw [if_pos rfl] at h
      cases h
      exact name_long k s i e w he h0 h1 h2 hn c3 h4 h5 h6 h7 h8 h9 h10 hc1 hc2
end Go.Proofs.Ytjihcncajpmgiaa.A
