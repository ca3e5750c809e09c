/- lexer.next: the token that begins at a place. -/
import Derived.Test.YtjihcncajpmgiaaL5
namespace Go.Proofs.Ytjihcncajpmgiaa.A
open Go.RowKit Go.Proofs.YtjihcncajpmgiaaW.PrintWords Go.Proofs.YtjihcncajpmgiaaW.PrintLast Go.Proofs.YtjihcncajpmgiaaW.PrintMore Go.Proofs.Ytjihcncajpmgiaa.R
set_option linter.unusedVariables false
set_option linter.unusedSimpArgs false

def MARKS : ByteArray := ⟨#[123, 125, 40, 41, 91, 93, 94, 95, 38]⟩
def inMarks (c : Int) : Int := Lib.indexByte MARKS.data.toList c.toNat.toUInt8
theorem marks_any (c : Int) (w : World) : Calls Try.prog 27 #[.string MARKS, .int .u8 c] w fun e w' => e = .returned (.int .i64 (inMarks c)) ∧ w' = w := Try.strings_IndexByte MARKS c w
/-- The byte behind a place, 0 at the end. -/
inductive After (s : ByteArray) (i : Int) : Int → Prop
  | has (a1 : wrap64 (i + 1) < (s.size : Int)) (a2 : 0 ≤ wrap64 (i + 1)) : After s i (bt s (wrap64 (i + 1)))
  | no (a1 : ¬ wrap64 (i + 1) < (s.size : Int)) : After s i 0
theorem fail_mono {w : World} {B B' : Nat} (h : B ≤ B') {v : Value} {o : Option (Int × Int)} (hF : FailAt w B' v o) : FailAt w B v o := by
  cases o with
  | none => exact hF
  | some x => obtain ⟨g, h1, h2, h3⟩ := hF; exact ⟨g, h1, Nat.le_trans h h2, h3⟩
/-- What a call below has found is passed on. -/
theorem found_pass {fn : Func} (hf : fn.results = #[.cell 4 28, .tmp 5]) {t : S28} {o : Option (Int × Int)} {w W W' : World} {a : Act} {g : Nat} {x0 x1 x2 x3 pv : Value}
    (h4 : a.tmps.getD 4 undef = .pointer (some ⟨g, 0, none⟩)) (h5 : a.tmps.getD 5 undef = pv) (hd : a.defers = []) (hx : W.heap[g]? = some (.cells #[x0, x1, x2, x3] 28 (0, 0))) (hg : w.heap.size ≤ g) (hb : Below w.heap.size w W)
    (hF : FailAt W' W.heap.size pv o) (hB : Below W.heap.size W W') : bodyPost Try.prog fn (Found t o w) .ret a (put4 W' g t) := by
  subst h5
  refine found_ret hf h4 hd (blk_below hx hB) hg (below_step hb hB) (fail_mono hb.size hF) (fun x e h => ?_)
  subst e
  obtain ⟨g', h1, h2, _⟩ := hF
  rw [h] at h1
  have : g = g' := by injection h1 with h1; injection h1 with h1; injection h1
  have := blk_lt hx
  omega
set_option maxHeartbeats 1000000 in
set_option maxRecDepth 100000 in
theorem next_num (s : ByteArray) (i av : Int) (w : World) (h0 : 0 ≤ i) (h1 : i < (s.size : Int)) (hA : After s i av) (k : Nat) (e : Int) (hd : lexer_digit.f (bt s i) = some true) (hn : lexer_number.f k s i = some e) (h2 : i ≤ e) (h3 : e ≤ (s.size : Int)) :
    Calls Try.prog 18 #[.string s, .int .i64 i] w (Found ⟨2, s.extract i.toNat e.toNat, i, e⟩ none w) := by
  have hu28 := Try.underlying28
  have hu48 := Try.underlying48
  have hbt := bt_at s i
  replace h0 := eq_true h0
  replace h1 := eq_true h1
  have HD := Aside0.mk hd
  have HN := Aside0.mk hn
  clear hd hn
  replace h2 := eq_true h2
  replace h3 := eq_true h3
  rcases hA with ⟨a1, a2⟩ | ⟨a1⟩
  · have a1b : decide (wrap64 (i + 1) < (s.size : Int)) = true := decide_eq_true a1
    have hbt2 := bt_at s (wrap64 (i + 1))
    replace a1 := eq_true a1
    replace a2 := eq_true a2
    go_enter Try.func18, Try.ntmps18
    go_wp2_with (first | (go_at_call 25; refine (lexer_digit.calls _ _ _ HD.out).mono ?_; rintro e1 w1 ⟨rfl, ⟨m1, rfl⟩⟩; clear HD) | (go_at_call 26; refine (lexer_number.calls k s i e _ HN.out).mono ?_; rintro e1 w1 ⟨rfl, ⟨m2, rfl⟩⟩; clear HN))
    exact found_ret rfl rfl rfl (by first | exact blk_drewN (blk_new _ _) _ | exact blk_new _ _) (Nat.le_refl _) (by first | exact pw_below_drewN (below_alloc (Below.refl _ _) _) _ | exact below_alloc (Below.refl _ _) _) rfl (fun x e => by cases e)
  · have a1b : decide (wrap64 (i + 1) < (s.size : Int)) = false := decide_eq_false a1
    clear a1
    go_enter Try.func18, Try.ntmps18
    go_wp2_with (first | (go_at_call 25; refine (lexer_digit.calls _ _ _ HD.out).mono ?_; rintro e1 w1 ⟨rfl, ⟨m1, rfl⟩⟩; clear HD) | (go_at_call 26; refine (lexer_number.calls k s i e _ HN.out).mono ?_; rintro e1 w1 ⟨rfl, ⟨m2, rfl⟩⟩; clear HN))
    exact found_ret rfl rfl rfl (by first | exact blk_drewN (blk_new _ _) _ | exact blk_new _ _) (Nat.le_refl _) (by first | exact pw_below_drewN (below_alloc (Below.refl _ _) _) _ | exact below_alloc (Below.refl _ _) _) rfl (fun x e => by cases e)
set_option maxHeartbeats 1000000 in
set_option maxRecDepth 100000 in
theorem next_mark (s : ByteArray) (i av : Int) (w : World) (h0 : 0 ≤ i) (h1 : i < (s.size : Int)) (hA : After s i av) (hd : lexer_digit.f (bt s i) = some false) (hm : 0 ≤ inMarks (bt s i)) (h2 : i ≤ wrap64 (i + 1)) (h3 : wrap64 (i + 1) ≤ (s.size : Int)) :
    Calls Try.prog 18 #[.string s, .int .i64 i] w (Found ⟨7, s.extract i.toNat (wrap64 (i + 1)).toNat, i, wrap64 (i + 1)⟩ none w) := by
  have hu28 := Try.underlying28
  have hu48 := Try.underlying48
  have hbt := bt_at s i
  replace h0 := eq_true h0
  replace h1 := eq_true h1
  have HD := Aside0.mk hd
  clear hd
  have hmb : decide (0 ≤ inMarks (bt s i)) = true := decide_eq_true hm
  clear hm
  replace h2 := eq_true h2
  replace h3 := eq_true h3
  rcases hA with ⟨a1, a2⟩ | ⟨a1⟩
  · have a1b : decide (wrap64 (i + 1) < (s.size : Int)) = true := decide_eq_true a1
    have hbt2 := bt_at s (wrap64 (i + 1))
    replace a1 := eq_true a1
    replace a2 := eq_true a2
    go_enter Try.func18, Try.ntmps18
    go_wp2_with (first | (go_at_call 25; refine (lexer_digit.calls _ _ _ HD.out).mono ?_; rintro e1 w1 ⟨rfl, ⟨m1, rfl⟩⟩; clear HD) | (go_at_call 27; refine (marks_any _ _).mono ?_; rintro e1 w1 ⟨rfl, rfl⟩))
    exact found_ret rfl rfl rfl (by first | exact blk_drewN (blk_new _ _) _ | exact blk_new _ _) (Nat.le_refl _) (by first | exact pw_below_drewN (below_alloc (Below.refl _ _) _) _ | exact below_alloc (Below.refl _ _) _) rfl (fun x e => by cases e)
  · have a1b : decide (wrap64 (i + 1) < (s.size : Int)) = false := decide_eq_false a1
    clear a1
    go_enter Try.func18, Try.ntmps18
    go_wp2_with (first | (go_at_call 25; refine (lexer_digit.calls _ _ _ HD.out).mono ?_; rintro e1 w1 ⟨rfl, ⟨m1, rfl⟩⟩; clear HD) | (go_at_call 27; refine (marks_any _ _).mono ?_; rintro e1 w1 ⟨rfl, rfl⟩))
    exact found_ret rfl rfl rfl (by first | exact blk_drewN (blk_new _ _) _ | exact blk_new _ _) (Nat.le_refl _) (by first | exact pw_below_drewN (below_alloc (Below.refl _ _) _) _ | exact below_alloc (Below.refl _ _) _) rfl (fun x e => by cases e)
set_option maxHeartbeats 1000000 in
set_option maxRecDepth 100000 in
theorem next_quoted (s : ByteArray) (i av : Int) (w : World) (h0 : 0 ≤ i) (h1 : i < (s.size : Int)) (hA : After s i av) (k : Nat) (t : S28) (o : Option (Int × Int)) (hd : lexer_digit.f (bt s i) = some false) (hm : ¬ 0 ≤ inMarks (bt s i)) (q34h : bt s i = 34) (hq : lexer_quoted.f k s i = some (t, o)) :
    Calls Try.prog 18 #[.string s, .int .i64 i] w (Found t o w) := by
  have hu28 := Try.underlying28
  have hu48 := Try.underlying48
  have hbt := bt_at s i
  replace h0 := eq_true h0
  replace h1 := eq_true h1
  have HD := Aside0.mk hd
  clear hd
  have hmb : decide (0 ≤ inMarks (bt s i)) = false := decide_eq_false hm
  clear hm
  have HQ := Aside0.mk hq
  clear hq
  have q34 : (bt s i == 34) = true := by simp [q34h]
  clear q34h
  rcases hA with ⟨a1, a2⟩ | ⟨a1⟩
  · have a1b : decide (wrap64 (i + 1) < (s.size : Int)) = true := decide_eq_true a1
    have hbt2 := bt_at s (wrap64 (i + 1))
    replace a1 := eq_true a1
    replace a2 := eq_true a2
    go_enter Try.func18, Try.ntmps18
    go_wp2_with (first | (go_at_call 25; refine (lexer_digit.calls _ _ _ HD.out).mono ?_; rintro e1 w1 ⟨rfl, ⟨m1, rfl⟩⟩; clear HD) | (go_at_call 27; refine (marks_any _ _).mono ?_; rintro e1 w1 ⟨rfl, rfl⟩) | (go_at_call 28; refine (lexer_quoted.calls k s i t o _ HQ.out).mono ?_; rintro e1 w5 ⟨pv, rfl, hF, hB⟩; have hx5 := blk_below (by first | exact blk_drewN (blk_new w (.cells #[.int .i64 0, .string ⟨#[]⟩, .int .i64 0, .int .i64 0] 28)) _ | exact blk_new w (.cells #[.int .i64 0, .string ⟨#[]⟩, .int .i64 0, .int .i64 0] 28)) hB; have KF := Aside0.mk (And.intro hF hB); clear hF hB; have lg5 : w.heap.size < w5.heap.size := blk_lt hx5; have f0 : w5.cell? ⟨w.heap.size, 0, none⟩ = some (.int .i64 0) := (blk_cell hx5 0).trans rfl; have f1 : w5.cell? ⟨w.heap.size, 1, none⟩ = some (.string ⟨#[]⟩) := (blk_cell hx5 1).trans rfl; have f2 : w5.cell? ⟨w.heap.size, 2, none⟩ = some (.int .i64 0) := (blk_cell hx5 2).trans rfl; have f3 : w5.cell? ⟨w.heap.size, 3, none⟩ = some (.int .i64 0) := (blk_cell hx5 3).trans rfl; have z0 := blk_frozen hx5 0; have z1 := blk_frozen hx5 1; have z2 := blk_frozen hx5 2; have z3 := blk_frozen hx5 3; clear hx5))
    exact found_pass rfl rfl rfl rfl (by first | exact blk_drewN (blk_new _ _) _ | exact blk_new _ _) (Nat.le_refl _) (by first | exact pw_below_drewN (below_alloc (Below.refl _ _) _) _ | exact below_alloc (Below.refl _ _) _) KF.out.1 KF.out.2
  · have a1b : decide (wrap64 (i + 1) < (s.size : Int)) = false := decide_eq_false a1
    clear a1
    go_enter Try.func18, Try.ntmps18
    go_wp2_with (first | (go_at_call 25; refine (lexer_digit.calls _ _ _ HD.out).mono ?_; rintro e1 w1 ⟨rfl, ⟨m1, rfl⟩⟩; clear HD) | (go_at_call 27; refine (marks_any _ _).mono ?_; rintro e1 w1 ⟨rfl, rfl⟩) | (go_at_call 28; refine (lexer_quoted.calls k s i t o _ HQ.out).mono ?_; rintro e1 w5 ⟨pv, rfl, hF, hB⟩; have hx5 := blk_below (by first | exact blk_drewN (blk_new w (.cells #[.int .i64 0, .string ⟨#[]⟩, .int .i64 0, .int .i64 0] 28)) _ | exact blk_new w (.cells #[.int .i64 0, .string ⟨#[]⟩, .int .i64 0, .int .i64 0] 28)) hB; have KF := Aside0.mk (And.intro hF hB); clear hF hB; have lg5 : w.heap.size < w5.heap.size := blk_lt hx5; have f0 : w5.cell? ⟨w.heap.size, 0, none⟩ = some (.int .i64 0) := (blk_cell hx5 0).trans rfl; have f1 : w5.cell? ⟨w.heap.size, 1, none⟩ = some (.string ⟨#[]⟩) := (blk_cell hx5 1).trans rfl; have f2 : w5.cell? ⟨w.heap.size, 2, none⟩ = some (.int .i64 0) := (blk_cell hx5 2).trans rfl; have f3 : w5.cell? ⟨w.heap.size, 3, none⟩ = some (.int .i64 0) := (blk_cell hx5 3).trans rfl; have z0 := blk_frozen hx5 0; have z1 := blk_frozen hx5 1; have z2 := blk_frozen hx5 2; have z3 := blk_frozen hx5 3; clear hx5))
    exact found_pass rfl rfl rfl rfl (by first | exact blk_drewN (blk_new _ _) _ | exact blk_new _ _) (Nat.le_refl _) (by first | exact pw_below_drewN (below_alloc (Below.refl _ _) _) _ | exact below_alloc (Below.refl _ _) _) KF.out.1 KF.out.2
set_option maxHeartbeats 1000000 in
set_option maxRecDepth 100000 in
theorem next_break (s : ByteArray) (i av : Int) (w : World) (h0 : 0 ≤ i) (h1 : i < (s.size : Int)) (hA : After s i av) (hd : lexer_digit.f (bt s i) = some false) (hm : ¬ 0 ≤ inMarks (bt s i)) (q34h : ¬ bt s i = 34) (q92h : bt s i = 92) (qah : av = 92) (h2 : i ≤ wrap64 (i + 2)) (h3 : wrap64 (i + 2) ≤ (s.size : Int)) :
    Calls Try.prog 18 #[.string s, .int .i64 i] w (Found ⟨8, s.extract i.toNat (wrap64 (i + 2)).toNat, i, wrap64 (i + 2)⟩ none w) := by
  have hu28 := Try.underlying28
  have hu48 := Try.underlying48
  have hbt := bt_at s i
  replace h0 := eq_true h0
  replace h1 := eq_true h1
  have HD := Aside0.mk hd
  clear hd
  have hmb : decide (0 ≤ inMarks (bt s i)) = false := decide_eq_false hm
  clear hm
  have q34 : (bt s i == 34) = false := by simp [q34h]
  clear q34h
  have q92 : (bt s i == 92) = true := by simp [q92h]
  clear q92h
  have qa : (av == 92) = true := by simp [qah]
  replace h2 := eq_true h2
  replace h3 := eq_true h3
  rcases hA with ⟨a1, a2⟩ | ⟨a1⟩
  · have a1b : decide (wrap64 (i + 1) < (s.size : Int)) = true := decide_eq_true a1
    have hbt2 := bt_at s (wrap64 (i + 1))
    replace a1 := eq_true a1
    replace a2 := eq_true a2
    go_enter Try.func18, Try.ntmps18
    go_wp2_with (first | (go_at_call 25; refine (lexer_digit.calls _ _ _ HD.out).mono ?_; rintro e1 w1 ⟨rfl, ⟨m1, rfl⟩⟩; clear HD) | (go_at_call 27; refine (marks_any _ _).mono ?_; rintro e1 w1 ⟨rfl, rfl⟩))
    exact found_ret rfl rfl rfl (by first | exact blk_drewN (blk_new _ _) _ | exact blk_new _ _) (Nat.le_refl _) (by first | exact pw_below_drewN (below_alloc (Below.refl _ _) _) _ | exact below_alloc (Below.refl _ _) _) rfl (fun x e => by cases e)
  · exact absurd qah (by decide)
set_option maxHeartbeats 1000000 in
set_option maxRecDepth 100000 in
theorem next_name (s : ByteArray) (i av : Int) (w : World) (h0 : 0 ≤ i) (h1 : i < (s.size : Int)) (hA : After s i av) (k : Nat) (t : S28) (o : Option (Int × Int)) (hd : lexer_digit.f (bt s i) = some false) (hm : ¬ 0 ≤ inMarks (bt s i)) (q34h : ¬ bt s i = 34) (q92h : bt s i = 92) (qah : ¬ av = 92) (hl : lexer_letter.f av = some true) (hq : lexer_name.f k s i = some (t, o)) :
    Calls Try.prog 18 #[.string s, .int .i64 i] w (Found t o w) := by
  have hu28 := Try.underlying28
  have hu48 := Try.underlying48
  have hbt := bt_at s i
  replace h0 := eq_true h0
  replace h1 := eq_true h1
  have HD := Aside0.mk hd
  clear hd
  have hmb : decide (0 ≤ inMarks (bt s i)) = false := decide_eq_false hm
  clear hm
  have q34 : (bt s i == 34) = false := by simp [q34h]
  clear q34h
  have q92 : (bt s i == 92) = true := by simp [q92h]
  clear q92h
  have qa : (av == 92) = false := by simp [qah]
  clear qah
  have HQ := Aside0.mk hq
  have HL := Aside0.mk hl
  clear hq
  rcases hA with ⟨a1, a2⟩ | ⟨a1⟩
  · have a1b : decide (wrap64 (i + 1) < (s.size : Int)) = true := decide_eq_true a1
    have hbt2 := bt_at s (wrap64 (i + 1))
    replace a1 := eq_true a1
    replace a2 := eq_true a2
    go_enter Try.func18, Try.ntmps18
    go_wp2_with (first | (go_at_call 25; refine (lexer_digit.calls _ _ _ HD.out).mono ?_; rintro e1 w1 ⟨rfl, ⟨m1, rfl⟩⟩; clear HD) | (go_at_call 27; refine (marks_any _ _).mono ?_; rintro e1 w1 ⟨rfl, rfl⟩) | (go_at_call 23; refine (lexer_letter.calls _ _ _ HL.out).mono ?_; rintro e1 w1 ⟨rfl, ⟨m3, rfl⟩⟩; clear HL) | (go_at_call 29; refine (lexer_name.calls k s i t o _ HQ.out).mono ?_; rintro e1 w5 ⟨pv, rfl, hF, hB⟩; have hx5 := blk_below (by first | exact blk_drewN (blk_new w (.cells #[.int .i64 0, .string ⟨#[]⟩, .int .i64 0, .int .i64 0] 28)) _ | exact blk_new w (.cells #[.int .i64 0, .string ⟨#[]⟩, .int .i64 0, .int .i64 0] 28)) hB; have KF := Aside0.mk (And.intro hF hB); clear hF hB; have lg5 : w.heap.size < w5.heap.size := blk_lt hx5; have f0 : w5.cell? ⟨w.heap.size, 0, none⟩ = some (.int .i64 0) := (blk_cell hx5 0).trans rfl; have f1 : w5.cell? ⟨w.heap.size, 1, none⟩ = some (.string ⟨#[]⟩) := (blk_cell hx5 1).trans rfl; have f2 : w5.cell? ⟨w.heap.size, 2, none⟩ = some (.int .i64 0) := (blk_cell hx5 2).trans rfl; have f3 : w5.cell? ⟨w.heap.size, 3, none⟩ = some (.int .i64 0) := (blk_cell hx5 3).trans rfl; have z0 := blk_frozen hx5 0; have z1 := blk_frozen hx5 1; have z2 := blk_frozen hx5 2; have z3 := blk_frozen hx5 3; clear hx5))
    exact found_pass rfl rfl rfl rfl (by first | exact blk_drewN (blk_new _ _) _ | exact blk_new _ _) (Nat.le_refl _) (by first | exact pw_below_drewN (below_alloc (Below.refl _ _) _) _ | exact below_alloc (Below.refl _ _) _) KF.out.1 KF.out.2
  · exact absurd hl (by decide)
set_option maxHeartbeats 1000000 in
set_option maxRecDepth 100000 in
theorem next_param (s : ByteArray) (i av : Int) (w : World) (h0 : 0 ≤ i) (h1 : i < (s.size : Int)) (hA : After s i av) (hd : lexer_digit.f (bt s i) = some false) (hm : ¬ 0 ≤ inMarks (bt s i)) (q34h : ¬ bt s i = 34) (q92h : ¬ bt s i = 92) (q35h : bt s i = 35) (l1 : 49 ≤ av) (l2 : av ≤ 52) (h2 : 0 ≤ wrap64 (i + 1)) (h3 : wrap64 (i + 1) ≤ wrap64 (i + 2)) (h4 : wrap64 (i + 2) ≤ (s.size : Int)) :
    Calls Try.prog 18 #[.string s, .int .i64 i] w (Found ⟨6, s.extract (wrap64 (i + 1)).toNat (wrap64 (i + 2)).toNat, i, wrap64 (i + 2)⟩ none w) := by
  have hu28 := Try.underlying28
  have hu48 := Try.underlying48
  have hbt := bt_at s i
  replace h0 := eq_true h0
  replace h1 := eq_true h1
  have HD := Aside0.mk hd
  clear hd
  have hmb : decide (0 ≤ inMarks (bt s i)) = false := decide_eq_false hm
  clear hm
  have q34 : (bt s i == 34) = false := by simp [q34h]
  clear q34h
  have q92 : (bt s i == 92) = false := by simp [q92h]
  clear q92h
  have q35 : (bt s i == 35) = true := by simp [q35h]
  clear q35h
  have l1b : decide (49 ≤ av) = true := decide_eq_true l1
  have l2b : decide (av ≤ 52) = true := decide_eq_true l2
  clear l2
  replace h2 := eq_true h2
  replace h3 := eq_true h3
  replace h4 := eq_true h4
  rcases hA with ⟨a1, a2⟩ | ⟨a1⟩
  · have a1b : decide (wrap64 (i + 1) < (s.size : Int)) = true := decide_eq_true a1
    have hbt2 := bt_at s (wrap64 (i + 1))
    replace a1 := eq_true a1
    replace a2 := eq_true a2
    go_enter Try.func18, Try.ntmps18
    go_wp2_with (first | (go_at_call 25; refine (lexer_digit.calls _ _ _ HD.out).mono ?_; rintro e1 w1 ⟨rfl, ⟨m1, rfl⟩⟩; clear HD) | (go_at_call 27; refine (marks_any _ _).mono ?_; rintro e1 w1 ⟨rfl, rfl⟩))
    exact found_ret rfl rfl rfl (by first | exact blk_drewN (blk_new _ _) _ | exact blk_new _ _) (Nat.le_refl _) (by first | exact pw_below_drewN (below_alloc (Below.refl _ _) _) _ | exact below_alloc (Below.refl _ _) _) rfl (fun x e => by cases e)
  · exact absurd l1 (by decide)
set_option maxHeartbeats 1000000 in
set_option maxRecDepth 100000 in
theorem next_syma (s : ByteArray) (i av : Int) (w : World) (h0 : 0 ≤ i) (h1 : i < (s.size : Int)) (hA : After s i av) (k : Nat) (hd : lexer_digit.f (bt s i) = some false) (hm : ¬ 0 ≤ inMarks (bt s i)) (q34h : ¬ bt s i = 34) (q92h : bt s i = 92) (qah : ¬ av = 92) (hl : lexer_letter.f av = some false) (h2 : i ≤ wrap64 (i + 1)) (h3 : wrap64 (i + 1) ≤ (s.size : Int)) (hy : node_Symbol.f k (s.extract i.toNat (wrap64 (i + 1)).toNat) = some true) :
    Calls Try.prog 18 #[.string s, .int .i64 i] w (Found ⟨1, s.extract i.toNat (wrap64 (i + 1)).toNat, i, wrap64 (i + 1)⟩ none w) := by
  have hu28 := Try.underlying28
  have hu48 := Try.underlying48
  have hbt := bt_at s i
  replace h0 := eq_true h0
  replace h1 := eq_true h1
  have HD := Aside0.mk hd
  clear hd
  have hmb : decide (0 ≤ inMarks (bt s i)) = false := decide_eq_false hm
  clear hm
  have q34 : (bt s i == 34) = false := by simp [q34h]
  clear q34h
  have q92 : (bt s i == 92) = true := by simp [q92h]
  have q35 : (bt s i == 35) = false := by rw [q92h]; rfl
  clear q92h
  have qa : (av == 92) = false := by simp [qah]
  clear qah
  have HL := Aside0.mk hl
  clear hl
  have HY := Aside0.mk hy
  clear hy
  replace h2 := eq_true h2
  replace h3 := eq_true h3
  rcases hA with ⟨a1, a2⟩ | ⟨a1⟩
  · have a1b : decide (wrap64 (i + 1) < (s.size : Int)) = true := decide_eq_true a1
    have hbt2 := bt_at s (wrap64 (i + 1))
    replace a1 := eq_true a1
    replace a2 := eq_true a2
    go_enter Try.func18, Try.ntmps18
    go_wp2_with (first | (go_at_call 25; refine (lexer_digit.calls _ _ _ HD.out).mono ?_; rintro e1 w1 ⟨rfl, ⟨m1, rfl⟩⟩; clear HD) | (go_at_call 27; refine (marks_any _ _).mono ?_; rintro e1 w1 ⟨rfl, rfl⟩) | (go_at_call 23; refine (lexer_letter.calls _ _ _ HL.out).mono ?_; rintro e1 w1 ⟨rfl, ⟨m3, rfl⟩⟩; clear HL) | (go_at_call 30; refine (node_Symbol.calls k _ _ _ HY.out).mono ?_; rintro e1 w5 ⟨rfl, hB⟩; have hx5 := blk_below (by first | exact blk_drewN (blk_new w (.cells #[.int .i64 0, .string ⟨#[]⟩, .int .i64 0, .int .i64 0] 28)) _ | exact blk_new w (.cells #[.int .i64 0, .string ⟨#[]⟩, .int .i64 0, .int .i64 0] 28)) hB; have KX := Aside0.mk (And.intro hx5 (below_step (by first | exact pw_below_drewN (below_alloc (Below.refl _ _) _) _ | exact below_alloc (Below.refl _ _) _) hB)); clear hB HY; have lg5 : w.heap.size < w5.heap.size := blk_lt hx5; have f0 : w5.cell? ⟨w.heap.size, 0, none⟩ = some (.int .i64 0) := (blk_cell hx5 0).trans rfl; have f1 : w5.cell? ⟨w.heap.size, 1, none⟩ = some (.string ⟨#[]⟩) := (blk_cell hx5 1).trans rfl; have f2 : w5.cell? ⟨w.heap.size, 2, none⟩ = some (.int .i64 0) := (blk_cell hx5 2).trans rfl; have f3 : w5.cell? ⟨w.heap.size, 3, none⟩ = some (.int .i64 0) := (blk_cell hx5 3).trans rfl; have z0 := blk_frozen hx5 0; have z1 := blk_frozen hx5 1; have z2 := blk_frozen hx5 2; have z3 := blk_frozen hx5 3; clear hx5))
    exact found_ret rfl rfl rfl KX.out.1 (Nat.le_refl _) KX.out.2 rfl (fun x e => by cases e)
  · have a1b : decide (wrap64 (i + 1) < (s.size : Int)) = false := decide_eq_false a1
    clear a1
    go_enter Try.func18, Try.ntmps18
    go_wp2_with (first | (go_at_call 25; refine (lexer_digit.calls _ _ _ HD.out).mono ?_; rintro e1 w1 ⟨rfl, ⟨m1, rfl⟩⟩; clear HD) | (go_at_call 27; refine (marks_any _ _).mono ?_; rintro e1 w1 ⟨rfl, rfl⟩) | (go_at_call 23; refine (lexer_letter.calls _ _ _ HL.out).mono ?_; rintro e1 w1 ⟨rfl, ⟨m3, rfl⟩⟩; clear HL) | (go_at_call 30; refine (node_Symbol.calls k _ _ _ HY.out).mono ?_; rintro e1 w5 ⟨rfl, hB⟩; have hx5 := blk_below (by first | exact blk_drewN (blk_new w (.cells #[.int .i64 0, .string ⟨#[]⟩, .int .i64 0, .int .i64 0] 28)) _ | exact blk_new w (.cells #[.int .i64 0, .string ⟨#[]⟩, .int .i64 0, .int .i64 0] 28)) hB; have KX := Aside0.mk (And.intro hx5 (below_step (by first | exact pw_below_drewN (below_alloc (Below.refl _ _) _) _ | exact below_alloc (Below.refl _ _) _) hB)); clear hB HY; have lg5 : w.heap.size < w5.heap.size := blk_lt hx5; have f0 : w5.cell? ⟨w.heap.size, 0, none⟩ = some (.int .i64 0) := (blk_cell hx5 0).trans rfl; have f1 : w5.cell? ⟨w.heap.size, 1, none⟩ = some (.string ⟨#[]⟩) := (blk_cell hx5 1).trans rfl; have f2 : w5.cell? ⟨w.heap.size, 2, none⟩ = some (.int .i64 0) := (blk_cell hx5 2).trans rfl; have f3 : w5.cell? ⟨w.heap.size, 3, none⟩ = some (.int .i64 0) := (blk_cell hx5 3).trans rfl; have z0 := blk_frozen hx5 0; have z1 := blk_frozen hx5 1; have z2 := blk_frozen hx5 2; have z3 := blk_frozen hx5 3; clear hx5))
    exact found_ret rfl rfl rfl KX.out.1 (Nat.le_refl _) KX.out.2 rfl (fun x e => by cases e)
set_option maxHeartbeats 1000000 in
set_option maxRecDepth 100000 in
theorem next_nonea (s : ByteArray) (i av : Int) (w : World) (h0 : 0 ≤ i) (h1 : i < (s.size : Int)) (hA : After s i av) (k : Nat) (hd : lexer_digit.f (bt s i) = some false) (hm : ¬ 0 ≤ inMarks (bt s i)) (q34h : ¬ bt s i = 34) (q92h : bt s i = 92) (qah : ¬ av = 92) (hl : lexer_letter.f av = some false) (h2 : i ≤ wrap64 (i + 1)) (h3 : wrap64 (i + 1) ≤ (s.size : Int)) (hy : node_Symbol.f k (s.extract i.toNat (wrap64 (i + 1)).toNat) = some false) :
    Calls Try.prog 18 #[.string s, .int .i64 i] w (Found z28 (some (i, 3)) w) := by
  have hu28 := Try.underlying28
  have hu48 := Try.underlying48
  have hbt := bt_at s i
  replace h0 := eq_true h0
  replace h1 := eq_true h1
  have HD := Aside0.mk hd
  clear hd
  have hmb : decide (0 ≤ inMarks (bt s i)) = false := decide_eq_false hm
  clear hm
  have q34 : (bt s i == 34) = false := by simp [q34h]
  clear q34h
  have q92 : (bt s i == 92) = true := by simp [q92h]
  have q35 : (bt s i == 35) = false := by rw [q92h]; rfl
  clear q92h
  have qa : (av == 92) = false := by simp [qah]
  clear qah
  have HL := Aside0.mk hl
  clear hl
  have HY := Aside0.mk hy
  clear hy
  replace h2 := eq_true h2
  replace h3 := eq_true h3
  rcases hA with ⟨a1, a2⟩ | ⟨a1⟩
  · have a1b : decide (wrap64 (i + 1) < (s.size : Int)) = true := decide_eq_true a1
    have hbt2 := bt_at s (wrap64 (i + 1))
    replace a1 := eq_true a1
    replace a2 := eq_true a2
    go_enter Try.func18, Try.ntmps18
    go_wp2_with (first | (go_at_call 25; refine (lexer_digit.calls _ _ _ HD.out).mono ?_; rintro e1 w1 ⟨rfl, ⟨m1, rfl⟩⟩; clear HD) | (go_at_call 27; refine (marks_any _ _).mono ?_; rintro e1 w1 ⟨rfl, rfl⟩) | (go_at_call 23; refine (lexer_letter.calls _ _ _ HL.out).mono ?_; rintro e1 w1 ⟨rfl, ⟨m3, rfl⟩⟩; clear HL) | (go_at_call 30; refine (node_Symbol.calls k _ _ _ HY.out).mono ?_; rintro e1 w5 ⟨rfl, hB⟩; have hx5 := blk_below (by first | exact blk_drewN (blk_new w (.cells #[.int .i64 0, .string ⟨#[]⟩, .int .i64 0, .int .i64 0] 28)) _ | exact blk_new w (.cells #[.int .i64 0, .string ⟨#[]⟩, .int .i64 0, .int .i64 0] 28)) hB; have KX := Aside0.mk (And.intro hx5 (below_step (by first | exact pw_below_drewN (below_alloc (Below.refl _ _) _) _ | exact below_alloc (Below.refl _ _) _) hB)); clear hB HY; have lg5 : w.heap.size < w5.heap.size := blk_lt hx5; have f0 : w5.cell? ⟨w.heap.size, 0, none⟩ = some (.int .i64 0) := (blk_cell hx5 0).trans rfl; have f1 : w5.cell? ⟨w.heap.size, 1, none⟩ = some (.string ⟨#[]⟩) := (blk_cell hx5 1).trans rfl; have f2 : w5.cell? ⟨w.heap.size, 2, none⟩ = some (.int .i64 0) := (blk_cell hx5 2).trans rfl; have f3 : w5.cell? ⟨w.heap.size, 3, none⟩ = some (.int .i64 0) := (blk_cell hx5 3).trans rfl; have z0 := blk_frozen hx5 0; have z1 := blk_frozen hx5 1; have z2 := blk_frozen hx5 2; have z3 := blk_frozen hx5 3; clear hx5))
    exact found_fail rfl rfl rfl (by first | rfl | simp) rfl KX.out.1 (Nat.le_refl _) KX.out.2
  · have a1b : decide (wrap64 (i + 1) < (s.size : Int)) = false := decide_eq_false a1
    clear a1
    go_enter Try.func18, Try.ntmps18
    go_wp2_with (first | (go_at_call 25; refine (lexer_digit.calls _ _ _ HD.out).mono ?_; rintro e1 w1 ⟨rfl, ⟨m1, rfl⟩⟩; clear HD) | (go_at_call 27; refine (marks_any _ _).mono ?_; rintro e1 w1 ⟨rfl, rfl⟩) | (go_at_call 23; refine (lexer_letter.calls _ _ _ HL.out).mono ?_; rintro e1 w1 ⟨rfl, ⟨m3, rfl⟩⟩; clear HL) | (go_at_call 30; refine (node_Symbol.calls k _ _ _ HY.out).mono ?_; rintro e1 w5 ⟨rfl, hB⟩; have hx5 := blk_below (by first | exact blk_drewN (blk_new w (.cells #[.int .i64 0, .string ⟨#[]⟩, .int .i64 0, .int .i64 0] 28)) _ | exact blk_new w (.cells #[.int .i64 0, .string ⟨#[]⟩, .int .i64 0, .int .i64 0] 28)) hB; have KX := Aside0.mk (And.intro hx5 (below_step (by first | exact pw_below_drewN (below_alloc (Below.refl _ _) _) _ | exact below_alloc (Below.refl _ _) _) hB)); clear hB HY; have lg5 : w.heap.size < w5.heap.size := blk_lt hx5; have f0 : w5.cell? ⟨w.heap.size, 0, none⟩ = some (.int .i64 0) := (blk_cell hx5 0).trans rfl; have f1 : w5.cell? ⟨w.heap.size, 1, none⟩ = some (.string ⟨#[]⟩) := (blk_cell hx5 1).trans rfl; have f2 : w5.cell? ⟨w.heap.size, 2, none⟩ = some (.int .i64 0) := (blk_cell hx5 2).trans rfl; have f3 : w5.cell? ⟨w.heap.size, 3, none⟩ = some (.int .i64 0) := (blk_cell hx5 3).trans rfl; have z0 := blk_frozen hx5 0; have z1 := blk_frozen hx5 1; have z2 := blk_frozen hx5 2; have z3 := blk_frozen hx5 3; clear hx5))
    exact found_fail rfl rfl rfl (by first | rfl | simp) rfl KX.out.1 (Nat.le_refl _) KX.out.2
set_option maxHeartbeats 1000000 in
set_option maxRecDepth 100000 in
theorem next_symb (s : ByteArray) (i av : Int) (w : World) (h0 : 0 ≤ i) (h1 : i < (s.size : Int)) (hA : After s i av) (k : Nat) (hd : lexer_digit.f (bt s i) = some false) (hm : ¬ 0 ≤ inMarks (bt s i)) (q34h : ¬ bt s i = 34) (q92h : ¬ bt s i = 92) (q35h : bt s i = 35) (l1 : ¬ 49 ≤ av) (h2 : i ≤ wrap64 (i + 1)) (h3 : wrap64 (i + 1) ≤ (s.size : Int)) (hy : node_Symbol.f k (s.extract i.toNat (wrap64 (i + 1)).toNat) = some true) :
    Calls Try.prog 18 #[.string s, .int .i64 i] w (Found ⟨1, s.extract i.toNat (wrap64 (i + 1)).toNat, i, wrap64 (i + 1)⟩ none w) := by
  have hu28 := Try.underlying28
  have hu48 := Try.underlying48
  have hbt := bt_at s i
  replace h0 := eq_true h0
  replace h1 := eq_true h1
  have HD := Aside0.mk hd
  clear hd
  have hmb : decide (0 ≤ inMarks (bt s i)) = false := decide_eq_false hm
  clear hm
  have q34 : (bt s i == 34) = false := by simp [q34h]
  clear q34h
  have q92 : (bt s i == 92) = false := by simp [q92h]
  clear q92h
  have q35 : (bt s i == 35) = true := by simp [q35h]
  clear q35h
  have l1b : decide (49 ≤ av) = false := decide_eq_false l1
  clear l1
  have HY := Aside0.mk hy
  clear hy
  replace h2 := eq_true h2
  replace h3 := eq_true h3
  rcases hA with ⟨a1, a2⟩ | ⟨a1⟩
  · have a1b : decide (wrap64 (i + 1) < (s.size : Int)) = true := decide_eq_true a1
    have hbt2 := bt_at s (wrap64 (i + 1))
    replace a1 := eq_true a1
    replace a2 := eq_true a2
    go_enter Try.func18, Try.ntmps18
    go_wp2_with (first | (go_at_call 25; refine (lexer_digit.calls _ _ _ HD.out).mono ?_; rintro e1 w1 ⟨rfl, ⟨m1, rfl⟩⟩; clear HD) | (go_at_call 27; refine (marks_any _ _).mono ?_; rintro e1 w1 ⟨rfl, rfl⟩) | (go_at_call 30; refine (node_Symbol.calls k _ _ _ HY.out).mono ?_; rintro e1 w5 ⟨rfl, hB⟩; have hx5 := blk_below (by first | exact blk_drewN (blk_new w (.cells #[.int .i64 0, .string ⟨#[]⟩, .int .i64 0, .int .i64 0] 28)) _ | exact blk_new w (.cells #[.int .i64 0, .string ⟨#[]⟩, .int .i64 0, .int .i64 0] 28)) hB; have KX := Aside0.mk (And.intro hx5 (below_step (by first | exact pw_below_drewN (below_alloc (Below.refl _ _) _) _ | exact below_alloc (Below.refl _ _) _) hB)); clear hB HY; have lg5 : w.heap.size < w5.heap.size := blk_lt hx5; have f0 : w5.cell? ⟨w.heap.size, 0, none⟩ = some (.int .i64 0) := (blk_cell hx5 0).trans rfl; have f1 : w5.cell? ⟨w.heap.size, 1, none⟩ = some (.string ⟨#[]⟩) := (blk_cell hx5 1).trans rfl; have f2 : w5.cell? ⟨w.heap.size, 2, none⟩ = some (.int .i64 0) := (blk_cell hx5 2).trans rfl; have f3 : w5.cell? ⟨w.heap.size, 3, none⟩ = some (.int .i64 0) := (blk_cell hx5 3).trans rfl; have z0 := blk_frozen hx5 0; have z1 := blk_frozen hx5 1; have z2 := blk_frozen hx5 2; have z3 := blk_frozen hx5 3; clear hx5))
    exact found_ret rfl rfl rfl KX.out.1 (Nat.le_refl _) KX.out.2 rfl (fun x e => by cases e)
  · have a1b : decide (wrap64 (i + 1) < (s.size : Int)) = false := decide_eq_false a1
    clear a1
    go_enter Try.func18, Try.ntmps18
    go_wp2_with (first | (go_at_call 25; refine (lexer_digit.calls _ _ _ HD.out).mono ?_; rintro e1 w1 ⟨rfl, ⟨m1, rfl⟩⟩; clear HD) | (go_at_call 27; refine (marks_any _ _).mono ?_; rintro e1 w1 ⟨rfl, rfl⟩) | (go_at_call 30; refine (node_Symbol.calls k _ _ _ HY.out).mono ?_; rintro e1 w5 ⟨rfl, hB⟩; have hx5 := blk_below (by first | exact blk_drewN (blk_new w (.cells #[.int .i64 0, .string ⟨#[]⟩, .int .i64 0, .int .i64 0] 28)) _ | exact blk_new w (.cells #[.int .i64 0, .string ⟨#[]⟩, .int .i64 0, .int .i64 0] 28)) hB; have KX := Aside0.mk (And.intro hx5 (below_step (by first | exact pw_below_drewN (below_alloc (Below.refl _ _) _) _ | exact below_alloc (Below.refl _ _) _) hB)); clear hB HY; have lg5 : w.heap.size < w5.heap.size := blk_lt hx5; have f0 : w5.cell? ⟨w.heap.size, 0, none⟩ = some (.int .i64 0) := (blk_cell hx5 0).trans rfl; have f1 : w5.cell? ⟨w.heap.size, 1, none⟩ = some (.string ⟨#[]⟩) := (blk_cell hx5 1).trans rfl; have f2 : w5.cell? ⟨w.heap.size, 2, none⟩ = some (.int .i64 0) := (blk_cell hx5 2).trans rfl; have f3 : w5.cell? ⟨w.heap.size, 3, none⟩ = some (.int .i64 0) := (blk_cell hx5 3).trans rfl; have z0 := blk_frozen hx5 0; have z1 := blk_frozen hx5 1; have z2 := blk_frozen hx5 2; have z3 := blk_frozen hx5 3; clear hx5))
    exact found_ret rfl rfl rfl KX.out.1 (Nat.le_refl _) KX.out.2 rfl (fun x e => by cases e)
set_option maxHeartbeats 1000000 in
set_option maxRecDepth 100000 in
theorem next_noneb (s : ByteArray) (i av : Int) (w : World) (h0 : 0 ≤ i) (h1 : i < (s.size : Int)) (hA : After s i av) (k : Nat) (hd : lexer_digit.f (bt s i) = some false) (hm : ¬ 0 ≤ inMarks (bt s i)) (q34h : ¬ bt s i = 34) (q92h : ¬ bt s i = 92) (q35h : bt s i = 35) (l1 : ¬ 49 ≤ av) (h2 : i ≤ wrap64 (i + 1)) (h3 : wrap64 (i + 1) ≤ (s.size : Int)) (hy : node_Symbol.f k (s.extract i.toNat (wrap64 (i + 1)).toNat) = some false) :
    Calls Try.prog 18 #[.string s, .int .i64 i] w (Found z28 (some (i, 3)) w) := by
  have hu28 := Try.underlying28
  have hu48 := Try.underlying48
  have hbt := bt_at s i
  replace h0 := eq_true h0
  replace h1 := eq_true h1
  have HD := Aside0.mk hd
  clear hd
  have hmb : decide (0 ≤ inMarks (bt s i)) = false := decide_eq_false hm
  clear hm
  have q34 : (bt s i == 34) = false := by simp [q34h]
  clear q34h
  have q92 : (bt s i == 92) = false := by simp [q92h]
  clear q92h
  have q35 : (bt s i == 35) = true := by simp [q35h]
  clear q35h
  have l1b : decide (49 ≤ av) = false := decide_eq_false l1
  clear l1
  have HY := Aside0.mk hy
  clear hy
  replace h2 := eq_true h2
  replace h3 := eq_true h3
  rcases hA with ⟨a1, a2⟩ | ⟨a1⟩
  · have a1b : decide (wrap64 (i + 1) < (s.size : Int)) = true := decide_eq_true a1
    have hbt2 := bt_at s (wrap64 (i + 1))
    replace a1 := eq_true a1
    replace a2 := eq_true a2
    go_enter Try.func18, Try.ntmps18
    go_wp2_with (first | (go_at_call 25; refine (lexer_digit.calls _ _ _ HD.out).mono ?_; rintro e1 w1 ⟨rfl, ⟨m1, rfl⟩⟩; clear HD) | (go_at_call 27; refine (marks_any _ _).mono ?_; rintro e1 w1 ⟨rfl, rfl⟩) | (go_at_call 30; refine (node_Symbol.calls k _ _ _ HY.out).mono ?_; rintro e1 w5 ⟨rfl, hB⟩; have hx5 := blk_below (by first | exact blk_drewN (blk_new w (.cells #[.int .i64 0, .string ⟨#[]⟩, .int .i64 0, .int .i64 0] 28)) _ | exact blk_new w (.cells #[.int .i64 0, .string ⟨#[]⟩, .int .i64 0, .int .i64 0] 28)) hB; have KX := Aside0.mk (And.intro hx5 (below_step (by first | exact pw_below_drewN (below_alloc (Below.refl _ _) _) _ | exact below_alloc (Below.refl _ _) _) hB)); clear hB HY; have lg5 : w.heap.size < w5.heap.size := blk_lt hx5; have f0 : w5.cell? ⟨w.heap.size, 0, none⟩ = some (.int .i64 0) := (blk_cell hx5 0).trans rfl; have f1 : w5.cell? ⟨w.heap.size, 1, none⟩ = some (.string ⟨#[]⟩) := (blk_cell hx5 1).trans rfl; have f2 : w5.cell? ⟨w.heap.size, 2, none⟩ = some (.int .i64 0) := (blk_cell hx5 2).trans rfl; have f3 : w5.cell? ⟨w.heap.size, 3, none⟩ = some (.int .i64 0) := (blk_cell hx5 3).trans rfl; have z0 := blk_frozen hx5 0; have z1 := blk_frozen hx5 1; have z2 := blk_frozen hx5 2; have z3 := blk_frozen hx5 3; clear hx5))
    exact found_fail rfl rfl rfl (by first | rfl | simp) rfl KX.out.1 (Nat.le_refl _) KX.out.2
  · have a1b : decide (wrap64 (i + 1) < (s.size : Int)) = false := decide_eq_false a1
    clear a1
    go_enter Try.func18, Try.ntmps18
    go_wp2_with (first | (go_at_call 25; refine (lexer_digit.calls _ _ _ HD.out).mono ?_; rintro e1 w1 ⟨rfl, ⟨m1, rfl⟩⟩; clear HD) | (go_at_call 27; refine (marks_any _ _).mono ?_; rintro e1 w1 ⟨rfl, rfl⟩) | (go_at_call 30; refine (node_Symbol.calls k _ _ _ HY.out).mono ?_; rintro e1 w5 ⟨rfl, hB⟩; have hx5 := blk_below (by first | exact blk_drewN (blk_new w (.cells #[.int .i64 0, .string ⟨#[]⟩, .int .i64 0, .int .i64 0] 28)) _ | exact blk_new w (.cells #[.int .i64 0, .string ⟨#[]⟩, .int .i64 0, .int .i64 0] 28)) hB; have KX := Aside0.mk (And.intro hx5 (below_step (by first | exact pw_below_drewN (below_alloc (Below.refl _ _) _) _ | exact below_alloc (Below.refl _ _) _) hB)); clear hB HY; have lg5 : w.heap.size < w5.heap.size := blk_lt hx5; have f0 : w5.cell? ⟨w.heap.size, 0, none⟩ = some (.int .i64 0) := (blk_cell hx5 0).trans rfl; have f1 : w5.cell? ⟨w.heap.size, 1, none⟩ = some (.string ⟨#[]⟩) := (blk_cell hx5 1).trans rfl; have f2 : w5.cell? ⟨w.heap.size, 2, none⟩ = some (.int .i64 0) := (blk_cell hx5 2).trans rfl; have f3 : w5.cell? ⟨w.heap.size, 3, none⟩ = some (.int .i64 0) := (blk_cell hx5 3).trans rfl; have z0 := blk_frozen hx5 0; have z1 := blk_frozen hx5 1; have z2 := blk_frozen hx5 2; have z3 := blk_frozen hx5 3; clear hx5))
    exact found_fail rfl rfl rfl (by first | rfl | simp) rfl KX.out.1 (Nat.le_refl _) KX.out.2
set_option maxHeartbeats 1000000 in
set_option maxRecDepth 100000 in
theorem next_symc (s : ByteArray) (i av : Int) (w : World) (h0 : 0 ≤ i) (h1 : i < (s.size : Int)) (hA : After s i av) (k : Nat) (hd : lexer_digit.f (bt s i) = some false) (hm : ¬ 0 ≤ inMarks (bt s i)) (q34h : ¬ bt s i = 34) (q92h : ¬ bt s i = 92) (q35h : bt s i = 35) (l1 : 49 ≤ av) (l2 : ¬ av ≤ 52) (h2 : i ≤ wrap64 (i + 1)) (h3 : wrap64 (i + 1) ≤ (s.size : Int)) (hy : node_Symbol.f k (s.extract i.toNat (wrap64 (i + 1)).toNat) = some true) :
    Calls Try.prog 18 #[.string s, .int .i64 i] w (Found ⟨1, s.extract i.toNat (wrap64 (i + 1)).toNat, i, wrap64 (i + 1)⟩ none w) := by
  have hu28 := Try.underlying28
  have hu48 := Try.underlying48
  have hbt := bt_at s i
  replace h0 := eq_true h0
  replace h1 := eq_true h1
  have HD := Aside0.mk hd
  clear hd
  have hmb : decide (0 ≤ inMarks (bt s i)) = false := decide_eq_false hm
  clear hm
  have q34 : (bt s i == 34) = false := by simp [q34h]
  clear q34h
  have q92 : (bt s i == 92) = false := by simp [q92h]
  clear q92h
  have q35 : (bt s i == 35) = true := by simp [q35h]
  clear q35h
  have l1b : decide (49 ≤ av) = true := decide_eq_true l1
  have l2b : decide (av ≤ 52) = false := decide_eq_false l2
  clear l2
  have HY := Aside0.mk hy
  clear hy
  replace h2 := eq_true h2
  replace h3 := eq_true h3
  rcases hA with ⟨a1, a2⟩ | ⟨a1⟩
  · have a1b : decide (wrap64 (i + 1) < (s.size : Int)) = true := decide_eq_true a1
    have hbt2 := bt_at s (wrap64 (i + 1))
    replace a1 := eq_true a1
    replace a2 := eq_true a2
    go_enter Try.func18, Try.ntmps18
    go_wp2_with (first | (go_at_call 25; refine (lexer_digit.calls _ _ _ HD.out).mono ?_; rintro e1 w1 ⟨rfl, ⟨m1, rfl⟩⟩; clear HD) | (go_at_call 27; refine (marks_any _ _).mono ?_; rintro e1 w1 ⟨rfl, rfl⟩) | (go_at_call 30; refine (node_Symbol.calls k _ _ _ HY.out).mono ?_; rintro e1 w5 ⟨rfl, hB⟩; have hx5 := blk_below (by first | exact blk_drewN (blk_new w (.cells #[.int .i64 0, .string ⟨#[]⟩, .int .i64 0, .int .i64 0] 28)) _ | exact blk_new w (.cells #[.int .i64 0, .string ⟨#[]⟩, .int .i64 0, .int .i64 0] 28)) hB; have KX := Aside0.mk (And.intro hx5 (below_step (by first | exact pw_below_drewN (below_alloc (Below.refl _ _) _) _ | exact below_alloc (Below.refl _ _) _) hB)); clear hB HY; have lg5 : w.heap.size < w5.heap.size := blk_lt hx5; have f0 : w5.cell? ⟨w.heap.size, 0, none⟩ = some (.int .i64 0) := (blk_cell hx5 0).trans rfl; have f1 : w5.cell? ⟨w.heap.size, 1, none⟩ = some (.string ⟨#[]⟩) := (blk_cell hx5 1).trans rfl; have f2 : w5.cell? ⟨w.heap.size, 2, none⟩ = some (.int .i64 0) := (blk_cell hx5 2).trans rfl; have f3 : w5.cell? ⟨w.heap.size, 3, none⟩ = some (.int .i64 0) := (blk_cell hx5 3).trans rfl; have z0 := blk_frozen hx5 0; have z1 := blk_frozen hx5 1; have z2 := blk_frozen hx5 2; have z3 := blk_frozen hx5 3; clear hx5))
    exact found_ret rfl rfl rfl KX.out.1 (Nat.le_refl _) KX.out.2 rfl (fun x e => by cases e)
  · exact absurd l1 (by decide)
set_option maxHeartbeats 1000000 in
set_option maxRecDepth 100000 in
theorem next_nonec (s : ByteArray) (i av : Int) (w : World) (h0 : 0 ≤ i) (h1 : i < (s.size : Int)) (hA : After s i av) (k : Nat) (hd : lexer_digit.f (bt s i) = some false) (hm : ¬ 0 ≤ inMarks (bt s i)) (q34h : ¬ bt s i = 34) (q92h : ¬ bt s i = 92) (q35h : bt s i = 35) (l1 : 49 ≤ av) (l2 : ¬ av ≤ 52) (h2 : i ≤ wrap64 (i + 1)) (h3 : wrap64 (i + 1) ≤ (s.size : Int)) (hy : node_Symbol.f k (s.extract i.toNat (wrap64 (i + 1)).toNat) = some false) :
    Calls Try.prog 18 #[.string s, .int .i64 i] w (Found z28 (some (i, 3)) w) := by
  have hu28 := Try.underlying28
  have hu48 := Try.underlying48
  have hbt := bt_at s i
  replace h0 := eq_true h0
  replace h1 := eq_true h1
  have HD := Aside0.mk hd
  clear hd
  have hmb : decide (0 ≤ inMarks (bt s i)) = false := decide_eq_false hm
  clear hm
  have q34 : (bt s i == 34) = false := by simp [q34h]
  clear q34h
  have q92 : (bt s i == 92) = false := by simp [q92h]
  clear q92h
  have q35 : (bt s i == 35) = true := by simp [q35h]
  clear q35h
  have l1b : decide (49 ≤ av) = true := decide_eq_true l1
  have l2b : decide (av ≤ 52) = false := decide_eq_false l2
  clear l2
  have HY := Aside0.mk hy
  clear hy
  replace h2 := eq_true h2
  replace h3 := eq_true h3
  rcases hA with ⟨a1, a2⟩ | ⟨a1⟩
  · have a1b : decide (wrap64 (i + 1) < (s.size : Int)) = true := decide_eq_true a1
    have hbt2 := bt_at s (wrap64 (i + 1))
    replace a1 := eq_true a1
    replace a2 := eq_true a2
    go_enter Try.func18, Try.ntmps18
    go_wp2_with (first | (go_at_call 25; refine (lexer_digit.calls _ _ _ HD.out).mono ?_; rintro e1 w1 ⟨rfl, ⟨m1, rfl⟩⟩; clear HD) | (go_at_call 27; refine (marks_any _ _).mono ?_; rintro e1 w1 ⟨rfl, rfl⟩) | (go_at_call 30; refine (node_Symbol.calls k _ _ _ HY.out).mono ?_; rintro e1 w5 ⟨rfl, hB⟩; have hx5 := blk_below (by first | exact blk_drewN (blk_new w (.cells #[.int .i64 0, .string ⟨#[]⟩, .int .i64 0, .int .i64 0] 28)) _ | exact blk_new w (.cells #[.int .i64 0, .string ⟨#[]⟩, .int .i64 0, .int .i64 0] 28)) hB; have KX := Aside0.mk (And.intro hx5 (below_step (by first | exact pw_below_drewN (below_alloc (Below.refl _ _) _) _ | exact below_alloc (Below.refl _ _) _) hB)); clear hB HY; have lg5 : w.heap.size < w5.heap.size := blk_lt hx5; have f0 : w5.cell? ⟨w.heap.size, 0, none⟩ = some (.int .i64 0) := (blk_cell hx5 0).trans rfl; have f1 : w5.cell? ⟨w.heap.size, 1, none⟩ = some (.string ⟨#[]⟩) := (blk_cell hx5 1).trans rfl; have f2 : w5.cell? ⟨w.heap.size, 2, none⟩ = some (.int .i64 0) := (blk_cell hx5 2).trans rfl; have f3 : w5.cell? ⟨w.heap.size, 3, none⟩ = some (.int .i64 0) := (blk_cell hx5 3).trans rfl; have z0 := blk_frozen hx5 0; have z1 := blk_frozen hx5 1; have z2 := blk_frozen hx5 2; have z3 := blk_frozen hx5 3; clear hx5))
    exact found_fail rfl rfl rfl (by first | rfl | simp) rfl KX.out.1 (Nat.le_refl _) KX.out.2
  · exact absurd l1 (by decide)
set_option maxHeartbeats 1000000 in
set_option maxRecDepth 100000 in
theorem next_symd (s : ByteArray) (i av : Int) (w : World) (h0 : 0 ≤ i) (h1 : i < (s.size : Int)) (hA : After s i av) (k : Nat) (hd : lexer_digit.f (bt s i) = some false) (hm : ¬ 0 ≤ inMarks (bt s i)) (q34h : ¬ bt s i = 34) (q92h : ¬ bt s i = 92) (q35h : ¬ bt s i = 35) (h2 : i ≤ wrap64 (i + 1)) (h3 : wrap64 (i + 1) ≤ (s.size : Int)) (hy : node_Symbol.f k (s.extract i.toNat (wrap64 (i + 1)).toNat) = some true) :
    Calls Try.prog 18 #[.string s, .int .i64 i] w (Found ⟨1, s.extract i.toNat (wrap64 (i + 1)).toNat, i, wrap64 (i + 1)⟩ none w) := by
  have hu28 := Try.underlying28
  have hu48 := Try.underlying48
  have hbt := bt_at s i
  replace h0 := eq_true h0
  replace h1 := eq_true h1
  have HD := Aside0.mk hd
  clear hd
  have hmb : decide (0 ≤ inMarks (bt s i)) = false := decide_eq_false hm
  clear hm
  have q34 : (bt s i == 34) = false := by simp [q34h]
  clear q34h
  have q92 : (bt s i == 92) = false := by simp [q92h]
  clear q92h
  have q35 : (bt s i == 35) = false := by simp [q35h]
  clear q35h
  have HY := Aside0.mk hy
  clear hy
  replace h2 := eq_true h2
  replace h3 := eq_true h3
  rcases hA with ⟨a1, a2⟩ | ⟨a1⟩
  · have a1b : decide (wrap64 (i + 1) < (s.size : Int)) = true := decide_eq_true a1
    have hbt2 := bt_at s (wrap64 (i + 1))
    replace a1 := eq_true a1
    replace a2 := eq_true a2
    go_enter Try.func18, Try.ntmps18
    go_wp2_with (first | (go_at_call 25; refine (lexer_digit.calls _ _ _ HD.out).mono ?_; rintro e1 w1 ⟨rfl, ⟨m1, rfl⟩⟩; clear HD) | (go_at_call 27; refine (marks_any _ _).mono ?_; rintro e1 w1 ⟨rfl, rfl⟩) | (go_at_call 30; refine (node_Symbol.calls k _ _ _ HY.out).mono ?_; rintro e1 w5 ⟨rfl, hB⟩; have hx5 := blk_below (by first | exact blk_drewN (blk_new w (.cells #[.int .i64 0, .string ⟨#[]⟩, .int .i64 0, .int .i64 0] 28)) _ | exact blk_new w (.cells #[.int .i64 0, .string ⟨#[]⟩, .int .i64 0, .int .i64 0] 28)) hB; have KX := Aside0.mk (And.intro hx5 (below_step (by first | exact pw_below_drewN (below_alloc (Below.refl _ _) _) _ | exact below_alloc (Below.refl _ _) _) hB)); clear hB HY; have lg5 : w.heap.size < w5.heap.size := blk_lt hx5; have f0 : w5.cell? ⟨w.heap.size, 0, none⟩ = some (.int .i64 0) := (blk_cell hx5 0).trans rfl; have f1 : w5.cell? ⟨w.heap.size, 1, none⟩ = some (.string ⟨#[]⟩) := (blk_cell hx5 1).trans rfl; have f2 : w5.cell? ⟨w.heap.size, 2, none⟩ = some (.int .i64 0) := (blk_cell hx5 2).trans rfl; have f3 : w5.cell? ⟨w.heap.size, 3, none⟩ = some (.int .i64 0) := (blk_cell hx5 3).trans rfl; have z0 := blk_frozen hx5 0; have z1 := blk_frozen hx5 1; have z2 := blk_frozen hx5 2; have z3 := blk_frozen hx5 3; clear hx5))
    exact found_ret rfl rfl rfl KX.out.1 (Nat.le_refl _) KX.out.2 rfl (fun x e => by cases e)
  · have a1b : decide (wrap64 (i + 1) < (s.size : Int)) = false := decide_eq_false a1
    clear a1
    go_enter Try.func18, Try.ntmps18
    go_wp2_with (first | (go_at_call 25; refine (lexer_digit.calls _ _ _ HD.out).mono ?_; rintro e1 w1 ⟨rfl, ⟨m1, rfl⟩⟩; clear HD) | (go_at_call 27; refine (marks_any _ _).mono ?_; rintro e1 w1 ⟨rfl, rfl⟩) | (go_at_call 30; refine (node_Symbol.calls k _ _ _ HY.out).mono ?_; rintro e1 w5 ⟨rfl, hB⟩; have hx5 := blk_below (by first | exact blk_drewN (blk_new w (.cells #[.int .i64 0, .string ⟨#[]⟩, .int .i64 0, .int .i64 0] 28)) _ | exact blk_new w (.cells #[.int .i64 0, .string ⟨#[]⟩, .int .i64 0, .int .i64 0] 28)) hB; have KX := Aside0.mk (And.intro hx5 (below_step (by first | exact pw_below_drewN (below_alloc (Below.refl _ _) _) _ | exact below_alloc (Below.refl _ _) _) hB)); clear hB HY; have lg5 : w.heap.size < w5.heap.size := blk_lt hx5; have f0 : w5.cell? ⟨w.heap.size, 0, none⟩ = some (.int .i64 0) := (blk_cell hx5 0).trans rfl; have f1 : w5.cell? ⟨w.heap.size, 1, none⟩ = some (.string ⟨#[]⟩) := (blk_cell hx5 1).trans rfl; have f2 : w5.cell? ⟨w.heap.size, 2, none⟩ = some (.int .i64 0) := (blk_cell hx5 2).trans rfl; have f3 : w5.cell? ⟨w.heap.size, 3, none⟩ = some (.int .i64 0) := (blk_cell hx5 3).trans rfl; have z0 := blk_frozen hx5 0; have z1 := blk_frozen hx5 1; have z2 := blk_frozen hx5 2; have z3 := blk_frozen hx5 3; clear hx5))
    exact found_ret rfl rfl rfl KX.out.1 (Nat.le_refl _) KX.out.2 rfl (fun x e => by cases e)
set_option maxHeartbeats 1000000 in
set_option maxRecDepth 100000 in
theorem next_noned (s : ByteArray) (i av : Int) (w : World) (h0 : 0 ≤ i) (h1 : i < (s.size : Int)) (hA : After s i av) (k : Nat) (hd : lexer_digit.f (bt s i) = some false) (hm : ¬ 0 ≤ inMarks (bt s i)) (q34h : ¬ bt s i = 34) (q92h : ¬ bt s i = 92) (q35h : ¬ bt s i = 35) (h2 : i ≤ wrap64 (i + 1)) (h3 : wrap64 (i + 1) ≤ (s.size : Int)) (hy : node_Symbol.f k (s.extract i.toNat (wrap64 (i + 1)).toNat) = some false) :
    Calls Try.prog 18 #[.string s, .int .i64 i] w (Found z28 (some (i, 3)) w) := by
  have hu28 := Try.underlying28
  have hu48 := Try.underlying48
  have hbt := bt_at s i
  replace h0 := eq_true h0
  replace h1 := eq_true h1
  have HD := Aside0.mk hd
  clear hd
  have hmb : decide (0 ≤ inMarks (bt s i)) = false := decide_eq_false hm
  clear hm
  have q34 : (bt s i == 34) = false := by simp [q34h]
  clear q34h
  have q92 : (bt s i == 92) = false := by simp [q92h]
  clear q92h
  have q35 : (bt s i == 35) = false := by simp [q35h]
  clear q35h
  have HY := Aside0.mk hy
  clear hy
  replace h2 := eq_true h2
  replace h3 := eq_true h3
  rcases hA with ⟨a1, a2⟩ | ⟨a1⟩
  · have a1b : decide (wrap64 (i + 1) < (s.size : Int)) = true := decide_eq_true a1
    have hbt2 := bt_at s (wrap64 (i + 1))
    replace a1 := eq_true a1
    replace a2 := eq_true a2
    go_enter Try.func18, Try.ntmps18
    go_wp2_with (first | (go_at_call 25; refine (lexer_digit.calls _ _ _ HD.out).mono ?_; rintro e1 w1 ⟨rfl, ⟨m1, rfl⟩⟩; clear HD) | (go_at_call 27; refine (marks_any _ _).mono ?_; rintro e1 w1 ⟨rfl, rfl⟩) | (go_at_call 30; refine (node_Symbol.calls k _ _ _ HY.out).mono ?_; rintro e1 w5 ⟨rfl, hB⟩; have hx5 := blk_below (by first | exact blk_drewN (blk_new w (.cells #[.int .i64 0, .string ⟨#[]⟩, .int .i64 0, .int .i64 0] 28)) _ | exact blk_new w (.cells #[.int .i64 0, .string ⟨#[]⟩, .int .i64 0, .int .i64 0] 28)) hB; have KX := Aside0.mk (And.intro hx5 (below_step (by first | exact pw_below_drewN (below_alloc (Below.refl _ _) _) _ | exact below_alloc (Below.refl _ _) _) hB)); clear hB HY; have lg5 : w.heap.size < w5.heap.size := blk_lt hx5; have f0 : w5.cell? ⟨w.heap.size, 0, none⟩ = some (.int .i64 0) := (blk_cell hx5 0).trans rfl; have f1 : w5.cell? ⟨w.heap.size, 1, none⟩ = some (.string ⟨#[]⟩) := (blk_cell hx5 1).trans rfl; have f2 : w5.cell? ⟨w.heap.size, 2, none⟩ = some (.int .i64 0) := (blk_cell hx5 2).trans rfl; have f3 : w5.cell? ⟨w.heap.size, 3, none⟩ = some (.int .i64 0) := (blk_cell hx5 3).trans rfl; have z0 := blk_frozen hx5 0; have z1 := blk_frozen hx5 1; have z2 := blk_frozen hx5 2; have z3 := blk_frozen hx5 3; clear hx5))
    exact found_fail rfl rfl rfl (by first | rfl | simp) rfl KX.out.1 (Nat.le_refl _) KX.out.2
  · have a1b : decide (wrap64 (i + 1) < (s.size : Int)) = false := decide_eq_false a1
    clear a1
    go_enter Try.func18, Try.ntmps18
    go_wp2_with (first | (go_at_call 25; refine (lexer_digit.calls _ _ _ HD.out).mono ?_; rintro e1 w1 ⟨rfl, ⟨m1, rfl⟩⟩; clear HD) | (go_at_call 27; refine (marks_any _ _).mono ?_; rintro e1 w1 ⟨rfl, rfl⟩) | (go_at_call 30; refine (node_Symbol.calls k _ _ _ HY.out).mono ?_; rintro e1 w5 ⟨rfl, hB⟩; have hx5 := blk_below (by first | exact blk_drewN (blk_new w (.cells #[.int .i64 0, .string ⟨#[]⟩, .int .i64 0, .int .i64 0] 28)) _ | exact blk_new w (.cells #[.int .i64 0, .string ⟨#[]⟩, .int .i64 0, .int .i64 0] 28)) hB; have KX := Aside0.mk (And.intro hx5 (below_step (by first | exact pw_below_drewN (below_alloc (Below.refl _ _) _) _ | exact below_alloc (Below.refl _ _) _) hB)); clear hB HY; have lg5 : w.heap.size < w5.heap.size := blk_lt hx5; have f0 : w5.cell? ⟨w.heap.size, 0, none⟩ = some (.int .i64 0) := (blk_cell hx5 0).trans rfl; have f1 : w5.cell? ⟨w.heap.size, 1, none⟩ = some (.string ⟨#[]⟩) := (blk_cell hx5 1).trans rfl; have f2 : w5.cell? ⟨w.heap.size, 2, none⟩ = some (.int .i64 0) := (blk_cell hx5 2).trans rfl; have f3 : w5.cell? ⟨w.heap.size, 3, none⟩ = some (.int .i64 0) := (blk_cell hx5 3).trans rfl; have z0 := blk_frozen hx5 0; have z1 := blk_frozen hx5 1; have z2 := blk_frozen hx5 2; have z3 := blk_frozen hx5 3; clear hx5))
    exact found_fail rfl rfl rfl (by first | rfl | simp) rfl KX.out.1 (Nat.le_refl _) KX.out.2
end Go.Proofs.Ytjihcncajpmgiaa.A
