/- The lexer over lists of bytes: the model, and how the Go code's twin comes to it. -/
import Derived.Test.YtjihcncajpmgiaaL8
namespace Go.Proofs.Ytjihcncajpmgiaa.M
open Go.RowKit Go.Proofs.YtjihcncajpmgiaaW.PrintWords Go.Proofs.YtjihcncajpmgiaaW.PrintLast Go.Proofs.YtjihcncajpmgiaaW.PrintMore Go.Proofs.Ytjihcncajpmgiaa.R Go.Proofs.Ytjihcncajpmgiaa.A
set_option linter.unusedVariables false
set_option linter.unusedSimpArgs false

abbrev Bs := List UInt8
def L (s : ByteArray) : Bs := s.data.toList
def mk (l : Bs) : ByteArray := ⟨l.toArray⟩
theorem L_mk (l : Bs) : L (mk l) = l := rfl
theorem mk_L (s : ByteArray) : mk (L s) = s := rfl
theorem L_len (s : ByteArray) : (L s).length = s.size := rfl
theorem mk_size (l : Bs) : (mk l).size = l.length := rfl
theorem ba_ext {s t : ByteArray} (h : L s = L t) : s = t := by rw [← mk_L s, ← mk_L t, h]
theorem L_append (s t : ByteArray) : L (s ++ t) = L s ++ L t := by simp [L]
theorem L_extract (s : ByteArray) (i j : Nat) : L (s.extract i j) = ((L s).drop i).take (j - i) := by
  simp [L, List.extract_eq_take_drop]
def isDig (c : UInt8) : Bool := decide (48 ≤ c.toNat) && decide (c.toNat ≤ 57)
def isLet (c : UInt8) : Bool := (decide (97 ≤ c.toNat) && decide (c.toNat ≤ 122)) || (decide (65 ≤ c.toNat) && decide (c.toNat ≤ 90))
def isBl (c : UInt8) : Bool := c == 32 || c == 9 || c == 10
def isMark (c : UInt8) : Bool := [123, 125, 40, 41, 91, 93, 94, 95, 38].contains c
def isDelim (c : UInt8) : Bool := [40, 41, 91, 93, 123, 125, 60, 62, 47, 124, 46].contains c
def isSym (c : UInt8) : Bool := isLet c || [43, 45, 42, 47, 61, 60, 62, 44, 59, 58, 33, 124, 39, 63, 126, 64].contains c
def runL (p : UInt8 → Bool) (l : Bs) : Nat := (l.takeWhile p).length
inductive Nx where
  | tok (kind : Int) (text : Bs) (len : Nat)
  | err (off : Nat) (e : Int)
def numL (l : Bs) : Nat := match l.drop (runL isDig l) with
  | 46 :: b :: r => if isDig b then runL isDig l + 1 + runL isDig (b :: r) else runL isDig l
  | _ => runL isDig l
def quotedM : Bs → Bs → Nat → Nx
  | [], _, _ => .err 0 12
  | c :: r, acc, n => if c = 34 then .tok 3 acc (n + 1) else if c = 92 then
      (match r with
        | [] => .err n 3
        | d :: r' => if d = 34 ∨ d = 92 then quotedM r' (acc ++ [d]) (n + 2) else .err n 3)
      else if c.toNat < 32 ∨ 126 < c.toNat then .err n 3 else quotedM r (acc ++ [c]) (n + 1)
def nameM (r : Bs) : Nx := if r.take (runL isLet r) = [102, 101, 110, 99, 101] then
    (match r.drop (runL isLet r) with
      | a :: b :: _ => if isDelim a = true ∧ isDelim b = true then .tok 5 [a, b] 8 else .err 0 3
      | _ => .err 0 3)
  else .tok 4 (r.take (runL isLet r)) (1 + runL isLet r)
def nextM (c : UInt8) (r : Bs) : Nx :=
  if isDig c then .tok 2 ((c :: r).take (numL (c :: r))) (numL (c :: r))
  else if isMark c then .tok 7 [c] 1
  else if c = 34 then quotedM r [] 1
  else if c = 92 then (match r with
    | [] => .err 0 3
    | a :: _ => if a = 92 then .tok 8 [92, 92] 2 else if isLet a then nameM r else .err 0 3)
  else if c = 35 then (match r with
    | [] => .err 0 3
    | a :: _ => if 49 ≤ a.toNat ∧ a.toNat ≤ 52 then .tok 6 [a] 2 else .err 0 3)
  else if isSym c then .tok 1 [c] 1 else .err 0 3
def longM (kd : Int) (t : Bs) : Bool := if kd = 4 then decide (16 < t.length) else if kd = 2 then decide (20 < t.length) else if kd = 3 then decide (200 < t.length) else false

/-! bytes at places -/
theorem bt_drop {s : ByteArray} {n : Nat} {c : UInt8} {r : Bs} (h : (L s).drop n = c :: r) : bt s (n : Int) = (c.toNat : Int) ∧ n < s.size ∧ (L s).drop (n + 1) = r := by
  have hl : n < (L s).length := by
    apply Classical.byContradiction
    intro hn
    rw [List.drop_of_length_le (by omega)] at h
    cases h
  have h2 := List.drop_eq_getElem_cons hl
  rw [h] at h2
  injection h2 with h3 h4
  have hs : n < s.size := hl
  refine ⟨?_, hs, h4.symm⟩
  unfold bt
  rw [dif_pos (by simpa using hs)]
  rw [h3]
  simp [L]
  rfl
theorem drop_cases (s : ByteArray) (n : Nat) : (s.size ≤ n ∧ (L s).drop n = []) ∨ ∃ c r, (L s).drop n = c :: r := by
  by_cases h : s.size ≤ n
  · exact .inl ⟨h, List.drop_of_length_le h⟩
  · refine .inr ⟨_, _, List.drop_eq_getElem_cons (by rw [L_len]; omega)⟩
theorem drop_len {s : ByteArray} {n : Nat} {l : Bs} (h : (L s).drop n = l) : l.length = s.size - n := by rw [← h, List.length_drop, L_len]
theorem w64 {n : Nat} (h : n ≤ 4611686018427387904) (d : Nat) (hd : d ≤ 4) : wrap64 ((n : Int) + (d : Int)) = ((n + d : Nat) : Int) := by unfold wrap64; omega
theorem w64_1 {n : Nat} (h : n ≤ 4611686018427387904) : wrap64 ((n : Int) + 1) = ((n + 1 : Nat) : Int) := by unfold wrap64; omega
theorem w64_2 {n : Nat} (h : n ≤ 4611686018427387904) : wrap64 ((n : Int) + 2) = ((n + 2 : Nat) : Int) := by unfold wrap64; omega

/-! runs -/
theorem run_eval {p : Int → Option Bool} {P : UInt8 → Bool} (hp : ∀ c : UInt8, p (c.toNat : Int) = some (P c)) (s : ByteArray) (hs : s.size ≤ 4611686018427387904) :
    ∀ k n, n ≤ s.size → s.size - n < k → lexer_run.l0 p k s (n : Int) = some ((n + runL P ((L s).drop n) : Nat) : Int) := by
  intro k
  induction k with
  | zero => intro n _ h; omega
  | succ k ih =>
    intro n hn hk
    rcases drop_cases s n with ⟨h1, h2⟩ | ⟨c, r, h⟩
    · simp only [lexer_run.l0]
      rw [if_neg (by omega), h2]
      rfl
    · obtain ⟨h1, h2, h3⟩ := bt_drop h
      simp only [lexer_run.l0]
      rw [if_pos (by omega), if_pos (by omega), h1, hp, Option.bind_some, h, runL, List.takeWhile_cons]
      by_cases hP : P c = true
      · rw [if_pos hP, if_pos hP, w64_1 (by omega), ih (n + 1) h2 (by omega), h3]
        simp only [runL, List.length_cons]
        congr 2
        omega
      · rw [if_neg hP, if_neg hP]
        rfl
theorem dig_eval (c : UInt8) : lexer_digit.f (c.toNat : Int) = some (isDig c) := by
  unfold lexer_digit.f isDig
  by_cases h : 48 ≤ c.toNat
  · rw [if_pos (by omega), decide_eq_true h, Bool.true_and]
    congr 1
    exact decide_eq_decide.2 (by omega)
  · rw [if_neg (by omega), decide_eq_false h, Bool.false_and]
theorem let_eval (c : UInt8) : lexer_letter.f (c.toNat : Int) = some (isLet c) := by
  unfold lexer_letter.f isLet
  by_cases h : 97 ≤ c.toNat
  · rw [if_pos (by omega), decide_eq_true h, Bool.true_and]
    by_cases h2 : c.toNat ≤ 122
    · rw [if_pos (by omega), decide_eq_true h2, Bool.true_or]
    · rw [if_neg (by omega), if_pos (by omega), decide_eq_false h2, Bool.false_or, decide_eq_true (show 65 ≤ c.toNat by omega), Bool.true_and]
      congr 1
      exact decide_eq_decide.2 (by omega)
  · rw [if_neg (by omega), decide_eq_false h, Bool.false_and, Bool.false_or]
    by_cases h2 : 65 ≤ c.toNat
    · rw [if_pos (by omega), decide_eq_true h2, Bool.true_and]
      congr 1
      exact decide_eq_decide.2 (by omega)
    · rw [if_neg (by omega), decide_eq_false h2, Bool.false_and]
theorem u8_eq (c : UInt8) (n : Nat) (hn : n < 256) : c = UInt8.ofNat n ↔ (c.toNat : Int) = (n : Int) := by
  constructor
  · rintro rfl
    rw [UInt8.toNat_ofNat_of_lt' (by show n < 256; exact hn)]
  · intro h
    apply UInt8.toNat_inj.1
    rw [UInt8.toNat_ofNat_of_lt' (by show n < 256; exact hn)]
    omega
theorem bl_eval (c : UInt8) : lexer_blank.f (c.toNat : Int) = some (isBl c) := by
  unfold lexer_blank.f isBl
  have e1 := u8_eq c 32 (by omega)
  have e2 := u8_eq c 9 (by omega)
  have e3 := u8_eq c 10 (by omega)
  by_cases h1 : (c.toNat : Int) = 32
  · rw [if_pos h1]
    have := e1.2 h1
    subst this
    rfl
  · rw [if_neg h1]
    have n1 : (c == 32) = false := beq_eq_false_iff_ne.2 (fun h => h1 (e1.1 h))
    rw [n1, Bool.false_or]
    by_cases h2 : (c.toNat : Int) = 9
    · rw [if_pos h2]
      have := e2.2 h2
      subst this
      rfl
    · rw [if_neg h2]
      have n2 : (c == 9) = false := beq_eq_false_iff_ne.2 (fun h => h2 (e2.1 h))
      rw [n2, Bool.false_or]
      congr 1
      rw [Bool.eq_iff_iff, beq_iff_eq, beq_iff_eq]
      exact e3.symm
end Go.Proofs.Ytjihcncajpmgiaa.M
