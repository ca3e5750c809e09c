/- strings.Replacer of the pairs for a quoted text: what it replaces. -/
import Derived.Test.YtnimhdhnjfoalaaGreatDoorR4
import Derived.Test.YtnimhdhnjfoalaaGreatDoorR6
import Derived.Test.YtnimhdhnjfoalaaGreatDoorShelf
import Derived.Deep.DeepCutAuto
import Derived.Deep.RegionLaw
import Derived.Laws.CopyOwn
import Derived.IntWalk
namespace Go.Proofs.YtnimhdhnjfoalaaGreatDoor.R
open Go.RowKit Go.Proofs.YtnimhdhnjfoalaaGreatDoorW.PrintWords Go.Proofs.YtnimhdhnjfoalaaGreatDoorW.PrintLast Go.Proofs.YtnimhdhnjfoalaaGreatDoorW.PrintMore
set_option linter.unusedVariables false
set_option linter.unusedSimpArgs false

/-- The table's cells, read in a world that has grown. -/
structure Tab (m n r c r' c' : Nat) (w : World) : Prop where
  hm : w.heap[m]? = some (.cells (ARR (.slice (some ⟨r', 0, none⟩) 2 c') (.slice (some ⟨r, 0, none⟩) 2 c) (.slice (some ⟨n, 0, none⟩) 2 2)) 147 (0, 0))
  hn : w.heap[n]? = some (.cells #[.string ⟨#[34]⟩, .string ⟨#[92]⟩] 9 (0, 0))
  hr : Row2 w m r 92 34
  hr' : Row2 w m r' 92 92
theorem Tab.below {m n r c r' c' : Nat} {w w1 : World} (h : Tab m n r c r' c' w) (hb : Below w.heap.size w w1) : Tab m n r c r' c' w1 :=
  ⟨blk_below h.hm hb, blk_below h.hn hb, h.hr.below hb, h.hr'.below hb⟩
def St (s : ByteArray) (w : World) (k : Nat) (x y : Nat) (a b i : Value) (wr : World) : Prop :=
  i = .int .i64 (k : Nat) ∧ a = .int .i64 ((s.size + x + y : Nat) : Int) ∧ b = .bool (decide (x ≠ 0) || decide (y ≠ 0)) ∧ Below w.heap.size w wr
def StB (s : ByteArray) (w : World) (a b i : Value) (wr : World) : Prop :=
  ∃ k : Nat, k ≤ s.size ∧ i = .int .i64 (k : Int) ∧ a = .int .i64 (((esc (s.data.toList.take k)).length + (s.size - k) : Nat) : Int) ∧ b = .bool (chgB (s.data.toList.take k)) ∧ Below w.heap.size w wr
theorem take_all (s : ByteArray) : s.data.toList.take s.size = s.data.toList := List.take_of_length_le (Nat.le_of_eq rfl)
theorem take_snoc (s : ByteArray) (k : Nat) (h : k < s.size) : s.data.toList.take (k + 1) = s.data.toList.take k ++ [s[k]] := by
  rw [List.take_succ_eq_append_getElem (by simpa using h)]; rfl
theorem esc_next (s : ByteArray) (k : Nat) (h : k < s.size) (n : Nat) (he : (escB s[k]).length = n) : (esc (s.data.toList.take (k + 1))).length = (esc (s.data.toList.take k)).length + n ∧ (esc (s.data.toList.take k)).length + n ≤ (esc s.data.toList).length := by
  rw [take_snoc s k h, esc_snoc, List.length_append, he]
  exact ⟨rfl, by have := esc_room s.data.toList k h; rw [show s.data.toList[k] = s[k] from rfl, he] at this; exact this⟩
theorem esc_next_34 (s : ByteArray) (k : Nat) (h : k < s.size) (e : s[k] = 34) : (esc (s.data.toList.take (k + 1))).length = (esc (s.data.toList.take k)).length + 2 ∧ (esc (s.data.toList.take k)).length + 2 ≤ (esc s.data.toList).length ∧ chgB (s.data.toList.take (k + 1)) = true := by
  obtain ⟨a, b⟩ := esc_next s k h 2 (by rw [e]; rfl)
  exact ⟨a, b, by rw [take_snoc s k h, chg_snoc, e]; simp⟩
theorem esc_next_92 (s : ByteArray) (k : Nat) (h : k < s.size) (e : s[k] = 92) : (esc (s.data.toList.take (k + 1))).length = (esc (s.data.toList.take k)).length + 2 ∧ (esc (s.data.toList.take k)).length + 2 ≤ (esc s.data.toList).length ∧ chgB (s.data.toList.take (k + 1)) = true := by
  obtain ⟨a, b⟩ := esc_next s k h 2 (by rw [e]; rfl)
  exact ⟨a, b, by rw [take_snoc s k h, chg_snoc, e]; simp⟩
theorem esc_next_else (s : ByteArray) (k : Nat) (h : k < s.size) (e : ¬ s[k] = 34) (f : ¬ s[k] = 92) : (esc (s.data.toList.take (k + 1))).length = (esc (s.data.toList.take k)).length + 1 ∧ (esc (s.data.toList.take k)).length + 1 ≤ (esc s.data.toList).length ∧ chgB (s.data.toList.take (k + 1)) = chgB (s.data.toList.take k) := by
  obtain ⟨a, b⟩ := esc_next s k h 1 (by unfold escB; rw [if_neg f, if_neg e]; rfl)
  exact ⟨a, b, by rw [take_snoc s k h, chg_snoc]; simp [e, f]⟩
theorem zero_cells (j : Nat) (h : j < 256) : Tryz.zeroCells147[j]? = some (.slice none 0 0) := by
  rw [show Tryz.zeroCells147 = Array.replicate 257 (.slice none 0 0) by kernel_rfl, Array.getElem?_replicate, if_pos (by omega)]
theorem arr_else (x y t : Value) (j : Nat) (h : j < 256) (h1 : j ≠ 34) (h2 : j ≠ 92) : (ARR x y t)[j]? = some (.slice none 0 0) := by
  unfold ARR
  rw [Array.getElem?_setIfInBounds_ne (by omega), Array.getElem?_setIfInBounds_ne (by omega), Array.getElem?_setIfInBounds_ne (by omega)]
  exact zero_cells j h
/-- The buffer's cells. -/
def bufL (l : List UInt8) (N : Nat) : List Value := l.map (fun b => Value.int .u8 (b.toNat : Int)) ++ List.replicate (N - l.length) (.int .u8 0)
theorem bufL_len (l : List UInt8) (N : Nat) (h : l.length ≤ N) : (bufL l N).length = N := by simp [bufL]; omega
theorem made_buf (N : Nat) : madeCells #[.int .u8 0] N = (bufL [] N).toArray := by
  apply Array.ext'
  rw [toList_madeCells_one]
  simp [bufL]
theorem bufL_get (l : List UInt8) (N j : Nat) (h : j < l.length) : (bufL l N).toArray[j]? = some (.int .u8 (l[j].toNat : Int)) := by
  simp [bufL, List.getElem?_append, h]
theorem bufL_some (l : List UInt8) (N j : Nat) (h : l.length = j ∧ j < N) : (bufL l N).toArray[j]? = some (.int .u8 0) := by
  obtain ⟨rfl, h⟩ := h
  have h0 : ¬ N - l.length = 0 := by omega
  simp [bufL, List.getElem?_append, List.getElem?_replicate, h0]
def StC (s : ByteArray) (w : World) (N q : Nat) (j i : Value) (wr : World) : Prop :=
  ∃ k : Nat, k ≤ s.size ∧ i = .int .i64 (k : Int) ∧ j = .int .i64 ((esc (s.data.toList.take k)).length : Nat) ∧ wr.heap[q]? = some (.cells (bufL (esc (s.data.toList.take k)) N).toArray 5 (0, 0)) ∧ Below w.heap.size w wr
theorem row_min {N j : Nat} (h : j + 2 ≤ N) : (2 : Nat) = Nat.min 2 (N - j) := by
  show (2 : Nat) = min 2 (N - j)
  omega
theorem row2_drew {w : World} {m r : Nat} {x y : Int} (h : Row2 w m r x y) : Row2 w.drew m r x y := ⟨h.lt, h.gt, h.c0, h.c1⟩
theorem row2_cells {w : World} {m r : Nat} {x y : Int} (h : Row2 w m r x y) : ∀ j v, [Value.int .u8 x, Value.int .u8 y][j]? = some v → w.cell? ((⟨r, 0, none⟩ : Addr).add j) = some v := by
  intro j v hv
  match j, hv with
  | 0, hv => simp at hv; subst hv; exact h.c0
  | 1, hv => simp at hv; subst hv; exact h.c1
  | j + 2, hv => simp at hv
theorem buf_next_else (s : ByteArray) (k : Nat) (h : k < s.size) (e : ¬ s[k] = 34) (f : ¬ s[k] = 92) (N j : Nat) (hj : (esc (s.data.toList.take k)).length = j) (hN : j < N) :
    (esc (s.data.toList.take (k + 1))).length = j + 1 ∧ (bufL (esc (s.data.toList.take k)) N).toArray.setIfInBounds j (.int .u8 (s[k].toNat : Int)) = (bufL (esc (s.data.toList.take (k + 1))) N).toArray := by
  subst hj
  rw [take_snoc s k h, esc_snoc]
  have : escB s[k] = [s[k]] := by unfold escB; rw [if_neg f, if_neg e]
  rw [this]
  refine ⟨by simp, ?_⟩
  generalize esc (s.data.toList.take k) = l at *
  obtain ⟨d, rfl⟩ : ∃ d, N = l.length + 1 + d := ⟨N - l.length - 1, by omega⟩
  have e1 : l.length + 1 + d - l.length = d + 1 := by omega
  have e2 : l.length + 1 + d - (l.length + 1) = d := by omega
  simp only [bufL, List.length_append, List.length_singleton, e1, e2, List.replicate_succ, List.map_append, List.map_cons, List.map_nil]
  apply Array.ext'
  simp [List.set_append]
theorem buf_next (l : List UInt8) (x y : UInt8) (N : Nat) (hN : l.length + 2 ≤ N) : splice (bufL l N) l.length [.int .u8 (x.toNat : Int), .int .u8 (y.toNat : Int)] = bufL (l ++ [x, y]) N := by
  obtain ⟨d, rfl⟩ : ∃ d, N = l.length + 2 + d := ⟨N - l.length - 2, by omega⟩
  have e1 : l.length + 2 + d - l.length = d + 2 := by omega
  have e2 : l.length + 2 + d - (l.length + 2) = d := by omega
  simp [splice, bufL, e1, e2, List.drop_append, List.take_append]
theorem buf_next_34 (s : ByteArray) (k : Nat) (h : k < s.size) (e : s[k] = 34) (N j : Nat) (hj : (esc (s.data.toList.take k)).length = j) (hN : j + 2 ≤ N) :
    (esc (s.data.toList.take (k + 1))).length = j + 2 ∧ splice (bufL (esc (s.data.toList.take k)) N) j [.int .u8 92, .int .u8 34] = bufL (esc (s.data.toList.take (k + 1))) N := by
  subst hj
  rw [take_snoc s k h, esc_snoc, e]
  exact ⟨by simp [escB], buf_next _ 92 34 N hN⟩
theorem buf_next_92 (s : ByteArray) (k : Nat) (h : k < s.size) (e : s[k] = 92) (N j : Nat) (hj : (esc (s.data.toList.take k)).length = j) (hN : j + 2 ≤ N) :
    (esc (s.data.toList.take (k + 1))).length = j + 2 ∧ splice (bufL (esc (s.data.toList.take k)) N) j [.int .u8 92, .int .u8 92] = bufL (esc (s.data.toList.take (k + 1))) N := by
  subst hj
  rw [take_snoc s k h, esc_snoc, e]
  exact ⟨by simp [escB], buf_next _ 92 92 N hN⟩
theorem nz {x : Nat} (h : x ≠ 0) : (((x : Nat) : Int) != 0) = true := by simp [h]
theorem zz {x : Nat} (h : x = 0) : (((x : Nat) : Int) != 0) = false := by simp [h]
theorem int_eq {k : IntKind} {a b : Int} (h : a = b) : Value.int k a = Value.int k b := by rw [h]
theorem bool_eq {a b : Bool} (h : a = b) : Value.bool a = Value.bool b := by rw [h]
theorem below_drews {w wr : World} (h : Below w.heap.size w wr) {W : World} (e : Below w.heap.size w wr → Below w.heap.size w W := by intro h; repeat (first | exact h | apply below_drew1 | apply pw_below_drewN)) : Below w.heap.size w W := e h
set_option maxRecDepth 100000 in
set_option maxHeartbeats 4000000 in
theorem repl_xy (m n r c r' c' x y : Nat) (s : ByteArray) (w : World) (hx : s.data.toList.count 34 = x) (hy : s.data.toList.count 92 = y) (hT : Tab m n r c r' c' w) (hs : s.size ≤ 70368744177664) :
    Calls Tryz.prog 187 #[.pointer (some ⟨m, 0, none⟩), .string s] w fun e w' => e = .returned (.string ⟨(esc s.data.toList).toArray⟩) ∧ Below w.heap.size w w' := by
  have hu := Tryz.underlying147
  have HT := Lib.hid hT
  have e256 : w.cell? ⟨m, 256, none⟩ = some (.slice (some ⟨n, 0, none⟩) 2 2) := (blk_cell hT.hm 256).trans (arr_256 _ _ _)
  have hL : s.data.toList.length = s.size := rfl
  have lE := esc_len s.data.toList
  have c1 := List.count_le_length (a := (34 : UInt8)) (l := s.data.toList)
  have c2 := List.count_le_length (a := (92 : UInt8)) (l := s.data.toList)
  rw [hx, hy] at lE
  rw [hx] at c1
  rw [hy] at c2
  rw [hL] at lE c1 c2
  have k34 : ∀ W : World, Calls Tryz.prog 189 #[.string s, .string ⟨#[34]⟩] W fun e w' => e = .returned (.int .i64 (x : Int)) ∧ w' = W := fun W => by have := Tryz.strings_Count_one s 34 W; rwa [show Lib.countByte s.data.toList 34 = x from hx] at this
  have k92 : ∀ W : World, Calls Tryz.prog 189 #[.string s, .string ⟨#[92]⟩] W fun e w' => e = .returned (.int .i64 (y : Int)) ∧ w' = W := fun W => by have := Tryz.strings_Count_one s 92 W; rwa [show Lib.countByte s.data.toList 92 = y from hy] at this
  have hch := chg_count s.data.toList
  rw [hx, hy] at hch
  obtain ⟨N, hN⟩ : ∃ N, (esc s.data.toList).length = N := ⟨_, rfl⟩
  rw [hN] at lE
  have HC := Lib.hid (And.intro lE (And.intro hch hN))
  have K34 := Lib.hid k34
  have K92 := Lib.hid k92
  clear hT lE hL hch k34 k92 hx hy hN
  go_enter Tryz.func187, Tryz.ntmps187
  go_upto_if 26 with (fail)
  go_cut [5, 6] (fun a b wc => a = .int .i64 (N : Nat) ∧ b = .bool (chgB s.data.toList) ∧ Below w.heap.size w wc)
  case first =>
    by_cases h16 : 16 ≤ s.size
    · have d16 : decide ((16 : Int) ≤ (s.size : Int)) = true := decide_eq_true (by omega)
      rw [d16]
      clear d16 h16
      go_wp2_with fail
      go_loopw [5, 6, 32] (fun a b i wr => St s w 0 0 0 a b i wr ∨ St s w 1 x 0 a b i wr ∨ St s w 2 x y a b i wr) (fun _ _ i _ => (2 - intOf i).toNat)
      case atStart => exact .inl ⟨rfl, rfl, rfl, Below.refl _ _⟩
      case round =>
        rcases hrel with ⟨rfl, rfl, rfl, hb⟩ | ⟨rfl, rfl, rfl, hb⟩ | ⟨rfl, rfl, rfl, hb⟩
        · have hT := HT.out.below hb
          have n0 : wr.cell? ⟨n, 0, none⟩ = some (.string ⟨#[34]⟩) := (blk_cell hT.hn 0).trans rfl
          have m34 : wr.cell? ⟨m, 34, none⟩ = some (.slice (some ⟨r, 0, none⟩) 2 c) := (blk_cell hT.hm 34).trans (arr_34 _ _ _)
          have HB := Lib.hid hb
          have hi34 : ∀ h : 0 < (⟨#[34]⟩ : ByteArray).size, ((⟨#[34]⟩ : ByteArray)[0]'h).toNat = 34 := fun _ => rfl
          clear hT hb e256
          by_cases hx0 : x = 0
          · have hn := zz hx0
            have HX0 := Lib.hid hx0
            clear hx0
            go_wp2_with ((go_at_call 189; refine (K34.out _).mono ?_; rintro e w' ⟨rfl, rfl⟩))
            go_roundw
            case rel => exact .inr (.inl ⟨rfl, int_eq (by have := HX0.out; omega), bool_eq (by simp [HX0.out]), HB.out⟩)
            case measure => simp [intOf]
          · have hn := nz hx0
            have HX0 := Lib.hid hx0
            have w1 : IntKind.i64.wrap ((x : Int) * 1) = (x : Int) := by rw [Int.mul_one]; exact IntWalk.i64_in _ ⟨by omega, by omega⟩
            have w2 : IntKind.i64.wrap ((s.size : Int) + (x : Int)) = (s.size : Int) + (x : Int) := IntWalk.i64_in _ ⟨by omega, by omega⟩
            clear hx0
            go_wp2_with ((go_at_call 189; refine (K34.out _).mono ?_; rintro e w' ⟨rfl, rfl⟩))
            go_region
            all_goals
              go_wp2_with fail
              go_roundw
              case rel => exact .inr (.inl ⟨rfl, int_eq (by have := HX0.out; omega), bool_eq (by simp [HX0.out]), below_drews HB.out⟩)
              case measure => simp [intOf]
        · have hT := HT.out.below hb
          have n0 : wr.cell? ⟨n, 1, none⟩ = some (.string ⟨#[92]⟩) := (blk_cell hT.hn 1).trans rfl
          have m34 : wr.cell? ⟨m, 92, none⟩ = some (.slice (some ⟨r', 0, none⟩) 2 c') := (blk_cell hT.hm 92).trans (arr_92 _ _ _)
          have HB := Lib.hid hb
          have hi34 : ∀ h : 0 < (⟨#[92]⟩ : ByteArray).size, ((⟨#[92]⟩ : ByteArray)[0]'h).toNat = 92 := fun _ => rfl
          clear hT hb e256
          by_cases hx0 : y = 0
          · have hn := zz hx0
            have HX0 := Lib.hid hx0
            clear hx0
            go_wp2_with ((go_at_call 189; refine (K92.out _).mono ?_; rintro e w' ⟨rfl, rfl⟩))
            go_roundw
            case rel => exact .inr (.inr ⟨rfl, int_eq (by have := HX0.out; omega), bool_eq (by simp [HX0.out]), HB.out⟩)
            case measure => simp [intOf]
          · have hn := nz hx0
            have HX0 := Lib.hid hx0
            have w1 : IntKind.i64.wrap ((y : Int) * 1) = (y : Int) := by rw [Int.mul_one]; exact IntWalk.i64_in _ ⟨by omega, by omega⟩
            have w2 : IntKind.i64.wrap (((s.size + x + 0 : Nat) : Int) + (y : Int)) = ((s.size + x + 0 : Nat) : Int) + (y : Int) := IntWalk.i64_in _ ⟨by omega, by omega⟩
            clear hx0
            go_wp2_with ((go_at_call 189; refine (K92.out _).mono ?_; rintro e w' ⟨rfl, rfl⟩))
            go_region
            all_goals
              go_wp2_with fail
              go_roundw
              case rel => exact .inr (.inr ⟨rfl, int_eq (by have := HX0.out; omega), bool_eq (by simp [HX0.out]), below_drews HB.out⟩)
              case measure => simp [intOf]
        · have HB := Lib.hid hb
          clear hb e256
          go_wp2_with fail
          go_meet
          exact ⟨int_eq (by have := HC.out.1; omega), bool_eq HC.out.2.1.symm, HB.out⟩
    · have d16 : decide ((16 : Int) ≤ (s.size : Int)) = false := decide_eq_false (by omega)
      rw [d16]
      clear d16 h16 e256
      go_wp2_with fail
      go_loopw [5, 6, 10] (fun a b i wr => StB s w a b i wr) (fun _ _ i _ => s.size - (intOf i).toNat)
      case atStart => exact ⟨0, Nat.zero_le _, rfl, int_eq (by simp [esc]), rfl, Below.refl _ _⟩
      case round =>
        obtain ⟨k, hk, rfl, rfl, rfl, hb⟩ := hrel
        have hT := HT.out.below hb
        have HB := Lib.hid hb
        have bd : ((esc (s.data.toList.take k)).length : Int) + ((s.size - k : Nat) : Int) ≤ 400000000000000 := by have := esc_take_len s.data.toList k; have := HC.out.1; have := HC.out.2.2; omega
        clear hb
        by_cases hlt : k < s.size
        · by_cases h34 : s[k] = 34
          · have hv : s[k].toNat = 34 := by rw [h34]; rfl
            have mc : wr.cell? ⟨m, 34, none⟩ = some (.slice (some ⟨r, 0, none⟩) 2 c) := (blk_cell hT.hm 34).trans (arr_34 _ _ _)
            have hq : ∀ W : World, (binOp .neq 52 (.slice (some ⟨r, 0, none⟩) 2 c) (.slice none 0 0)).run Tryz.prog W = .ok (.bool true) W := fun _ => by kernel_rfl
            have l1 := esc_next_34 s k hlt h34
            have HK := Lib.hid (And.intro l1 h34)
            clear hT h34 l1
            go_wp2_with fail
            go_roundw
            case rel => exact ⟨k + 1, by omega, by go_num, int_eq (by have := HK.out.1.1; omega), bool_eq HK.out.1.2.2.symm, HB.out⟩
            case measure => simp [intOf]; omega
          by_cases h92 : s[k] = 92
          · have hv : s[k].toNat = 92 := by rw [h92]; rfl
            have mc : wr.cell? ⟨m, 92, none⟩ = some (.slice (some ⟨r', 0, none⟩) 2 c') := (blk_cell hT.hm 92).trans (arr_92 _ _ _)
            have hq : ∀ W : World, (binOp .neq 52 (.slice (some ⟨r', 0, none⟩) 2 c') (.slice none 0 0)).run Tryz.prog W = .ok (.bool true) W := fun _ => by kernel_rfl
            have l1 := esc_next_92 s k hlt h92
            have HK := Lib.hid (And.intro l1 h92)
            clear hT h92 l1
            go_wp2_with fail
            go_roundw
            case rel => exact ⟨k + 1, by omega, by go_num, int_eq (by have := HK.out.1.1; omega), bool_eq HK.out.1.2.2.symm, HB.out⟩
            case measure => simp [intOf]; omega
          obtain ⟨v, hv⟩ : ∃ v, s[k].toNat = v := ⟨_, rfl⟩
          have v256 : v < 256 := hv ▸ s[k].toNat_lt
          have v1 : v ≠ 34 := fun e => h34 (UInt8.toNat.inj (by rw [hv, e]; rfl))
          have v2 : v ≠ 92 := fun e => h92 (UInt8.toNat.inj (by rw [hv, e]; rfl))
          have mc : wr.cell? ⟨m, v, none⟩ = some (.slice none 0 0) := (blk_cell hT.hm v).trans (arr_else _ _ _ v v256 v1 v2)
          have hq : ∀ W : World, (binOp .neq 52 (.slice none 0 0) (.slice none 0 0)).run Tryz.prog W = .ok (.bool false) W := fun _ => by kernel_rfl
          have l1 := esc_next_else s k hlt h34 h92
          have HK := Lib.hid (And.intro l1 (And.intro h34 (And.intro h92 (And.intro v1 v2))))
          clear hT h34 h92 l1 v1 v2
          go_wp2_with fail
          go_roundw
          case rel => exact ⟨k + 1, by omega, by go_num, int_eq (by have := HK.out.1.1; omega), bool_eq HK.out.1.2.2.symm, HB.out⟩
          case measure => simp [intOf]; omega
        · obtain rfl : k = s.size := by omega
          clear hT
          go_wp2_with fail
          go_meet
          exact ⟨int_eq (by have := HC.out.2.2; rw [take_all]; omega), bool_eq (by rw [take_all]), HB.out⟩
  case rest =>
    obtain ⟨rfl, rfl, hb⟩ := hcut
    have HB := Lib.hid hb
    clear hb e256
    by_cases hch : chgB s.data.toList = true
    · have HN : N ≤ 211106232532992 := by have := HC.out.1; omega
      have hmk := print_make (P := Tryz.prog) 52 5 .u8 1 Tryz.underlying52 (by kernel_rfl) (by decide) N (by omega)
      simp only [made_buf] at hmk
      rw [hch]
      go_wp2_with fail
      have q0 := blk_new wc (.cells (bufL [] N).toArray 5)
      have qb := below_alloc HB.out (.cells (bufL [] N).toArray 5)
      have ql : m < wc.heap.size := blk_lt (HT.out.below HB.out).hm
      obtain ⟨q, hq⟩ : ∃ q, q = wc.heap.size := ⟨_, rfl⟩
      rw [← hq] at q0 ql ⊢
      have qB : w.heap.size ≤ q := by rw [hq]; exact HB.out.size
      have Q0 := Lib.hid (And.intro q0 (And.intro qb (And.intro ql qB)))
      clear q0 qb ql qB hmk hq
      go_loopw [13, 14] (fun j i wr => StC s w N q j i wr) (fun _ i _ => s.size - (intOf i).toNat)
      case atStart => exact ⟨0, Nat.zero_le _, rfl, rfl, Q0.out.1, Q0.out.2.1⟩
      case round =>
        obtain ⟨k, hk, rfl, rfl, hh, hb⟩ := hrel
        have hT := HT.out.below hb
        have HH := Lib.hid (And.intro hh hb)
        have hjN := esc_take_len s.data.toList k
        rw [HC.out.2.2] at hjN
        obtain ⟨j, hj⟩ : ∃ j, (esc (s.data.toList.take k)).length = j := ⟨_, rfl⟩
        rw [hj] at hjN
        rw [hj]
        have HJ := Lib.hid hj
        by_cases hlt : k < s.size
        · by_cases h34 : s[k] = 34
          · have hv : s[k].toNat = 34 := by rw [h34]; rfl
            have mc : wr.cell? ⟨m, 34, none⟩ = some (.slice (some ⟨r, 0, none⟩) 2 c) := (blk_cell hT.hm 34).trans (arr_34 _ _ _)
            have hq : ∀ W : World, (binOp .neq 52 (.slice (some ⟨r, 0, none⟩) 2 c) (.slice none 0 0)).run Tryz.prog W = .ok (.bool true) W := fun _ => by kernel_rfl
            have l1 := (esc_next_34 s k hlt h34).2.1
            rw [hj, HC.out.2.2] at l1
            have nx := buf_next_34 s k hlt h34 N j hj (by omega)
            have R := Lib.hid hT.hr
            have HK := Lib.hid (And.intro nx (And.intro h34 hj))
            clear hT h34 hh hb nx hj
            have hNj : (N = j) = False := eq_false (by omega)
            go_wp2_with fail
            go_region_law (refine step_copy_splice rfl (.tmp 105) (.tmp 111) 52 52 rfl 5 Tryz.underlying52 (by kernel_rfl) (some ⟨q, j, none⟩) (some ⟨r, 0, none⟩) (N - j) (N - j) 2 c (by simp [Act.eval, Act.put]) (by simp [Act.eval, Act.put]) q j (bufL (esc (s.data.toList.take k)) N) 5 HH.out.1 [.int .u8 92, .int .u8 34] (row_min l1) (fun _ => ⟨rfl, ⟨r, 0, none⟩, rfl, row2_cells (row2_drew R.out)⟩) (by rw [bufL_len _ _ (by rw [HJ.out]; omega)]; simp; omega) (by simp [Value.oneCell']) w.heap.size w (below_drew1 HH.out.2) Q0.out.2.2.2 ?_; intro w4 hg4 hb4)
            all_goals
              go_wp2_with fail
              go_roundw
              case rel =>
                obtain ⟨⟨n1, n2⟩, _, _⟩ := HK.out
                exact ⟨k + 1, by omega, by go_num, int_eq (by rw [n1]; omega), by rw [← n2]; exact hg4.out, hb4⟩
              case measure => simp [intOf]; omega
          by_cases h92 : s[k] = 92
          · have hv : s[k].toNat = 92 := by rw [h92]; rfl
            have mc : wr.cell? ⟨m, 92, none⟩ = some (.slice (some ⟨r', 0, none⟩) 2 c') := (blk_cell hT.hm 92).trans (arr_92 _ _ _)
            have hq : ∀ W : World, (binOp .neq 52 (.slice (some ⟨r', 0, none⟩) 2 c') (.slice none 0 0)).run Tryz.prog W = .ok (.bool true) W := fun _ => by kernel_rfl
            have l1 := (esc_next_92 s k hlt h92).2.1
            rw [hj, HC.out.2.2] at l1
            have nx := buf_next_92 s k hlt h92 N j hj (by omega)
            have R := Lib.hid hT.hr'
            have HK := Lib.hid (And.intro nx (And.intro h92 hj))
            clear hT h92 hh hb nx hj
            have hNj : (N = j) = False := eq_false (by omega)
            go_wp2_with fail
            go_region_law (refine step_copy_splice rfl (.tmp 105) (.tmp 111) 52 52 rfl 5 Tryz.underlying52 (by kernel_rfl) (some ⟨q, j, none⟩) (some ⟨r', 0, none⟩) (N - j) (N - j) 2 c' (by simp [Act.eval, Act.put]) (by simp [Act.eval, Act.put]) q j (bufL (esc (s.data.toList.take k)) N) 5 HH.out.1 [.int .u8 92, .int .u8 92] (row_min l1) (fun _ => ⟨rfl, ⟨r', 0, none⟩, rfl, row2_cells (row2_drew R.out)⟩) (by rw [bufL_len _ _ (by rw [HJ.out]; omega)]; simp; omega) (by simp [Value.oneCell']) w.heap.size w (below_drew1 HH.out.2) Q0.out.2.2.2 ?_; intro w4 hg4 hb4)
            all_goals
              go_wp2_with fail
              go_roundw
              case rel =>
                obtain ⟨⟨n1, n2⟩, _, _⟩ := HK.out
                exact ⟨k + 1, by omega, by go_num, int_eq (by rw [n1]; omega), by rw [← n2]; exact hg4.out, hb4⟩
              case measure => simp [intOf]; omega
          obtain ⟨v, hv⟩ : ∃ v, s[k].toNat = v := ⟨_, rfl⟩
          have v256 : v < 256 := hv ▸ s[k].toNat_lt
          have v1 : v ≠ 34 := fun e => h34 (UInt8.toNat.inj (by rw [hv, e]; rfl))
          have v2 : v ≠ 92 := fun e => h92 (UInt8.toNat.inj (by rw [hv, e]; rfl))
          have mc : wr.cell? ⟨m, v, none⟩ = some (.slice none 0 0) := (blk_cell hT.hm v).trans (arr_else _ _ _ v v256 v1 v2)
          have hq : ∀ W : World, (binOp .neq 52 (.slice none 0 0) (.slice none 0 0)).run Tryz.prog W = .ok (.bool false) W := fun _ => by kernel_rfl
          have l1 := (esc_next_else s k hlt h34 h92).2.1
          rw [hj, HC.out.2.2] at l1
          have jc : (wr.cell? ⟨q, j, none⟩).isSome = true := by rw [blk_cell hh j, bufL_some _ _ _ (by rw [hj]; omega)]; rfl
          obtain ⟨u, ju⟩ := Option.isSome_iff_exists.1 jc
          have jf : wr.frozen? ⟨q, j, none⟩ = false := blk_frozen hh j
          have nx := buf_next_else s k hlt h34 h92 N j hj (by omega)
          rw [hv] at nx
          have HK := Lib.hid (And.intro nx (And.intro h34 (And.intro h92 (And.intro v1 (And.intro v2 (And.intro hj hv))))))
          clear hT h34 h92 v1 v2 hh hb jc nx hj
          go_wp2_with fail
          go_roundw
          case rel =>
            obtain ⟨hh, hb⟩ := HH.out
            obtain ⟨⟨n1, n2⟩, _, _, _, _, _, _⟩ := HK.out
            exact ⟨k + 1, by omega, by go_num, int_eq (by rw [n1]; omega), blk_put hh j _ n2, below_set hb Q0.out.2.2.2⟩
          case measure => simp [intOf]; omega
        · obtain rfl : k = s.size := by omega
          rw [take_all] at HH
          have hcv : (convert 52 9 (.slice (some ⟨q, 0, none⟩) N N)).run Tryz.prog wr = .ok (.string ⟨(esc s.data.toList).toArray⟩) wr := by
            have := run_convert_bytes_back wr 52 9 5 ⟨q, 0, none⟩ N (esc s.data.toList) Tryz.underlying52 Tryz.underlying5 Tryz.underlying9 (fun j hj => by
              have hadd : (⟨q, 0, none⟩ : Addr).add j = ⟨q, j, none⟩ := by unfold Addr.add; split <;> simp_all
              rw [hadd, blk_cell HH.out.1 j, bufL_get _ _ _ hj])
            rw [HC.out.2.2] at this
            exact this
          clear hT hh hb hj
          go_wp2_with fail
          go_ret
          exact ⟨rfl, HH.out.2⟩
    · have hcf : chgB s.data.toList = false := by simpa using hch
      clear hch
      have HE := Lib.hid (esc_same _ hcf)
      rw [hcf]
      go_wp2_with fail
      go_ret
      refine ⟨?_, HB.out⟩
      rw [HE.out]
      rfl
end Go.Proofs.YtnimhdhnjfoalaaGreatDoor.R
