/- lexer.quoted: the token of a text. -/
import Derived.Test.YtjihcncajpmgiaaL4
import Derived.Test.YtjihcncajpmgiaaR10
namespace Go.Proofs.Ytjihcncajpmgiaa.A
open Go.RowKit Go.Proofs.YtjihcncajpmgiaaW.PrintWords Go.Proofs.YtjihcncajpmgiaaW.PrintLast Go.Proofs.YtjihcncajpmgiaaW.PrintMore Go.Proofs.Ytjihcncajpmgiaa.R
set_option linter.unusedVariables false
set_option linter.unusedSimpArgs false

def b8 (s : ByteArray) (i : Int) : UInt8 := UInt8.ofNat (bt s i).toNat
theorem b8_eq (s : ByteArray) (i : Int) : bt s i = ((b8 s i).toNat : Int) := by
  have h := bt_range s i
  unfold b8
  rw [UInt8.toNat_ofNat_of_lt' (by show (bt s i).toNat < 256; omega)]
  omega
def lexer_quoted.l0 : Nat → ByteArray → Int → List UInt8 → Int → Option (S28 × Option (Int × Int))
  | 0, _, _, _, _ => none
  | k + 1, s, a, acc, i => if i < (s.size : Int) then (if 0 ≤ i then
      (if bt s i = 34 then some (⟨3, ⟨acc.toArray⟩, a, wrap64 (i + 1)⟩, none)
       else (if bt s i = 92 then
         (if wrap64 (i + 1) < (s.size : Int) then (if 0 ≤ wrap64 (i + 1) then (if bt s (wrap64 (i + 1)) ≠ 34 ∧ bt s (wrap64 (i + 1)) ≠ 92 then some (z28, some (i, 3)) else (if acc.length + 1 ≤ 140737488355328 then lexer_quoted.l0 k s a (acc ++ [b8 s (wrap64 (i + 1))]) (wrap64 (wrap64 (i + 1) + 1)) else none)) else none)
          else (if wrap64 (i + 1) = (s.size : Int) then some (z28, some (wrap64 (wrap64 (i + 1) - 1), 3)) else none))
       else (if bt s i < 32 ∨ 126 < bt s i then some (z28, some (i, 3))
       else (if acc.length + 1 ≤ 140737488355328 then lexer_quoted.l0 k s a (acc ++ [b8 s i]) (wrap64 (i + 1)) else none))))
      else none) else some (z28, some (a, 12))
def lexer_quoted.f (k : Nat) (s : ByteArray) (a : Int) : Option (S28 × Option (Int × Int)) := lexer_quoted.l0 k s a [] (wrap64 (a + 1))
/-- The frame of the loop: the result's cells, the builder with what has been written. -/
structure Qf (w : World) (g b : Nat) (acc : List UInt8) (wc : World) : Prop where
  hx : wc.heap[g]? = some (.cells #[.int .i64 0, .string ⟨#[]⟩, .int .i64 0, .int .i64 0] 28 (0, 0))
  hg : w.heap.size ≤ g
  hI : Lib.IsBuilder 73 5 (g + 1) b (Lib.byteCells acc) wc
  hb : Below w.heap.size w wc
theorem Qf.step {w : World} {g b : Nat} {acc acc' : List UInt8} {wc w1 : World} (h : Qf w g b acc wc) (hI : Lib.IsBuilder 73 5 (g + 1) b (Lib.byteCells acc') w1) (k : Below (g + 1) wc w1) : Qf w g b acc' w1 :=
  ⟨(k.block g (Nat.lt_succ_self g)).trans h.hx, h.hg, hI, h.hb.trans (k.mono (Nat.le_succ_of_le h.hg))⟩
theorem qf_byte {w : World} {g b : Nat} {acc : List UInt8} (c : UInt8) (n : Int) (hn : n = (c.toNat : Int)) {wc : World} (h : Qf w g b acc wc) (hl : acc.length + 1 ≤ 140737488355328) :
    Calls Try.prog 35 #[.pointer (some ⟨b, 0, none⟩), .int .u8 n] wc fun e w' => e = .returned .nilIface ∧ Qf w g b (acc ++ [c]) w' := by
  subst hn
  refine (write_byte (g + 1) b (Lib.byteCells acc) c.toNat wc h.hI (by simpa [Lib.byteCells] using hl) (blk_lt h.hx)).mono ?_
  rintro e w1 ⟨rfl, h1, h2, h3⟩
  refine ⟨rfl, h.step (.inr ?_) h2⟩
  have : Lib.byteCells (acc ++ [c]) = Lib.byteCells acc ++ [.int .u8 (c.toNat : Int)] := by simp [Lib.byteCells]
  rw [this]
  exact h1
theorem qf_string {w : World} {g b : Nat} {acc : List UInt8} {wc : World} (h : Qf w g b acc wc) :
    Calls Try.prog 34 #[.pointer (some ⟨b, 0, none⟩)] wc fun e w' => e = .returned (.string ⟨acc.toArray⟩) ∧ (w'.heap[g]? = some (.cells #[.int .i64 0, .string ⟨#[]⟩, .int .i64 0, .int .i64 0] 28 (0, 0)) ∧ Below w.heap.size w w') := by
  refine (Try.Builder_String_any (g + 1) b acc wc h.hI (blk_lt h.hx)).mono ?_
  rintro e w1 ⟨rfl, hb⟩
  exact ⟨rfl, (hb.block g (Nat.lt_succ_self g)).trans h.hx, h.hb.trans (hb.mono (Nat.le_succ_of_le h.hg))⟩
theorem qf_fresh (w : World) : Qf w w.heap.size (w.heap.size + 1) [] ((w.alloc (.cells #[.int .i64 0, .string ⟨#[]⟩, .int .i64 0, .int .i64 0] 28)).alloc (.cells #[.pointer none, .slice none 0 0] 73)) := by
  have e : (w.alloc (.cells #[.int .i64 0, .string ⟨#[]⟩, .int .i64 0, .int .i64 0] 28)).heap.size = w.heap.size + 1 := by simp
  refine ⟨blk_alloc (blk_new w _) _, Nat.le_refl _, .inl ⟨Nat.le_refl _, .slice none 0 0, ?_, World.ownsRow_nil _ _ _ _, by simp [Value.ownBlock]⟩, below_alloc (below_alloc (Below.refl _ _) _) _⟩
  rw [← e]
  exact heap_alloc_new _ _
theorem found_fail2 {fn : Func} (hf : fn.results = #[.cell 4 28, .tmp 5]) {i e : Int} {w W : World} {a : Act} {g gf : Nat} {x0 x1 x2 x3 : Value}
    (h4 : a.tmps.getD 4 undef = .pointer (some ⟨g, 0, none⟩)) (h5 : a.tmps.getD 5 undef = .pointer (some ⟨gf, 0, none⟩)) (hgf : W.heap.size = gf) (hd : a.defers = []) (hx : W.heap[g]? = some (.cells #[x0, x1, x2, x3] 28 (0, 0)))
    (hg : w.heap.size ≤ g) (hb : Below w.heap.size w W) : bodyPost Try.prog fn (Found z28 (some (i, e)) w) .ret a (put4 (W.alloc (.cells #[.int .i64 i, .int .i64 e] 48)) g z28) := by
  subst hgf
  exact found_ret hf h4 hd (blk_alloc hx _) hg (below_alloc hb _) ⟨_, h5, hb.size, blk_new _ _⟩ (fun x _ h => by
    rw [h5] at h
    have : W.heap.size = g := by injection h with h; injection h with h; injection h
    have := blk_lt hx
    omega)
set_option maxHeartbeats 4000000 in
set_option maxRecDepth 100000 in
theorem lexer_quoted.calls (k : Nat) (s : ByteArray) (a : Int) (t : S28) (o : Option (Int × Int)) (w : World) (h : lexer_quoted.f k s a = some (t, o)) : Calls Try.prog 28 #[.string s, .int .i64 a] w (Found t o w) := by
  have hu28 := Try.underlying28
  have hu48 := Try.underlying48
  have hu73 := Try.underlying73
  have H' := Aside0.mk h
  have QF := Aside0.mk (qf_fresh w)
  clear h
  go_enter Try.func28, Try.ntmps28
  go_wp2_with fail
  go_loopg [7] k (fun kq v7 w' => ∃ (i : Int) (acc : List UInt8), v7 = .int .i64 i ∧ Aside0 (lexer_quoted.l0 kq s a acc i = some (t, o)) ∧ Aside0 (kq ≤ k) ∧ Aside0 (Qf w w.heap.size (w.heap.size + 1) acc w'))
  case atStart => exact ⟨_, _, rfl, H', ⟨Nat.le_refl _⟩, QF⟩
  case round =>
    clear H' QF
    obtain ⟨i, acc, rfl, HA, HK1, HQ⟩ := hrel
    have f0 : wr.cell? ⟨w.heap.size, 0, none⟩ = some (.int .i64 0) := (blk_cell HQ.out.hx 0).trans rfl
    have f1 : wr.cell? ⟨w.heap.size, 1, none⟩ = some (.string ⟨#[]⟩) := (blk_cell HQ.out.hx 1).trans rfl
    have f2 : wr.cell? ⟨w.heap.size, 2, none⟩ = some (.int .i64 0) := (blk_cell HQ.out.hx 2).trans rfl
    have f3 : wr.cell? ⟨w.heap.size, 3, none⟩ = some (.int .i64 0) := (blk_cell HQ.out.hx 3).trans rfl
    have lg : w.heap.size < wr.heap.size := blk_lt HQ.out.hx
    have z0 := blk_frozen HQ.out.hx 0
    have z1 := blk_frozen HQ.out.hx 1
    have z2 := blk_frozen HQ.out.hx 2
    have z3 := blk_frozen HQ.out.hx 3
    cases gk with
    | zero => exact absurd HA.out (by simp [lexer_quoted.l0])
    | succ k1 =>
      have H := HA.out
      clear HA
      simp only [lexer_quoted.l0] at H
      by_cases c1 : i < (s.size : Int)
      case neg =>
        rw [if_neg c1] at H
        have c1b : decide (i < (s.size : Int)) = false := decide_eq_false c1
        clear c1
        cases H
        go_wp2_with fail
        (try simp only [Exit.inBlock, Exit.then])
        exact found_fail rfl rfl rfl (by first | rfl | simp) rfl HQ.out.hx HQ.out.hg HQ.out.hb
      rw [if_pos c1] at H
      have c1b : decide (i < (s.size : Int)) = true := decide_eq_true c1
      by_cases c2 : 0 ≤ i
      case neg => rw [if_neg c2] at H; cases H
      rw [if_pos c2] at H
      replace c1 := eq_true c1
      replace c2 := eq_true c2
      have hbt := bt_at s i
      by_cases c3 : bt s i = 34
      · rw [if_pos c3] at H
        have c3b : (bt s i == 34) = true := by simp [c3]
        clear c3
        cases H
        go_wp2_with (first | (go_at_call 34; refine (qf_string HQ.out).mono ?_; rintro e w5 ⟨rfl, hx5, hb5⟩; have X5 := Aside0.mk (And.intro hx5 hb5); have f0 : w5.cell? ⟨w.heap.size, 0, none⟩ = some (.int .i64 0) := (blk_cell hx5 0).trans rfl; have f1 : w5.cell? ⟨w.heap.size, 1, none⟩ = some (.string ⟨#[]⟩) := (blk_cell hx5 1).trans rfl; have f2 : w5.cell? ⟨w.heap.size, 2, none⟩ = some (.int .i64 0) := (blk_cell hx5 2).trans rfl; have f3 : w5.cell? ⟨w.heap.size, 3, none⟩ = some (.int .i64 0) := (blk_cell hx5 3).trans rfl; have z0 := blk_frozen hx5 0; have z1 := blk_frozen hx5 1; have z2 := blk_frozen hx5 2; have z3 := blk_frozen hx5 3; clear hx5 hb5))
        (try simp only [Exit.inBlock, Exit.then])
        exact found_ret rfl rfl rfl X5.out.1 (Nat.le_refl _) X5.out.2 rfl (fun x e => by cases e)
      rw [if_neg c3] at H
      have c3b : (bt s i == 34) = false := by simp [c3]
      clear c3
      by_cases c4 : bt s i = 92
      · rw [if_pos c4] at H
        have c4b : (bt s i == 92) = true := by simp [c4]
        clear c4
        by_cases c5 : wrap64 (i + 1) < (s.size : Int)
        · rw [if_pos c5] at H
          have c5b : decide (wrap64 (i + 1) < (s.size : Int)) = true := decide_eq_true c5
          by_cases c6 : 0 ≤ wrap64 (i + 1)
          case neg => rw [if_neg c6] at H; cases H
          rw [if_pos c6] at H
          have hbt2 := bt_at s (wrap64 (i + 1))
          have c7 : (wrap64 (i + 1) == (s.size : Int)) = false := beq_eq_false_iff_ne.2 (Int.ne_of_lt c5)
          replace c5 := eq_true c5
          replace c6 := eq_true c6
          by_cases c8 : bt s (wrap64 (i + 1)) ≠ 34 ∧ bt s (wrap64 (i + 1)) ≠ 92
          · rw [if_pos c8] at H
            cases H
            have d1 : (bt s (wrap64 (i + 1)) != 34) = true := by simp [c8.1]
            have d2 : (bt s (wrap64 (i + 1)) != 92) = true := by simp [c8.2]
            clear c8
            go_wp2_with fail
            (try simp only [Exit.inBlock, Exit.then])
            exact found_fail rfl rfl rfl (by first | rfl | simp) rfl HQ.out.hx HQ.out.hg HQ.out.hb
          · rw [if_neg c8] at H
            by_cases c9 : acc.length + 1 ≤ 140737488355328
            case neg => rw [if_neg c9] at H; cases H
            rw [if_pos c9] at H
            have HN := Aside0.mk H
            have HL := Aside0.mk c9
            clear H c9
            by_cases d1 : bt s (wrap64 (i + 1)) = 34
            · have d1b : (bt s (wrap64 (i + 1)) != 34) = false := by simp [d1]
              clear d1 c8
              go_wp2_with (first | (go_at_call 35; refine (qf_byte (b8 s (wrap64 (i + 1))) _ (b8_eq _ _) HQ.out HL.out).mono ?_; rintro e w5 ⟨rfl, h5⟩; have Q5 := Aside0.mk h5; clear h5))
              go_roundg k1
              case measure => have := HK1.out; omega
              case rel => exact ⟨_, _, rfl, HN, ⟨by have := HK1.out; omega⟩, Q5⟩
            · have d1b : (bt s (wrap64 (i + 1)) != 34) = true := by simp [d1]
              have d2b : (bt s (wrap64 (i + 1)) != 92) = false := by
                have : bt s (wrap64 (i + 1)) = 92 := Classical.byContradiction fun h => c8 ⟨d1, h⟩
                simp [this]
              clear d1 c8
              go_wp2_with (first | (go_at_call 35; refine (qf_byte (b8 s (wrap64 (i + 1))) _ (b8_eq _ _) HQ.out HL.out).mono ?_; rintro e w5 ⟨rfl, h5⟩; have Q5 := Aside0.mk h5; clear h5))
              go_roundg k1
              case measure => have := HK1.out; omega
              case rel => exact ⟨_, _, rfl, HN, ⟨by have := HK1.out; omega⟩, Q5⟩
        · rw [if_neg c5] at H
          have c5b : decide (wrap64 (i + 1) < (s.size : Int)) = false := decide_eq_false c5
          clear c5
          by_cases c6 : wrap64 (i + 1) = (s.size : Int)
          case neg => rw [if_neg c6] at H; cases H
          rw [if_pos c6] at H
          have c7 : (wrap64 (i + 1) == (s.size : Int)) = true := beq_iff_eq.2 c6
          clear c6
          cases H
          go_wp2_with fail
          (try simp only [Exit.inBlock, Exit.then])
          exact found_fail rfl rfl rfl (by first | rfl | simp) rfl HQ.out.hx HQ.out.hg HQ.out.hb
      rw [if_neg c4] at H
      have c4b : (bt s i == 92) = false := by simp [c4]
      clear c4
      by_cases c5 : bt s i < 32
      · rw [if_pos (.inl c5)] at H
        have c5b : decide (bt s i < 32) = true := decide_eq_true c5
        clear c5
        cases H
        go_wp2_with fail
        (try simp only [Exit.inBlock, Exit.then])
        exact found_fail rfl rfl rfl (by first | rfl | simp) rfl HQ.out.hx HQ.out.hg HQ.out.hb
      · have c5b : decide (bt s i < 32) = false := decide_eq_false c5
        by_cases c6 : 126 < bt s i
        · rw [if_pos (.inr c6)] at H
          have c6b : decide (126 < bt s i) = true := decide_eq_true c6
          clear c5 c6
          cases H
          go_wp2_with fail
          (try simp only [Exit.inBlock, Exit.then])
          exact found_fail rfl rfl rfl (by first | rfl | simp) rfl HQ.out.hx HQ.out.hg HQ.out.hb
        · rw [if_neg (not_or.2 ⟨c5, c6⟩)] at H
          have c6b : decide (126 < bt s i) = false := decide_eq_false c6
          clear c5 c6
          by_cases c9 : acc.length + 1 ≤ 140737488355328
          case neg => rw [if_neg c9] at H; cases H
          rw [if_pos c9] at H
          have HN := Aside0.mk H
          have HL := Aside0.mk c9
          clear H c9
          go_wp2_with (first | (go_at_call 35; refine (qf_byte (b8 s i) _ (b8_eq _ _) HQ.out HL.out).mono ?_; rintro e w5 ⟨rfl, h5⟩; have Q5 := Aside0.mk h5; clear h5))
          go_roundg k1
          case measure => have := HK1.out; omega
          case rel => exact ⟨_, _, rfl, HN, ⟨by have := HK1.out; omega⟩, Q5⟩
end Go.Proofs.Ytjihcncajpmgiaa.A
