/- strings.Replacer of the pairs for a quoted text: how it is built. -/
import Derived.Test.YtnimhdhnjfoalaaGreatDoorR2
import Derived.Lib.Hide
import Derived.WalkSpells
import Derived.WalkLawsBesides
namespace Go.Proofs.YtnimhdhnjfoalaaGreatDoor.R
open Go.RowKit Go.Proofs.YtnimhdhnjfoalaaGreatDoorW.PrintWords Go.Proofs.YtnimhdhnjfoalaaGreatDoorW.PrintLast Go.Proofs.YtnimhdhnjfoalaaGreatDoorW.PrintMore
set_option linter.unusedVariables false
set_option linter.unusedSimpArgs false
theorem all_one (v : Value) (h : v.oneCell' = true) : ∀ x ∈ Tryz.zeroCells147.toList.set 256 v, x.oneCell' = true := by
  intro x hx
  rcases List.mem_or_eq_of_mem_set hx with h1 | rfl
  · exact List.all_eq_true.1 (show Tryz.zeroCells147.toList.all (·.oneCell') = true by kernel_rfl) x h1
  · exact h
theorem name_world {P : Program} {ops : Array Oper} {rest : List Oper} {o : Oper} {a : Act} {Q : Exit → Act → World → Prop} {W : World} (h : ∀ w', w' = W → wpList P ops Q (o :: rest) a w') : wpList P ops Q (o :: rest) a W := h _ rfl
/-- A row of two bytes, made here. -/
structure Row2 (wr : World) (m r : Nat) (x y : Int) : Prop where
  lt : r < wr.heap.size
  gt : m < r
  c0 : wr.cell? ⟨r, 0, none⟩ = some (.int .u8 x)
  c1 : wr.cell? ⟨r, 1, none⟩ = some (.int .u8 y)
theorem Row2.below {wr w1 : World} {m r : Nat} {x y : Int} (h : Row2 wr m r x y) (hb : Below wr.heap.size wr w1) : Row2 w1 m r x y :=
  ⟨Nat.lt_of_lt_of_le h.lt hb.size, h.gt, (hb.cell (p := ⟨r, 0, none⟩) h.lt).trans h.c0, (hb.cell (p := ⟨r, 1, none⟩) h.lt).trans h.c1⟩
theorem Row2.set {wr : World} {m r : Nat} {x y : Int} (h : Row2 wr m r x y) {p : Addr} (hp : r ≠ p.block) (v : Value) : Row2 (wr.setCell p v) m r x y :=
  ⟨by simpa using h.lt, h.gt, (World.cell?_setCell_other _ _ _ _ (fun e => hp (congrArg Addr.block e).symm)).trans h.c0, (World.cell?_setCell_other _ _ _ _ (fun e => hp (congrArg Addr.block e).symm)).trans h.c1⟩
structure S0 (w : World) (m : Nat) (wr : World) : Prop where
  mB : w.heap.size < m
  hB : Below w.heap.size w wr
  hm : wr.heap[m]? = some (.cells (ARR NIL NIL (.slice (some ⟨w.heap.size, 0, none⟩) 0 2)) 147 (0, 0))
  hn : wr.heap[w.heap.size]? = some (.cells #[.string ⟨#[]⟩, .string ⟨#[]⟩] 9 (0, 0))
structure S1 (w : World) (m r c : Nat) (wr : World) : Prop where
  mB : w.heap.size < m
  hB : Below w.heap.size w wr
  hm : wr.heap[m]? = some (.cells (ARR NIL (.slice (some ⟨r, 0, none⟩) 2 c) (.slice (some ⟨w.heap.size, 0, none⟩) 1 2)) 147 (0, 0))
  hn : wr.heap[w.heap.size]? = some (.cells #[.string ⟨#[34]⟩, .string ⟨#[]⟩] 9 (0, 0))
  hr : Row2 wr m r 92 34
structure S2 (w : World) (m r c r' c' : Nat) (wr : World) : Prop where
  mB : w.heap.size < m
  hB : Below w.heap.size w wr
  hm : wr.heap[m]? = some (.cells (ARR (.slice (some ⟨r', 0, none⟩) 2 c') (.slice (some ⟨r, 0, none⟩) 2 c) (.slice (some ⟨w.heap.size, 0, none⟩) 2 2)) 147 (0, 0))
  hn : wr.heap[w.heap.size]? = some (.cells #[.string ⟨#[34]⟩, .string ⟨#[92]⟩] 9 (0, 0))
  hr : Row2 wr m r 92 34
  hr' : Row2 wr m r' 92 92
theorem bytes_below (w : World) (e : TypeId) (s : ByteArray) : Below w.heap.size w (Lib.bytesWorld w e s) :=
  ⟨rfl, rfl, rfl, by rw [Lib.bytesWorld_size]; omega, fun j hj => Lib.bytesWorld_at_old w e s j hj⟩
def Inv (w : World) (m : Nat) (i : Value) (wr : World) : Prop :=
  (i = .int .i64 2 ∧ S0 w m wr) ∨ (i = .int .i64 0 ∧ ∃ r c, S1 w m r c wr) ∨ (i = .int .i64 (-2) ∧ ∃ r c r' c', S2 w m r c r' c' wr)
def Built (w : World) (e : Ending) (w' : World) : Prop := ∃ m r c r' c', e = .returned (.iface 148 (.pointer (some ⟨m, 0, none⟩))) ∧ S2 w m r c r' c' w'
set_option maxRecDepth 100000 in
set_option maxHeartbeats 1600000 in
theorem build_any (b g c : Nat) (w : World) 
   (h4 : w.cell? ⟨b, 4, none⟩ = some (.slice (some ⟨g, 0, none⟩) 4 c)) (hb : b < w.heap.size) (hg : g < w.heap.size)
   (s0 : w.cell? ⟨g, 0, none⟩ = some (.string ⟨#[92]⟩)) (s1 : w.cell? ⟨g, 1, none⟩ = some (.string ⟨#[92, 92]⟩)) (s2 : w.cell? ⟨g, 2, none⟩ = some (.string ⟨#[34]⟩)) (s3 : w.cell? ⟨g, 3, none⟩ = some (.string ⟨#[92, 34]⟩)) :
    Calls Tryz.prog 110 #[.pointer (some ⟨b, 0, none⟩)] w (Built w) := by
  have hu := Tryz.underlying112
  have hu2 := Tryz.underlying147
  have hmk : ∀ w : World, (Instr.makeSlice 47 (.int .i64 0) (.int .i64 2)).run Tryz.prog w = .ok (.slice (some ⟨w.heap.size, 0, none⟩) 0 2) (w.alloc (.cells #[.string ⟨#[]⟩, .string ⟨#[]⟩] 9)) := fun _ => by kernel_rfl
  go_enter Tryz.func110, Tryz.ntmps110
  go_wp2_with fail
  go_loop [4, 5] (fun a i => (a = .bool true ∧ i = .int .i64 0) ∨ (a = .bool false ∧ i = .int .i64 2) ∨ (a = .bool false ∧ i = .int .i64 4)) (fun _ i => (4 - intOf i).toNat)
  case atStart => exact .inl ⟨rfl, rfl⟩
  case round =>
    rcases hrel with ⟨rfl, rfl⟩ | ⟨rfl, rfl⟩ | ⟨rfl, rfl⟩
    · go_wp2_with fail
      go_round
      case rel => exact .inr (.inl ⟨rfl, rfl⟩)
      case measure => simp [intOf]
    · go_wp2_with fail
      go_round
      case rel => exact .inr (.inr ⟨rfl, rfl⟩)
      case measure => simp [intOf]
    · go_wp2_with (first | ((with_reducible refine gate_dst (N := 11) rfl ?_); refine box_event ?hg (N := 11) ?hd (cs := Tryz.zeroCells147) (t := 147) ?hr ?_; (case hd => rfl); (case hg => rfl); (case hr => first | (go_simp; done) | (go_simp; rfl)); intro m hm w3 hbox hb3; have hn3 := blk_below (blk_new w (.cells #[.string ⟨#[]⟩, .string ⟨#[]⟩] 9)) hb3; have hB3 := below_step (below_alloc (Below.refl _ _) _) hb3; have hmB : w.heap.size < m := hm ▸ blk_lt (blk_new w _); clear hm hb3; have hst := store_whole (P := Tryz.prog) (vs := Tryz.zeroCells147.toList.set 256 (.slice (some ⟨w.heap.size, 0, none⟩) 0 2)) hbox (by kernel_rfl) (all_one _ rfl)))
      generalize hw4 : w3.setRow m (Tryz.zeroCells147.toList.set 256 (Value.slice (some ⟨w.heap.size, 0, none⟩) 0 2)).toArray = w4
      have h0 : S0 w m w4 := by
        have hne : w.heap.size ≠ m := by omega
        subst hw4
        exact ⟨hmB, below_setRow hB3 (by omega) _, by rw [arr_start]; exact setRow_heap _ _ _ _ _ _ hbox, (setRow_other _ _ _ _ hne).trans hn3⟩
      clear hst hw4 hB3 hn3 hbox hmB
      have H0 := Lib.hid h0
      clear h0
      go_loopw [12] (fun i wr => Inv w m i wr) (fun i _ => (intOf i + 2).toNat)
      case atStart => exact .inl ⟨rfl, H0.out⟩
      case round =>
        rcases hrel with ⟨rfl, h⟩ | ⟨rfl, r, c1, h⟩ | ⟨rfl, r, c1, r', c2, h⟩
        · have e2 : wr.cell? ⟨g, 2, none⟩ = some (.string ⟨#[34]⟩) := (h.hB.cell (p := ⟨g, 2, none⟩) hg).trans s2
          have e3 : wr.cell? ⟨g, 3, none⟩ = some (.string ⟨#[92, 34]⟩) := (h.hB.cell (p := ⟨g, 3, none⟩) hg).trans s3
          have em : wr.cell? ⟨m, 34, none⟩ = some (.slice none 0 0) := (blk_cell h.hm 34).trans (arr_34 _ _ _)
          have et : wr.cell? ⟨m, 256, none⟩ = some (.slice (some ⟨w.heap.size, 0, none⟩) 0 2) := (blk_cell h.hm 256).trans (arr_256 _ _ _)
          have fz : wr.frozen? ⟨m, 34, none⟩ = false := blk_frozen h.hm 34
          have fz2 : wr.frozen? ⟨m, 256, none⟩ = false := blk_frozen h.hm 256
          have H := Lib.hid h
          clear h H0 s0 s1 s2 s3
          have hi34 : ∀ h : 0 < (⟨#[34]⟩ : ByteArray).size, ((⟨#[34]⟩ : ByteArray)[0]'h).toNat = 34 := fun _ => rfl
          have hq : ∀ W : World, (binOp .eql 52 (.slice none 0 0) (.slice none 0 0)).run Tryz.prog W = .ok (.bool true) W := fun _ => by kernel_rfl
          have hcv : (convert 52 9 (.slice (some ⟨wr.heap.size, 0, none⟩) 1 1)).run Tryz.prog (wr.alloc (.cells #[.int .u8 34] 5)) = .ok (.string ⟨#[34]⟩) (wr.alloc (.cells #[.int .u8 34] 5)) :=
            run_convert_bytes_back (wr.alloc (.cells #[.int .u8 34] 5)) 52 9 5 ⟨wr.heap.size, 0, none⟩ 1 [34] Tryz.underlying52 Tryz.underlying5 Tryz.underlying9 (fun j hj => by
              obtain rfl : j = 0 := by simpa using hj
              exact (blk_cell (blk_new wr _) 0).trans rfl)
          have tok1 : True := trivial
          have hn2 : ((wr.alloc (.cells #[.int .u8 34] 5)).alloc (.cells #[.string ⟨#[34]⟩] 9)).heap[w.heap.size]? = _ := blk_alloc (blk_alloc H.out.hn _) _
          have hm2 : ((wr.alloc (.cells #[.int .u8 34] 5)).alloc (.cells #[.string ⟨#[34]⟩] 9)).heap[m]? = _ := blk_alloc (blk_alloc H.out.hm _) _
          have hl2 : ((wr.alloc (.cells #[.int .u8 34] 5)).alloc (.cells #[.string ⟨#[34]⟩] 9)).heap[wr.heap.size + 1]? = some (.cells #[.string ⟨#[34]⟩] 9 (0, 0)) := by
            have := blk_new (wr.alloc (.cells #[.int .u8 34] 5)) (.cells #[.string ⟨#[34]⟩] 9)
            simpa using this
          have hB2 : Below w.heap.size w ((wr.alloc (.cells #[.int .u8 34] 5)).alloc (.cells #[.string ⟨#[34]⟩] 9)) := below_alloc (below_alloc H.out.hB _) _
          go_wp2_with (first | (at_builtin; have t_ := tok1; clear tok1 t_; generalize hW2 : (wr.alloc (.cells #[.int .u8 34] 5)).alloc (.cells #[.string ⟨#[34]⟩] 9) = W2; have en0 : W2.cell? ⟨w.heap.size, 0, none⟩ = some (.string ⟨#[]⟩) := (blk_cell (hW2 ▸ hn2) 0).trans rfl; have fn0 : W2.frozen? ⟨w.heap.size, 0, none⟩ = false := blk_frozen (hW2 ▸ hn2) 0; have el0 : W2.cell? ⟨wr.heap.size + 1, 0, none⟩ = some (.string ⟨#[34]⟩) := (blk_cell (hW2 ▸ hl2) 0).trans rfl; have em2 : W2.cell? ⟨m, 256, none⟩ = some (.slice (some ⟨w.heap.size, 0, none⟩) 0 2) := (blk_cell (hW2 ▸ hm2) 256).trans (arr_256 _ _ _); have fm2 : W2.frozen? ⟨m, 256, none⟩ = false := blk_frozen (hW2 ▸ hm2) 256; have em3 : W2.cell? ⟨m, 34, none⟩ = some (.slice none 0 0) := (blk_cell (hW2 ▸ hm2) 34).trans (arr_34 _ _ _); have fm3 : W2.frozen? ⟨m, 34, none⟩ = false := blk_frozen (hW2 ▸ hm2) 34; have K2 := Lib.hid (And.intro (hW2 ▸ hn2) (And.intro (hW2 ▸ hm2) (And.intro (hW2 ▸ hB2) trivial)))))
          have hne : w.heap.size ≠ m := Nat.ne_of_lt H.out.mB
          obtain ⟨kn, km, kb, kr⟩ := K2.out
          generalize hW3 : (W2.setCell ⟨w.heap.size, 0, none⟩ (.string ⟨#[34]⟩)).setCell ⟨m, 256, none⟩ (.slice (some ⟨w.heap.size, 0, none⟩) 1 2) = W3
          have qn : W3.heap[w.heap.size]? = some (.cells #[.string ⟨#[34]⟩, .string ⟨#[]⟩] 9 (0, 0)) := hW3 ▸ blk_far (blk_put kn 0 _ rfl) (p := ⟨m, 256, none⟩) hne _
          have qm : W3.heap[m]? = some (.cells (ARR NIL NIL (.slice (some ⟨w.heap.size, 0, none⟩) 1 2)) 147 (0, 0)) := hW3 ▸ blk_put (blk_far km (p := ⟨w.heap.size, 0, none⟩) hne.symm _) 256 _ (arr_set256 _ _ _ _)
          have qb : Below w.heap.size w W3 := hW3 ▸ below_set (below_set kb (Nat.le_refl _)) (Nat.le_of_lt H.out.mB)
          have hcv2 := Lib.run_convert_string_bytes (P := Tryz.prog) W3 9 52 5 ⟨#[92, 34]⟩ Tryz.underlying9 Tryz.underlying52 Tryz.underlying5
          have r0 := Lib.bytesWorld_cell W3 5 ⟨#[92, 34]⟩ 0 (by decide)
          have r1 := Lib.bytesWorld_cell W3 5 ⟨#[92, 34]⟩ 1 (by decide)
          have rm := (Lib.bytesWorld_at_old W3 5 ⟨#[92, 34]⟩ m (blk_lt qm)).trans qm
          have rn := (Lib.bytesWorld_at_old W3 5 ⟨#[92, 34]⟩ w.heap.size (blk_lt qn)).trans qn
          have rs := Lib.bytesWorld_size W3 5 ⟨#[92, 34]⟩
          have rb : Below w.heap.size w (Lib.bytesWorld W3 5 ⟨#[92, 34]⟩) := below_step qb (bytes_below W3 5 _)
          have rl := blk_lt qm
          have rr : True := trivial
          generalize grownCap W3 (⟨#[92, 34]⟩ : ByteArray).size 0 5 = cap at hcv2
          generalize Lib.bytesWorld W3 5 ⟨#[92, 34]⟩ = W4 at hcv2 r0 r1 rm rn rs rb rr
          have sm : W4.cell? ⟨m, 34, none⟩ = some (.slice none 0 0) := (blk_cell rm 34).trans (arr_34 _ _ _)
          have sf : W4.frozen? ⟨m, 34, none⟩ = false := blk_frozen rm 34
          have Z := Lib.hid (And.intro r0 (And.intro r1 (And.intro rm (And.intro rn (And.intro rs (And.intro rb (And.intro rl rr)))))))
          clear r0 r1 rm rn rs rb rl rr qn qm qb kn km kb kr hn2 hm2 hl2 hB2 em2 fm2 em3 fm3 en0 fn0 el0
          go_wp2_with fail
          go_roundw
          case rel =>
            obtain ⟨r0, r1, rm, rn, rs, rb, rl, rr⟩ := Z.out
            have hnr : W3.heap.size ≠ m := by omega
            exact .inr (.inl ⟨rfl, W3.heap.size, cap, H.out.mB, below_set rb (Nat.le_of_lt H.out.mB), blk_put rm 34 _ (arr_set34 _ _ _ _), blk_far rn (p := ⟨m, 34, none⟩) hne _, ⟨by simpa using (show W3.heap.size < W4.heap.size by rw [rs]; omega), rl, (World.cell?_setCell_other _ _ _ _ (fun e => hnr (congrArg Addr.block e).symm)).trans r0, (World.cell?_setCell_other _ _ _ _ (fun e => hnr (congrArg Addr.block e).symm)).trans r1⟩⟩)
          case measure => simp [intOf]
        · have e2 : wr.cell? ⟨g, 0, none⟩ = some (.string ⟨#[92]⟩) := (h.hB.cell (p := ⟨g, 0, none⟩) hg).trans s0
          have e3 : wr.cell? ⟨g, 1, none⟩ = some (.string ⟨#[92, 92]⟩) := (h.hB.cell (p := ⟨g, 1, none⟩) hg).trans s1
          have em : wr.cell? ⟨m, 92, none⟩ = some (.slice none 0 0) := (blk_cell h.hm 92).trans (arr_92 _ _ _)
          have et : wr.cell? ⟨m, 256, none⟩ = some (.slice (some ⟨w.heap.size, 0, none⟩) 1 2) := (blk_cell h.hm 256).trans (arr_256 _ _ _)
          have fz : wr.frozen? ⟨m, 92, none⟩ = false := blk_frozen h.hm 92
          have fz2 : wr.frozen? ⟨m, 256, none⟩ = false := blk_frozen h.hm 256
          have H := Lib.hid h
          clear h H0 s0 s1 s2 s3
          have hi34 : ∀ h : 0 < (⟨#[92]⟩ : ByteArray).size, ((⟨#[92]⟩ : ByteArray)[0]'h).toNat = 92 := fun _ => rfl
          have hq : ∀ W : World, (binOp .eql 52 (.slice none 0 0) (.slice none 0 0)).run Tryz.prog W = .ok (.bool true) W := fun _ => by kernel_rfl
          have hcv : (convert 52 9 (.slice (some ⟨wr.heap.size, 0, none⟩) 1 1)).run Tryz.prog (wr.alloc (.cells #[.int .u8 92] 5)) = .ok (.string ⟨#[92]⟩) (wr.alloc (.cells #[.int .u8 92] 5)) :=
            run_convert_bytes_back (wr.alloc (.cells #[.int .u8 92] 5)) 52 9 5 ⟨wr.heap.size, 0, none⟩ 1 [92] Tryz.underlying52 Tryz.underlying5 Tryz.underlying9 (fun j hj => by
              obtain rfl : j = 0 := by simpa using hj
              exact (blk_cell (blk_new wr _) 0).trans rfl)
          have tok1 : True := trivial
          have hn2 : ((wr.alloc (.cells #[.int .u8 92] 5)).alloc (.cells #[.string ⟨#[92]⟩] 9)).heap[w.heap.size]? = _ := blk_alloc (blk_alloc H.out.hn _) _
          have hm2 : ((wr.alloc (.cells #[.int .u8 92] 5)).alloc (.cells #[.string ⟨#[92]⟩] 9)).heap[m]? = _ := blk_alloc (blk_alloc H.out.hm _) _
          have hl2 : ((wr.alloc (.cells #[.int .u8 92] 5)).alloc (.cells #[.string ⟨#[92]⟩] 9)).heap[wr.heap.size + 1]? = some (.cells #[.string ⟨#[92]⟩] 9 (0, 0)) := by
            have := blk_new (wr.alloc (.cells #[.int .u8 92] 5)) (.cells #[.string ⟨#[92]⟩] 9)
            simpa using this
          have hB2 : Below w.heap.size w ((wr.alloc (.cells #[.int .u8 92] 5)).alloc (.cells #[.string ⟨#[92]⟩] 9)) := below_alloc (below_alloc H.out.hB _) _
          have hr2 : Row2 ((wr.alloc (.cells #[.int .u8 92] 5)).alloc (.cells #[.string ⟨#[92]⟩] 9)) m r 92 34 := H.out.hr.below (below_alloc (below_alloc (Below.refl _ _) _) _)
          go_wp2_with (first | (at_builtin; have t_ := tok1; clear tok1 t_; generalize hW2 : (wr.alloc (.cells #[.int .u8 92] 5)).alloc (.cells #[.string ⟨#[92]⟩] 9) = W2; have en0 : W2.cell? ⟨w.heap.size, 1, none⟩ = some (.string ⟨#[]⟩) := (blk_cell (hW2 ▸ hn2) 1).trans rfl; have fn0 : W2.frozen? ⟨w.heap.size, 1, none⟩ = false := blk_frozen (hW2 ▸ hn2) 1; have el0 : W2.cell? ⟨wr.heap.size + 1, 0, none⟩ = some (.string ⟨#[92]⟩) := (blk_cell (hW2 ▸ hl2) 0).trans rfl; have em2 : W2.cell? ⟨m, 256, none⟩ = some (.slice (some ⟨w.heap.size, 0, none⟩) 1 2) := (blk_cell (hW2 ▸ hm2) 256).trans (arr_256 _ _ _); have fm2 : W2.frozen? ⟨m, 256, none⟩ = false := blk_frozen (hW2 ▸ hm2) 256; have em3 : W2.cell? ⟨m, 92, none⟩ = some (.slice none 0 0) := (blk_cell (hW2 ▸ hm2) 92).trans (arr_92 _ _ _); have fm3 : W2.frozen? ⟨m, 92, none⟩ = false := blk_frozen (hW2 ▸ hm2) 92; have K2 := Lib.hid (And.intro (hW2 ▸ hn2) (And.intro (hW2 ▸ hm2) (And.intro (hW2 ▸ hB2) (hW2 ▸ hr2))))))
          have hne : w.heap.size ≠ m := Nat.ne_of_lt H.out.mB
          obtain ⟨kn, km, kb, kr⟩ := K2.out
          generalize hW3 : (W2.setCell ⟨w.heap.size, 1, none⟩ (.string ⟨#[92]⟩)).setCell ⟨m, 256, none⟩ (.slice (some ⟨w.heap.size, 0, none⟩) 2 2) = W3
          have qn : W3.heap[w.heap.size]? = some (.cells #[.string ⟨#[34]⟩, .string ⟨#[92]⟩] 9 (0, 0)) := hW3 ▸ blk_far (blk_put kn 1 _ rfl) (p := ⟨m, 256, none⟩) hne _
          have qm : W3.heap[m]? = some (.cells (ARR NIL (.slice (some ⟨r, 0, none⟩) 2 c1) (.slice (some ⟨w.heap.size, 0, none⟩) 2 2)) 147 (0, 0)) := hW3 ▸ blk_put (blk_far km (p := ⟨w.heap.size, 1, none⟩) hne.symm _) 256 _ (arr_set256 _ _ _ _)
          have qb : Below w.heap.size w W3 := hW3 ▸ below_set (below_set kb (Nat.le_refl _)) (Nat.le_of_lt H.out.mB)
          have qr : Row2 W3 m r 92 34 := hW3 ▸ (kr.set (p := ⟨w.heap.size, 1, none⟩) (by have := H.out.mB; have := kr.gt; show r ≠ w.heap.size; omega) _).set (p := ⟨m, 256, none⟩) (by have := kr.gt; show r ≠ m; omega) _
          have hcv2 := Lib.run_convert_string_bytes (P := Tryz.prog) W3 9 52 5 ⟨#[92, 92]⟩ Tryz.underlying9 Tryz.underlying52 Tryz.underlying5
          have r0 := Lib.bytesWorld_cell W3 5 ⟨#[92, 92]⟩ 0 (by decide)
          have r1 := Lib.bytesWorld_cell W3 5 ⟨#[92, 92]⟩ 1 (by decide)
          have rm := (Lib.bytesWorld_at_old W3 5 ⟨#[92, 92]⟩ m (blk_lt qm)).trans qm
          have rn := (Lib.bytesWorld_at_old W3 5 ⟨#[92, 92]⟩ w.heap.size (blk_lt qn)).trans qn
          have rs := Lib.bytesWorld_size W3 5 ⟨#[92, 92]⟩
          have rb : Below w.heap.size w (Lib.bytesWorld W3 5 ⟨#[92, 92]⟩) := below_step qb (bytes_below W3 5 _)
          have rl := blk_lt qm
          have rr : Row2 (Lib.bytesWorld W3 5 ⟨#[92, 92]⟩) m r 92 34 := qr.below (bytes_below W3 5 _)
          generalize grownCap W3 (⟨#[92, 92]⟩ : ByteArray).size 0 5 = cap at hcv2
          generalize Lib.bytesWorld W3 5 ⟨#[92, 92]⟩ = W4 at hcv2 r0 r1 rm rn rs rb rr
          have sm : W4.cell? ⟨m, 92, none⟩ = some (.slice none 0 0) := (blk_cell rm 92).trans (arr_92 _ _ _)
          have sf : W4.frozen? ⟨m, 92, none⟩ = false := blk_frozen rm 92
          have Z := Lib.hid (And.intro r0 (And.intro r1 (And.intro rm (And.intro rn (And.intro rs (And.intro rb (And.intro rl rr)))))))
          clear r0 r1 rm rn rs rb rl rr qn qm qb kn km kb kr hn2 hm2 hl2 hB2 em2 fm2 em3 fm3 en0 fn0 el0 hr2 qr
          go_wp2_with fail
          go_roundw
          case rel =>
            obtain ⟨r0, r1, rm, rn, rs, rb, rl, rr⟩ := Z.out
            have hnr : W3.heap.size ≠ m := by omega
            exact .inr (.inr ⟨rfl, r, c1, W3.heap.size, cap, H.out.mB, below_set rb (Nat.le_of_lt H.out.mB), blk_put rm 92 _ (arr_set92 _ _ _ _), blk_far rn (p := ⟨m, 92, none⟩) hne _, rr.set (p := ⟨m, 92, none⟩) (by have := rr.gt; show r ≠ m; omega) _, ⟨by simpa using (show W3.heap.size < W4.heap.size by rw [rs]; omega), rl, (World.cell?_setCell_other _ _ _ _ (fun e => hnr (congrArg Addr.block e).symm)).trans r0, (World.cell?_setCell_other _ _ _ _ (fun e => hnr (congrArg Addr.block e).symm)).trans r1⟩⟩)
          case measure => simp [intOf]
        · have H := Lib.hid h
          clear h H0 s0 s1 s2 s3
          go_wp2_with fail
          go_ret
          exact ⟨m, r, c1, r', c2, rfl, H.out⟩
end Go.Proofs.YtnimhdhnjfoalaaGreatDoor.R
