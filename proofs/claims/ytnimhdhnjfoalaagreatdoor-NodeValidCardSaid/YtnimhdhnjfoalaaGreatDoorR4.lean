/- strings.Replacer of the pairs for a quoted text: sync.Once builds it. -/
import Derived.Test.YtnimhdhnjfoalaaGreatDoorR3
namespace Go.Proofs.YtnimhdhnjfoalaaGreatDoor.R
open Go.RowKit Go.Proofs.YtnimhdhnjfoalaaGreatDoorW.PrintWords Go.Proofs.YtnimhdhnjfoalaaGreatDoorW.PrintLast Go.Proofs.YtnimhdhnjfoalaaGreatDoorW.PrintMore
set_option linter.unusedVariables false
set_option linter.unusedSimpArgs false

/-- The built table of replacements, in block m. -/
structure Rep (b m n r c r' c' : Nat) (wr : World) : Prop where
  bn : b < n
  nm : n < m
  hm : wr.heap[m]? = some (.cells (ARR (.slice (some ⟨r', 0, none⟩) 2 c') (.slice (some ⟨r, 0, none⟩) 2 c) (.slice (some ⟨n, 0, none⟩) 2 2)) 147 (0, 0))
  hn : wr.heap[n]? = some (.cells #[.string ⟨#[34]⟩, .string ⟨#[92]⟩] 9 (0, 0))
  hr : Row2 wr m r 92 34
  hr' : Row2 wr m r' 92 92
theorem Rep.set {b m n r c r' c' : Nat} {wr : World} (h : Rep b m n r c r' c' wr) (j : Nat) (v : Value) : Rep b m n r c r' c' (wr.setCell ⟨b, j, none⟩ v) := by
  have := h.bn
  have := h.nm
  have := h.hr.gt
  have := h.hr'.gt
  exact ⟨h.bn, h.nm, blk_far h.hm (p := ⟨b, j, none⟩) (by show m ≠ b; omega) _, blk_far h.hn (p := ⟨b, j, none⟩) (by show n ≠ b; omega) _, h.hr.set (p := ⟨b, j, none⟩) (by show r ≠ b; omega) _, h.hr'.set (p := ⟨b, j, none⟩) (by show r' ≠ b; omega) _⟩
theorem Rep.drew {b m n r c r' c' : Nat} {wr : World} (h : Rep b m n r c r' c' wr) : Rep b m n r c r' c' wr.drew :=
  ⟨h.bn, h.nm, h.hm, h.hn, ⟨h.hr.lt, h.hr.gt, h.hr.c0, h.hr.c1⟩, ⟨h.hr'.lt, h.hr'.gt, h.hr'.c0, h.hr'.c1⟩⟩
/-- What a replacer holds before its first use. -/
structure Raw (b g c : Nat) (d : Int) (w : World) : Prop where
  gl : g < w.heap.size
  hb : w.heap[b]? = some (.cells #[.int .u32 0, .int .i32 d, .int .u32 0, .nilIface, .slice (some ⟨g, 0, none⟩) 4 c] 112 (0, 0))
  s0 : w.cell? ⟨g, 0, none⟩ = some (.string ⟨#[92]⟩)
  s1 : w.cell? ⟨g, 1, none⟩ = some (.string ⟨#[92, 92]⟩)
  s2 : w.cell? ⟨g, 2, none⟩ = some (.string ⟨#[34]⟩)
  s3 : w.cell? ⟨g, 3, none⟩ = some (.string ⟨#[92, 34]⟩)
def Once (b : Nat) (x y : Int) (w : World) (e : Ending) (w' : World) : Prop :=
  e = .returned (.tuple #[]) ∧ ∃ m n r c r' c', w'.heap[b]? = some (.cells #[.int .u32 x, .int .i32 y, .int .u32 0, .iface 148 (.pointer (some ⟨m, 0, none⟩)), .slice none 0 0] 112 (0, 0)) ∧ Rep b m n r c r' c' w' ∧ Below b w w'
set_option maxRecDepth 100000 in
set_option maxHeartbeats 1600000 in
theorem once_any (b g c : Nat) (d : Int) (w : World) (h : Raw b g c d w) :
    Calls Tryz.prog 96 #[.pointer (some ⟨b, 0, none⟩)] w (Once b 0 d w) := by
  have hu := Tryz.underlying112
  have e4 : w.cell? ⟨b, 4, none⟩ = some (.slice (some ⟨g, 0, none⟩) 4 c) := (blk_cell h.hb 4).trans rfl
  have hbl := blk_lt h.hb
  have H := Lib.hid h
  have hc := build_any b g c w e4 hbl h.gl h.s0 h.s1 h.s2 h.s3
  have HC := Lib.hid hc
  clear h hc e4
  go_enter Tryz.func96, Tryz.ntmps96
  go_wp2_with (go_at_call 110; refine HC.out.mono ?_; rintro e w1 ⟨m, r, c1, r', c2, rfl, hS⟩; have hB1 := blk_below H.out.hb hS.hB; have e3 : w1.cell? ⟨b, 3, none⟩ = some .nilIface := (blk_cell hB1 3).trans rfl; have f3 : w1.frozen? ⟨b, 3, none⟩ = false := blk_frozen hB1 3; have e4 : w1.cell? ⟨b, 4, none⟩ = some (.slice (some ⟨g, 0, none⟩) 4 c) := (blk_cell hB1 4).trans rfl; have f4 : w1.frozen? ⟨b, 4, none⟩ = false := blk_frozen hB1 4; have K := Lib.hid (And.intro hB1 hS); clear hB1 hS)
  go_end0
  obtain ⟨hB1, hS⟩ := K.out
  refine ⟨rfl, m, w.heap.size, r, c1, r', c2, blk_put (blk_put hB1 3 _ rfl) 4 _ rfl, Rep.set (Rep.set ⟨hbl, hS.mB, hS.hm, hS.hn, hS.hr, hS.hr'⟩ 3 _) 4 _, ?_⟩
  exact ((hS.hB.mono (Nat.le_of_lt hbl)).setCell (p := ⟨b, 3, none⟩) (Nat.le_refl _) _).setCell (p := ⟨b, 4, none⟩) (Nat.le_refl _) _
end Go.Proofs.YtnimhdhnjfoalaaGreatDoor.R
