/- strings.NewReplacer of the pairs for a quoted text. -/
import Derived.Test.YtnimhdhnjfoalaaGreatDoorR8
import Derived.Deep.RegionLawGrows
namespace Go.Proofs.YtnimhdhnjfoalaaGreatDoor.R
open Go.RowKit Go.Proofs.YtnimhdhnjfoalaaGreatDoorW.PrintWords Go.Proofs.YtnimhdhnjfoalaaGreatDoorW.PrintLast Go.Proofs.YtnimhdhnjfoalaaGreatDoorW.PrintMore
set_option linter.unusedVariables false
set_option linter.unusedSimpArgs false

def PAIRS : List Value := [.string ⟨#[92]⟩, .string ⟨#[92, 92]⟩, .string ⟨#[34]⟩, .string ⟨#[92, 34]⟩]
theorem own_pairs {w : World} {base e : Nat} {v : Value} (h : w.ownsRow base e 1 v (0 + 4) ([] ++ PAIRS)) :
    ∃ g c, v = .slice (some ⟨g, 0, none⟩) 4 c ∧ base ≤ g ∧ g < w.heap.size ∧ w.cell? ⟨g, 0, none⟩ = some (.string ⟨#[92]⟩) ∧ w.cell? ⟨g, 1, none⟩ = some (.string ⟨#[92, 92]⟩) ∧ w.cell? ⟨g, 2, none⟩ = some (.string ⟨#[34]⟩) ∧ w.cell? ⟨g, 3, none⟩ = some (.string ⟨#[92, 34]⟩) := by
  obtain ⟨_, ⟨_, h⟩ | ⟨g, c, cur, rfl, hb, hg, _, _, hs, ht⟩⟩ := h
  · omega
  · have get : ∀ j u, PAIRS[j]? = some u → w.cell? ⟨g, j, none⟩ = some u := by
      intro j u hu
      rw [blk_cell hg j]
      have hj : j < 4 := by
        have := (List.getElem?_eq_some_iff.1 hu).1
        simpa [PAIRS] using this
      have : (cur.toList.take ((0 + 4) * 1))[j]? = some u := by rw [ht]; simpa using hu
      rw [List.getElem?_take, if_pos (by omega)] at this
      simpa using this
    exact ⟨g, c, rfl, hb, blk_lt hg, get 0 _ rfl, get 1 _ rfl, get 2 _ rfl, get 3 _ rfl⟩
def Fresh (w : World) (e : Ending) (w' : World) : Prop := ∃ b g c, e = .returned (.pointer (some ⟨b, 0, none⟩)) ∧ Raw b g c 0 w' ∧ g ≠ b ∧ w.heap.size ≤ b ∧ Below w.heap.size w w'
set_option maxRecDepth 100000 in
set_option maxHeartbeats 1600000 in
theorem new_any (ad : Addr) (c0 : Nat) (w : World) (hc : ∀ j u, PAIRS[j]? = some u → w.cell? (ad.add j) = some u) :
    Calls Tryz.prog 74 #[.slice (some ad) 4 c0] w (Fresh w) := by
  have hu1 := Tryz.underlying112
  obtain ⟨i0, hi, hz0, hz1, hz2⟩ := info_parts (show (Tryz.prog.info? 9).map (fun i => (i.zero, i.size, i.bytes)) = some (some (.string ⟨#[]⟩), 1, 16) by kernel_rfl)
  have HC := Lib.hid hc
  clear hc
  go_enter Tryz.func74, Tryz.ntmps74
  have tok1 : True := trivial
  go_wp2_with (first | (at_builtin; have t_ := tok1; clear tok1 t_; refine wpList_append_own _ rfl _ _ 47 rfl w.heap.size 9 i0 (.string ⟨#[]⟩) 1 16 Tryz.underlying47 hi hz0 hz1 hz2 rfl (by decide) _ 0 [] rfl (World.ownsRow_nil _ _ _ _) ad 4 c0 PAIRS rfl rfl HC.out ?c2 ?c3 ?c4 ?c5 ?_; (case c2 => simp [PAIRS, Value.oneCell']); (case c3 => decide); (case c4 => decide); (case c5 => exact Nat.le_refl _); intro v1 w1 hown hgr h_; obtain ⟨g, cg, rfl, gb, gl, s0, s1, s2, s3⟩ := own_pairs hown; have K := Lib.hid (And.intro hgr (And.intro gb (And.intro gl (And.intro s0 (And.intro s1 (And.intro s2 s3)))))); clear hown hgr gb gl s0 s1 s2 s3 h_))
  have fin : Fresh w (.returned (.pointer (some ⟨w1.heap.size, 0, none⟩))) (w1.alloc (.cells #[.int .u32 0, .int .i32 0, .int .u32 0, .nilIface, .slice (some ⟨g, 0, none⟩) 4 cg] 112)) := by
    obtain ⟨hgr, gb, gl, s0, s1, s2, s3⟩ := K.out
    have far : ∀ j : Nat, (w1.alloc (.cells #[.int .u32 0, .int .i32 0, .int .u32 0, .nilIface, .slice (some ⟨g, 0, none⟩) 4 cg] 112)).cell? ⟨g, j, none⟩ = w1.cell? ⟨g, j, none⟩ := fun j => World.cell?_alloc_past _ _ _ gl
    have hB : Below w.heap.size w w1 := (Below.refl _ _).grown hgr (Nat.le_refl _) (fun k hk => by cases (show (none : Option Nat) = some k from hk))
    refine ⟨w1.heap.size, g, cg, rfl, ⟨Nat.lt_of_lt_of_le gl (below_alloc (Below.refl _ _) _).size, blk_new _ _, (far 0).trans s0, (far 1).trans s1, (far 2).trans s2, (far 3).trans s3⟩, Nat.ne_of_lt gl, hgr.size, below_alloc hB _⟩
  have FIN := Lib.hid fin
  clear fin
  go_ret
  exact FIN.out
end Go.Proofs.YtnimhdhnjfoalaaGreatDoor.R
