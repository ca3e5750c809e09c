/- node.Dump. -/
import Derived.Test.YtnimhdhnjfoalaaGreatDoorR11
namespace Go.Proofs.YtnimhdhnjfoalaaGreatDoor.A
open Go.RowKit Go.Proofs.YtnimhdhnjfoalaaGreatDoorW.PrintWords Go.Proofs.YtnimhdhnjfoalaaGreatDoorW.PrintLast Go.Proofs.YtnimhdhnjfoalaaGreatDoorW.PrintMore Go.Proofs.YtnimhdhnjfoalaaGreatDoor.R
set_option linter.unusedVariables false
set_option linter.unusedSimpArgs false

def node_Dump.f (k : Nat) (a0_0 : Int) (a0_1 : ByteArray) (a0_2 : Int) (l0_3 : List S26) : Option ByteArray := (node_dump.f k [] a0_0 a0_1 a0_2 l0_3).bind fun r => some ⟨r.toArray⟩
theorem node_dump.mono_l : ∀ k, (∀ y0 y1 y2 y3 y4, LeO (node_dump.f k y0 y1 y2 y3 y4) (node_dump.f (k + 1) y0 y1 y2 y3 y4)) ∧ (∀ y0 y1 y2, LeO (node_dump.l0 k y0 y1 y2) (node_dump.l0 (k + 1) y0 y1 y2))
  | 0 => ⟨fun _ _ _ _ _ r h => by simp [node_dump.f] at h, fun _ _ _ r h => by simp [node_dump.l0] at h⟩
  | k + 1 => by
    obtain ⟨ih0, ih1⟩ := node_dump.mono_l k
    refine ⟨?_, ?_⟩
    · intro y0 y1 y2 y3 y4
      unfold node_dump.f
      repeat' first
        | exact ih1 _ _ _
        | exact LeO.refl _
        | refine LeO.ite ?_ ?_
        | refine LeO.bind ?_ (fun _ => ?_)
    · intro y0 y1 y2
      unfold node_dump.l0
      repeat' first
        | exact ih1 _ _ _
        | exact ih0 _ _ _ _ _
        | exact LeO.refl _
        | refine LeO.ite ?_ ?_
        | refine LeO.bind ?_ (fun _ => ?_)
theorem node_Dump.mono : ∀ a0 a1 a2 a3 k, LeO (node_Dump.f k a0 a1 a2 a3) (node_Dump.f (k + 1) a0 a1 a2 a3) := by
  intro a0 a1 a2 a3 k
  unfold node_Dump.f
  exact LeO.bind ((node_dump.mono_l k).1 _ _ _ _ _) (fun _ => LeO.refl _)
theorem dm_fresh {w W : World} (h : Below w.heap.size w W) : Dm w W.heap.size [] (W.alloc (.cells #[.pointer none, .slice none 0 0] 54)) :=
  ⟨.inl ⟨h.size, .slice none 0 0, heap_alloc_new W _, World.ownsRow_nil _ _ _ _, by simp [Value.ownBlock]⟩, below_alloc h _⟩
set_option maxHeartbeats 2000000 in
set_option maxRecDepth 100000 in
theorem node_Dump.calls (k : Nat) (a0_0 : Int) (a0_1 : ByteArray) (a0_2 : Int) (A0_3 : Option Addr) (c0_3 : Nat) (l0_3 : List (S26)) (r : ByteArray) (w : World) (hr0_3 : Kd.C k26 w A0_3 l0_3.length l0_3) (hc0_3 : l0_3.length ≤ c0_3) (h : node_Dump.f k a0_0 a0_1 a0_2 l0_3 = some r) :
    Calls Tryz.prog 17 #[.agg #[.int .i64 a0_0, .string a0_1, .int .i64 a0_2, .slice A0_3 l0_3.length c0_3]] w fun e w' => e = .returned (.string r) ∧ Below w.heap.size w w' := by
  have hu26 := Tryz.underlying26
  have hu54 := Tryz.underlying54
  have HR := Aside0.mk hr0_3
  have HC := Aside0.mk hc0_3
  unfold node_Dump.f at h
  obtain ⟨b, hq, h⟩ := Option.bind_eq_some_iff.mp h
  obtain rfl := Option.some.inj h
  have HQ := Aside0.mk hq
  clear hr0_3 hc0_3 h hq
  go_enter Tryz.func17, Tryz.ntmps17
  go_wp2_with (first | ((with_reducible refine gate_dst (N := 1) rfl ?_); refine box_event ?hg (N := 1) ?hd (cs := #[.int .i64 a0_0, .string a0_1, .int .i64 a0_2, .slice A0_3 l0_3.length c0_3]) (t := 26) ?hr ?_; (case hd => rfl); (case hg => rfl); (case hr => first | (go_simp; done) | (go_simp; rfl)); intro gb hgb w3 hbox hb3; have HX := Aside0.mk hbox; have HB := Aside0.mk hb3; have lgb : gb < w3.heap.size := blk_lt hbox; have b0 : w3.cell? ⟨gb, 0, none⟩ = some (.int .i64 a0_0) := (blk_cell hbox 0).trans rfl; have b1 : w3.cell? ⟨gb, 1, none⟩ = some (.string a0_1) := (blk_cell hbox 1).trans rfl; have b2 : w3.cell? ⟨gb, 2, none⟩ = some (.int .i64 a0_2) := (blk_cell hbox 2).trans rfl; have b3 : w3.cell? ⟨gb, 3, none⟩ = some (.slice A0_3 l0_3.length c0_3) := (blk_cell hbox 3).trans rfl; clear hgb hbox hb3))
  with_reducible refine (node_dump.calls k w3.heap.size c0_3 [] _ _ _ _ l0_3 b w _ HR.out HC.out (dm_fresh HB.out) HQ.out).mono ?_
  rintro e w4 ⟨rfl, hd, hk⟩
  have HD := Aside0.mk hd
  clear hd hk b0 b1 b2 b3 lgb
  go_wp2_with fail
  with_reducible refine (Tryz.Builder_String_any w.heap.size w3.heap.size b _ HD.out.hI HD.out.hb.size).mono ?_
  rintro e w5 ⟨rfl, hb5⟩
  go_wp2
  go_ret
  exact ⟨rfl, HD.out.hb.trans hb5⟩
end Go.Proofs.YtnimhdhnjfoalaaGreatDoor.A
