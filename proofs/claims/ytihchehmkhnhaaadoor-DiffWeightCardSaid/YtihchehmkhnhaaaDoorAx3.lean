/- Made for this claim by a program of the session: the Go functions' plain twins and their contracts. Lean checks it. -/
import Derived.Test.YtihchehmkhnhaaaDoorAx0
import Derived.Test.YtihchehmkhnhaaaDoorAx2
import Derived.Test.YtihchehmkhnhaaaDoorAq
namespace Go.Proofs.YtihchehmkhnhaaaDoor.A
open Go.RowKit Go.Proofs.YtihchehmkhnhaaaDoorW.PrintWords Go.Proofs.YtihchehmkhnhaaaDoorW.PrintLast Go.Proofs.YtihchehmkhnhaaaDoorW.PrintMore
attribute [local go_sem] max2_int min2_int max_two min_two max_three min_three max_four min_four   -- for this text's walks alone
set_option linter.unusedVariables false
set_option linter.unusedSimpArgs false

/-! ### diff_pair: function 43 -/
def diff_pair.T7 : Bool × List (List Nat × List Nat) := (true, [([], []), ([], []), ([1], [1]), ([], []), ([2, 3], [2, 3]), ([4], [4]), ([5], [5]), ([], []), ([7], [7]), ([], []), ([8, 9], [8, 9]), ([10], [10]), ([11], [11]), ([6, 12], [6, 12]), ([13], [13]), ([14], [14]), ([15], [15]), ([16], [16]), ([17], [17]), ([0, 18], [0, 18]), ([19, 13, 0, 1, 2, 3, 4, 5, 6, 7, 8, 9, 10, 11, 12, 13, 14, 15, 16, 17, 18, 19], [0, 19])])
def diff_pair.B7 : List Nat := [0, 0, 2, 0, 14, 30, 62, 0, 128, 0, 896, 1920, 3968, 8190, 16382, 32766, 65534, 131070, 262142, 524287, 1048575]
theorem diff_pair.tab7 : rtab .any (opsOf Tryd.f43 7) = diff_pair.T7 := by kernel_rfl
theorem diff_pair.bits7 : waitsOk diff_pair.T7.2 diff_pair.B7 = true := by kernel_rfl
/-! ### diff_best: function 31 -/
def diff_best.T4 : Bool × List (List Nat × List Nat) := (true, [([], []), ([], []), ([0, 1], [0, 1]), ([2], [2]), ([3], [3]), ([], []), ([], []), ([5, 6], [5, 6]), ([7], [7]), ([], []), ([9], [9]), ([8, 10], [8, 10]), ([11], [11]), ([12], [12]), ([4, 13], [4, 13]), ([14], [14]), ([15, 4, 0, 1, 2, 3, 4, 5, 6, 7, 8, 9, 10, 11, 12, 13, 14, 15], [15])])
def diff_best.B4 : List Nat := [0, 0, 3, 7, 15, 0, 0, 96, 224, 0, 512, 2016, 4064, 8160, 16383, 32767, 65535]
theorem diff_best.tab4 : rtab .any (opsOf Tryd.f31 4) = diff_best.T4 := by kernel_rfl
theorem diff_best.bits4 : waitsOk diff_best.T4.2 diff_best.B4 = true := by kernel_rfl
def diff_best.T6 : Bool × List (List Nat × List Nat) := (true, [([], []), ([], []), ([0, 1], [0, 1]), ([2], [2]), ([3], [3]), ([], []), ([], []), ([6], [6]), ([5, 7], [5, 7]), ([8], [8]), ([], []), ([9, 10], [9, 10]), ([11], [11]), ([12], [12]), ([4, 13], [4, 13]), ([14], [14]), ([15, 4, 0, 1, 2, 3, 4, 5, 6, 7, 8, 9, 10, 11, 12, 13, 14, 15], [15])])
def diff_best.B6 : List Nat := [0, 0, 3, 7, 15, 0, 0, 64, 224, 480, 0, 2016, 4064, 8160, 16383, 32767, 65535]
theorem diff_best.tab6 : rtab .any (opsOf Tryd.f31 6) = diff_best.T6 := by kernel_rfl
theorem diff_best.bits6 : waitsOk diff_best.T6.2 diff_best.B6 = true := by kernel_rfl
def diff_best.T7 : Bool × List (List Nat × List Nat) := (true, [([], []), ([], []), ([0, 1], [0, 1]), ([2], [2]), ([3], [3]), ([], []), ([], []), ([6], [6]), ([5, 7], [5, 7]), ([8], [8]), ([], []), ([9, 10], [9, 10]), ([11], [11]), ([12], [12]), ([4, 13], [4, 13]), ([], []), ([], []), ([15, 16], [15, 16]), ([17], [17]), ([18, 4], [18]), ([], []), ([], []), ([20, 21], [20, 21]), ([22], [22]), ([], []), ([24], [24]), ([23, 25], [23, 25]), ([26], [26]), ([27], [27]), ([19, 28], [19, 28]), ([14, 29], [14, 29]), ([30], [30]), ([], []), ([32, 31, 19, 0, 1, 2, 3, 4, 5, 6, 7, 8, 9, 10, 11, 12, 13, 14, 15, 16, 17, 18, 19, 20, 21, 22, 23, 24, 25, 26, 27, 28, 29, 30, 31, 32], [31, 32])])
def diff_best.B7 : List Nat := [0, 0, 3, 7, 15, 0, 0, 64, 224, 480, 0, 2016, 4064, 8160, 16383, 0, 0, 98304, 229376, 491551, 0, 0, 3145728, 7340032, 0, 16777216, 66060288, 133169152, 267386880, 536838175, 1073741823, 2147483647, 0, 8589934591]
theorem diff_best.tab7 : rtab .any (opsOf Tryd.f31 7) = diff_best.T7 := by kernel_rfl
theorem diff_best.bits7 : waitsOk diff_best.T7.2 diff_best.B7 = true := by kernel_rfl
def diff_best.T8 : Bool × List (List Nat × List Nat) := (true, [([], []), ([], []), ([0, 1], [0, 1]), ([2], [2]), ([], []), ([], []), ([4, 5], [4, 5]), ([6], [6]), ([3, 7], [3, 7])])
def diff_best.B8 : List Nat := [0, 0, 3, 7, 0, 0, 48, 112, 255]
theorem diff_best.tab8 : rtab .any (opsOf Tryd.f31 8) = diff_best.T8 := by kernel_rfl
theorem diff_best.bits8 : waitsOk diff_best.T8.2 diff_best.B8 = true := by kernel_rfl
def diff_best.T9 : Bool × List (List Nat × List Nat) := (true, [([], []), ([], []), ([0, 1], [0, 1]), ([2], [2]), ([], []), ([], []), ([4, 5], [4, 5]), ([6], [6]), ([3, 7], [3, 7]), ([], []), ([], []), ([10], [10]), ([9, 11], [9, 11]), ([12], [12]), ([], []), ([14], [14]), ([13, 15], [13, 15]), ([16], [16]), ([17], [17]), ([8, 18], [8, 18]), ([19, 8, 0, 1, 2, 3, 4, 5, 6, 7, 8, 9, 10, 11, 12, 13, 14, 15, 16, 17, 18, 19], [19])])
def diff_best.B9 : List Nat := [0, 0, 3, 7, 0, 0, 48, 112, 255, 0, 0, 1024, 3584, 7680, 0, 16384, 65024, 130560, 261632, 524287, 1048575]
theorem diff_best.tab9 : rtab .any (opsOf Tryd.f31 9) = diff_best.T9 := by kernel_rfl
theorem diff_best.bits9 : waitsOk diff_best.T9.2 diff_best.B9 = true := by kernel_rfl
/-! ### diff_table: function 21 -/
def diff_table.T9 : Bool × List (List Nat × List Nat) := (true, [([], []), ([], []), ([0, 1], [0, 1]), ([2], [2]), ([], []), ([], []), ([], []), ([], []), ([], []), ([], []), ([5, 6, 7, 8, 9], [5, 6, 7, 8, 9]), ([3, 4, 0, 1, 2, 3, 4, 5, 6, 7, 8, 9, 10], [3, 4]), ([11, 10, 10, 0, 1, 2, 3, 4, 5, 6, 7, 8, 9, 10], [10, 11])])
def diff_table.B9 : List Nat := [0, 0, 3, 7, 0, 0, 0, 0, 0, 0, 992, 2047, 4095]
theorem diff_table.tab9 : rtab .any (opsOf Tryd.f21 9) = diff_table.T9 := by kernel_rfl
theorem diff_table.bits9 : waitsOk diff_table.T9.2 diff_table.B9 = true := by kernel_rfl
mutual
def diff_pair.j0 : Nat → Int → Int → ByteArray → Int → List (S24) → Int → ByteArray → Int → List (S24) → Option (Int)
 | 0, _, _, _, _, _, _, _, _, _ => none
 | k + 1, x5, x140000, x140001, x140002, x140003, x141000, x141001, x141002, x141003 => diff_pair.l0 k x5 (x140003.length : Int) 0 x140000 x140001 x140002 x140003 x141000 x141001 x141002 x141003
def diff_pair.l0 : Nat → Int → Int → Int → Int → ByteArray → Int → List (S24) → Int → ByteArray → Int → List (S24) → Option (Int)
 | 0, _, _, _, _, _, _, _, _, _, _, _ => none
 | k + 1, x5, x14, x15, x140000, x140001, x140002, x140003, x141000, x141001, x141002, x141003 => if x15 < x14 then (if 0 ≤ x15 then (if x15 < (x140003.length : Int) then (if x15 < (x141003.length : Int) then ((diff_table.f k ((rd_T24 x140003 x15).f3) ((rd_T24 x141003 x15).f3)).bind fun t143 => (if 0 < (t143.length : Int) then (if 0 < ((rd_L5 t143 0).length : Int) then (diff_pair.l0 k (wrap64 (x5 + ((rd_T47 (rd_L5 t143 0) 0).f0))) x14 (wrap64 (x15 + 1)) x140000 x140001 x140002 x140003 x141000 x141001 x141002 x141003) else (none)) else (none))) else (none)) else (none)) else (none)) else (some x5)
def diff_pair.f : Nat → Int → ByteArray → Int → List (S24) → Int → ByteArray → Int → List (S24) → Option (Int)
 | 0, _, _, _, _, _, _, _, _ => none
 | k + 1, a0_0, a0_1, a0_2, l0_3, a1_0, a1_1, a1_2, l1_3 => if a0_1.toList = a1_1.toList then (diff_pair.j0 k 0 a0_0 a0_1 a0_2 l0_3 a1_0 a1_1 a1_2 l1_3) else (diff_pair.j0 k 1 a0_0 a0_1 a0_2 l0_3 a1_0 a1_1 a1_2 l1_3)
def diff_best.j0 : Nat → List (S24) → List (S24) → List (List (S47)) → Int → Int → Bool → Option (Int × Bool)
 | 0, _, _, _, _, _, _ => none
 | k + 1, x0, x1, x2, x3, x4, x13 => if x13 = true then (some (0, false)) else (if x3 = (x0.length : Int) then (if 0 ≤ x4 then (if x4 < (x1.length : Int) then ((node_Count.f k ((rd_T24 x1 x4).f0) ((rd_T24 x1 x4).f1) ((rd_T24 x1 x4).f2) ((rd_T24 x1 x4).f3)).bind fun t150 => (if 0 ≤ x3 then (if x3 < (x2.length : Int) then (if 0 ≤ (wrap64 (x4 + 1)) then (if (wrap64 (x4 + 1)) < ((rd_L5 x2 x3).length : Int) then (some (wrap64 (t150 + ((rd_T47 (rd_L5 x2 x3) (wrap64 (x4 + 1))).f0)), false)) else (none)) else (none)) else (none)) else (none))) else (none)) else (none)) else (if x4 = (x1.length : Int) then (if 0 ≤ x3 then (if x3 < (x0.length : Int) then ((node_Count.f k ((rd_T24 x0 x3).f0) ((rd_T24 x0 x3).f1) ((rd_T24 x0 x3).f2) ((rd_T24 x0 x3).f3)).bind fun t154 => (if 0 ≤ (wrap64 (x3 + 1)) then (if (wrap64 (x3 + 1)) < (x2.length : Int) then (if 0 ≤ x4 then (if x4 < ((rd_L5 x2 (wrap64 (x3 + 1))).length : Int) then (some (wrap64 (t154 + ((rd_T47 (rd_L5 x2 (wrap64 (x3 + 1))) x4).f0)), false)) else (none)) else (none)) else (none)) else (none))) else (none)) else (none)) else (if 0 ≤ x3 then (if x3 < (x0.length : Int) then ((node_Count.f k ((rd_T24 x0 x3).f0) ((rd_T24 x0 x3).f1) ((rd_T24 x0 x3).f2) ((rd_T24 x0 x3).f3)).bind fun t158 => (if 0 ≤ (wrap64 (x3 + 1)) then (if (wrap64 (x3 + 1)) < (x2.length : Int) then (if 0 ≤ x4 then (if x4 < ((rd_L5 x2 (wrap64 (x3 + 1))).length : Int) then (if x4 < (x1.length : Int) then ((node_Count.f k ((rd_T24 x1 x4).f0) ((rd_T24 x1 x4).f1) ((rd_T24 x1 x4).f2) ((rd_T24 x1 x4).f3)).bind fun t162 => (if x3 < (x2.length : Int) then (if 0 ≤ (wrap64 (x4 + 1)) then (if (wrap64 (x4 + 1)) < ((rd_L5 x2 x3).length : Int) then ((diff_alike.f ((rd_T24 x0 x3).f0) ((rd_T24 x0 x3).f1) ((rd_T24 x0 x3).f2) ((rd_T24 x0 x3).f3) ((rd_T24 x1 x4).f0) ((rd_T24 x1 x4).f1) ((rd_T24 x1 x4).f2) ((rd_T24 x1 x4).f3)).bind fun t168 => (if t168 = true then ((diff_pair.f k ((rd_T24 x0 x3).f0) ((rd_T24 x0 x3).f1) ((rd_T24 x0 x3).f2) ((rd_T24 x0 x3).f3) ((rd_T24 x1 x4).f0) ((rd_T24 x1 x4).f1) ((rd_T24 x1 x4).f2) ((rd_T24 x1 x4).f3)).bind fun t171 => (if (wrap64 (x4 + 1)) < ((rd_L5 x2 (wrap64 (x3 + 1))).length : Int) then (if (wrap64 (t171 + ((rd_T47 (rd_L5 x2 (wrap64 (x3 + 1))) (wrap64 (x4 + 1))).f0))) ≤ (mn (wrap64 (t158 + ((rd_T47 (rd_L5 x2 (wrap64 (x3 + 1))) x4).f0))) (wrap64 (t162 + ((rd_T47 (rd_L5 x2 x3) (wrap64 (x4 + 1))).f0)))) then (some (wrap64 (t171 + ((rd_T47 (rd_L5 x2 (wrap64 (x3 + 1))) (wrap64 (x4 + 1))).f0)), true)) else (some (mn (wrap64 (t158 + ((rd_T47 (rd_L5 x2 (wrap64 (x3 + 1))) x4).f0))) (wrap64 (t162 + ((rd_T47 (rd_L5 x2 x3) (wrap64 (x4 + 1))).f0))), false))) else (none))) else (some (mn (wrap64 (t158 + ((rd_T47 (rd_L5 x2 (wrap64 (x3 + 1))) x4).f0))) (wrap64 (t162 + ((rd_T47 (rd_L5 x2 x3) (wrap64 (x4 + 1))).f0))), false)))) else (none)) else (none)) else (none))) else (none)) else (none)) else (none)) else (none)) else (none))) else (none)) else (none))))
def diff_best.f : Nat → List (S24) → List (S24) → List (List (S47)) → Int → Int → Option (Int × Bool)
 | 0, _, _, _, _, _ => none
 | k + 1, l0, l1, l2, a3, a4 => if a3 = (l0.length : Int) then (diff_best.j0 k l0 l1 l2 a3 a4 (a4 == (l1.length : Int))) else (diff_best.j0 k l0 l1 l2 a3 a4 false)
def diff_table.l0 : Nat → List (S24) → List (S24) → List (List (S47)) → Int → Option ((List (List (S47))))
 | 0, _, _, _, _ => none
 | k + 1, x0, x1, x5, x6 => if x6 ≥ 0 then (if 0 ≤ (wrap64 ((x1.length : Int) + 1)) then (if (wrap64 ((x1.length : Int) + 1) : Int).toNat ≤ 17592186044416 then (if 0 ≤ x6 then (if x6 < (x5.length : Int) then (diff_table.l1 k x0 x1 (x5.set (x6 : Int).toNat (List.replicate (wrap64 ((x1.length : Int) + 1) : Int).toNat z47)) x6 (x1.length : Int)) else (none)) else (none)) else (none)) else (none)) else (some x5)
def diff_table.l1 : Nat → List (S24) → List (S24) → List (List (S47)) → Int → Int → Option ((List (List (S47))))
 | 0, _, _, _, _, _ => none
 | k + 1, x0, x1, x5, x6, x7 => if x7 ≥ 0 then (if 0 ≤ x6 then (if x6 < (x5.length : Int) then ((diff_best.f k x0 x1 x5 x6 x7).bind fun bt182 => (if 0 ≤ x7 then (if x7 < ((rd_L5 x5 x6).length : Int) then (diff_table.l1 k x0 x1 (x5.set (x6 : Int).toNat ((rd_L5 x5 x6).set (x7 : Int).toNat (⟨bt182.1, bt182.2⟩ : S47))) x6 (wrap64 (x7 - 1))) else (none)) else (none))) else (none)) else (none)) else (diff_table.l0 k x0 x1 x5 (wrap64 (x6 - 1)))
def diff_table.f : Nat → List (S24) → List (S24) → Option ((List (List (S47))))
 | 0, _, _ => none
 | k + 1, l0, l1 => if 0 ≤ (wrap64 ((l0.length : Int) + 1)) then (if (wrap64 ((l0.length : Int) + 1) : Int).toNat ≤ 11728124029610 then (diff_table.l0 k l0 l1 (List.replicate (wrap64 ((l0.length : Int) + 1) : Int).toNat []) (l0.length : Int)) else (none)) else (none)
end
theorem diff_table.mono_g : ∀ k, (∀ y0 y1 y2 y3 y4 y5 y6 y7, LeO (diff_pair.f k y0 y1 y2 y3 y4 y5 y6 y7) (diff_pair.f (k + 1) y0 y1 y2 y3 y4 y5 y6 y7)) ∧ (∀ y0 y1 y2 y3 y4 y5 y6 y7 y8, LeO (diff_pair.j0 k y0 y1 y2 y3 y4 y5 y6 y7 y8) (diff_pair.j0 (k + 1) y0 y1 y2 y3 y4 y5 y6 y7 y8)) ∧ (∀ y0 y1 y2 y3 y4 y5 y6 y7 y8 y9 y10, LeO (diff_pair.l0 k y0 y1 y2 y3 y4 y5 y6 y7 y8 y9 y10) (diff_pair.l0 (k + 1) y0 y1 y2 y3 y4 y5 y6 y7 y8 y9 y10)) ∧ (∀ y0 y1 y2 y3 y4, LeO (diff_best.f k y0 y1 y2 y3 y4) (diff_best.f (k + 1) y0 y1 y2 y3 y4)) ∧ (∀ y0 y1 y2 y3 y4 y5, LeO (diff_best.j0 k y0 y1 y2 y3 y4 y5) (diff_best.j0 (k + 1) y0 y1 y2 y3 y4 y5)) ∧ (∀ y0 y1, LeO (diff_table.f k y0 y1) (diff_table.f (k + 1) y0 y1)) ∧ (∀ y0 y1 y2 y3, LeO (diff_table.l0 k y0 y1 y2 y3) (diff_table.l0 (k + 1) y0 y1 y2 y3)) ∧ (∀ y0 y1 y2 y3 y4, LeO (diff_table.l1 k y0 y1 y2 y3 y4) (diff_table.l1 (k + 1) y0 y1 y2 y3 y4))
 | 0 => ⟨fun _ _ _ _ _ _ _ _ r h => by simp [diff_pair.f] at h, fun _ _ _ _ _ _ _ _ _ r h => by simp [diff_pair.j0] at h, fun _ _ _ _ _ _ _ _ _ _ _ r h => by simp [diff_pair.l0] at h, fun _ _ _ _ _ r h => by simp [diff_best.f] at h, fun _ _ _ _ _ _ r h => by simp [diff_best.j0] at h, fun _ _ r h => by simp [diff_table.f] at h, fun _ _ _ _ r h => by simp [diff_table.l0] at h, fun _ _ _ _ _ r h => by simp [diff_table.l1] at h⟩
 | k + 1 => by
  obtain ⟨ih0, ih1, ih2, ih3, ih4, ih5, ih6, ih7⟩ := diff_table.mono_g k
  refine ⟨?_, ?_, ?_, ?_, ?_, ?_, ?_, ?_⟩
  ·intro y0 y1 y2 y3 y4 y5 y6 y7
   unfold diff_pair.f
   repeat' first
   | (with_reducible exact ih0 _ _ _ _ _ _ _ _)
   | (with_reducible exact ih1 _ _ _ _ _ _ _ _ _)
   | (with_reducible exact ih2 _ _ _ _ _ _ _ _ _ _ _)
   | (with_reducible exact ih3 _ _ _ _ _)
   | (with_reducible exact ih4 _ _ _ _ _ _)
   | (with_reducible exact ih5 _ _)
   | (with_reducible exact ih6 _ _ _ _)
   | (with_reducible exact ih7 _ _ _ _ _)
   | (with_reducible exact node_Count.mono _ _ _ _ _)
   | (with_reducible exact LeO.refl _)
   | (with_reducible exact LeO.none _)
   | (with_reducible refine LeO.ite ?_ ?_)
   | (with_reducible refine LeO.bind ?_ (fun _ => ?_))
   | exact ih0 _ _ _ _ _ _ _ _
   | exact ih1 _ _ _ _ _ _ _ _ _
   | exact ih2 _ _ _ _ _ _ _ _ _ _ _
   | exact ih3 _ _ _ _ _
   | exact ih4 _ _ _ _ _ _
   | exact ih5 _ _
   | exact ih6 _ _ _ _
   | exact ih7 _ _ _ _ _
   | exact node_Count.mono _ _ _ _ _
   | exact LeO.none _
   | refine LeO.ite ?_ ?_
   | refine LeO.bind ?_ (fun _ => ?_)
  ·intro y0 y1 y2 y3 y4 y5 y6 y7 y8
   unfold diff_pair.j0
   repeat' first
   | (with_reducible exact ih0 _ _ _ _ _ _ _ _)
   | (with_reducible exact ih1 _ _ _ _ _ _ _ _ _)
   | (with_reducible exact ih2 _ _ _ _ _ _ _ _ _ _ _)
   | (with_reducible exact ih3 _ _ _ _ _)
   | (with_reducible exact ih4 _ _ _ _ _ _)
   | (with_reducible exact ih5 _ _)
   | (with_reducible exact ih6 _ _ _ _)
   | (with_reducible exact ih7 _ _ _ _ _)
   | (with_reducible exact node_Count.mono _ _ _ _ _)
   | (with_reducible exact LeO.refl _)
   | (with_reducible exact LeO.none _)
   | (with_reducible refine LeO.ite ?_ ?_)
   | (with_reducible refine LeO.bind ?_ (fun _ => ?_))
   | exact ih0 _ _ _ _ _ _ _ _
   | exact ih1 _ _ _ _ _ _ _ _ _
   | exact ih2 _ _ _ _ _ _ _ _ _ _ _
   | exact ih3 _ _ _ _ _
   | exact ih4 _ _ _ _ _ _
   | exact ih5 _ _
   | exact ih6 _ _ _ _
   | exact ih7 _ _ _ _ _
   | exact node_Count.mono _ _ _ _ _
   | exact LeO.none _
   | refine LeO.ite ?_ ?_
   | refine LeO.bind ?_ (fun _ => ?_)
  ·intro y0 y1 y2 y3 y4 y5 y6 y7 y8 y9 y10
   unfold diff_pair.l0
   repeat' first
   | (with_reducible exact ih0 _ _ _ _ _ _ _ _)
   | (with_reducible exact ih1 _ _ _ _ _ _ _ _ _)
   | (with_reducible exact ih2 _ _ _ _ _ _ _ _ _ _ _)
   | (with_reducible exact ih3 _ _ _ _ _)
   | (with_reducible exact ih4 _ _ _ _ _ _)
   | (with_reducible exact ih5 _ _)
   | (with_reducible exact ih6 _ _ _ _)
   | (with_reducible exact ih7 _ _ _ _ _)
   | (with_reducible exact node_Count.mono _ _ _ _ _)
   | (with_reducible exact LeO.refl _)
   | (with_reducible exact LeO.none _)
   | (with_reducible refine LeO.ite ?_ ?_)
   | (with_reducible refine LeO.bind ?_ (fun _ => ?_))
   | exact ih0 _ _ _ _ _ _ _ _
   | exact ih1 _ _ _ _ _ _ _ _ _
   | exact ih2 _ _ _ _ _ _ _ _ _ _ _
   | exact ih3 _ _ _ _ _
   | exact ih4 _ _ _ _ _ _
   | exact ih5 _ _
   | exact ih6 _ _ _ _
   | exact ih7 _ _ _ _ _
   | exact node_Count.mono _ _ _ _ _
   | exact LeO.none _
   | refine LeO.ite ?_ ?_
   | refine LeO.bind ?_ (fun _ => ?_)
  ·intro y0 y1 y2 y3 y4
   unfold diff_best.f
   repeat' first
   | (with_reducible exact ih0 _ _ _ _ _ _ _ _)
   | (with_reducible exact ih1 _ _ _ _ _ _ _ _ _)
   | (with_reducible exact ih2 _ _ _ _ _ _ _ _ _ _ _)
   | (with_reducible exact ih3 _ _ _ _ _)
   | (with_reducible exact ih4 _ _ _ _ _ _)
   | (with_reducible exact ih5 _ _)
   | (with_reducible exact ih6 _ _ _ _)
   | (with_reducible exact ih7 _ _ _ _ _)
   | (with_reducible exact node_Count.mono _ _ _ _ _)
   | (with_reducible exact LeO.refl _)
   | (with_reducible exact LeO.none _)
   | (with_reducible refine LeO.ite ?_ ?_)
   | (with_reducible refine LeO.bind ?_ (fun _ => ?_))
   | exact ih0 _ _ _ _ _ _ _ _
   | exact ih1 _ _ _ _ _ _ _ _ _
   | exact ih2 _ _ _ _ _ _ _ _ _ _ _
   | exact ih3 _ _ _ _ _
   | exact ih4 _ _ _ _ _ _
   | exact ih5 _ _
   | exact ih6 _ _ _ _
   | exact ih7 _ _ _ _ _
   | exact node_Count.mono _ _ _ _ _
   | exact LeO.none _
   | refine LeO.ite ?_ ?_
   | refine LeO.bind ?_ (fun _ => ?_)
  ·intro y0 y1 y2 y3 y4 y5
   unfold diff_best.j0
   repeat' first
   | (with_reducible exact ih0 _ _ _ _ _ _ _ _)
   | (with_reducible exact ih1 _ _ _ _ _ _ _ _ _)
   | (with_reducible exact ih2 _ _ _ _ _ _ _ _ _ _ _)
   | (with_reducible exact ih3 _ _ _ _ _)
   | (with_reducible exact ih4 _ _ _ _ _ _)
   | (with_reducible exact ih5 _ _)
   | (with_reducible exact ih6 _ _ _ _)
   | (with_reducible exact ih7 _ _ _ _ _)
   | (with_reducible exact node_Count.mono _ _ _ _ _)
   | (with_reducible exact LeO.refl _)
   | (with_reducible exact LeO.none _)
   | (with_reducible refine LeO.ite ?_ ?_)
   | (with_reducible refine LeO.bind ?_ (fun _ => ?_))
   | exact ih0 _ _ _ _ _ _ _ _
   | exact ih1 _ _ _ _ _ _ _ _ _
   | exact ih2 _ _ _ _ _ _ _ _ _ _ _
   | exact ih3 _ _ _ _ _
   | exact ih4 _ _ _ _ _ _
   | exact ih5 _ _
   | exact ih6 _ _ _ _
   | exact ih7 _ _ _ _ _
   | exact node_Count.mono _ _ _ _ _
   | exact LeO.none _
   | refine LeO.ite ?_ ?_
   | refine LeO.bind ?_ (fun _ => ?_)
  ·intro y0 y1
   unfold diff_table.f
   repeat' first
   | (with_reducible exact ih0 _ _ _ _ _ _ _ _)
   | (with_reducible exact ih1 _ _ _ _ _ _ _ _ _)
   | (with_reducible exact ih2 _ _ _ _ _ _ _ _ _ _ _)
   | (with_reducible exact ih3 _ _ _ _ _)
   | (with_reducible exact ih4 _ _ _ _ _ _)
   | (with_reducible exact ih5 _ _)
   | (with_reducible exact ih6 _ _ _ _)
   | (with_reducible exact ih7 _ _ _ _ _)
   | (with_reducible exact node_Count.mono _ _ _ _ _)
   | (with_reducible exact LeO.refl _)
   | (with_reducible exact LeO.none _)
   | (with_reducible refine LeO.ite ?_ ?_)
   | (with_reducible refine LeO.bind ?_ (fun _ => ?_))
   | exact ih0 _ _ _ _ _ _ _ _
   | exact ih1 _ _ _ _ _ _ _ _ _
   | exact ih2 _ _ _ _ _ _ _ _ _ _ _
   | exact ih3 _ _ _ _ _
   | exact ih4 _ _ _ _ _ _
   | exact ih5 _ _
   | exact ih6 _ _ _ _
   | exact ih7 _ _ _ _ _
   | exact node_Count.mono _ _ _ _ _
   | exact LeO.none _
   | refine LeO.ite ?_ ?_
   | refine LeO.bind ?_ (fun _ => ?_)
  ·intro y0 y1 y2 y3
   unfold diff_table.l0
   repeat' first
   | (with_reducible exact ih0 _ _ _ _ _ _ _ _)
   | (with_reducible exact ih1 _ _ _ _ _ _ _ _ _)
   | (with_reducible exact ih2 _ _ _ _ _ _ _ _ _ _ _)
   | (with_reducible exact ih3 _ _ _ _ _)
   | (with_reducible exact ih4 _ _ _ _ _ _)
   | (with_reducible exact ih5 _ _)
   | (with_reducible exact ih6 _ _ _ _)
   | (with_reducible exact ih7 _ _ _ _ _)
   | (with_reducible exact node_Count.mono _ _ _ _ _)
   | (with_reducible exact LeO.refl _)
   | (with_reducible exact LeO.none _)
   | (with_reducible refine LeO.ite ?_ ?_)
   | (with_reducible refine LeO.bind ?_ (fun _ => ?_))
   | exact ih0 _ _ _ _ _ _ _ _
   | exact ih1 _ _ _ _ _ _ _ _ _
   | exact ih2 _ _ _ _ _ _ _ _ _ _ _
   | exact ih3 _ _ _ _ _
   | exact ih4 _ _ _ _ _ _
   | exact ih5 _ _
   | exact ih6 _ _ _ _
   | exact ih7 _ _ _ _ _
   | exact node_Count.mono _ _ _ _ _
   | exact LeO.none _
   | refine LeO.ite ?_ ?_
   | refine LeO.bind ?_ (fun _ => ?_)
  ·intro y0 y1 y2 y3 y4
   unfold diff_table.l1
   repeat' first
   | (with_reducible exact ih0 _ _ _ _ _ _ _ _)
   | (with_reducible exact ih1 _ _ _ _ _ _ _ _ _)
   | (with_reducible exact ih2 _ _ _ _ _ _ _ _ _ _ _)
   | (with_reducible exact ih3 _ _ _ _ _)
   | (with_reducible exact ih4 _ _ _ _ _ _)
   | (with_reducible exact ih5 _ _)
   | (with_reducible exact ih6 _ _ _ _)
   | (with_reducible exact ih7 _ _ _ _ _)
   | (with_reducible exact node_Count.mono _ _ _ _ _)
   | (with_reducible exact LeO.refl _)
   | (with_reducible exact LeO.none _)
   | (with_reducible refine LeO.ite ?_ ?_)
   | (with_reducible refine LeO.bind ?_ (fun _ => ?_))
   | exact ih0 _ _ _ _ _ _ _ _
   | exact ih1 _ _ _ _ _ _ _ _ _
   | exact ih2 _ _ _ _ _ _ _ _ _ _ _
   | exact ih3 _ _ _ _ _
   | exact ih4 _ _ _ _ _ _
   | exact ih5 _ _
   | exact ih6 _ _ _ _
   | exact ih7 _ _ _ _ _
   | exact node_Count.mono _ _ _ _ _
   | exact LeO.none _
   | refine LeO.ite ?_ ?_
   | refine LeO.bind ?_ (fun _ => ?_)
theorem diff_pair.mono : ∀ a0 a1 a2 a3 a4 a5 a6 a7 k, LeO (diff_pair.f k a0 a1 a2 a3 a4 a5 a6 a7) (diff_pair.f (k + 1) a0 a1 a2 a3 a4 a5 a6 a7) := by
 intro a0 a1 a2 a3 a4 a5 a6 a7 k
 obtain ⟨ih0, ih1, ih2, ih3, ih4, ih5, ih6, ih7⟩ := diff_table.mono_g k
 exact ih0 a0 a1 a2 a3 a4 a5 a6 a7
theorem diff_best.mono : ∀ a0 a1 a2 a3 a4 k, LeO (diff_best.f k a0 a1 a2 a3 a4) (diff_best.f (k + 1) a0 a1 a2 a3 a4) := by
 intro a0 a1 a2 a3 a4 k
 obtain ⟨ih0, ih1, ih2, ih3, ih4, ih5, ih6, ih7⟩ := diff_table.mono_g k
 exact ih3 a0 a1 a2 a3 a4
theorem diff_table.mono : ∀ a0 a1 k, LeO (diff_table.f k a0 a1) (diff_table.f (k + 1) a0 a1) := by
 intro a0 a1 k
 obtain ⟨ih0, ih1, ih2, ih3, ih4, ih5, ih6, ih7⟩ := diff_table.mono_g k
 exact ih5 a0 a1

set_option maxHeartbeats 8000000 in
set_option maxRecDepth 100000 in
theorem diff_pair.step (k : Nat) (ih_43 : ∀ m_, m_ < k → ∀ (a0_0 : Int) (a0_1 : ByteArray) (a0_2 : Int) (A0_3 : Option Addr) (c0_3 : Nat) (l0_3 : List (S24)) (a1_0 : Int) (a1_1 : ByteArray) (a1_2 : Int) (A1_3 : Option Addr) (c1_3 : Nat) (l1_3 : List (S24)) (r : Int) (w : World) (hr0_3 : Kd.C k24 w A0_3 l0_3.length l0_3) (hc0_3 : l0_3.length ≤ c0_3) (hr1_3 : Kd.C k24 w A1_3 l1_3.length l1_3) (hc1_3 : l1_3.length ≤ c1_3) (h : diff_pair.f m_ a0_0 a0_1 a0_2 l0_3 a1_0 a1_1 a1_2 l1_3 = some r),
  Calls Tryd.prog 43 #[.agg #[.int .i64 a0_0, .string a0_1, .int .i64 a0_2, .slice A0_3 l0_3.length c0_3], .agg #[.int .i64 a1_0, .string a1_1, .int .i64 a1_2, .slice A1_3 l1_3.length c1_3]] w fun e w' => e = .returned (.int .i64 r) ∧ Below w.heap.size w w') (ih_31 : ∀ m_, m_ < k → ∀ (A0 : Option Addr) (c0 : Nat) (l0 : List (S24)) (A1 : Option Addr) (c1 : Nat) (l1 : List (S24)) (A2 : Option Addr) (c2 : Nat) (l2 : List (List (S47))) (a3 : Int) (a4 : Int) (r1 : Int) (r2 : Bool) (w : World) (hr0 : Kd.C k24 w A0 l0.length l0) (hc0 : l0.length ≤ c0) (hr1 : Kd.C k24 w A1 l1.length l1) (hc1 : l1.length ≤ c1) (hr2 : Kd.C (Kd.slice 47 k47) w A2 l2.length l2) (hc2 : l2.length ≤ c2) (h : diff_best.f m_ l0 l1 l2 a3 a4 = some (r1, r2)),
  Calls Tryd.prog 31 #[.slice A0 l0.length c0, .slice A1 l1.length c1, .slice A2 l2.length c2, .int .i64 a3, .int .i64 a4] w fun e w' => e = .returned (.agg #[.int .i64 r1, .bool r2]) ∧ Below w.heap.size w w') (ih_21 : ∀ m_, m_ < k → ∀ (A0 : Option Addr) (c0 : Nat) (l0 : List (S24)) (A1 : Option Addr) (c1 : Nat) (l1 : List (S24)) (r : List (List (S47))) (w : World) (hr0 : Kd.C k24 w A0 l0.length l0) (hc0 : l0.length ≤ c0) (hr1 : Kd.C k24 w A1 l1.length l1) (hc1 : l1.length ≤ c1) (h : diff_table.f m_ l0 l1 = some r),
  Calls Tryd.prog 21 #[.slice A0 l0.length c0, .slice A1 l1.length c1] w fun e w' => ∃ v0_ : Value, e = .returned (v0_) ∧ Kd.S (Kd.slice 47 k47) 48 w' w.heap.size (fun _ => True) v0_ r ∧ Below w.heap.size w w') : ∀ (a0_0 : Int) (a0_1 : ByteArray) (a0_2 : Int) (A0_3 : Option Addr) (c0_3 : Nat) (l0_3 : List (S24)) (a1_0 : Int) (a1_1 : ByteArray) (a1_2 : Int) (A1_3 : Option Addr) (c1_3 : Nat) (l1_3 : List (S24)) (r : Int) (w : World) (hr0_3 : Kd.C k24 w A0_3 l0_3.length l0_3) (hc0_3 : l0_3.length ≤ c0_3) (hr1_3 : Kd.C k24 w A1_3 l1_3.length l1_3) (hc1_3 : l1_3.length ≤ c1_3) (h : diff_pair.f k a0_0 a0_1 a0_2 l0_3 a1_0 a1_1 a1_2 l1_3 = some r),
  Calls Tryd.prog 43 #[.agg #[.int .i64 a0_0, .string a0_1, .int .i64 a0_2, .slice A0_3 l0_3.length c0_3], .agg #[.int .i64 a1_0, .string a1_1, .int .i64 a1_2, .slice A1_3 l1_3.length c1_3]] w fun e w' => e = .returned (.int .i64 r) ∧ Below w.heap.size w w' := by
 intro a0_0 a0_1 a0_2 A0_3 c0_3 l0_3 a1_0 a1_1 a1_2 A1_3 c1_3 l1_3 r w hr0_3 hc0_3 hr1_3 hc1_3 h
 cases k with
 | zero => exact absurd h (by simp [diff_pair.f])
 | succ k =>
 simp only [diff_pair.f] at h
 have hu24 := Tryd.underlying24
 have HR0_3 := Aside0.mk hr0_3
 have HC0_3 := Aside0.mk hc0_3
 clear hr0_3 hc0_3
 have HR1_3 := Aside0.mk hr1_3
 have HC1_3 := Aside0.mk hc1_3
 clear hr1_3 hc1_3
 have HB := Aside0.mk (Below.refl w.heap.size w)
 have H : (if a0_1.toList = a1_1.toList then (diff_pair.j0 k 0 a0_0 a0_1 a0_2 l0_3 a1_0 a1_1 a1_2 l1_3) else (diff_pair.j0 k 1 a0_0 a0_1 a0_2 l0_3 a1_0 a1_1 a1_2 l1_3)) = some r := h
 clear h
 have HC3 := Aside0.mk H
 clear H
 go_enter Tryd.func43, Tryd.ntmps43
 go_upto_if 11 with (first | ((with_reducible refine gate_dst (N := 2) rfl ?_); refine box_event ?hg (N := 2) ?hd (cs := #[.int .i64 a0_0, .string a0_1, .int .i64 a0_2, .slice A0_3 l0_3.length c0_3]) (t := 24) ?hr ?_; (case hd => rfl); (case hg => rfl); (case hr => first | (go_simp; done) | (go_simp; rfl)); intro gb139 hg w4 hbox hb; have n0_ := Aside0.mk (below_step (bs0_ HB.out) hb); have n1_ := Aside0.mk (hbox); have n2_ := Aside0.mk ((by rw [hg]; exact (below_size (bs0_ HB.out)) : w.heap.size ≤ gb139)); have n3_ := Aside0.mk ((by rw [hg]; exact (below_size (bs0_ HB.out)) : w.heap.size ≤ gb139)); clear HB; have HB := n0_; have BK139 := n1_; have GW139 := n2_; have GE139 := n3_; clear n0_ n1_ n2_ n3_; clear hb hbox hg) | ((with_reducible refine gate_dst (N := 3) rfl ?_); refine box_event ?hg (N := 3) ?hd (cs := #[.int .i64 a1_0, .string a1_1, .int .i64 a1_2, .slice A1_3 l1_3.length c1_3]) (t := 24) ?hr ?_; (case hd => rfl); (case hg => rfl); (case hr => first | (go_simp; done) | (go_simp; rfl)); intro gb140 hg w5 hbox hb; have n0_ := Aside0.mk (blk_below (g := gb139) (o := .cells #[.int .i64 a0_0, .string a0_1, .int .i64 a0_2, .slice A0_3 l0_3.length c0_3] 24 (0, 0)) (bk_ BK139.out) hb); have n1_ := Aside0.mk (below_step (bs1_ HB.out GE139.out) hb); have n2_ := Aside0.mk (hbox); have n3_ := Aside0.mk ((by rw [hg]; exact (below_size (bs1_ HB.out GE139.out)) : w.heap.size ≤ gb140)); have n4_ := Aside0.mk ((by rw [hg]; exact (below_size (bs1_ HB.out GE139.out)) : w.heap.size ≤ gb140)); have n5_ := Aside0.mk ((by rw [hg]; exact Nat.ne_of_lt (blk_lt (g := gb139) (o := .cells #[.int .i64 a0_0, .string a0_1, .int .i64 a0_2, .slice A0_3 l0_3.length c0_3] 24 (0, 0)) (bk_ BK139.out)) : gb139 ≠ gb140)); have n6_ := Aside0.mk ((by rw [hg]; exact Nat.ne_of_gt (blk_lt (g := gb139) (o := .cells #[.int .i64 a0_0, .string a0_1, .int .i64 a0_2, .slice A0_3 l0_3.length c0_3] 24 (0, 0)) (bk_ BK139.out)) : gb140 ≠ gb139)); clear BK139; clear HB; have BK139 := n0_; have HB := n1_; have BK140 := n2_; have GW140 := n3_; have GE140 := n4_; have NB139_140 := n5_; have NB140_139 := n6_; clear n0_ n1_ n2_ n3_ n4_ n5_ n6_; clear hb hbox hg; have hnb6 := NB139_140.out; have hnc6 := NB140_139.out; have hcz7_0 : w5.cell? ⟨gb139, 0, none⟩ = some (.int .i64 a0_0) := (blk_cell BK139.out 0).trans rfl; have hcz7_1 : w5.cell? ⟨gb139, 1, none⟩ = some (.string a0_1) := (blk_cell BK139.out 1).trans rfl; have hcz7_2 : w5.cell? ⟨gb139, 2, none⟩ = some (.int .i64 a0_2) := (blk_cell BK139.out 2).trans rfl; have hcz7_3 : w5.cell? ⟨gb139, 3, none⟩ = some (.slice A0_3 l0_3.length c0_3) := (blk_cell BK139.out 3).trans rfl; have hfz7_0 := blk_frozen BK139.out 0; have hfz7_1 := blk_frozen BK139.out 1; have hfz7_2 := blk_frozen BK139.out 2; have hfz7_3 := blk_frozen BK139.out 3; have hcz8_0 : w5.cell? ⟨gb140, 0, none⟩ = some (.int .i64 a1_0) := (blk_cell BK140.out 0).trans rfl; have hcz8_1 : w5.cell? ⟨gb140, 1, none⟩ = some (.string a1_1) := (blk_cell BK140.out 1).trans rfl; have hcz8_2 : w5.cell? ⟨gb140, 2, none⟩ = some (.int .i64 a1_2) := (blk_cell BK140.out 2).trans rfl; have hcz8_3 : w5.cell? ⟨gb140, 3, none⟩ = some (.slice A1_3 l1_3.length c1_3) := (blk_cell BK140.out 3).trans rfl; have hfz8_0 := blk_frozen BK140.out 0; have hfz8_1 := blk_frozen BK140.out 1; have hfz8_2 := blk_frozen BK140.out 2; have hfz8_3 := blk_frozen BK140.out 3))
 (try simp only [Act.put, List.setIfInBounds_toArray, List.set_cons_zero, List.set_cons_succ])
 go_cut [5] (fun v5 wc => ∃ (kq : Nat) (x5_2 : Int), v5 = .int .i64 x5_2 ∧ Aside0 (diff_pair.j0 kq x5_2 a0_0 a0_1 a0_2 l0_3 a1_0 a1_1 a1_2 l1_3 = some r) ∧ Aside0 (kq ≤ k) ∧ Aside0 (wc.heap[gb139]? = some (.cells #[.int .i64 a0_0, .string a0_1, .int .i64 a0_2, (.slice A0_3 l0_3.length c0_3)] 24 (0, 0))) ∧ Aside0 (wc.heap[gb140]? = some (.cells #[.int .i64 a1_0, .string a1_1, .int .i64 a1_2, (.slice A1_3 l1_3.length c1_3)] 24 (0, 0))) ∧ Aside0 (Below w.heap.size w wc))
 case first =>
  have H := HC3.out
  clear HC3
  by_cases c9 : a0_1.toList = a1_1.toList
  ·rw [if_pos c9] at H
   have c9b0 : (a0_1.toList == a1_1.toList) = true := beq_iff_eq.mpr c9
   have c9b1 : (a0_1.toList != a1_1.toList) = false := bne_eq_false_iff_eq.mpr c9
   clear c9
   (first | rw [c9b0] | (simp only [i64_w, i32_w]; rw [c9b0]) | skip)
   have H' := Aside0.mk H
   clear H
   go_wp2
   go_meet
   case rel => exact ⟨_, (0), (by first | rfl | (simp; done) | (simp [*]; done)), H', ⟨by first | omega | exact Nat.le_refl _⟩, ⟨bk_ BK139.out⟩, ⟨bk_ BK140.out⟩, ⟨bs2_ HB.out GE139.out GE140.out⟩⟩
  ·rw [if_neg c9] at H
   have c9b0 : (a0_1.toList == a1_1.toList) = false := beq_eq_false_iff_ne.mpr c9
   have c9b1 : (a0_1.toList != a1_1.toList) = true := bne_iff_ne.mpr c9
   (first | rw [c9b0] | (simp only [i64_w, i32_w]; rw [c9b0]) | skip)
   have H' := Aside0.mk H
   clear H
   go_wp2
   go_meet
   case rel => exact ⟨_, (1), (by first | rfl | (simp; done) | (simp [*]; done)), H', ⟨by first | omega | exact Nat.le_refl _⟩, ⟨bk_ BK139.out⟩, ⟨bk_ BK140.out⟩, ⟨bs2_ HB.out GE139.out GE140.out⟩⟩
 case rest =>
  clear HC3; (try clear c1); (try clear p2); (try clear c4); (try clear c6); (try clear c9); (try clear c9b0); (try clear c9b1); (try clear hcz7_0); (try clear hcz7_1); (try clear hcz7_2); (try clear hcz7_3); (try clear hcz8_0); (try clear hcz8_1); (try clear hcz8_2); (try clear hcz8_3); (try clear hfz7_0); (try clear hfz7_1); (try clear hfz7_2); (try clear hfz7_3); (try clear hfz8_0); (try clear hfz8_1); (try clear hfz8_2); (try clear hfz8_3)
  obtain ⟨kq, x5_2, rfl, HA, HJ2, BK139, BK140, HB⟩ := hcut
  cases kq with
  | zero => exact absurd HA.out (by simp [diff_pair.j0])
  | succ kj2 =>
   have H := HA.out
   clear HA
   simp only [diff_pair.j0] at H
   have H' := Aside0.mk H
   clear H
   have hnb10 := NB139_140.out
   have hnc10 := NB140_139.out
   have hcz11_0 : wc.cell? ⟨gb139, 0, none⟩ = some (.int .i64 a0_0) := (blk_cell BK139.out 0).trans rfl
   have hcz11_1 : wc.cell? ⟨gb139, 1, none⟩ = some (.string a0_1) := (blk_cell BK139.out 1).trans rfl
   have hcz11_2 : wc.cell? ⟨gb139, 2, none⟩ = some (.int .i64 a0_2) := (blk_cell BK139.out 2).trans rfl
   have hcz11_3 : wc.cell? ⟨gb139, 3, none⟩ = some (.slice A0_3 l0_3.length c0_3) := (blk_cell BK139.out 3).trans rfl
   have hfz11_0 := blk_frozen BK139.out 0
   have hfz11_1 := blk_frozen BK139.out 1
   have hfz11_2 := blk_frozen BK139.out 2
   have hfz11_3 := blk_frozen BK139.out 3
   go_wp2
   go_loopg [5, 15] kj2 (fun kq v5 v15 w' => ∃ (x5_2 : Int) (x15_2 : Int), v5 = .int .i64 x5_2 ∧ v15 = .int .i64 x15_2 ∧ Aside0 (diff_pair.l0 kq x5_2 (l0_3.length : Int) x15_2 a0_0 a0_1 a0_2 l0_3 a1_0 a1_1 a1_2 l1_3 = some r) ∧ Aside0 (kq ≤ kj2) ∧ Aside0 (w'.heap[gb139]? = some (.cells #[.int .i64 a0_0, .string a0_1, .int .i64 a0_2, (.slice A0_3 l0_3.length c0_3)] 24 (0, 0))) ∧ Aside0 (w'.heap[gb140]? = some (.cells #[.int .i64 a1_0, .string a1_1, .int .i64 a1_2, (.slice A1_3 l1_3.length c1_3)] 24 (0, 0))) ∧ Aside0 (Below w.heap.size w w'))
   case atStart => exact ⟨(x5_2), (0), (by first | rfl | (simp; done) | (simp [*]; done)), (by first | rfl | (simp; done) | (simp [*]; done)), H', ⟨Nat.le_refl _⟩, ⟨bk_ BK139.out⟩, ⟨bk_ BK140.out⟩, ⟨bs2_ HB.out GE139.out GE140.out⟩⟩
   case round =>
    clear H'; (try clear c1); (try clear p2); (try clear c4); (try clear c6); (try clear c9); (try clear c9b0); (try clear c9b1); (try clear c10); (try clear hcz11_0); (try clear hcz11_1); (try clear hcz11_2); (try clear hcz11_3); (try clear hcz7_0); (try clear hcz7_1); (try clear hcz7_2); (try clear hcz7_3); (try clear hcz8_0); (try clear hcz8_1); (try clear hcz8_2); (try clear hcz8_3); (try clear hfz11_0); (try clear hfz11_1); (try clear hfz11_2); (try clear hfz11_3); (try clear hfz7_0); (try clear hfz7_1); (try clear hfz7_2); (try clear hfz7_3); (try clear hfz8_0); (try clear hfz8_1); (try clear hfz8_2); (try clear hfz8_3); (try clear p2)
    obtain ⟨x5_2, x15_2, rfl, rfl, HA, HK2, BK139, BK140, HB⟩ := hrel
    cases gk with
    | zero => exact absurd HA.out (by simp [diff_pair.l0])
    | succ k2 =>
     have H := HA.out
     clear HA
     simp only [diff_pair.l0] at H
     by_cases c12 : x15_2 < (l0_3.length : Int)
     ·rw [if_pos c12] at H
      have c12b0 : decide (x15_2 < (l0_3.length : Int)) = true := decide_eq_true c12
      clear c12
      by_cases c13 : 0 ≤ x15_2
      ·rw [if_pos c13] at H
       have c13b0 : decide (0 ≤ x15_2) = true := decide_eq_true c13
       clear c13
       by_cases c14 : x15_2 < (l0_3.length : Int)
       ·rw [if_pos c14] at H
        have c14b0 : decide (x15_2 < (l0_3.length : Int)) = true := decide_eq_true c14
        clear c14
        by_cases c15 : x15_2 < (l1_3.length : Int)
        ·rw [if_pos c15] at H
         have c15b0 : decide (x15_2 < (l1_3.length : Int)) = true := decide_eq_true c15
         clear c15
         replace H := Option.bind_eq_some_iff.mp H
         obtain ⟨t143, A160, H⟩ := H
         replace H : (if 0 < (t143.length : Int) then (if 0 < ((rd_L5 t143 0).length : Int) then (diff_pair.l0 k2 (wrap64 (x5_2 + ((rd_T47 (rd_L5 t143 0) 0).f0))) (l0_3.length : Int) (wrap64 (x15_2 + 1)) a0_0 a0_1 a0_2 l0_3 a1_0 a1_1 a1_2 l1_3) else (none)) else (none)) = some r := H
         have A16 := Aside0.mk A160
         clear A160
         by_cases c17 : 0 < (t143.length : Int)
         ·rw [if_pos c17] at H
          have c17b0 : decide (0 < (t143.length : Int)) = true := decide_eq_true c17
          have c17b1 : decide (0 < t143.length) = true := decide_eq_true (by omega)
          clear c17
          by_cases c18 : 0 < ((rd_L5 t143 0).length : Int)
          ·rw [if_pos c18] at H
           have c18b0 : decide (0 < ((rd_L5 t143 0).length : Int)) = true := decide_eq_true c18
           have c18b1 : decide (0 < (rd_L5 t143 0).length) = true := decide_eq_true (by omega)
           clear c18
           have H' := Aside0.mk H
           clear H
           try go_wp2
           have n0_ := Aside0.mk (blk_drew BK139.out)
           have n1_ := Aside0.mk (blk_drew BK140.out)
           have n2_ := Aside0.mk (below_drew1 HB.out)
           clear BK139; clear BK140; clear HB
           have BK139 := n0_
           have BK140 := n1_
           have HB := n2_
           clear n0_ n1_ n2_
           have p141 : 0 ≤ (x15_2 : Int) := of_decide_eq_true (by first | (with_reducible assumption) | assumption)
           have q141 : x15_2 < (l0_3.length : Int) := of_decide_eq_true (by first | (with_reducible assumption) | assumption)
           obtain ⟨ad141, A141_3, c141_3, e141, hx141_0, hx141_1, hx141_2, hx141_3, hl141_3, hi141_3⟩ := at_T24 HR0_3.out x15_2 p141 q141
           have hw141_3 := hx141_3
           have hw141_2 := hx141_2
           have hw141_1 := hx141_1
           have hw141_0 := hx141_0
           cases e141
           replace hx141_0 := (cl_ HB.out hx141_0).trans hx141_0
           replace hx141_1 := (cl_ HB.out hx141_1).trans hx141_1
           replace hx141_2 := (cl_ HB.out hx141_2).trans hx141_2
           replace hx141_3 := (cl_ HB.out hx141_3).trans hx141_3
           have HR141_3 := Aside0.mk hi141_3
           have HC141_3 := Aside0.mk hl141_3
           clear hi141_3 hl141_3
           replace p141 := eq_true p141
           replace q141 := eq_true q141
           have p142 : 0 ≤ (x15_2 : Int) := of_decide_eq_true (by first | (with_reducible assumption) | assumption)
           have q142 : x15_2 < (l1_3.length : Int) := of_decide_eq_true (by first | (with_reducible assumption) | assumption)
           obtain ⟨ad142, A142_3, c142_3, e142, hx142_0, hx142_1, hx142_2, hx142_3, hl142_3, hi142_3⟩ := at_T24 HR1_3.out x15_2 p142 q142
           have hw142_3 := hx142_3
           have hw142_2 := hx142_2
           have hw142_1 := hx142_1
           have hw142_0 := hx142_0
           cases e142
           replace hx142_0 := (cl_ HB.out hx142_0).trans hx142_0
           replace hx142_1 := (cl_ HB.out hx142_1).trans hx142_1
           replace hx142_2 := (cl_ HB.out hx142_2).trans hx142_2
           replace hx142_3 := (cl_ HB.out hx142_3).trans hx142_3
           have HR142_3 := Aside0.mk hi142_3
           have HC142_3 := Aside0.mk hl142_3
           clear hi142_3 hl142_3
           replace p142 := eq_true p142
           replace q142 := eq_true q142
           refine start_ (n := 21) (S := fun w' => w'.cell? ⟨gb139, 0, none⟩ = some (.int .i64 a0_0) ∧ w'.cell? ⟨gb139, 1, none⟩ = some (.string a0_1) ∧ w'.cell? ⟨gb139, 2, none⟩ = some (.int .i64 a0_2) ∧ w'.cell? ⟨gb139, 3, none⟩ = some (.slice (some ad141) l0_3.length c0_3) ∧ w'.cell? ⟨gb140, 0, none⟩ = some (.int .i64 a1_0) ∧ w'.cell? ⟨gb140, 1, none⟩ = some (.string a1_1) ∧ w'.cell? ⟨gb140, 2, none⟩ = some (.int .i64 a1_2) ∧ w'.cell? ⟨gb140, 3, none⟩ = some (.slice (some ad142) l1_3.length c1_3) ∧ w'.cell? (ad141.add ((x15_2).toNat * 4)) = some (.int .i64 ((rd_T24 l0_3 x15_2).f0)) ∧ w'.cell? ⟨(ad141.add ((x15_2).toNat * 4)).block, (ad141.add ((x15_2).toNat * 4)).off + 1, none⟩ = some (.string ((rd_T24 l0_3 x15_2).f1)) ∧ w'.cell? ⟨(ad141.add ((x15_2).toNat * 4)).block, (ad141.add ((x15_2).toNat * 4)).off + 2, none⟩ = some (.int .i64 ((rd_T24 l0_3 x15_2).f2)) ∧ w'.cell? ⟨(ad141.add ((x15_2).toNat * 4)).block, (ad141.add ((x15_2).toNat * 4)).off + 3, none⟩ = some (.slice A141_3 ((rd_T24 l0_3 x15_2).f3).length c141_3) ∧ w'.cell? (ad142.add ((x15_2).toNat * 4)) = some (.int .i64 ((rd_T24 l1_3 x15_2).f0)) ∧ w'.cell? ⟨(ad142.add ((x15_2).toNat * 4)).block, (ad142.add ((x15_2).toNat * 4)).off + 1, none⟩ = some (.string ((rd_T24 l1_3 x15_2).f1)) ∧ w'.cell? ⟨(ad142.add ((x15_2).toNat * 4)).block, (ad142.add ((x15_2).toNat * 4)).off + 2, none⟩ = some (.int .i64 ((rd_T24 l1_3 x15_2).f2)) ∧ w'.cell? ⟨(ad142.add ((x15_2).toNat * 4)).block, (ad142.add ((x15_2).toNat * 4)).off + 3, none⟩ = some (.slice A142_3 ((rd_T24 l1_3 x15_2).f3).length c142_3)) (ds := [13, 15, 18]) #[false, false, false, false, false, false, false, false, false, false, false, false, false, false, false, false, false, false, false, false, false] (by kernel_rfl) rfl rfl ⟨(blk_cell BK139.out 0).trans rfl, (blk_cell BK139.out 1).trans rfl, (blk_cell BK139.out 2).trans rfl, (blk_cell BK139.out 3).trans rfl, (blk_cell BK140.out 0).trans rfl, (blk_cell BK140.out 1).trans rfl, (blk_cell BK140.out 2).trans rfl, (blk_cell BK140.out 3).trans rfl, (ck_ HB.out hw141_0), (ck_ HB.out hw141_1), (ck_ HB.out hw141_2), (ck_ HB.out hw141_3), (ck_ HB.out hw142_0), (ck_ HB.out hw142_1), (ck_ HB.out hw142_2), (ck_ HB.out hw142_3)⟩ (fun hHeld => ?_); refine with_tabW diff_pair.tab7 diff_pair.bits7 (fun HT_ HW_ => ?_)
           generalize wr.drew = w19 at BK139 BK140 HB HR141_3 HR142_3 hx141_0 hx141_1 hx141_2 hx141_3 hx142_0 hx142_1 hx142_2 hx142_3 hHeld ⊢
           refine pure_ (i := 0) (N := some 18) (v := ?_) (a' := ?_) (mk_ 21 1) rfl rfl (an_ HT_.out) (fun _ _ _ h => h) (Or.inl ⟨by rfl, ?_⟩) ?_ ?_
           rotate_left; (intro w'; go_simp; with_reducible rfl); rotate_left; (simp only [Act.put, sp1_, sp2_]; rfl)
           refine pure_ (i := 1) (N := some 19) (v := ?_) (a' := ?_) (mk_ 21 3) rfl rfl (an_ HT_.out) (fun _ _ _ h => h) (Or.inl ⟨by rfl, ?_⟩) ?_ ?_
           rotate_left; (intro w'; go_simp; with_reducible rfl); rotate_left; (simp only [Act.put, sp1_, sp2_]; rfl)
           refine pure_ (i := 3) (N := some 21) (v := ?_) (a' := ?_) (mk_ 21 11) rfl rfl (an_ HT_.out) (fun _ _ _ h => h) (Or.inl ⟨by rfl, ?_⟩) ?_ ?_
           rotate_left; (intro w'; go_simp; with_reducible rfl); rotate_left; (simp only [Act.put, sp1_, sp2_]; rfl)
           refine pure_ (i := 7) (N := some 25) (v := ?_) (a' := ?_) (mk_ 21 139) rfl rfl (an_ HT_.out) (fun _ _ _ h => h) (Or.inl ⟨by rfl, ?_⟩) ?_ ?_
           rotate_left; (intro w'; go_simp; with_reducible rfl); rotate_left; (simp only [Act.put, sp1_, sp2_]; rfl)
           refine pure_ (i := 9) (N := some 27) (v := ?_) (a' := ?_) (mk_ 21 651) rfl rfl (an_ HT_.out) (fun _ _ _ h => h) (Or.inl ⟨by rfl, ?_⟩) ?_ ?_
           rotate_left; (intro w'; go_simp; with_reducible rfl); rotate_left; (simp only [Act.put, sp1_, sp2_]; rfl)
           refine take_ (i := 2) (N := some 20) (v := ?_) (a' := ?_) (mk_ 21 655) rfl rfl (take_ofW HT_.out HW_.out (by kernel_rfl)) (fun _ _ _ h => h) (Or.inl ⟨by rfl, ?_⟩) hHeld ?_ ?_
           rotate_left
           ·rintro w' ⟨s0, s1, s2, s3, s4, s5, s6, s7, s8, s9, s10, s11, s12, s13, s14, s15⟩
            go_simp
            with_reducible rfl
           rotate_left; (simp only [Act.put, sp1_, sp2_]; rfl)
           refine pure_ (i := 4) (N := some 22) (v := ?_) (a' := ?_) (mk_ 21 671) rfl rfl (an_ HT_.out) (fun _ _ _ h => h) (Or.inl ⟨by rfl, ?_⟩) ?_ ?_
           rotate_left; (intro w'; go_simp; with_reducible rfl); rotate_left; (simp only [Act.put, sp1_, sp2_]; rfl)
           refine pure_ (i := 5) (N := some 23) (v := ?_) (a' := ?_) (mk_ 21 703) rfl rfl (an_ HT_.out) (fun _ _ _ h => h) (Or.inl ⟨by rfl, ?_⟩) ?_ ?_
           rotate_left; (intro w'; go_simp; with_reducible rfl); rotate_left; (simp only [Act.put, sp1_, sp2_]; rfl)
           refine take_ (i := 6) (N := some 24) (v := ?_) (a' := ?_) (mk_ 21 767) rfl rfl (take_ofW HT_.out HW_.out (by kernel_rfl)) (fun _ _ _ h => h) (Or.inl ⟨by rfl, ?_⟩) hHeld ?_ ?_
           rotate_left
           ·rintro w' ⟨s0, s1, s2, s3, s4, s5, s6, s7, s8, s9, s10, s11, s12, s13, s14, s15⟩
            go_simp
            with_reducible rfl
           rotate_left; (simp only [Act.put, sp1_, sp2_]; rfl)
           refine take_ (i := 8) (N := some 26) (v := ?_) (a' := ?_) (mk_ 21 1023) rfl rfl (take_ofW HT_.out HW_.out (by kernel_rfl)) (fun _ _ _ h => h) (Or.inl ⟨by rfl, ?_⟩) hHeld ?_ ?_
           rotate_left
           ·rintro w' ⟨s0, s1, s2, s3, s4, s5, s6, s7, s8, s9, s10, s11, s12, s13, s14, s15⟩
            go_simp
            with_reducible rfl
           rotate_left; (simp only [Act.put, sp1_, sp2_]; rfl)
           refine pure_ (i := 10) (N := some 28) (v := ?_) (a' := ?_) (mk_ 21 2047) rfl rfl (an_ HT_.out) (fun _ _ _ h => h) (Or.inl ⟨by rfl, ?_⟩) ?_ ?_
           rotate_left; (intro w'; go_simp; with_reducible rfl); rotate_left; (simp only [Act.put, sp1_, sp2_]; rfl)
           refine pure_ (i := 11) (N := some 29) (v := ?_) (a' := ?_) (mk_ 21 4095) rfl rfl (an_ HT_.out) (fun _ _ _ h => h) (Or.inl ⟨by rfl, ?_⟩) ?_ ?_
           rotate_left; (intro w'; go_simp; with_reducible rfl); rotate_left; (simp only [Act.put, sp1_, sp2_]; rfl)
           refine take_ (i := 12) (N := some 30) (v := ?_) (a' := ?_) (mk_ 21 8191) rfl rfl (take_ofW HT_.out HW_.out (by kernel_rfl)) (fun _ _ _ h => h) (Or.inl ⟨by rfl, ?_⟩) hHeld ?_ ?_
           rotate_left
           ·rintro w' ⟨s0, s1, s2, s3, s4, s5, s6, s7, s8, s9, s10, s11, s12, s13, s14, s15⟩
            go_simp
            with_reducible rfl
           rotate_left; (simp only [Act.put, sp1_, sp2_]; rfl)
           refine last_ (i := 13) (N := some 31) #[true, true, true, true, true, true, true, true, true, true, true, true, true, true, false, false, false, false, false, false, false] rfl rfl (one_of HT_.out (by kernel_rfl)) (by decide) (fun K hK => ?_)
           refine goes_ Tryd.func21 (by kernel_rfl) rfl #[.slice A141_3 ((rd_T24 l0_3 x15_2).f3).length c141_3, .slice A142_3 ((rd_T24 l1_3 x15_2).f3).length c142_3] (by rfl) rfl rfl (by (try simp only [List.map_toArray, List.map_cons, List.map_nil]); first | done | rfl | (simp only [List.length_drop, List.length_take]; rfl)) ?_
           with_reducible refine (ih_21 k2 (by have := HJ2.out; have := HK2.out; omega) _ _ ((rd_T24 l0_3 x15_2).f3) _ _ ((rd_T24 l1_3 x15_2).f3) t143 _ ?side1 ?side2 ?side3 ?side4 A16.out).mono ?_
           (case side1 => exact kc_ HR141_3.out HB.out)
           (case side2 => exact HC141_3.out)
           (case side3 => exact kc_ HR142_3.out HB.out)
           (case side4 => exact HC142_3.out)
           rintro e w20 ⟨v144, rfl, ho0, hb⟩
           refine ⟨_, rfl, ?_⟩
           have n0_ := Aside0.mk (Kd.S_lower ho0 (below_size (bs2_ HB.out GE139.out GE140.out)))
           have n1_ := Aside0.mk (blk_below (g := gb139) (o := .cells #[.int .i64 a0_0, .string a0_1, .int .i64 a0_2, .slice (some ad141) l0_3.length c0_3] 24 (0, 0)) (bk_ BK139.out) hb)
           have n2_ := Aside0.mk (blk_below (g := gb140) (o := .cells #[.int .i64 a1_0, .string a1_1, .int .i64 a1_2, .slice (some ad142) l1_3.length c1_3] 24 (0, 0)) (bk_ BK140.out) hb)
           have n3_ := Aside0.mk (below_step (bs2_ HB.out GE139.out GE140.out) hb)
           clear BK139; clear BK140; clear HB
           have HO145 := n0_
           have BK139 := n1_
           have BK140 := n2_
           have HB := n3_
           clear n0_ n1_ n2_ n3_
           (try clear hb)
           (try clear hb2)
           (try clear hk)
           (try clear hi)
           (try clear ho0)
           obtain ⟨Ao21, co21, eo21⟩ := Kd.S_slice HO145.out
           (first | subst eo21 | (injection eo21 with f1_ f2_ f3_; have f4_ := f1_.symm; have f5_ := f3_.symm; clear f1_ f2_ f3_; subst f4_; subst f5_))
           have p146 : 0 ≤ (0 : Int) := (by omega)
           have q146 : 0 < (t143.length : Int) := of_decide_eq_true (by first | (with_reducible assumption) | assumption)
           obtain ⟨ad146, A146_0, c146_0, e146, hx146_0, hl146_0, hi146_0⟩ := at_L5 (Kd.S_reads' HO145.out).2.2 0 p146 q146
           cases e146
           obtain ⟨ce146, hce146, hMe146, hcc146⟩ := Kd.S_get HO145.out [] 0 p146 (by first | exact q146 | exact of_decide_eq_true (by first | (with_reducible assumption) | assumption) | (have e_ := (Kd.S_reads' HO145.out).1; omega))
           obtain ⟨ve146_0, rfl, ge146_0⟩ := hMe146
           have hv146_0 := hcc146 0 _ rfl
           rw [Nat.add_zero, show ((Kd.slice 47 k47)).sz = 1 from rfl, Nat.mul_one] at hv146_0
           replace hv146_0 := Option.some.inj (hv146_0.symm.trans hx146_0)
           rw [hv146_0] at ge146_0
           have HL146_0 := Aside0.mk (show Kd.R k47 47 _ _ _ _ (rd_L5 t143 0) from ge146_0)
           clear hv146_0 ge146_0; clear hcc146 hce146
           have qi146 : (0 < t143.length) = True := eq_true (by omega)
           (try rw [show ((0 : Int)).toNat = 0 from rfl] at hx146_0)
           (try rw [Addr.add_zero'] at hx146_0)
           have HR146_0 := Aside0.mk hi146_0
           have HC146_0 := Aside0.mk hl146_0
           clear hi146_0 hl146_0
           replace p146 := eq_true p146
           replace q146 := eq_true q146
           have p147 : 0 ≤ (0 : Int) := (by omega)
           have q147 : 0 < ((rd_L5 t143 0).length : Int) := of_decide_eq_true (by first | (with_reducible assumption) | assumption)
           obtain ⟨ad147, e147, hx147_0, hx147_1⟩ := at_T47 (by repeat (first | (with_reducible exact HR146_0.out) | (with_reducible refine Kd.C_alloc ?_ _) | (with_reducible refine Kd.C_drewN ?_ _) | (with_reducible refine Kd.C_drew ?_) | exact HR146_0.out)) 0 p147 q147
           cases e147
           have qi147 : (0 < (rd_L5 t143 0).length) = True := eq_true (by omega)
           (try rw [show ((0 : Int)).toNat = 0 from rfl] at hx147_0)
           (try rw [show 0 * 2 = 0 from rfl] at hx147_0)
           (try rw [Addr.add_zero'] at hx147_0)
           (try rw [show ((0 : Int)).toNat = 0 from rfl] at hx147_1)
           (try rw [show 0 * 2 = 0 from rfl] at hx147_1)
           (try rw [Addr.add_zero'] at hx147_1)
           replace p147 := eq_true p147
           replace q147 := eq_true q147
           refine hK.out _ _ ?_
           clear hK K
           refine norm_ (a' := ?_) ?_ ?_
           rotate_left
           ·show Act.put _ (some 31) _ = _
            simp only [Act.put, sp1_, sp2_]
            rfl
           refine pure_ (i := 14) (N := some 32) (v := ?_) (a' := ?_) (mk_ 21 32767) rfl rfl (an_ HT_.out) (fun _ _ _ h => h) (Or.inl ⟨by rfl, ?_⟩) ?_ ?_
           rotate_left; (intro w'; go_simp; with_reducible rfl); rotate_left; (simp only [Act.put, sp1_, sp2_]; rfl)
           refine last_ (i := 15) (N := some 33) #[true, true, true, true, true, true, true, true, true, true, true, true, true, true, true, true, false, false, false, false, false] rfl rfl (one_of HT_.out (by kernel_rfl)) (by decide) (fun K hK => ?_)
           refine value_ (w1 := ?_) (v := ?_) (by rfl) rfl ?_ ?_
           rotate_left 2
           ·go_simp
            constructor
            ·rfl
            ·rfl
           refine hK.out _ _ ?_
           clear hK K
           refine norm_ (a' := ?_) ?_ ?_
           rotate_left
           ·show Act.put _ (some 33) _ = _
            simp only [Act.put, sp1_, sp2_]
            rfl
           refine pure_ (i := 16) (N := some 34) (v := ?_) (a' := ?_) (mk_ 21 131071) rfl rfl (an_ HT_.out) (fun _ _ _ h => h) (Or.inl ⟨by rfl, ?_⟩) ?_ ?_
           rotate_left; (intro w'; go_simp; with_reducible rfl); rotate_left; (simp only [Act.put, sp1_, sp2_]; rfl)
           refine pure_ (i := 17) (N := some 35) (v := ?_) (a' := ?_) (mk_ 21 262143) rfl rfl (an_ HT_.out) (fun _ _ _ h => h) (Or.inl ⟨by rfl, ?_⟩) ?_ ?_
           rotate_left; (intro w'; go_simp; with_reducible rfl); rotate_left; (simp only [Act.put, sp1_, sp2_]; rfl)
           refine last_ (i := 18) (N := some 36) #[true, true, true, true, true, true, true, true, true, true, true, true, true, true, true, true, true, true, true, false, false] rfl rfl (one_of HT_.out (by kernel_rfl)) (by decide) (fun K hK => ?_)
           refine value_ (w1 := ?_) (v := ?_) (by rfl) rfl ?_ ?_
           rotate_left 2
           ·go_simp
            constructor
            ·rfl
            ·rfl
           refine hK.out _ _ ?_
           clear hK K
           refine norm_ (a' := ?_) ?_ ?_
           rotate_left
           ·show Act.put _ (some 36) _ = _
            simp only [Act.put, sp1_, sp2_]
            rfl
           refine pure_ (i := 19) (N := some 37) (v := ?_) (a' := ?_) (mk_ 21 1048575) rfl rfl (an_ HT_.out) (fun _ _ _ h => h) (Or.inl ⟨by rfl, ?_⟩) ?_ ?_
           rotate_left; (intro w'; go_simp; with_reducible rfl); rotate_left; (simp only [Act.put, sp1_, sp2_]; rfl)
           refine pure_ (i := 20) (N := some 5) (v := ?_) (a' := ?_) (mk_ 21 2097151) rfl rfl (an_ HT_.out) (fun _ _ _ h => h) (Or.inl ⟨by rfl, ?_⟩) ?_ ?_
           rotate_left; (intro w'; go_simp; with_reducible rfl); rotate_left; (simp only [Act.put, sp1_, sp2_]; rfl)
           refine done_ (done_of HT_.out (by kernel_rfl)) ?_
           try go_wp2
           go_roundg k2
           case measure => have := HJ2.out; have := HK2.out; omega
           case rel => exact ⟨(wrap64 (x5_2 + ((rd_T47 (rd_L5 t143 0) 0).f0))), (wrap64 (x15_2 + 1)), (by first | rfl | (simp; done) | (simp [*]; done)), (by first | rfl | (simp; done) | (simp [*]; done)), H', ⟨by have := HJ2.out; have := HK2.out; omega⟩, ⟨bk_ BK139.out⟩, ⟨bk_ BK140.out⟩, ⟨bs2_ HB.out GE139.out GE140.out⟩⟩
          ·rw [if_neg c18] at H
           exact absurd H (by simp)
         ·rw [if_neg c17] at H
          exact absurd H (by simp)
        ·rw [if_neg c15] at H
         exact absurd H (by simp)
       ·rw [if_neg c14] at H
        exact absurd H (by simp)
      ·rw [if_neg c13] at H
       exact absurd H (by simp)
     ·rw [if_neg c12] at H
      have c12b0 : decide (x15_2 < (l0_3.length : Int)) = false := decide_eq_false c12
      clear c12
      obtain rfl := Option.some.inj H
      go_wp2
      go_ret
      exact ⟨by first | rfl | (simp [errW_none, errW_some] <;> rfl) | (simp [*, errW_none, errW_some] <;> rfl), bs2_ HB.out GE139.out GE140.out⟩


end Go.Proofs.YtihchehmkhnhaaaDoor.A
