/- Made for this claim by a program of the session: the Go functions' plain twins and their contracts. Lean checks it. -/
import Derived.Lib.IndexLaws
import Derived.Lib.IndexAny
import Derived.Lib.SlTrimSet
import Derived.Test.YtihchehmkhnhaaaDoorCDiffCost2
import Derived.Test.YtihchehmkhnhaaaDoorCDiffCost4
import Derived.Test.YtihchehmkhnhaaaDoorCDiffCost5
import Derived.Test.YtihchehmkhnhaaaDoorCDiffCost6
namespace Go.Proofs.YtihchehmkhnhaaaDoor.A
open Go.RowKit Go.Proofs.YtihchehmkhnhaaaDoorW.PrintWords Go.Proofs.YtihchehmkhnhaaaDoorW.PrintLast Go.Proofs.YtihchehmkhnhaaaDoorW.PrintMore
attribute [local go_sem] max2_int min2_int max_two min_two max_three min_three max_four min_four   -- for this text's walks alone
set_option linter.unusedVariables false
set_option linter.unusedSimpArgs false

theorem vinculumref16_table.all_ (k : Nat) : (∀ (a0_0 : Int) (a0_1 : ByteArray) (a0_2 : Int) (A0_3 : Option Addr) (c0_3 : Nat) (l0_3 : List (S24)) (a1_0 : Int) (a1_1 : ByteArray) (a1_2 : Int) (A1_3 : Option Addr) (c1_3 : Nat) (l1_3 : List (S24)) (r : Int) (w : World) (hr0_3 : Kd.C k24 w A0_3 l0_3.length l0_3) (hc0_3 : l0_3.length ≤ c0_3) (hr1_3 : Kd.C k24 w A1_3 l1_3.length l1_3) (hc1_3 : l1_3.length ≤ c1_3) (h : vinculumref16_pair.f k a0_0 a0_1 a0_2 l0_3 a1_0 a1_1 a1_2 l1_3 = some r),
  Calls Tryd.prog 35 #[.agg #[.int .i64 a0_0, .string a0_1, .int .i64 a0_2, .slice A0_3 l0_3.length c0_3], .agg #[.int .i64 a1_0, .string a1_1, .int .i64 a1_2, .slice A1_3 l1_3.length c1_3]] w fun e w' => e = .returned (.int .i64 r) ∧ Below w.heap.size w w') ∧ (∀ (A0 : Option Addr) (c0 : Nat) (l0 : List (S24)) (A1 : Option Addr) (c1 : Nat) (l1 : List (S24)) (r : List (List Int)) (w : World) (hr0 : Kd.C k24 w A0 l0.length l0) (hc0 : l0.length ≤ c0) (hr1 : Kd.C k24 w A1 l1.length l1) (hc1 : l1.length ≤ c1) (h : vinculumref16_table.f k l0 l1 = some r),
  Calls Tryd.prog 25 #[.slice A0 l0.length c0, .slice A1 l1.length c1] w fun e w' => ∃ v0_ : Value, e = .returned (v0_) ∧ Kd.S (Kd.slice 3 (Kd.int .i64)) 35 w' w.heap.size (fun _ => True) v0_ r ∧ Below w.heap.size w w') := by
 induction k using Nat.strongRecOn with
 | _ k ih =>
 exact ⟨vinculumref16_pair.step k (fun m_ h_ => (ih m_ h_).1) (fun m_ h_ => (ih m_ h_).2), vinculumref16_table.step k (fun m_ h_ => (ih m_ h_).1) (fun m_ h_ => (ih m_ h_).2)⟩
theorem vinculumref16_table.calls (k : Nat) : ∀ (A0 : Option Addr) (c0 : Nat) (l0 : List (S24)) (A1 : Option Addr) (c1 : Nat) (l1 : List (S24)) (r : List (List Int)) (w : World) (hr0 : Kd.C k24 w A0 l0.length l0) (hc0 : l0.length ≤ c0) (hr1 : Kd.C k24 w A1 l1.length l1) (hc1 : l1.length ≤ c1) (h : vinculumref16_table.f k l0 l1 = some r),
  Calls Tryd.prog 25 #[.slice A0 l0.length c0, .slice A1 l1.length c1] w fun e w' => ∃ v0_ : Value, e = .returned (v0_) ∧ Kd.S (Kd.slice 3 (Kd.int .i64)) 35 w' w.heap.size (fun _ => True) v0_ r ∧ Below w.heap.size w w' := (vinculumref16_table.all_ k).2

def vinculumref16_Distance.f (k : Nat) (l0 : List (S24)) (l1 : List (S24)) : Option (Int) := (vinculumref16_table.f k l0 l1).bind fun t348 => (if 0 < (t348.length : Int) then (if 0 < ((rd_L6 t348 0).length : Int) then (some (rd (rd_L6 t348 0) 0)) else (none)) else (none))
set_option maxHeartbeats 8000000 in
set_option maxRecDepth 100000 in
theorem vinculumref16_Distance.calls (k : Nat) (A0 : Option Addr) (c0 : Nat) (l0 : List (S24)) (A1 : Option Addr) (c1 : Nat) (l1 : List (S24)) (r : Int) (w : World) (hr0 : Kd.C k24 w A0 l0.length l0) (hc0 : l0.length ≤ c0) (hr1 : Kd.C k24 w A1 l1.length l1) (hc1 : l1.length ≤ c1) (h : vinculumref16_Distance.f k l0 l1 = some r) :
  Calls Tryd.prog 11 #[.slice A0 l0.length c0, .slice A1 l1.length c1] w fun e w' => e = .returned (.int .i64 r) ∧ Below w.heap.size w w' := by
 have HR0 := Aside0.mk hr0
 have HC0 := Aside0.mk hc0
 clear hr0 hc0
 have HR1 := Aside0.mk hr1
 have HC1 := Aside0.mk hc1
 clear hr1 hc1
 have HB := Aside0.mk (Below.refl w.heap.size w)
 have H : ((vinculumref16_table.f k l0 l1).bind fun t348 => (if 0 < (t348.length : Int) then (if 0 < ((rd_L6 t348 0).length : Int) then (some (rd (rd_L6 t348 0) 0)) else (none)) else (none))) = some r := h
 clear h
 replace H := Option.bind_eq_some_iff.mp H
 obtain ⟨t348, A30, H⟩ := H
 replace H : (if 0 < (t348.length : Int) then (if 0 < ((rd_L6 t348 0).length : Int) then (some (rd (rd_L6 t348 0) 0)) else (none)) else (none)) = some r := H
 have A3 := Aside0.mk A30
 clear A30
 by_cases c4 : 0 < (t348.length : Int)
 case neg =>
  rw [if_neg c4] at H
  exact absurd H (by simp)

 rw [if_pos c4] at H
 have c4b0 : decide (0 < (t348.length : Int)) = true := decide_eq_true c4
 have c4b1 : decide (0 < t348.length) = true := decide_eq_true (by omega)
 clear c4
 by_cases c5 : 0 < ((rd_L6 t348 0).length : Int)
 case neg =>
  rw [if_neg c5] at H
  exact absurd H (by simp)
 rw [if_pos c5] at H
 have c5b0 : decide (0 < ((rd_L6 t348 0).length : Int)) = true := decide_eq_true c5
 have c5b1 : decide (0 < (rd_L6 t348 0).length) = true := decide_eq_true (by omega)
 clear c5
 obtain rfl := Option.some.inj H
 go_enter Tryd.func11, Tryd.ntmps11
 go_wp2_with (first | ((with_reducible refine gate_callee (f := 25) rfl ?_); refine goesL_ (some 7) rfl rfl Tryd.func25 (by kernel_rfl) rfl #[.slice A0 l0.length c0, .slice A1 l1.length c1] rfl (by (try simp only [List.map_toArray, List.map_cons, List.map_nil]); first | done | rfl | (simp only [List.length_drop, List.length_take]; rfl)) ?_; (with_reducible refine (vinculumref16_table.calls k _ _ l0 _ _ l1 t348 _ ?side1 ?side2 ?side3 ?side4 A3.out).mono ?_); (case side1 => repeat (first | exact HR0.out | (with_reducible refine Kd.C_alloc ?_ _) | (with_reducible refine Kd.C_drewN ?_ _) | (with_reducible refine Kd.C_drew ?_))); (case side2 => exact HC0.out); (case side3 => repeat (first | exact HR1.out | (with_reducible refine Kd.C_alloc ?_ _) | (with_reducible refine Kd.C_drewN ?_ _) | (with_reducible refine Kd.C_drew ?_))); (case side4 => exact HC1.out); rintro e w6 ⟨v349, rfl, ho0, hb⟩; refine ⟨_, rfl, ?_⟩; have n0_ := Aside0.mk (Kd.S_lower ho0 (below_size (bs0_ HB.out))); have n1_ := Aside0.mk (below_step (bs0_ HB.out) hb); clear HB; have HO350 := n0_; have HB := n1_; clear n0_ n1_; (try clear hb); (try clear hb2); (try clear hk); (try clear hi); (try clear ho0); obtain ⟨Ao7, co7, eo7⟩ := Kd.S_slice HO350.out; subst eo7; have p351 : 0 ≤ (0 : Int) := (by omega); have q351 : 0 < (t348.length : Int) := of_decide_eq_true (by first | (with_reducible assumption) | assumption); obtain ⟨ad351, A351_0, c351_0, e351, hx351_0, hl351_0, hi351_0⟩ := at_L6 (Kd.S_reads' HO350.out).2.2 0 p351 q351; cases e351; obtain ⟨ce351, hce351, hMe351, hcc351⟩ := Kd.S_get HO350.out [] 0 p351 (by first | exact q351 | exact of_decide_eq_true (by first | (with_reducible assumption) | assumption) | (have e_ := (Kd.S_reads' HO350.out).1; omega)); obtain ⟨ve351_0, rfl, ge351_0⟩ := hMe351; have hv351_0 := hcc351 0 _ rfl; rw [Nat.add_zero, show ((Kd.slice 3 (Kd.int .i64))).sz = 1 from rfl, Nat.mul_one] at hv351_0; replace hv351_0 := Option.some.inj (hv351_0.symm.trans hx351_0); rw [hv351_0] at ge351_0; have HL351_0 := Aside0.mk (show Kd.R (Kd.int .i64) 3 _ _ _ _ (rd_L6 t348 0) from ge351_0); clear hv351_0 ge351_0; clear hcc351 hce351; have qi351 : (0 < t348.length) = True := eq_true (by omega); (try rw [show ((0 : Int)).toNat = 0 from rfl] at hx351_0); (try rw [Addr.add_zero'] at hx351_0); have HR351_0 := Aside0.mk hi351_0; have HC351_0 := Aside0.mk hl351_0; clear hi351_0 hl351_0; replace p351 := eq_true p351; replace q351 := eq_true q351; have p352 : 0 ≤ (0 : Int) := (by omega); have q352 : 0 < ((rd_L6 t348 0).length : Int) := of_decide_eq_true (by first | (with_reducible assumption) | assumption); obtain ⟨ad352, e352, hx352_0⟩ := Kd.at_int (by repeat (first | (with_reducible exact HR351_0.out) | (with_reducible refine Kd.C_alloc ?_ _) | (with_reducible refine Kd.C_drewN ?_ _) | (with_reducible refine Kd.C_drew ?_) | exact HR351_0.out)) 0 p352 q352; cases e352; have qi352 : (0 < (rd_L6 t348 0).length) = True := eq_true (by omega); (try rw [show ((0 : Int)).toNat = 0 from rfl] at hx352_0); (try rw [Addr.add_zero'] at hx352_0); replace p352 := eq_true p352; replace q352 := eq_true q352))
 go_ret
 exact ⟨by first | rfl | (simp [errW_none, errW_some] <;> rfl) | (simp [*, errW_none, errW_some] <;> rfl), bs0_ HB.out⟩
def vinculumlaw16_DiffCost.f (k : Nat) (a0_0 : Int) (a0_1 : ByteArray) (a0_2 : Int) (l0_3 : List (S24)) (a1_0 : Int) (a1_1 : ByteArray) (a1_2 : Int) (l1_3 : List (S24)) : Option (Bool) := (vinculumlaw16_awake.f k).bind fun t355 => (if t355 = true then ((vinculumlaw16_few.f k a0_0 a0_1 a0_2 l0_3 a1_0 a1_1 a1_2 l1_3).bind fun t356 => (if t356 = true then ((diff_Cost.f k a0_0 a0_1 a0_2 l0_3 a1_0 a1_1 a1_2 l1_3).bind fun bt357 => ((vinculumref09_Valid.f k a0_0 a0_1 a0_2 l0_3).bind fun t359 => (if t359 = true then ((vinculumref09_Valid.f k a1_0 a1_1 a1_2 l1_3).bind fun t360 => (if t360 = true then (if bt357.2 = 0 then ((vinculumref16_Distance.f k l0_3 l1_3).bind fun t361 => (some (bt357.1 == t361))) else (some false)) else (if bt357.1 = 0 then (some (bt357.2 == 1)) else (some false)))) else (if bt357.1 = 0 then (some (bt357.2 == 1)) else (some false))))) else (some true))) else (some false))
set_option maxHeartbeats 8000000 in
set_option maxRecDepth 100000 in
theorem vinculumlaw16_DiffCost.calls (k : Nat) (a0_0 : Int) (a0_1 : ByteArray) (a0_2 : Int) (A0_3 : Option Addr) (c0_3 : Nat) (l0_3 : List (S24)) (a1_0 : Int) (a1_1 : ByteArray) (a1_2 : Int) (A1_3 : Option Addr) (c1_3 : Nat) (l1_3 : List (S24)) (r : Bool) (w : World) (hr0_3 : Kd.C k24 w A0_3 l0_3.length l0_3) (hc0_3 : l0_3.length ≤ c0_3) (hr1_3 : Kd.C k24 w A1_3 l1_3.length l1_3) (hc1_3 : l1_3.length ≤ c1_3) (h : vinculumlaw16_DiffCost.f k a0_0 a0_1 a0_2 l0_3 a1_0 a1_1 a1_2 l1_3 = some r) :
  Calls Tryd.prog 3 #[.agg #[.int .i64 a0_0, .string a0_1, .int .i64 a0_2, .slice A0_3 l0_3.length c0_3], .agg #[.int .i64 a1_0, .string a1_1, .int .i64 a1_2, .slice A1_3 l1_3.length c1_3]] w fun e w' => e = .returned (.bool r) ∧ Below w.heap.size w w' := by
 have hu24 := Tryd.underlying24
 have HR0_3 := Aside0.mk hr0_3
 have HC0_3 := Aside0.mk hc0_3
 clear hr0_3 hc0_3
 have HR1_3 := Aside0.mk hr1_3
 have HC1_3 := Aside0.mk hc1_3
 clear hr1_3 hc1_3
 have HB := Aside0.mk (Below.refl w.heap.size w)
 have H : ((vinculumlaw16_awake.f k).bind fun t355 => (if t355 = true then ((vinculumlaw16_few.f k a0_0 a0_1 a0_2 l0_3 a1_0 a1_1 a1_2 l1_3).bind fun t356 => (if t356 = true then ((diff_Cost.f k a0_0 a0_1 a0_2 l0_3 a1_0 a1_1 a1_2 l1_3).bind fun bt357 => ((vinculumref09_Valid.f k a0_0 a0_1 a0_2 l0_3).bind fun t359 => (if t359 = true then ((vinculumref09_Valid.f k a1_0 a1_1 a1_2 l1_3).bind fun t360 => (if t360 = true then (if bt357.2 = 0 then ((vinculumref16_Distance.f k l0_3 l1_3).bind fun t361 => (some (bt357.1 == t361))) else (some false)) else (if bt357.1 = 0 then (some (bt357.2 == 1)) else (some false)))) else (if bt357.1 = 0 then (some (bt357.2 == 1)) else (some false))))) else (some true))) else (some false))) = some r := h
 clear h
 replace H := Option.bind_eq_some_iff.mp H
 obtain ⟨t355, A30, H⟩ := H
 replace H : (if t355 = true then ((vinculumlaw16_few.f k a0_0 a0_1 a0_2 l0_3 a1_0 a1_1 a1_2 l1_3).bind fun t356 => (if t356 = true then ((diff_Cost.f k a0_0 a0_1 a0_2 l0_3 a1_0 a1_1 a1_2 l1_3).bind fun bt357 => ((vinculumref09_Valid.f k a0_0 a0_1 a0_2 l0_3).bind fun t359 => (if t359 = true then ((vinculumref09_Valid.f k a1_0 a1_1 a1_2 l1_3).bind fun t360 => (if t360 = true then (if bt357.2 = 0 then ((vinculumref16_Distance.f k l0_3 l1_3).bind fun t361 => (some (bt357.1 == t361))) else (some false)) else (if bt357.1 = 0 then (some (bt357.2 == 1)) else (some false)))) else (if bt357.1 = 0 then (some (bt357.2 == 1)) else (some false))))) else (some true))) else (some false)) = some r := H
 have A3 := Aside0.mk A30
 clear A30
 by_cases c4 : t355 = true
 ·subst c4
  have H1 : ((vinculumlaw16_few.f k a0_0 a0_1 a0_2 l0_3 a1_0 a1_1 a1_2 l1_3).bind fun t356 => (if t356 = true then ((diff_Cost.f k a0_0 a0_1 a0_2 l0_3 a1_0 a1_1 a1_2 l1_3).bind fun bt357 => ((vinculumref09_Valid.f k a0_0 a0_1 a0_2 l0_3).bind fun t359 => (if t359 = true then ((vinculumref09_Valid.f k a1_0 a1_1 a1_2 l1_3).bind fun t360 => (if t360 = true then (if bt357.2 = 0 then ((vinculumref16_Distance.f k l0_3 l1_3).bind fun t361 => (some (bt357.1 == t361))) else (some false)) else (if bt357.1 = 0 then (some (bt357.2 == 1)) else (some false)))) else (if bt357.1 = 0 then (some (bt357.2 == 1)) else (some false))))) else (some true))) = some r := by rw [if_pos rfl] at H; exact H
  clear H
  have H := H1
  clear H1
  replace H := Option.bind_eq_some_iff.mp H
  obtain ⟨t356, A50, H⟩ := H
  replace H : (if t356 = true then ((diff_Cost.f k a0_0 a0_1 a0_2 l0_3 a1_0 a1_1 a1_2 l1_3).bind fun bt357 => ((vinculumref09_Valid.f k a0_0 a0_1 a0_2 l0_3).bind fun t359 => (if t359 = true then ((vinculumref09_Valid.f k a1_0 a1_1 a1_2 l1_3).bind fun t360 => (if t360 = true then (if bt357.2 = 0 then ((vinculumref16_Distance.f k l0_3 l1_3).bind fun t361 => (some (bt357.1 == t361))) else (some false)) else (if bt357.1 = 0 then (some (bt357.2 == 1)) else (some false)))) else (if bt357.1 = 0 then (some (bt357.2 == 1)) else (some false))))) else (some true)) = some r := H
  have A5 := Aside0.mk A50
  clear A50
  by_cases c6 : t356 = true
  ·subst c6
   have H1 : ((diff_Cost.f k a0_0 a0_1 a0_2 l0_3 a1_0 a1_1 a1_2 l1_3).bind fun bt357 => ((vinculumref09_Valid.f k a0_0 a0_1 a0_2 l0_3).bind fun t359 => (if t359 = true then ((vinculumref09_Valid.f k a1_0 a1_1 a1_2 l1_3).bind fun t360 => (if t360 = true then (if bt357.2 = 0 then ((vinculumref16_Distance.f k l0_3 l1_3).bind fun t361 => (some (bt357.1 == t361))) else (some false)) else (if bt357.1 = 0 then (some (bt357.2 == 1)) else (some false)))) else (if bt357.1 = 0 then (some (bt357.2 == 1)) else (some false))))) = some r := by rw [if_pos rfl] at H; exact H
   clear H
   have H := H1
   clear H1
   replace H := Option.bind_eq_some_iff.mp H
   obtain ⟨⟨t357, t358⟩, A70, H⟩ := H
   replace H : ((vinculumref09_Valid.f k a0_0 a0_1 a0_2 l0_3).bind fun t359 => (if t359 = true then ((vinculumref09_Valid.f k a1_0 a1_1 a1_2 l1_3).bind fun t360 => (if t360 = true then (if t358 = 0 then ((vinculumref16_Distance.f k l0_3 l1_3).bind fun t361 => (some (t357 == t361))) else (some false)) else (if t357 = 0 then (some (t358 == 1)) else (some false)))) else (if t357 = 0 then (some (t358 == 1)) else (some false)))) = some r := H
   have A7 := Aside0.mk A70
   clear A70
   replace H := Option.bind_eq_some_iff.mp H
   obtain ⟨t359, A80, H⟩ := H
   replace H : (if t359 = true then ((vinculumref09_Valid.f k a1_0 a1_1 a1_2 l1_3).bind fun t360 => (if t360 = true then (if t358 = 0 then ((vinculumref16_Distance.f k l0_3 l1_3).bind fun t361 => (some (t357 == t361))) else (some false)) else (if t357 = 0 then (some (t358 == 1)) else (some false)))) else (if t357 = 0 then (some (t358 == 1)) else (some false))) = some r := H
   have A8 := Aside0.mk A80
   clear A80
   by_cases c9 : t359 = true
   ·subst c9
    have H1 : ((vinculumref09_Valid.f k a1_0 a1_1 a1_2 l1_3).bind fun t360 => (if t360 = true then (if t358 = 0 then ((vinculumref16_Distance.f k l0_3 l1_3).bind fun t361 => (some (t357 == t361))) else (some false)) else (if t357 = 0 then (some (t358 == 1)) else (some false)))) = some r := by rw [if_pos rfl] at H; exact H
    clear H
    have H := H1
    clear H1
    replace H := Option.bind_eq_some_iff.mp H
    obtain ⟨t360, A100, H⟩ := H
    replace H : (if t360 = true then (if t358 = 0 then ((vinculumref16_Distance.f k l0_3 l1_3).bind fun t361 => (some (t357 == t361))) else (some false)) else (if t357 = 0 then (some (t358 == 1)) else (some false))) = some r := H
    have A10 := Aside0.mk A100
    clear A100
    by_cases c11 : t360 = true
    ·subst c11
     have H1 : (if t358 = 0 then ((vinculumref16_Distance.f k l0_3 l1_3).bind fun t361 => (some (t357 == t361))) else (some false)) = some r := by rw [if_pos rfl] at H; exact H
     clear H
     have H := H1
     clear H1
     by_cases c12 : t358 = 0
     ·rw [if_pos c12] at H
      have c12b0 : (t358 == 0) = true := beq_iff_eq.mpr c12
      have c12b1 : (t358 != 0) = false := bne_eq_false_iff_eq.mpr c12
      clear c12
      replace H := Option.bind_eq_some_iff.mp H
      obtain ⟨t361, A130, H⟩ := H
      replace H : (some (t357 == t361)) = some r := H
      have A13 := Aside0.mk A130
      clear A130
      obtain rfl := Option.some.inj H
      go_enter Tryd.func3, Tryd.ntmps3
      go_wp2_with (first | ((with_reducible refine gate_dst (N := 2) rfl ?_); refine box_event ?hg (N := 2) ?hd (cs := #[.int .i64 a0_0, .string a0_1, .int .i64 a0_2, .slice A0_3 l0_3.length c0_3]) (t := 24) ?hr ?_; (case hd => rfl); (case hg => rfl); (case hr => first | (go_simp; done) | (go_simp; rfl)); intro gb353 hg w14 hbox hb; have n0_ := Aside0.mk (below_step (bs0_ HB.out) hb); have n1_ := Aside0.mk (hbox); have n2_ := Aside0.mk ((by rw [hg]; exact (below_size (bs0_ HB.out)) : w.heap.size ≤ gb353)); have n3_ := Aside0.mk ((by rw [hg]; exact (below_size (bs0_ HB.out)) : w.heap.size ≤ gb353)); clear HB; have HB := n0_; have BK353 := n1_; have GW353 := n2_; have GE353 := n3_; clear n0_ n1_ n2_ n3_; clear hb hbox hg) | ((with_reducible refine gate_dst (N := 3) rfl ?_); refine box_event ?hg (N := 3) ?hd (cs := #[.int .i64 a1_0, .string a1_1, .int .i64 a1_2, .slice A1_3 l1_3.length c1_3]) (t := 24) ?hr ?_; (case hd => rfl); (case hg => rfl); (case hr => first | (go_simp; done) | (go_simp; rfl)); intro gb354 hg w15 hbox hb; have n0_ := Aside0.mk (blk_below (g := gb353) (o := .cells #[.int .i64 a0_0, .string a0_1, .int .i64 a0_2, .slice A0_3 l0_3.length c0_3] 24 (0, 0)) (bk_ BK353.out) hb); have n1_ := Aside0.mk (below_step (bs1_ HB.out GE353.out) hb); have n2_ := Aside0.mk (hbox); have n3_ := Aside0.mk ((by rw [hg]; exact (below_size (bs1_ HB.out GE353.out)) : w.heap.size ≤ gb354)); have n4_ := Aside0.mk ((by rw [hg]; exact (below_size (bs1_ HB.out GE353.out)) : w.heap.size ≤ gb354)); have n5_ := Aside0.mk ((by rw [hg]; exact Nat.ne_of_lt (blk_lt (g := gb353) (o := .cells #[.int .i64 a0_0, .string a0_1, .int .i64 a0_2, .slice A0_3 l0_3.length c0_3] 24 (0, 0)) (bk_ BK353.out)) : gb353 ≠ gb354)); have n6_ := Aside0.mk ((by rw [hg]; exact Nat.ne_of_gt (blk_lt (g := gb353) (o := .cells #[.int .i64 a0_0, .string a0_1, .int .i64 a0_2, .slice A0_3 l0_3.length c0_3] 24 (0, 0)) (bk_ BK353.out)) : gb354 ≠ gb353)); clear BK353; clear HB; have BK353 := n0_; have HB := n1_; have BK354 := n2_; have GW354 := n3_; have GE354 := n4_; have NB353_354 := n5_; have NB354_353 := n6_; clear n0_ n1_ n2_ n3_ n4_ n5_ n6_; clear hb hbox hg) | ((with_reducible refine gate_callee (f := 7) rfl ?_); refine goesL_ (some 7) rfl rfl Tryd.func7 (by kernel_rfl) rfl #[] rfl (by (try simp only [List.map_toArray, List.map_cons, List.map_nil]); first | done | rfl | (simp only [List.length_drop, List.length_take]; rfl)) ?_; (with_reducible refine (vinculumlaw16_awake.calls k  true _ A3.out).mono ?_); rintro e w16 ⟨rfl, hb⟩; refine ⟨_, rfl, ?_⟩; have n0_ := Aside0.mk (blk_below (g := gb353) (o := .cells #[.int .i64 a0_0, .string a0_1, .int .i64 a0_2, .slice A0_3 l0_3.length c0_3] 24 (0, 0)) (bk_ BK353.out) hb); have n1_ := Aside0.mk (blk_below (g := gb354) (o := .cells #[.int .i64 a1_0, .string a1_1, .int .i64 a1_2, .slice A1_3 l1_3.length c1_3] 24 (0, 0)) (bk_ BK354.out) hb); have n2_ := Aside0.mk (below_step (bs2_ HB.out GE353.out GE354.out) hb); clear BK353; clear BK354; clear HB; have BK353 := n0_; have BK354 := n1_; have HB := n2_; clear n0_ n1_ n2_; (try clear hb); (try clear hb2); (try clear hk); (try clear hi); have hnb17 := NB353_354.out; have hnc17 := NB354_353.out; have hcz18_0 : w16.cell? ⟨gb353, 0, none⟩ = some (.int .i64 a0_0) := (blk_cell BK353.out 0).trans rfl; have hcz18_1 : w16.cell? ⟨gb353, 1, none⟩ = some (.string a0_1) := (blk_cell BK353.out 1).trans rfl; have hcz18_2 : w16.cell? ⟨gb353, 2, none⟩ = some (.int .i64 a0_2) := (blk_cell BK353.out 2).trans rfl; have hcz18_3 : w16.cell? ⟨gb353, 3, none⟩ = some (.slice A0_3 l0_3.length c0_3) := (blk_cell BK353.out 3).trans rfl; have hfz18_0 := blk_frozen BK353.out 0; have hfz18_1 := blk_frozen BK353.out 1; have hfz18_2 := blk_frozen BK353.out 2; have hfz18_3 := blk_frozen BK353.out 3; have hcz19_0 : w16.cell? ⟨gb354, 0, none⟩ = some (.int .i64 a1_0) := (blk_cell BK354.out 0).trans rfl; have hcz19_1 : w16.cell? ⟨gb354, 1, none⟩ = some (.string a1_1) := (blk_cell BK354.out 1).trans rfl; have hcz19_2 : w16.cell? ⟨gb354, 2, none⟩ = some (.int .i64 a1_2) := (blk_cell BK354.out 2).trans rfl; have hcz19_3 : w16.cell? ⟨gb354, 3, none⟩ = some (.slice A1_3 l1_3.length c1_3) := (blk_cell BK354.out 3).trans rfl; have hfz19_0 := blk_frozen BK354.out 0; have hfz19_1 := blk_frozen BK354.out 1; have hfz19_2 := blk_frozen BK354.out 2; have hfz19_3 := blk_frozen BK354.out 3) | ((with_reducible refine gate_callee (f := 8) rfl ?_); refine goesL_ (some 11) rfl rfl Tryd.func8 (by kernel_rfl) rfl #[.agg #[.int .i64 a0_0, .string a0_1, .int .i64 a0_2, .slice A0_3 l0_3.length c0_3], .agg #[.int .i64 a1_0, .string a1_1, .int .i64 a1_2, .slice A1_3 l1_3.length c1_3]] rfl (by (try simp only [List.map_toArray, List.map_cons, List.map_nil]); first | done | rfl | (simp only [List.length_drop, List.length_take]; rfl)) ?_; (with_reducible refine (vinculumlaw16_few.calls k a0_0 a0_1 a0_2 _ _ l0_3 a1_0 a1_1 a1_2 _ _ l1_3 true _ ?side1 ?side2 ?side3 ?side4 A5.out).mono ?_); (case side1 => exact kc_ HR0_3.out HB.out); (case side2 => exact HC0_3.out); (case side3 => exact kc_ HR1_3.out HB.out); (case side4 => exact HC1_3.out); rintro e w20 ⟨rfl, hb⟩; refine ⟨_, rfl, ?_⟩; have n0_ := Aside0.mk (blk_below (g := gb353) (o := .cells #[.int .i64 a0_0, .string a0_1, .int .i64 a0_2, .slice A0_3 l0_3.length c0_3] 24 (0, 0)) (bk_ BK353.out) hb); have n1_ := Aside0.mk (blk_below (g := gb354) (o := .cells #[.int .i64 a1_0, .string a1_1, .int .i64 a1_2, .slice A1_3 l1_3.length c1_3] 24 (0, 0)) (bk_ BK354.out) hb); have n2_ := Aside0.mk (below_step (bs2_ HB.out GE353.out GE354.out) hb); clear BK353; clear BK354; clear HB; have BK353 := n0_; have BK354 := n1_; have HB := n2_; clear n0_ n1_ n2_; (try clear hb); (try clear hb2); (try clear hk); (try clear hi); have hcz21_0 : w20.cell? ⟨gb353, 0, none⟩ = some (.int .i64 a0_0) := (blk_cell BK353.out 0).trans rfl; have hcz21_1 : w20.cell? ⟨gb353, 1, none⟩ = some (.string a0_1) := (blk_cell BK353.out 1).trans rfl; have hcz21_2 : w20.cell? ⟨gb353, 2, none⟩ = some (.int .i64 a0_2) := (blk_cell BK353.out 2).trans rfl; have hcz21_3 : w20.cell? ⟨gb353, 3, none⟩ = some (.slice A0_3 l0_3.length c0_3) := (blk_cell BK353.out 3).trans rfl; have hfz21_0 := blk_frozen BK353.out 0; have hfz21_1 := blk_frozen BK353.out 1; have hfz21_2 := blk_frozen BK353.out 2; have hfz21_3 := blk_frozen BK353.out 3; have hcz22_0 : w20.cell? ⟨gb354, 0, none⟩ = some (.int .i64 a1_0) := (blk_cell BK354.out 0).trans rfl; have hcz22_1 : w20.cell? ⟨gb354, 1, none⟩ = some (.string a1_1) := (blk_cell BK354.out 1).trans rfl; have hcz22_2 : w20.cell? ⟨gb354, 2, none⟩ = some (.int .i64 a1_2) := (blk_cell BK354.out 2).trans rfl; have hcz22_3 : w20.cell? ⟨gb354, 3, none⟩ = some (.slice A1_3 l1_3.length c1_3) := (blk_cell BK354.out 3).trans rfl; have hfz22_0 := blk_frozen BK354.out 0; have hfz22_1 := blk_frozen BK354.out 1; have hfz22_2 := blk_frozen BK354.out 2; have hfz22_3 := blk_frozen BK354.out 3) | ((with_reducible refine gate_callee (f := 9) rfl ?_); refine goesL_ (some 16) rfl rfl Tryd.func9 (by kernel_rfl) rfl #[.agg #[.int .i64 a0_0, .string a0_1, .int .i64 a0_2, .slice A0_3 l0_3.length c0_3], .agg #[.int .i64 a1_0, .string a1_1, .int .i64 a1_2, .slice A1_3 l1_3.length c1_3]] rfl (by (try simp only [List.map_toArray, List.map_cons, List.map_nil]); first | done | rfl | (simp only [List.length_drop, List.length_take]; rfl)) ?_; (with_reducible refine (diff_Cost.calls k a0_0 a0_1 a0_2 _ _ l0_3 a1_0 a1_1 a1_2 _ _ l1_3 t357 t358 _ ?side1 ?side2 ?side3 ?side4 A7.out).mono ?_); (case side1 => exact kc_ HR0_3.out HB.out); (case side2 => exact HC0_3.out); (case side3 => exact kc_ HR1_3.out HB.out); (case side4 => exact HC1_3.out); rintro e w23 ⟨rfl, hb⟩; refine ⟨_, rfl, ?_⟩; have n0_ := Aside0.mk (blk_below (g := gb353) (o := .cells #[.int .i64 a0_0, .string a0_1, .int .i64 a0_2, .slice A0_3 l0_3.length c0_3] 24 (0, 0)) (bk_ BK353.out) hb); have n1_ := Aside0.mk (blk_below (g := gb354) (o := .cells #[.int .i64 a1_0, .string a1_1, .int .i64 a1_2, .slice A1_3 l1_3.length c1_3] 24 (0, 0)) (bk_ BK354.out) hb); have n2_ := Aside0.mk (below_step (bs2_ HB.out GE353.out GE354.out) hb); clear BK353; clear BK354; clear HB; have BK353 := n0_; have BK354 := n1_; have HB := n2_; clear n0_ n1_ n2_; (try clear hb); (try clear hb2); (try clear hk); (try clear hi); have hcz24_0 : w23.cell? ⟨gb353, 0, none⟩ = some (.int .i64 a0_0) := (blk_cell BK353.out 0).trans rfl; have hcz24_1 : w23.cell? ⟨gb353, 1, none⟩ = some (.string a0_1) := (blk_cell BK353.out 1).trans rfl; have hcz24_2 : w23.cell? ⟨gb353, 2, none⟩ = some (.int .i64 a0_2) := (blk_cell BK353.out 2).trans rfl; have hcz24_3 : w23.cell? ⟨gb353, 3, none⟩ = some (.slice A0_3 l0_3.length c0_3) := (blk_cell BK353.out 3).trans rfl; have hfz24_0 := blk_frozen BK353.out 0; have hfz24_1 := blk_frozen BK353.out 1; have hfz24_2 := blk_frozen BK353.out 2; have hfz24_3 := blk_frozen BK353.out 3) | ((with_reducible refine gate_callee (f := 10) rfl ?_); refine goesL_ (some 20) rfl rfl Tryd.func10 (by kernel_rfl) rfl #[.agg #[.int .i64 a0_0, .string a0_1, .int .i64 a0_2, .slice A0_3 l0_3.length c0_3]] rfl (by (try simp only [List.map_toArray, List.map_cons, List.map_nil]); first | done | rfl | (simp only [List.length_drop, List.length_take]; rfl)) ?_; (with_reducible refine (vinculumref09_Valid.calls k a0_0 a0_1 a0_2 _ _ l0_3 true _ ?side1 ?side2 A8.out).mono ?_); (case side1 => exact kc_ HR0_3.out HB.out); (case side2 => exact HC0_3.out); rintro e w25 ⟨rfl, hb⟩; refine ⟨_, rfl, ?_⟩; have n0_ := Aside0.mk (blk_below (g := gb353) (o := .cells #[.int .i64 a0_0, .string a0_1, .int .i64 a0_2, .slice A0_3 l0_3.length c0_3] 24 (0, 0)) (bk_ BK353.out) hb); have n1_ := Aside0.mk (blk_below (g := gb354) (o := .cells #[.int .i64 a1_0, .string a1_1, .int .i64 a1_2, .slice A1_3 l1_3.length c1_3] 24 (0, 0)) (bk_ BK354.out) hb); have n2_ := Aside0.mk (below_step (bs2_ HB.out GE353.out GE354.out) hb); clear BK353; clear BK354; clear HB; have BK353 := n0_; have BK354 := n1_; have HB := n2_; clear n0_ n1_ n2_; (try clear hb); (try clear hb2); (try clear hk); (try clear hi); have hcz26_0 : w25.cell? ⟨gb354, 0, none⟩ = some (.int .i64 a1_0) := (blk_cell BK354.out 0).trans rfl; have hcz26_1 : w25.cell? ⟨gb354, 1, none⟩ = some (.string a1_1) := (blk_cell BK354.out 1).trans rfl; have hcz26_2 : w25.cell? ⟨gb354, 2, none⟩ = some (.int .i64 a1_2) := (blk_cell BK354.out 2).trans rfl; have hcz26_3 : w25.cell? ⟨gb354, 3, none⟩ = some (.slice A1_3 l1_3.length c1_3) := (blk_cell BK354.out 3).trans rfl; have hfz26_0 := blk_frozen BK354.out 0; have hfz26_1 := blk_frozen BK354.out 1; have hfz26_2 := blk_frozen BK354.out 2; have hfz26_3 := blk_frozen BK354.out 3) | (go_at_call 10; (with_reducible refine (vinculumref09_Valid.calls k a1_0 a1_1 a1_2 _ _ l1_3 true _ ?side1 ?side2 A10.out).mono ?_); (case side1 => exact kc_ HR1_3.out HB.out); (case side2 => exact HC1_3.out); rintro e w27 ⟨rfl, hb⟩; have n0_ := Aside0.mk (blk_below (g := gb353) (o := .cells #[.int .i64 a0_0, .string a0_1, .int .i64 a0_2, .slice A0_3 l0_3.length c0_3] 24 (0, 0)) (bk_ BK353.out) hb); have n1_ := Aside0.mk (blk_below (g := gb354) (o := .cells #[.int .i64 a1_0, .string a1_1, .int .i64 a1_2, .slice A1_3 l1_3.length c1_3] 24 (0, 0)) (bk_ BK354.out) hb); have n2_ := Aside0.mk (below_step (bs2_ HB.out GE353.out GE354.out) hb); clear BK353; clear BK354; clear HB; have BK353 := n0_; have BK354 := n1_; have HB := n2_; clear n0_ n1_ n2_; (try clear hb); (try clear hb2); (try clear hk); (try clear hi); have hcz28_0 : w27.cell? ⟨gb353, 0, none⟩ = some (.int .i64 a0_0) := (blk_cell BK353.out 0).trans rfl; have hcz28_1 : w27.cell? ⟨gb353, 1, none⟩ = some (.string a0_1) := (blk_cell BK353.out 1).trans rfl; have hcz28_2 : w27.cell? ⟨gb353, 2, none⟩ = some (.int .i64 a0_2) := (blk_cell BK353.out 2).trans rfl; have hcz28_3 : w27.cell? ⟨gb353, 3, none⟩ = some (.slice A0_3 l0_3.length c0_3) := (blk_cell BK353.out 3).trans rfl; have hfz28_0 := blk_frozen BK353.out 0; have hfz28_1 := blk_frozen BK353.out 1; have hfz28_2 := blk_frozen BK353.out 2; have hfz28_3 := blk_frozen BK353.out 3; have hcz29_0 : w27.cell? ⟨gb354, 0, none⟩ = some (.int .i64 a1_0) := (blk_cell BK354.out 0).trans rfl; have hcz29_1 : w27.cell? ⟨gb354, 1, none⟩ = some (.string a1_1) := (blk_cell BK354.out 1).trans rfl; have hcz29_2 : w27.cell? ⟨gb354, 2, none⟩ = some (.int .i64 a1_2) := (blk_cell BK354.out 2).trans rfl; have hcz29_3 : w27.cell? ⟨gb354, 3, none⟩ = some (.slice A1_3 l1_3.length c1_3) := (blk_cell BK354.out 3).trans rfl; have hfz29_0 := blk_frozen BK354.out 0; have hfz29_1 := blk_frozen BK354.out 1; have hfz29_2 := blk_frozen BK354.out 2; have hfz29_3 := blk_frozen BK354.out 3) | (go_at_call 11; (with_reducible refine (vinculumref16_Distance.calls k _ _ l0_3 _ _ l1_3 t361 _ ?side1 ?side2 ?side3 ?side4 A13.out).mono ?_); (case side1 => exact kc_ HR0_3.out HB.out); (case side2 => exact HC0_3.out); (case side3 => exact kc_ HR1_3.out HB.out); (case side4 => exact HC1_3.out); rintro e w30 ⟨rfl, hb⟩; have n0_ := Aside0.mk (blk_below (g := gb353) (o := .cells #[.int .i64 a0_0, .string a0_1, .int .i64 a0_2, .slice A0_3 l0_3.length c0_3] 24 (0, 0)) (bk_ BK353.out) hb); have n1_ := Aside0.mk (blk_below (g := gb354) (o := .cells #[.int .i64 a1_0, .string a1_1, .int .i64 a1_2, .slice A1_3 l1_3.length c1_3] 24 (0, 0)) (bk_ BK354.out) hb); have n2_ := Aside0.mk (below_step (bs2_ HB.out GE353.out GE354.out) hb); clear BK353; clear BK354; clear HB; have BK353 := n0_; have BK354 := n1_; have HB := n2_; clear n0_ n1_ n2_; (try clear hb); (try clear hb2); (try clear hk); (try clear hi)))
      go_ret
      exact ⟨by first | rfl | (simp [errW_none, errW_some] <;> rfl) | (simp [*, errW_none, errW_some] <;> rfl), bs2_ HB.out GE353.out GE354.out⟩
     ·rw [if_neg c12] at H
      have c12b0 : (t358 == 0) = false := beq_eq_false_iff_ne.mpr c12
      have c12b1 : (t358 != 0) = true := bne_iff_ne.mpr c12
      obtain rfl := Option.some.inj H
      go_enter Tryd.func3, Tryd.ntmps3
      go_wp2_with (first | ((with_reducible refine gate_dst (N := 2) rfl ?_); refine box_event ?hg (N := 2) ?hd (cs := #[.int .i64 a0_0, .string a0_1, .int .i64 a0_2, .slice A0_3 l0_3.length c0_3]) (t := 24) ?hr ?_; (case hd => rfl); (case hg => rfl); (case hr => first | (go_simp; done) | (go_simp; rfl)); intro gb353 hg w31 hbox hb; have n0_ := Aside0.mk (below_step (bs0_ HB.out) hb); have n1_ := Aside0.mk (hbox); have n2_ := Aside0.mk ((by rw [hg]; exact (below_size (bs0_ HB.out)) : w.heap.size ≤ gb353)); have n3_ := Aside0.mk ((by rw [hg]; exact (below_size (bs0_ HB.out)) : w.heap.size ≤ gb353)); clear HB; have HB := n0_; have BK353 := n1_; have GW353 := n2_; have GE353 := n3_; clear n0_ n1_ n2_ n3_; clear hb hbox hg) | ((with_reducible refine gate_dst (N := 3) rfl ?_); refine box_event ?hg (N := 3) ?hd (cs := #[.int .i64 a1_0, .string a1_1, .int .i64 a1_2, .slice A1_3 l1_3.length c1_3]) (t := 24) ?hr ?_; (case hd => rfl); (case hg => rfl); (case hr => first | (go_simp; done) | (go_simp; rfl)); intro gb354 hg w32 hbox hb; have n0_ := Aside0.mk (blk_below (g := gb353) (o := .cells #[.int .i64 a0_0, .string a0_1, .int .i64 a0_2, .slice A0_3 l0_3.length c0_3] 24 (0, 0)) (bk_ BK353.out) hb); have n1_ := Aside0.mk (below_step (bs1_ HB.out GE353.out) hb); have n2_ := Aside0.mk (hbox); have n3_ := Aside0.mk ((by rw [hg]; exact (below_size (bs1_ HB.out GE353.out)) : w.heap.size ≤ gb354)); have n4_ := Aside0.mk ((by rw [hg]; exact (below_size (bs1_ HB.out GE353.out)) : w.heap.size ≤ gb354)); have n5_ := Aside0.mk ((by rw [hg]; exact Nat.ne_of_lt (blk_lt (g := gb353) (o := .cells #[.int .i64 a0_0, .string a0_1, .int .i64 a0_2, .slice A0_3 l0_3.length c0_3] 24 (0, 0)) (bk_ BK353.out)) : gb353 ≠ gb354)); have n6_ := Aside0.mk ((by rw [hg]; exact Nat.ne_of_gt (blk_lt (g := gb353) (o := .cells #[.int .i64 a0_0, .string a0_1, .int .i64 a0_2, .slice A0_3 l0_3.length c0_3] 24 (0, 0)) (bk_ BK353.out)) : gb354 ≠ gb353)); clear BK353; clear HB; have BK353 := n0_; have HB := n1_; have BK354 := n2_; have GW354 := n3_; have GE354 := n4_; have NB353_354 := n5_; have NB354_353 := n6_; clear n0_ n1_ n2_ n3_ n4_ n5_ n6_; clear hb hbox hg) | ((with_reducible refine gate_callee (f := 7) rfl ?_); refine goesL_ (some 7) rfl rfl Tryd.func7 (by kernel_rfl) rfl #[] rfl (by (try simp only [List.map_toArray, List.map_cons, List.map_nil]); first | done | rfl | (simp only [List.length_drop, List.length_take]; rfl)) ?_; (with_reducible refine (vinculumlaw16_awake.calls k  true _ A3.out).mono ?_); rintro e w33 ⟨rfl, hb⟩; refine ⟨_, rfl, ?_⟩; have n0_ := Aside0.mk (blk_below (g := gb353) (o := .cells #[.int .i64 a0_0, .string a0_1, .int .i64 a0_2, .slice A0_3 l0_3.length c0_3] 24 (0, 0)) (bk_ BK353.out) hb); have n1_ := Aside0.mk (blk_below (g := gb354) (o := .cells #[.int .i64 a1_0, .string a1_1, .int .i64 a1_2, .slice A1_3 l1_3.length c1_3] 24 (0, 0)) (bk_ BK354.out) hb); have n2_ := Aside0.mk (below_step (bs2_ HB.out GE353.out GE354.out) hb); clear BK353; clear BK354; clear HB; have BK353 := n0_; have BK354 := n1_; have HB := n2_; clear n0_ n1_ n2_; (try clear hb); (try clear hb2); (try clear hk); (try clear hi); have hnb34 := NB353_354.out; have hnc34 := NB354_353.out; have hcz35_0 : w33.cell? ⟨gb353, 0, none⟩ = some (.int .i64 a0_0) := (blk_cell BK353.out 0).trans rfl; have hcz35_1 : w33.cell? ⟨gb353, 1, none⟩ = some (.string a0_1) := (blk_cell BK353.out 1).trans rfl; have hcz35_2 : w33.cell? ⟨gb353, 2, none⟩ = some (.int .i64 a0_2) := (blk_cell BK353.out 2).trans rfl; have hcz35_3 : w33.cell? ⟨gb353, 3, none⟩ = some (.slice A0_3 l0_3.length c0_3) := (blk_cell BK353.out 3).trans rfl; have hfz35_0 := blk_frozen BK353.out 0; have hfz35_1 := blk_frozen BK353.out 1; have hfz35_2 := blk_frozen BK353.out 2; have hfz35_3 := blk_frozen BK353.out 3; have hcz36_0 : w33.cell? ⟨gb354, 0, none⟩ = some (.int .i64 a1_0) := (blk_cell BK354.out 0).trans rfl; have hcz36_1 : w33.cell? ⟨gb354, 1, none⟩ = some (.string a1_1) := (blk_cell BK354.out 1).trans rfl; have hcz36_2 : w33.cell? ⟨gb354, 2, none⟩ = some (.int .i64 a1_2) := (blk_cell BK354.out 2).trans rfl; have hcz36_3 : w33.cell? ⟨gb354, 3, none⟩ = some (.slice A1_3 l1_3.length c1_3) := (blk_cell BK354.out 3).trans rfl; have hfz36_0 := blk_frozen BK354.out 0; have hfz36_1 := blk_frozen BK354.out 1; have hfz36_2 := blk_frozen BK354.out 2; have hfz36_3 := blk_frozen BK354.out 3) | ((with_reducible refine gate_callee (f := 8) rfl ?_); refine goesL_ (some 11) rfl rfl Tryd.func8 (by kernel_rfl) rfl #[.agg #[.int .i64 a0_0, .string a0_1, .int .i64 a0_2, .slice A0_3 l0_3.length c0_3], .agg #[.int .i64 a1_0, .string a1_1, .int .i64 a1_2, .slice A1_3 l1_3.length c1_3]] rfl (by (try simp only [List.map_toArray, List.map_cons, List.map_nil]); first | done | rfl | (simp only [List.length_drop, List.length_take]; rfl)) ?_; (with_reducible refine (vinculumlaw16_few.calls k a0_0 a0_1 a0_2 _ _ l0_3 a1_0 a1_1 a1_2 _ _ l1_3 true _ ?side1 ?side2 ?side3 ?side4 A5.out).mono ?_); (case side1 => exact kc_ HR0_3.out HB.out); (case side2 => exact HC0_3.out); (case side3 => exact kc_ HR1_3.out HB.out); (case side4 => exact HC1_3.out); rintro e w37 ⟨rfl, hb⟩; refine ⟨_, rfl, ?_⟩; have n0_ := Aside0.mk (blk_below (g := gb353) (o := .cells #[.int .i64 a0_0, .string a0_1, .int .i64 a0_2, .slice A0_3 l0_3.length c0_3] 24 (0, 0)) (bk_ BK353.out) hb); have n1_ := Aside0.mk (blk_below (g := gb354) (o := .cells #[.int .i64 a1_0, .string a1_1, .int .i64 a1_2, .slice A1_3 l1_3.length c1_3] 24 (0, 0)) (bk_ BK354.out) hb); have n2_ := Aside0.mk (below_step (bs2_ HB.out GE353.out GE354.out) hb); clear BK353; clear BK354; clear HB; have BK353 := n0_; have BK354 := n1_; have HB := n2_; clear n0_ n1_ n2_; (try clear hb); (try clear hb2); (try clear hk); (try clear hi); have hcz38_0 : w37.cell? ⟨gb353, 0, none⟩ = some (.int .i64 a0_0) := (blk_cell BK353.out 0).trans rfl; have hcz38_1 : w37.cell? ⟨gb353, 1, none⟩ = some (.string a0_1) := (blk_cell BK353.out 1).trans rfl; have hcz38_2 : w37.cell? ⟨gb353, 2, none⟩ = some (.int .i64 a0_2) := (blk_cell BK353.out 2).trans rfl; have hcz38_3 : w37.cell? ⟨gb353, 3, none⟩ = some (.slice A0_3 l0_3.length c0_3) := (blk_cell BK353.out 3).trans rfl; have hfz38_0 := blk_frozen BK353.out 0; have hfz38_1 := blk_frozen BK353.out 1; have hfz38_2 := blk_frozen BK353.out 2; have hfz38_3 := blk_frozen BK353.out 3; have hcz39_0 : w37.cell? ⟨gb354, 0, none⟩ = some (.int .i64 a1_0) := (blk_cell BK354.out 0).trans rfl; have hcz39_1 : w37.cell? ⟨gb354, 1, none⟩ = some (.string a1_1) := (blk_cell BK354.out 1).trans rfl; have hcz39_2 : w37.cell? ⟨gb354, 2, none⟩ = some (.int .i64 a1_2) := (blk_cell BK354.out 2).trans rfl; have hcz39_3 : w37.cell? ⟨gb354, 3, none⟩ = some (.slice A1_3 l1_3.length c1_3) := (blk_cell BK354.out 3).trans rfl; have hfz39_0 := blk_frozen BK354.out 0; have hfz39_1 := blk_frozen BK354.out 1; have hfz39_2 := blk_frozen BK354.out 2; have hfz39_3 := blk_frozen BK354.out 3) | ((with_reducible refine gate_callee (f := 9) rfl ?_); refine goesL_ (some 16) rfl rfl Tryd.func9 (by kernel_rfl) rfl #[.agg #[.int .i64 a0_0, .string a0_1, .int .i64 a0_2, .slice A0_3 l0_3.length c0_3], .agg #[.int .i64 a1_0, .string a1_1, .int .i64 a1_2, .slice A1_3 l1_3.length c1_3]] rfl (by (try simp only [List.map_toArray, List.map_cons, List.map_nil]); first | done | rfl | (simp only [List.length_drop, List.length_take]; rfl)) ?_; (with_reducible refine (diff_Cost.calls k a0_0 a0_1 a0_2 _ _ l0_3 a1_0 a1_1 a1_2 _ _ l1_3 t357 t358 _ ?side1 ?side2 ?side3 ?side4 A7.out).mono ?_); (case side1 => exact kc_ HR0_3.out HB.out); (case side2 => exact HC0_3.out); (case side3 => exact kc_ HR1_3.out HB.out); (case side4 => exact HC1_3.out); rintro e w40 ⟨rfl, hb⟩; refine ⟨_, rfl, ?_⟩; have n0_ := Aside0.mk (blk_below (g := gb353) (o := .cells #[.int .i64 a0_0, .string a0_1, .int .i64 a0_2, .slice A0_3 l0_3.length c0_3] 24 (0, 0)) (bk_ BK353.out) hb); have n1_ := Aside0.mk (blk_below (g := gb354) (o := .cells #[.int .i64 a1_0, .string a1_1, .int .i64 a1_2, .slice A1_3 l1_3.length c1_3] 24 (0, 0)) (bk_ BK354.out) hb); have n2_ := Aside0.mk (below_step (bs2_ HB.out GE353.out GE354.out) hb); clear BK353; clear BK354; clear HB; have BK353 := n0_; have BK354 := n1_; have HB := n2_; clear n0_ n1_ n2_; (try clear hb); (try clear hb2); (try clear hk); (try clear hi); have hcz41_0 : w40.cell? ⟨gb353, 0, none⟩ = some (.int .i64 a0_0) := (blk_cell BK353.out 0).trans rfl; have hcz41_1 : w40.cell? ⟨gb353, 1, none⟩ = some (.string a0_1) := (blk_cell BK353.out 1).trans rfl; have hcz41_2 : w40.cell? ⟨gb353, 2, none⟩ = some (.int .i64 a0_2) := (blk_cell BK353.out 2).trans rfl; have hcz41_3 : w40.cell? ⟨gb353, 3, none⟩ = some (.slice A0_3 l0_3.length c0_3) := (blk_cell BK353.out 3).trans rfl; have hfz41_0 := blk_frozen BK353.out 0; have hfz41_1 := blk_frozen BK353.out 1; have hfz41_2 := blk_frozen BK353.out 2; have hfz41_3 := blk_frozen BK353.out 3) | ((with_reducible refine gate_callee (f := 10) rfl ?_); refine goesL_ (some 20) rfl rfl Tryd.func10 (by kernel_rfl) rfl #[.agg #[.int .i64 a0_0, .string a0_1, .int .i64 a0_2, .slice A0_3 l0_3.length c0_3]] rfl (by (try simp only [List.map_toArray, List.map_cons, List.map_nil]); first | done | rfl | (simp only [List.length_drop, List.length_take]; rfl)) ?_; (with_reducible refine (vinculumref09_Valid.calls k a0_0 a0_1 a0_2 _ _ l0_3 true _ ?side1 ?side2 A8.out).mono ?_); (case side1 => exact kc_ HR0_3.out HB.out); (case side2 => exact HC0_3.out); rintro e w42 ⟨rfl, hb⟩; refine ⟨_, rfl, ?_⟩; have n0_ := Aside0.mk (blk_below (g := gb353) (o := .cells #[.int .i64 a0_0, .string a0_1, .int .i64 a0_2, .slice A0_3 l0_3.length c0_3] 24 (0, 0)) (bk_ BK353.out) hb); have n1_ := Aside0.mk (blk_below (g := gb354) (o := .cells #[.int .i64 a1_0, .string a1_1, .int .i64 a1_2, .slice A1_3 l1_3.length c1_3] 24 (0, 0)) (bk_ BK354.out) hb); have n2_ := Aside0.mk (below_step (bs2_ HB.out GE353.out GE354.out) hb); clear BK353; clear BK354; clear HB; have BK353 := n0_; have BK354 := n1_; have HB := n2_; clear n0_ n1_ n2_; (try clear hb); (try clear hb2); (try clear hk); (try clear hi); have hcz43_0 : w42.cell? ⟨gb354, 0, none⟩ = some (.int .i64 a1_0) := (blk_cell BK354.out 0).trans rfl; have hcz43_1 : w42.cell? ⟨gb354, 1, none⟩ = some (.string a1_1) := (blk_cell BK354.out 1).trans rfl; have hcz43_2 : w42.cell? ⟨gb354, 2, none⟩ = some (.int .i64 a1_2) := (blk_cell BK354.out 2).trans rfl; have hcz43_3 : w42.cell? ⟨gb354, 3, none⟩ = some (.slice A1_3 l1_3.length c1_3) := (blk_cell BK354.out 3).trans rfl; have hfz43_0 := blk_frozen BK354.out 0; have hfz43_1 := blk_frozen BK354.out 1; have hfz43_2 := blk_frozen BK354.out 2; have hfz43_3 := blk_frozen BK354.out 3) | (go_at_call 10; (with_reducible refine (vinculumref09_Valid.calls k a1_0 a1_1 a1_2 _ _ l1_3 true _ ?side1 ?side2 A10.out).mono ?_); (case side1 => exact kc_ HR1_3.out HB.out); (case side2 => exact HC1_3.out); rintro e w44 ⟨rfl, hb⟩; have n0_ := Aside0.mk (blk_below (g := gb353) (o := .cells #[.int .i64 a0_0, .string a0_1, .int .i64 a0_2, .slice A0_3 l0_3.length c0_3] 24 (0, 0)) (bk_ BK353.out) hb); have n1_ := Aside0.mk (blk_below (g := gb354) (o := .cells #[.int .i64 a1_0, .string a1_1, .int .i64 a1_2, .slice A1_3 l1_3.length c1_3] 24 (0, 0)) (bk_ BK354.out) hb); have n2_ := Aside0.mk (below_step (bs2_ HB.out GE353.out GE354.out) hb); clear BK353; clear BK354; clear HB; have BK353 := n0_; have BK354 := n1_; have HB := n2_; clear n0_ n1_ n2_; (try clear hb); (try clear hb2); (try clear hk); (try clear hi)))
      go_ret
      exact ⟨by first | rfl | (simp [errW_none, errW_some] <;> rfl) | (simp [*, errW_none, errW_some] <;> rfl), bs2_ HB.out GE353.out GE354.out⟩
    ·replace c11 := Bool.eq_false_iff.mpr c11
     subst c11
     have H1 : (if t357 = 0 then (some (t358 == 1)) else (some false)) = some r := by rw [if_neg (show ¬ (false = true) by decide)] at H; exact H
     clear H
     have H := H1
     clear H1
     by_cases c45 : t357 = 0
     ·rw [if_pos c45] at H
      have c45b0 : (t357 == 0) = true := beq_iff_eq.mpr c45
      have c45b1 : (t357 != 0) = false := bne_eq_false_iff_eq.mpr c45
      clear c45
      obtain rfl := Option.some.inj H
      go_enter Tryd.func3, Tryd.ntmps3
      go_wp2_with (first | ((with_reducible refine gate_dst (N := 2) rfl ?_); refine box_event ?hg (N := 2) ?hd (cs := #[.int .i64 a0_0, .string a0_1, .int .i64 a0_2, .slice A0_3 l0_3.length c0_3]) (t := 24) ?hr ?_; (case hd => rfl); (case hg => rfl); (case hr => first | (go_simp; done) | (go_simp; rfl)); intro gb353 hg w46 hbox hb; have n0_ := Aside0.mk (below_step (bs0_ HB.out) hb); have n1_ := Aside0.mk (hbox); have n2_ := Aside0.mk ((by rw [hg]; exact (below_size (bs0_ HB.out)) : w.heap.size ≤ gb353)); have n3_ := Aside0.mk ((by rw [hg]; exact (below_size (bs0_ HB.out)) : w.heap.size ≤ gb353)); clear HB; have HB := n0_; have BK353 := n1_; have GW353 := n2_; have GE353 := n3_; clear n0_ n1_ n2_ n3_; clear hb hbox hg) | ((with_reducible refine gate_dst (N := 3) rfl ?_); refine box_event ?hg (N := 3) ?hd (cs := #[.int .i64 a1_0, .string a1_1, .int .i64 a1_2, .slice A1_3 l1_3.length c1_3]) (t := 24) ?hr ?_; (case hd => rfl); (case hg => rfl); (case hr => first | (go_simp; done) | (go_simp; rfl)); intro gb354 hg w47 hbox hb; have n0_ := Aside0.mk (blk_below (g := gb353) (o := .cells #[.int .i64 a0_0, .string a0_1, .int .i64 a0_2, .slice A0_3 l0_3.length c0_3] 24 (0, 0)) (bk_ BK353.out) hb); have n1_ := Aside0.mk (below_step (bs1_ HB.out GE353.out) hb); have n2_ := Aside0.mk (hbox); have n3_ := Aside0.mk ((by rw [hg]; exact (below_size (bs1_ HB.out GE353.out)) : w.heap.size ≤ gb354)); have n4_ := Aside0.mk ((by rw [hg]; exact (below_size (bs1_ HB.out GE353.out)) : w.heap.size ≤ gb354)); have n5_ := Aside0.mk ((by rw [hg]; exact Nat.ne_of_lt (blk_lt (g := gb353) (o := .cells #[.int .i64 a0_0, .string a0_1, .int .i64 a0_2, .slice A0_3 l0_3.length c0_3] 24 (0, 0)) (bk_ BK353.out)) : gb353 ≠ gb354)); have n6_ := Aside0.mk ((by rw [hg]; exact Nat.ne_of_gt (blk_lt (g := gb353) (o := .cells #[.int .i64 a0_0, .string a0_1, .int .i64 a0_2, .slice A0_3 l0_3.length c0_3] 24 (0, 0)) (bk_ BK353.out)) : gb354 ≠ gb353)); clear BK353; clear HB; have BK353 := n0_; have HB := n1_; have BK354 := n2_; have GW354 := n3_; have GE354 := n4_; have NB353_354 := n5_; have NB354_353 := n6_; clear n0_ n1_ n2_ n3_ n4_ n5_ n6_; clear hb hbox hg) | ((with_reducible refine gate_callee (f := 7) rfl ?_); refine goesL_ (some 7) rfl rfl Tryd.func7 (by kernel_rfl) rfl #[] rfl (by (try simp only [List.map_toArray, List.map_cons, List.map_nil]); first | done | rfl | (simp only [List.length_drop, List.length_take]; rfl)) ?_; (with_reducible refine (vinculumlaw16_awake.calls k  true _ A3.out).mono ?_); rintro e w48 ⟨rfl, hb⟩; refine ⟨_, rfl, ?_⟩; have n0_ := Aside0.mk (blk_below (g := gb353) (o := .cells #[.int .i64 a0_0, .string a0_1, .int .i64 a0_2, .slice A0_3 l0_3.length c0_3] 24 (0, 0)) (bk_ BK353.out) hb); have n1_ := Aside0.mk (blk_below (g := gb354) (o := .cells #[.int .i64 a1_0, .string a1_1, .int .i64 a1_2, .slice A1_3 l1_3.length c1_3] 24 (0, 0)) (bk_ BK354.out) hb); have n2_ := Aside0.mk (below_step (bs2_ HB.out GE353.out GE354.out) hb); clear BK353; clear BK354; clear HB; have BK353 := n0_; have BK354 := n1_; have HB := n2_; clear n0_ n1_ n2_; (try clear hb); (try clear hb2); (try clear hk); (try clear hi); have hnb49 := NB353_354.out; have hnc49 := NB354_353.out; have hcz50_0 : w48.cell? ⟨gb353, 0, none⟩ = some (.int .i64 a0_0) := (blk_cell BK353.out 0).trans rfl; have hcz50_1 : w48.cell? ⟨gb353, 1, none⟩ = some (.string a0_1) := (blk_cell BK353.out 1).trans rfl; have hcz50_2 : w48.cell? ⟨gb353, 2, none⟩ = some (.int .i64 a0_2) := (blk_cell BK353.out 2).trans rfl; have hcz50_3 : w48.cell? ⟨gb353, 3, none⟩ = some (.slice A0_3 l0_3.length c0_3) := (blk_cell BK353.out 3).trans rfl; have hfz50_0 := blk_frozen BK353.out 0; have hfz50_1 := blk_frozen BK353.out 1; have hfz50_2 := blk_frozen BK353.out 2; have hfz50_3 := blk_frozen BK353.out 3; have hcz51_0 : w48.cell? ⟨gb354, 0, none⟩ = some (.int .i64 a1_0) := (blk_cell BK354.out 0).trans rfl; have hcz51_1 : w48.cell? ⟨gb354, 1, none⟩ = some (.string a1_1) := (blk_cell BK354.out 1).trans rfl; have hcz51_2 : w48.cell? ⟨gb354, 2, none⟩ = some (.int .i64 a1_2) := (blk_cell BK354.out 2).trans rfl; have hcz51_3 : w48.cell? ⟨gb354, 3, none⟩ = some (.slice A1_3 l1_3.length c1_3) := (blk_cell BK354.out 3).trans rfl; have hfz51_0 := blk_frozen BK354.out 0; have hfz51_1 := blk_frozen BK354.out 1; have hfz51_2 := blk_frozen BK354.out 2; have hfz51_3 := blk_frozen BK354.out 3) | ((with_reducible refine gate_callee (f := 8) rfl ?_); refine goesL_ (some 11) rfl rfl Tryd.func8 (by kernel_rfl) rfl #[.agg #[.int .i64 a0_0, .string a0_1, .int .i64 a0_2, .slice A0_3 l0_3.length c0_3], .agg #[.int .i64 a1_0, .string a1_1, .int .i64 a1_2, .slice A1_3 l1_3.length c1_3]] rfl (by (try simp only [List.map_toArray, List.map_cons, List.map_nil]); first | done | rfl | (simp only [List.length_drop, List.length_take]; rfl)) ?_; (with_reducible refine (vinculumlaw16_few.calls k a0_0 a0_1 a0_2 _ _ l0_3 a1_0 a1_1 a1_2 _ _ l1_3 true _ ?side1 ?side2 ?side3 ?side4 A5.out).mono ?_); (case side1 => exact kc_ HR0_3.out HB.out); (case side2 => exact HC0_3.out); (case side3 => exact kc_ HR1_3.out HB.out); (case side4 => exact HC1_3.out); rintro e w52 ⟨rfl, hb⟩; refine ⟨_, rfl, ?_⟩; have n0_ := Aside0.mk (blk_below (g := gb353) (o := .cells #[.int .i64 a0_0, .string a0_1, .int .i64 a0_2, .slice A0_3 l0_3.length c0_3] 24 (0, 0)) (bk_ BK353.out) hb); have n1_ := Aside0.mk (blk_below (g := gb354) (o := .cells #[.int .i64 a1_0, .string a1_1, .int .i64 a1_2, .slice A1_3 l1_3.length c1_3] 24 (0, 0)) (bk_ BK354.out) hb); have n2_ := Aside0.mk (below_step (bs2_ HB.out GE353.out GE354.out) hb); clear BK353; clear BK354; clear HB; have BK353 := n0_; have BK354 := n1_; have HB := n2_; clear n0_ n1_ n2_; (try clear hb); (try clear hb2); (try clear hk); (try clear hi); have hcz53_0 : w52.cell? ⟨gb353, 0, none⟩ = some (.int .i64 a0_0) := (blk_cell BK353.out 0).trans rfl; have hcz53_1 : w52.cell? ⟨gb353, 1, none⟩ = some (.string a0_1) := (blk_cell BK353.out 1).trans rfl; have hcz53_2 : w52.cell? ⟨gb353, 2, none⟩ = some (.int .i64 a0_2) := (blk_cell BK353.out 2).trans rfl; have hcz53_3 : w52.cell? ⟨gb353, 3, none⟩ = some (.slice A0_3 l0_3.length c0_3) := (blk_cell BK353.out 3).trans rfl; have hfz53_0 := blk_frozen BK353.out 0; have hfz53_1 := blk_frozen BK353.out 1; have hfz53_2 := blk_frozen BK353.out 2; have hfz53_3 := blk_frozen BK353.out 3; have hcz54_0 : w52.cell? ⟨gb354, 0, none⟩ = some (.int .i64 a1_0) := (blk_cell BK354.out 0).trans rfl; have hcz54_1 : w52.cell? ⟨gb354, 1, none⟩ = some (.string a1_1) := (blk_cell BK354.out 1).trans rfl; have hcz54_2 : w52.cell? ⟨gb354, 2, none⟩ = some (.int .i64 a1_2) := (blk_cell BK354.out 2).trans rfl; have hcz54_3 : w52.cell? ⟨gb354, 3, none⟩ = some (.slice A1_3 l1_3.length c1_3) := (blk_cell BK354.out 3).trans rfl; have hfz54_0 := blk_frozen BK354.out 0; have hfz54_1 := blk_frozen BK354.out 1; have hfz54_2 := blk_frozen BK354.out 2; have hfz54_3 := blk_frozen BK354.out 3) | ((with_reducible refine gate_callee (f := 9) rfl ?_); refine goesL_ (some 16) rfl rfl Tryd.func9 (by kernel_rfl) rfl #[.agg #[.int .i64 a0_0, .string a0_1, .int .i64 a0_2, .slice A0_3 l0_3.length c0_3], .agg #[.int .i64 a1_0, .string a1_1, .int .i64 a1_2, .slice A1_3 l1_3.length c1_3]] rfl (by (try simp only [List.map_toArray, List.map_cons, List.map_nil]); first | done | rfl | (simp only [List.length_drop, List.length_take]; rfl)) ?_; (with_reducible refine (diff_Cost.calls k a0_0 a0_1 a0_2 _ _ l0_3 a1_0 a1_1 a1_2 _ _ l1_3 t357 t358 _ ?side1 ?side2 ?side3 ?side4 A7.out).mono ?_); (case side1 => exact kc_ HR0_3.out HB.out); (case side2 => exact HC0_3.out); (case side3 => exact kc_ HR1_3.out HB.out); (case side4 => exact HC1_3.out); rintro e w55 ⟨rfl, hb⟩; refine ⟨_, rfl, ?_⟩; have n0_ := Aside0.mk (blk_below (g := gb353) (o := .cells #[.int .i64 a0_0, .string a0_1, .int .i64 a0_2, .slice A0_3 l0_3.length c0_3] 24 (0, 0)) (bk_ BK353.out) hb); have n1_ := Aside0.mk (blk_below (g := gb354) (o := .cells #[.int .i64 a1_0, .string a1_1, .int .i64 a1_2, .slice A1_3 l1_3.length c1_3] 24 (0, 0)) (bk_ BK354.out) hb); have n2_ := Aside0.mk (below_step (bs2_ HB.out GE353.out GE354.out) hb); clear BK353; clear BK354; clear HB; have BK353 := n0_; have BK354 := n1_; have HB := n2_; clear n0_ n1_ n2_; (try clear hb); (try clear hb2); (try clear hk); (try clear hi); have hcz56_0 : w55.cell? ⟨gb353, 0, none⟩ = some (.int .i64 a0_0) := (blk_cell BK353.out 0).trans rfl; have hcz56_1 : w55.cell? ⟨gb353, 1, none⟩ = some (.string a0_1) := (blk_cell BK353.out 1).trans rfl; have hcz56_2 : w55.cell? ⟨gb353, 2, none⟩ = some (.int .i64 a0_2) := (blk_cell BK353.out 2).trans rfl; have hcz56_3 : w55.cell? ⟨gb353, 3, none⟩ = some (.slice A0_3 l0_3.length c0_3) := (blk_cell BK353.out 3).trans rfl; have hfz56_0 := blk_frozen BK353.out 0; have hfz56_1 := blk_frozen BK353.out 1; have hfz56_2 := blk_frozen BK353.out 2; have hfz56_3 := blk_frozen BK353.out 3) | ((with_reducible refine gate_callee (f := 10) rfl ?_); refine goesL_ (some 20) rfl rfl Tryd.func10 (by kernel_rfl) rfl #[.agg #[.int .i64 a0_0, .string a0_1, .int .i64 a0_2, .slice A0_3 l0_3.length c0_3]] rfl (by (try simp only [List.map_toArray, List.map_cons, List.map_nil]); first | done | rfl | (simp only [List.length_drop, List.length_take]; rfl)) ?_; (with_reducible refine (vinculumref09_Valid.calls k a0_0 a0_1 a0_2 _ _ l0_3 true _ ?side1 ?side2 A8.out).mono ?_); (case side1 => exact kc_ HR0_3.out HB.out); (case side2 => exact HC0_3.out); rintro e w57 ⟨rfl, hb⟩; refine ⟨_, rfl, ?_⟩; have n0_ := Aside0.mk (blk_below (g := gb353) (o := .cells #[.int .i64 a0_0, .string a0_1, .int .i64 a0_2, .slice A0_3 l0_3.length c0_3] 24 (0, 0)) (bk_ BK353.out) hb); have n1_ := Aside0.mk (blk_below (g := gb354) (o := .cells #[.int .i64 a1_0, .string a1_1, .int .i64 a1_2, .slice A1_3 l1_3.length c1_3] 24 (0, 0)) (bk_ BK354.out) hb); have n2_ := Aside0.mk (below_step (bs2_ HB.out GE353.out GE354.out) hb); clear BK353; clear BK354; clear HB; have BK353 := n0_; have BK354 := n1_; have HB := n2_; clear n0_ n1_ n2_; (try clear hb); (try clear hb2); (try clear hk); (try clear hi); have hcz58_0 : w57.cell? ⟨gb354, 0, none⟩ = some (.int .i64 a1_0) := (blk_cell BK354.out 0).trans rfl; have hcz58_1 : w57.cell? ⟨gb354, 1, none⟩ = some (.string a1_1) := (blk_cell BK354.out 1).trans rfl; have hcz58_2 : w57.cell? ⟨gb354, 2, none⟩ = some (.int .i64 a1_2) := (blk_cell BK354.out 2).trans rfl; have hcz58_3 : w57.cell? ⟨gb354, 3, none⟩ = some (.slice A1_3 l1_3.length c1_3) := (blk_cell BK354.out 3).trans rfl; have hfz58_0 := blk_frozen BK354.out 0; have hfz58_1 := blk_frozen BK354.out 1; have hfz58_2 := blk_frozen BK354.out 2; have hfz58_3 := blk_frozen BK354.out 3) | (go_at_call 10; (with_reducible refine (vinculumref09_Valid.calls k a1_0 a1_1 a1_2 _ _ l1_3 false _ ?side1 ?side2 A10.out).mono ?_); (case side1 => exact kc_ HR1_3.out HB.out); (case side2 => exact HC1_3.out); rintro e w59 ⟨rfl, hb⟩; have n0_ := Aside0.mk (blk_below (g := gb353) (o := .cells #[.int .i64 a0_0, .string a0_1, .int .i64 a0_2, .slice A0_3 l0_3.length c0_3] 24 (0, 0)) (bk_ BK353.out) hb); have n1_ := Aside0.mk (blk_below (g := gb354) (o := .cells #[.int .i64 a1_0, .string a1_1, .int .i64 a1_2, .slice A1_3 l1_3.length c1_3] 24 (0, 0)) (bk_ BK354.out) hb); have n2_ := Aside0.mk (below_step (bs2_ HB.out GE353.out GE354.out) hb); clear BK353; clear BK354; clear HB; have BK353 := n0_; have BK354 := n1_; have HB := n2_; clear n0_ n1_ n2_; (try clear hb); (try clear hb2); (try clear hk); (try clear hi)))
      go_ret
      exact ⟨by first | rfl | (simp [errW_none, errW_some] <;> rfl) | (simp [*, errW_none, errW_some] <;> rfl), bs2_ HB.out GE353.out GE354.out⟩
     ·rw [if_neg c45] at H
      have c45b0 : (t357 == 0) = false := beq_eq_false_iff_ne.mpr c45
      have c45b1 : (t357 != 0) = true := bne_iff_ne.mpr c45
      obtain rfl := Option.some.inj H
      go_enter Tryd.func3, Tryd.ntmps3
      go_wp2_with (first | ((with_reducible refine gate_dst (N := 2) rfl ?_); refine box_event ?hg (N := 2) ?hd (cs := #[.int .i64 a0_0, .string a0_1, .int .i64 a0_2, .slice A0_3 l0_3.length c0_3]) (t := 24) ?hr ?_; (case hd => rfl); (case hg => rfl); (case hr => first | (go_simp; done) | (go_simp; rfl)); intro gb353 hg w60 hbox hb; have n0_ := Aside0.mk (below_step (bs0_ HB.out) hb); have n1_ := Aside0.mk (hbox); have n2_ := Aside0.mk ((by rw [hg]; exact (below_size (bs0_ HB.out)) : w.heap.size ≤ gb353)); have n3_ := Aside0.mk ((by rw [hg]; exact (below_size (bs0_ HB.out)) : w.heap.size ≤ gb353)); clear HB; have HB := n0_; have BK353 := n1_; have GW353 := n2_; have GE353 := n3_; clear n0_ n1_ n2_ n3_; clear hb hbox hg) | ((with_reducible refine gate_dst (N := 3) rfl ?_); refine box_event ?hg (N := 3) ?hd (cs := #[.int .i64 a1_0, .string a1_1, .int .i64 a1_2, .slice A1_3 l1_3.length c1_3]) (t := 24) ?hr ?_; (case hd => rfl); (case hg => rfl); (case hr => first | (go_simp; done) | (go_simp; rfl)); intro gb354 hg w61 hbox hb; have n0_ := Aside0.mk (blk_below (g := gb353) (o := .cells #[.int .i64 a0_0, .string a0_1, .int .i64 a0_2, .slice A0_3 l0_3.length c0_3] 24 (0, 0)) (bk_ BK353.out) hb); have n1_ := Aside0.mk (below_step (bs1_ HB.out GE353.out) hb); have n2_ := Aside0.mk (hbox); have n3_ := Aside0.mk ((by rw [hg]; exact (below_size (bs1_ HB.out GE353.out)) : w.heap.size ≤ gb354)); have n4_ := Aside0.mk ((by rw [hg]; exact (below_size (bs1_ HB.out GE353.out)) : w.heap.size ≤ gb354)); have n5_ := Aside0.mk ((by rw [hg]; exact Nat.ne_of_lt (blk_lt (g := gb353) (o := .cells #[.int .i64 a0_0, .string a0_1, .int .i64 a0_2, .slice A0_3 l0_3.length c0_3] 24 (0, 0)) (bk_ BK353.out)) : gb353 ≠ gb354)); have n6_ := Aside0.mk ((by rw [hg]; exact Nat.ne_of_gt (blk_lt (g := gb353) (o := .cells #[.int .i64 a0_0, .string a0_1, .int .i64 a0_2, .slice A0_3 l0_3.length c0_3] 24 (0, 0)) (bk_ BK353.out)) : gb354 ≠ gb353)); clear BK353; clear HB; have BK353 := n0_; have HB := n1_; have BK354 := n2_; have GW354 := n3_; have GE354 := n4_; have NB353_354 := n5_; have NB354_353 := n6_; clear n0_ n1_ n2_ n3_ n4_ n5_ n6_; clear hb hbox hg) | ((with_reducible refine gate_callee (f := 7) rfl ?_); refine goesL_ (some 7) rfl rfl Tryd.func7 (by kernel_rfl) rfl #[] rfl (by (try simp only [List.map_toArray, List.map_cons, List.map_nil]); first | done | rfl | (simp only [List.length_drop, List.length_take]; rfl)) ?_; (with_reducible refine (vinculumlaw16_awake.calls k  true _ A3.out).mono ?_); rintro e w62 ⟨rfl, hb⟩; refine ⟨_, rfl, ?_⟩; have n0_ := Aside0.mk (blk_below (g := gb353) (o := .cells #[.int .i64 a0_0, .string a0_1, .int .i64 a0_2, .slice A0_3 l0_3.length c0_3] 24 (0, 0)) (bk_ BK353.out) hb); have n1_ := Aside0.mk (blk_below (g := gb354) (o := .cells #[.int .i64 a1_0, .string a1_1, .int .i64 a1_2, .slice A1_3 l1_3.length c1_3] 24 (0, 0)) (bk_ BK354.out) hb); have n2_ := Aside0.mk (below_step (bs2_ HB.out GE353.out GE354.out) hb); clear BK353; clear BK354; clear HB; have BK353 := n0_; have BK354 := n1_; have HB := n2_; clear n0_ n1_ n2_; (try clear hb); (try clear hb2); (try clear hk); (try clear hi); have hnb63 := NB353_354.out; have hnc63 := NB354_353.out; have hcz64_0 : w62.cell? ⟨gb353, 0, none⟩ = some (.int .i64 a0_0) := (blk_cell BK353.out 0).trans rfl; have hcz64_1 : w62.cell? ⟨gb353, 1, none⟩ = some (.string a0_1) := (blk_cell BK353.out 1).trans rfl; have hcz64_2 : w62.cell? ⟨gb353, 2, none⟩ = some (.int .i64 a0_2) := (blk_cell BK353.out 2).trans rfl; have hcz64_3 : w62.cell? ⟨gb353, 3, none⟩ = some (.slice A0_3 l0_3.length c0_3) := (blk_cell BK353.out 3).trans rfl; have hfz64_0 := blk_frozen BK353.out 0; have hfz64_1 := blk_frozen BK353.out 1; have hfz64_2 := blk_frozen BK353.out 2; have hfz64_3 := blk_frozen BK353.out 3; have hcz65_0 : w62.cell? ⟨gb354, 0, none⟩ = some (.int .i64 a1_0) := (blk_cell BK354.out 0).trans rfl; have hcz65_1 : w62.cell? ⟨gb354, 1, none⟩ = some (.string a1_1) := (blk_cell BK354.out 1).trans rfl; have hcz65_2 : w62.cell? ⟨gb354, 2, none⟩ = some (.int .i64 a1_2) := (blk_cell BK354.out 2).trans rfl; have hcz65_3 : w62.cell? ⟨gb354, 3, none⟩ = some (.slice A1_3 l1_3.length c1_3) := (blk_cell BK354.out 3).trans rfl; have hfz65_0 := blk_frozen BK354.out 0; have hfz65_1 := blk_frozen BK354.out 1; have hfz65_2 := blk_frozen BK354.out 2; have hfz65_3 := blk_frozen BK354.out 3) | ((with_reducible refine gate_callee (f := 8) rfl ?_); refine goesL_ (some 11) rfl rfl Tryd.func8 (by kernel_rfl) rfl #[.agg #[.int .i64 a0_0, .string a0_1, .int .i64 a0_2, .slice A0_3 l0_3.length c0_3], .agg #[.int .i64 a1_0, .string a1_1, .int .i64 a1_2, .slice A1_3 l1_3.length c1_3]] rfl (by (try simp only [List.map_toArray, List.map_cons, List.map_nil]); first | done | rfl | (simp only [List.length_drop, List.length_take]; rfl)) ?_; (with_reducible refine (vinculumlaw16_few.calls k a0_0 a0_1 a0_2 _ _ l0_3 a1_0 a1_1 a1_2 _ _ l1_3 true _ ?side1 ?side2 ?side3 ?side4 A5.out).mono ?_); (case side1 => exact kc_ HR0_3.out HB.out); (case side2 => exact HC0_3.out); (case side3 => exact kc_ HR1_3.out HB.out); (case side4 => exact HC1_3.out); rintro e w66 ⟨rfl, hb⟩; refine ⟨_, rfl, ?_⟩; have n0_ := Aside0.mk (blk_below (g := gb353) (o := .cells #[.int .i64 a0_0, .string a0_1, .int .i64 a0_2, .slice A0_3 l0_3.length c0_3] 24 (0, 0)) (bk_ BK353.out) hb); have n1_ := Aside0.mk (blk_below (g := gb354) (o := .cells #[.int .i64 a1_0, .string a1_1, .int .i64 a1_2, .slice A1_3 l1_3.length c1_3] 24 (0, 0)) (bk_ BK354.out) hb); have n2_ := Aside0.mk (below_step (bs2_ HB.out GE353.out GE354.out) hb); clear BK353; clear BK354; clear HB; have BK353 := n0_; have BK354 := n1_; have HB := n2_; clear n0_ n1_ n2_; (try clear hb); (try clear hb2); (try clear hk); (try clear hi); have hcz67_0 : w66.cell? ⟨gb353, 0, none⟩ = some (.int .i64 a0_0) := (blk_cell BK353.out 0).trans rfl; have hcz67_1 : w66.cell? ⟨gb353, 1, none⟩ = some (.string a0_1) := (blk_cell BK353.out 1).trans rfl; have hcz67_2 : w66.cell? ⟨gb353, 2, none⟩ = some (.int .i64 a0_2) := (blk_cell BK353.out 2).trans rfl; have hcz67_3 : w66.cell? ⟨gb353, 3, none⟩ = some (.slice A0_3 l0_3.length c0_3) := (blk_cell BK353.out 3).trans rfl; have hfz67_0 := blk_frozen BK353.out 0; have hfz67_1 := blk_frozen BK353.out 1; have hfz67_2 := blk_frozen BK353.out 2; have hfz67_3 := blk_frozen BK353.out 3; have hcz68_0 : w66.cell? ⟨gb354, 0, none⟩ = some (.int .i64 a1_0) := (blk_cell BK354.out 0).trans rfl; have hcz68_1 : w66.cell? ⟨gb354, 1, none⟩ = some (.string a1_1) := (blk_cell BK354.out 1).trans rfl; have hcz68_2 : w66.cell? ⟨gb354, 2, none⟩ = some (.int .i64 a1_2) := (blk_cell BK354.out 2).trans rfl; have hcz68_3 : w66.cell? ⟨gb354, 3, none⟩ = some (.slice A1_3 l1_3.length c1_3) := (blk_cell BK354.out 3).trans rfl; have hfz68_0 := blk_frozen BK354.out 0; have hfz68_1 := blk_frozen BK354.out 1; have hfz68_2 := blk_frozen BK354.out 2; have hfz68_3 := blk_frozen BK354.out 3) | ((with_reducible refine gate_callee (f := 9) rfl ?_); refine goesL_ (some 16) rfl rfl Tryd.func9 (by kernel_rfl) rfl #[.agg #[.int .i64 a0_0, .string a0_1, .int .i64 a0_2, .slice A0_3 l0_3.length c0_3], .agg #[.int .i64 a1_0, .string a1_1, .int .i64 a1_2, .slice A1_3 l1_3.length c1_3]] rfl (by (try simp only [List.map_toArray, List.map_cons, List.map_nil]); first | done | rfl | (simp only [List.length_drop, List.length_take]; rfl)) ?_; (with_reducible refine (diff_Cost.calls k a0_0 a0_1 a0_2 _ _ l0_3 a1_0 a1_1 a1_2 _ _ l1_3 t357 t358 _ ?side1 ?side2 ?side3 ?side4 A7.out).mono ?_); (case side1 => exact kc_ HR0_3.out HB.out); (case side2 => exact HC0_3.out); (case side3 => exact kc_ HR1_3.out HB.out); (case side4 => exact HC1_3.out); rintro e w69 ⟨rfl, hb⟩; refine ⟨_, rfl, ?_⟩; have n0_ := Aside0.mk (blk_below (g := gb353) (o := .cells #[.int .i64 a0_0, .string a0_1, .int .i64 a0_2, .slice A0_3 l0_3.length c0_3] 24 (0, 0)) (bk_ BK353.out) hb); have n1_ := Aside0.mk (blk_below (g := gb354) (o := .cells #[.int .i64 a1_0, .string a1_1, .int .i64 a1_2, .slice A1_3 l1_3.length c1_3] 24 (0, 0)) (bk_ BK354.out) hb); have n2_ := Aside0.mk (below_step (bs2_ HB.out GE353.out GE354.out) hb); clear BK353; clear BK354; clear HB; have BK353 := n0_; have BK354 := n1_; have HB := n2_; clear n0_ n1_ n2_; (try clear hb); (try clear hb2); (try clear hk); (try clear hi); have hcz70_0 : w69.cell? ⟨gb353, 0, none⟩ = some (.int .i64 a0_0) := (blk_cell BK353.out 0).trans rfl; have hcz70_1 : w69.cell? ⟨gb353, 1, none⟩ = some (.string a0_1) := (blk_cell BK353.out 1).trans rfl; have hcz70_2 : w69.cell? ⟨gb353, 2, none⟩ = some (.int .i64 a0_2) := (blk_cell BK353.out 2).trans rfl; have hcz70_3 : w69.cell? ⟨gb353, 3, none⟩ = some (.slice A0_3 l0_3.length c0_3) := (blk_cell BK353.out 3).trans rfl; have hfz70_0 := blk_frozen BK353.out 0; have hfz70_1 := blk_frozen BK353.out 1; have hfz70_2 := blk_frozen BK353.out 2; have hfz70_3 := blk_frozen BK353.out 3) | ((with_reducible refine gate_callee (f := 10) rfl ?_); refine goesL_ (some 20) rfl rfl Tryd.func10 (by kernel_rfl) rfl #[.agg #[.int .i64 a0_0, .string a0_1, .int .i64 a0_2, .slice A0_3 l0_3.length c0_3]] rfl (by (try simp only [List.map_toArray, List.map_cons, List.map_nil]); first | done | rfl | (simp only [List.length_drop, List.length_take]; rfl)) ?_; (with_reducible refine (vinculumref09_Valid.calls k a0_0 a0_1 a0_2 _ _ l0_3 true _ ?side1 ?side2 A8.out).mono ?_); (case side1 => exact kc_ HR0_3.out HB.out); (case side2 => exact HC0_3.out); rintro e w71 ⟨rfl, hb⟩; refine ⟨_, rfl, ?_⟩; have n0_ := Aside0.mk (blk_below (g := gb353) (o := .cells #[.int .i64 a0_0, .string a0_1, .int .i64 a0_2, .slice A0_3 l0_3.length c0_3] 24 (0, 0)) (bk_ BK353.out) hb); have n1_ := Aside0.mk (blk_below (g := gb354) (o := .cells #[.int .i64 a1_0, .string a1_1, .int .i64 a1_2, .slice A1_3 l1_3.length c1_3] 24 (0, 0)) (bk_ BK354.out) hb); have n2_ := Aside0.mk (below_step (bs2_ HB.out GE353.out GE354.out) hb); clear BK353; clear BK354; clear HB; have BK353 := n0_; have BK354 := n1_; have HB := n2_; clear n0_ n1_ n2_; (try clear hb); (try clear hb2); (try clear hk); (try clear hi); have hcz72_0 : w71.cell? ⟨gb354, 0, none⟩ = some (.int .i64 a1_0) := (blk_cell BK354.out 0).trans rfl; have hcz72_1 : w71.cell? ⟨gb354, 1, none⟩ = some (.string a1_1) := (blk_cell BK354.out 1).trans rfl; have hcz72_2 : w71.cell? ⟨gb354, 2, none⟩ = some (.int .i64 a1_2) := (blk_cell BK354.out 2).trans rfl; have hcz72_3 : w71.cell? ⟨gb354, 3, none⟩ = some (.slice A1_3 l1_3.length c1_3) := (blk_cell BK354.out 3).trans rfl; have hfz72_0 := blk_frozen BK354.out 0; have hfz72_1 := blk_frozen BK354.out 1; have hfz72_2 := blk_frozen BK354.out 2; have hfz72_3 := blk_frozen BK354.out 3) | (go_at_call 10; (with_reducible refine (vinculumref09_Valid.calls k a1_0 a1_1 a1_2 _ _ l1_3 false _ ?side1 ?side2 A10.out).mono ?_); (case side1 => exact kc_ HR1_3.out HB.out); (case side2 => exact HC1_3.out); rintro e w73 ⟨rfl, hb⟩; have n0_ := Aside0.mk (blk_below (g := gb353) (o := .cells #[.int .i64 a0_0, .string a0_1, .int .i64 a0_2, .slice A0_3 l0_3.length c0_3] 24 (0, 0)) (bk_ BK353.out) hb); have n1_ := Aside0.mk (blk_below (g := gb354) (o := .cells #[.int .i64 a1_0, .string a1_1, .int .i64 a1_2, .slice A1_3 l1_3.length c1_3] 24 (0, 0)) (bk_ BK354.out) hb); have n2_ := Aside0.mk (below_step (bs2_ HB.out GE353.out GE354.out) hb); clear BK353; clear BK354; clear HB; have BK353 := n0_; have BK354 := n1_; have HB := n2_; clear n0_ n1_ n2_; (try clear hb); (try clear hb2); (try clear hk); (try clear hi)))
      go_ret
      exact ⟨by first | rfl | (simp [errW_none, errW_some] <;> rfl) | (simp [*, errW_none, errW_some] <;> rfl), bs2_ HB.out GE353.out GE354.out⟩
   ·replace c9 := Bool.eq_false_iff.mpr c9
    subst c9
    have H1 : (if t357 = 0 then (some (t358 == 1)) else (some false)) = some r := by rw [if_neg (show ¬ (false = true) by decide)] at H; exact H
    clear H
    have H := H1
    clear H1
    by_cases c74 : t357 = 0
    ·rw [if_pos c74] at H
     have c74b0 : (t357 == 0) = true := beq_iff_eq.mpr c74
     have c74b1 : (t357 != 0) = false := bne_eq_false_iff_eq.mpr c74
     clear c74
     obtain rfl := Option.some.inj H
     go_enter Tryd.func3, Tryd.ntmps3
     go_wp2_with (first | ((with_reducible refine gate_dst (N := 2) rfl ?_); refine box_event ?hg (N := 2) ?hd (cs := #[.int .i64 a0_0, .string a0_1, .int .i64 a0_2, .slice A0_3 l0_3.length c0_3]) (t := 24) ?hr ?_; (case hd => rfl); (case hg => rfl); (case hr => first | (go_simp; done) | (go_simp; rfl)); intro gb353 hg w75 hbox hb; have n0_ := Aside0.mk (below_step (bs0_ HB.out) hb); have n1_ := Aside0.mk (hbox); have n2_ := Aside0.mk ((by rw [hg]; exact (below_size (bs0_ HB.out)) : w.heap.size ≤ gb353)); have n3_ := Aside0.mk ((by rw [hg]; exact (below_size (bs0_ HB.out)) : w.heap.size ≤ gb353)); clear HB; have HB := n0_; have BK353 := n1_; have GW353 := n2_; have GE353 := n3_; clear n0_ n1_ n2_ n3_; clear hb hbox hg) | ((with_reducible refine gate_dst (N := 3) rfl ?_); refine box_event ?hg (N := 3) ?hd (cs := #[.int .i64 a1_0, .string a1_1, .int .i64 a1_2, .slice A1_3 l1_3.length c1_3]) (t := 24) ?hr ?_; (case hd => rfl); (case hg => rfl); (case hr => first | (go_simp; done) | (go_simp; rfl)); intro gb354 hg w76 hbox hb; have n0_ := Aside0.mk (blk_below (g := gb353) (o := .cells #[.int .i64 a0_0, .string a0_1, .int .i64 a0_2, .slice A0_3 l0_3.length c0_3] 24 (0, 0)) (bk_ BK353.out) hb); have n1_ := Aside0.mk (below_step (bs1_ HB.out GE353.out) hb); have n2_ := Aside0.mk (hbox); have n3_ := Aside0.mk ((by rw [hg]; exact (below_size (bs1_ HB.out GE353.out)) : w.heap.size ≤ gb354)); have n4_ := Aside0.mk ((by rw [hg]; exact (below_size (bs1_ HB.out GE353.out)) : w.heap.size ≤ gb354)); have n5_ := Aside0.mk ((by rw [hg]; exact Nat.ne_of_lt (blk_lt (g := gb353) (o := .cells #[.int .i64 a0_0, .string a0_1, .int .i64 a0_2, .slice A0_3 l0_3.length c0_3] 24 (0, 0)) (bk_ BK353.out)) : gb353 ≠ gb354)); have n6_ := Aside0.mk ((by rw [hg]; exact Nat.ne_of_gt (blk_lt (g := gb353) (o := .cells #[.int .i64 a0_0, .string a0_1, .int .i64 a0_2, .slice A0_3 l0_3.length c0_3] 24 (0, 0)) (bk_ BK353.out)) : gb354 ≠ gb353)); clear BK353; clear HB; have BK353 := n0_; have HB := n1_; have BK354 := n2_; have GW354 := n3_; have GE354 := n4_; have NB353_354 := n5_; have NB354_353 := n6_; clear n0_ n1_ n2_ n3_ n4_ n5_ n6_; clear hb hbox hg) | ((with_reducible refine gate_callee (f := 7) rfl ?_); refine goesL_ (some 7) rfl rfl Tryd.func7 (by kernel_rfl) rfl #[] rfl (by (try simp only [List.map_toArray, List.map_cons, List.map_nil]); first | done | rfl | (simp only [List.length_drop, List.length_take]; rfl)) ?_; (with_reducible refine (vinculumlaw16_awake.calls k  true _ A3.out).mono ?_); rintro e w77 ⟨rfl, hb⟩; refine ⟨_, rfl, ?_⟩; have n0_ := Aside0.mk (blk_below (g := gb353) (o := .cells #[.int .i64 a0_0, .string a0_1, .int .i64 a0_2, .slice A0_3 l0_3.length c0_3] 24 (0, 0)) (bk_ BK353.out) hb); have n1_ := Aside0.mk (blk_below (g := gb354) (o := .cells #[.int .i64 a1_0, .string a1_1, .int .i64 a1_2, .slice A1_3 l1_3.length c1_3] 24 (0, 0)) (bk_ BK354.out) hb); have n2_ := Aside0.mk (below_step (bs2_ HB.out GE353.out GE354.out) hb); clear BK353; clear BK354; clear HB; have BK353 := n0_; have BK354 := n1_; have HB := n2_; clear n0_ n1_ n2_; (try clear hb); (try clear hb2); (try clear hk); (try clear hi); have hnb78 := NB353_354.out; have hnc78 := NB354_353.out; have hcz79_0 : w77.cell? ⟨gb353, 0, none⟩ = some (.int .i64 a0_0) := (blk_cell BK353.out 0).trans rfl; have hcz79_1 : w77.cell? ⟨gb353, 1, none⟩ = some (.string a0_1) := (blk_cell BK353.out 1).trans rfl; have hcz79_2 : w77.cell? ⟨gb353, 2, none⟩ = some (.int .i64 a0_2) := (blk_cell BK353.out 2).trans rfl; have hcz79_3 : w77.cell? ⟨gb353, 3, none⟩ = some (.slice A0_3 l0_3.length c0_3) := (blk_cell BK353.out 3).trans rfl; have hfz79_0 := blk_frozen BK353.out 0; have hfz79_1 := blk_frozen BK353.out 1; have hfz79_2 := blk_frozen BK353.out 2; have hfz79_3 := blk_frozen BK353.out 3; have hcz80_0 : w77.cell? ⟨gb354, 0, none⟩ = some (.int .i64 a1_0) := (blk_cell BK354.out 0).trans rfl; have hcz80_1 : w77.cell? ⟨gb354, 1, none⟩ = some (.string a1_1) := (blk_cell BK354.out 1).trans rfl; have hcz80_2 : w77.cell? ⟨gb354, 2, none⟩ = some (.int .i64 a1_2) := (blk_cell BK354.out 2).trans rfl; have hcz80_3 : w77.cell? ⟨gb354, 3, none⟩ = some (.slice A1_3 l1_3.length c1_3) := (blk_cell BK354.out 3).trans rfl; have hfz80_0 := blk_frozen BK354.out 0; have hfz80_1 := blk_frozen BK354.out 1; have hfz80_2 := blk_frozen BK354.out 2; have hfz80_3 := blk_frozen BK354.out 3) | ((with_reducible refine gate_callee (f := 8) rfl ?_); refine goesL_ (some 11) rfl rfl Tryd.func8 (by kernel_rfl) rfl #[.agg #[.int .i64 a0_0, .string a0_1, .int .i64 a0_2, .slice A0_3 l0_3.length c0_3], .agg #[.int .i64 a1_0, .string a1_1, .int .i64 a1_2, .slice A1_3 l1_3.length c1_3]] rfl (by (try simp only [List.map_toArray, List.map_cons, List.map_nil]); first | done | rfl | (simp only [List.length_drop, List.length_take]; rfl)) ?_; (with_reducible refine (vinculumlaw16_few.calls k a0_0 a0_1 a0_2 _ _ l0_3 a1_0 a1_1 a1_2 _ _ l1_3 true _ ?side1 ?side2 ?side3 ?side4 A5.out).mono ?_); (case side1 => exact kc_ HR0_3.out HB.out); (case side2 => exact HC0_3.out); (case side3 => exact kc_ HR1_3.out HB.out); (case side4 => exact HC1_3.out); rintro e w81 ⟨rfl, hb⟩; refine ⟨_, rfl, ?_⟩; have n0_ := Aside0.mk (blk_below (g := gb353) (o := .cells #[.int .i64 a0_0, .string a0_1, .int .i64 a0_2, .slice A0_3 l0_3.length c0_3] 24 (0, 0)) (bk_ BK353.out) hb); have n1_ := Aside0.mk (blk_below (g := gb354) (o := .cells #[.int .i64 a1_0, .string a1_1, .int .i64 a1_2, .slice A1_3 l1_3.length c1_3] 24 (0, 0)) (bk_ BK354.out) hb); have n2_ := Aside0.mk (below_step (bs2_ HB.out GE353.out GE354.out) hb); clear BK353; clear BK354; clear HB; have BK353 := n0_; have BK354 := n1_; have HB := n2_; clear n0_ n1_ n2_; (try clear hb); (try clear hb2); (try clear hk); (try clear hi); have hcz82_0 : w81.cell? ⟨gb353, 0, none⟩ = some (.int .i64 a0_0) := (blk_cell BK353.out 0).trans rfl; have hcz82_1 : w81.cell? ⟨gb353, 1, none⟩ = some (.string a0_1) := (blk_cell BK353.out 1).trans rfl; have hcz82_2 : w81.cell? ⟨gb353, 2, none⟩ = some (.int .i64 a0_2) := (blk_cell BK353.out 2).trans rfl; have hcz82_3 : w81.cell? ⟨gb353, 3, none⟩ = some (.slice A0_3 l0_3.length c0_3) := (blk_cell BK353.out 3).trans rfl; have hfz82_0 := blk_frozen BK353.out 0; have hfz82_1 := blk_frozen BK353.out 1; have hfz82_2 := blk_frozen BK353.out 2; have hfz82_3 := blk_frozen BK353.out 3; have hcz83_0 : w81.cell? ⟨gb354, 0, none⟩ = some (.int .i64 a1_0) := (blk_cell BK354.out 0).trans rfl; have hcz83_1 : w81.cell? ⟨gb354, 1, none⟩ = some (.string a1_1) := (blk_cell BK354.out 1).trans rfl; have hcz83_2 : w81.cell? ⟨gb354, 2, none⟩ = some (.int .i64 a1_2) := (blk_cell BK354.out 2).trans rfl; have hcz83_3 : w81.cell? ⟨gb354, 3, none⟩ = some (.slice A1_3 l1_3.length c1_3) := (blk_cell BK354.out 3).trans rfl; have hfz83_0 := blk_frozen BK354.out 0; have hfz83_1 := blk_frozen BK354.out 1; have hfz83_2 := blk_frozen BK354.out 2; have hfz83_3 := blk_frozen BK354.out 3) | ((with_reducible refine gate_callee (f := 9) rfl ?_); refine goesL_ (some 16) rfl rfl Tryd.func9 (by kernel_rfl) rfl #[.agg #[.int .i64 a0_0, .string a0_1, .int .i64 a0_2, .slice A0_3 l0_3.length c0_3], .agg #[.int .i64 a1_0, .string a1_1, .int .i64 a1_2, .slice A1_3 l1_3.length c1_3]] rfl (by (try simp only [List.map_toArray, List.map_cons, List.map_nil]); first | done | rfl | (simp only [List.length_drop, List.length_take]; rfl)) ?_; (with_reducible refine (diff_Cost.calls k a0_0 a0_1 a0_2 _ _ l0_3 a1_0 a1_1 a1_2 _ _ l1_3 t357 t358 _ ?side1 ?side2 ?side3 ?side4 A7.out).mono ?_); (case side1 => exact kc_ HR0_3.out HB.out); (case side2 => exact HC0_3.out); (case side3 => exact kc_ HR1_3.out HB.out); (case side4 => exact HC1_3.out); rintro e w84 ⟨rfl, hb⟩; refine ⟨_, rfl, ?_⟩; have n0_ := Aside0.mk (blk_below (g := gb353) (o := .cells #[.int .i64 a0_0, .string a0_1, .int .i64 a0_2, .slice A0_3 l0_3.length c0_3] 24 (0, 0)) (bk_ BK353.out) hb); have n1_ := Aside0.mk (blk_below (g := gb354) (o := .cells #[.int .i64 a1_0, .string a1_1, .int .i64 a1_2, .slice A1_3 l1_3.length c1_3] 24 (0, 0)) (bk_ BK354.out) hb); have n2_ := Aside0.mk (below_step (bs2_ HB.out GE353.out GE354.out) hb); clear BK353; clear BK354; clear HB; have BK353 := n0_; have BK354 := n1_; have HB := n2_; clear n0_ n1_ n2_; (try clear hb); (try clear hb2); (try clear hk); (try clear hi); have hcz85_0 : w84.cell? ⟨gb353, 0, none⟩ = some (.int .i64 a0_0) := (blk_cell BK353.out 0).trans rfl; have hcz85_1 : w84.cell? ⟨gb353, 1, none⟩ = some (.string a0_1) := (blk_cell BK353.out 1).trans rfl; have hcz85_2 : w84.cell? ⟨gb353, 2, none⟩ = some (.int .i64 a0_2) := (blk_cell BK353.out 2).trans rfl; have hcz85_3 : w84.cell? ⟨gb353, 3, none⟩ = some (.slice A0_3 l0_3.length c0_3) := (blk_cell BK353.out 3).trans rfl; have hfz85_0 := blk_frozen BK353.out 0; have hfz85_1 := blk_frozen BK353.out 1; have hfz85_2 := blk_frozen BK353.out 2; have hfz85_3 := blk_frozen BK353.out 3) | ((with_reducible refine gate_callee (f := 10) rfl ?_); refine goesL_ (some 20) rfl rfl Tryd.func10 (by kernel_rfl) rfl #[.agg #[.int .i64 a0_0, .string a0_1, .int .i64 a0_2, .slice A0_3 l0_3.length c0_3]] rfl (by (try simp only [List.map_toArray, List.map_cons, List.map_nil]); first | done | rfl | (simp only [List.length_drop, List.length_take]; rfl)) ?_; (with_reducible refine (vinculumref09_Valid.calls k a0_0 a0_1 a0_2 _ _ l0_3 false _ ?side1 ?side2 A8.out).mono ?_); (case side1 => exact kc_ HR0_3.out HB.out); (case side2 => exact HC0_3.out); rintro e w86 ⟨rfl, hb⟩; refine ⟨_, rfl, ?_⟩; have n0_ := Aside0.mk (blk_below (g := gb353) (o := .cells #[.int .i64 a0_0, .string a0_1, .int .i64 a0_2, .slice A0_3 l0_3.length c0_3] 24 (0, 0)) (bk_ BK353.out) hb); have n1_ := Aside0.mk (blk_below (g := gb354) (o := .cells #[.int .i64 a1_0, .string a1_1, .int .i64 a1_2, .slice A1_3 l1_3.length c1_3] 24 (0, 0)) (bk_ BK354.out) hb); have n2_ := Aside0.mk (below_step (bs2_ HB.out GE353.out GE354.out) hb); clear BK353; clear BK354; clear HB; have BK353 := n0_; have BK354 := n1_; have HB := n2_; clear n0_ n1_ n2_; (try clear hb); (try clear hb2); (try clear hk); (try clear hi)))
     go_ret
     exact ⟨by first | rfl | (simp [errW_none, errW_some] <;> rfl) | (simp [*, errW_none, errW_some] <;> rfl), bs2_ HB.out GE353.out GE354.out⟩
    ·rw [if_neg c74] at H
     have c74b0 : (t357 == 0) = false := beq_eq_false_iff_ne.mpr c74
     have c74b1 : (t357 != 0) = true := bne_iff_ne.mpr c74
     obtain rfl := Option.some.inj H
     go_enter Tryd.func3, Tryd.ntmps3
     go_wp2_with (first | ((with_reducible refine gate_dst (N := 2) rfl ?_); refine box_event ?hg (N := 2) ?hd (cs := #[.int .i64 a0_0, .string a0_1, .int .i64 a0_2, .slice A0_3 l0_3.length c0_3]) (t := 24) ?hr ?_; (case hd => rfl); (case hg => rfl); (case hr => first | (go_simp; done) | (go_simp; rfl)); intro gb353 hg w87 hbox hb; have n0_ := Aside0.mk (below_step (bs0_ HB.out) hb); have n1_ := Aside0.mk (hbox); have n2_ := Aside0.mk ((by rw [hg]; exact (below_size (bs0_ HB.out)) : w.heap.size ≤ gb353)); have n3_ := Aside0.mk ((by rw [hg]; exact (below_size (bs0_ HB.out)) : w.heap.size ≤ gb353)); clear HB; have HB := n0_; have BK353 := n1_; have GW353 := n2_; have GE353 := n3_; clear n0_ n1_ n2_ n3_; clear hb hbox hg) | ((with_reducible refine gate_dst (N := 3) rfl ?_); refine box_event ?hg (N := 3) ?hd (cs := #[.int .i64 a1_0, .string a1_1, .int .i64 a1_2, .slice A1_3 l1_3.length c1_3]) (t := 24) ?hr ?_; (case hd => rfl); (case hg => rfl); (case hr => first | (go_simp; done) | (go_simp; rfl)); intro gb354 hg w88 hbox hb; have n0_ := Aside0.mk (blk_below (g := gb353) (o := .cells #[.int .i64 a0_0, .string a0_1, .int .i64 a0_2, .slice A0_3 l0_3.length c0_3] 24 (0, 0)) (bk_ BK353.out) hb); have n1_ := Aside0.mk (below_step (bs1_ HB.out GE353.out) hb); have n2_ := Aside0.mk (hbox); have n3_ := Aside0.mk ((by rw [hg]; exact (below_size (bs1_ HB.out GE353.out)) : w.heap.size ≤ gb354)); have n4_ := Aside0.mk ((by rw [hg]; exact (below_size (bs1_ HB.out GE353.out)) : w.heap.size ≤ gb354)); have n5_ := Aside0.mk ((by rw [hg]; exact Nat.ne_of_lt (blk_lt (g := gb353) (o := .cells #[.int .i64 a0_0, .string a0_1, .int .i64 a0_2, .slice A0_3 l0_3.length c0_3] 24 (0, 0)) (bk_ BK353.out)) : gb353 ≠ gb354)); have n6_ := Aside0.mk ((by rw [hg]; exact Nat.ne_of_gt (blk_lt (g := gb353) (o := .cells #[.int .i64 a0_0, .string a0_1, .int .i64 a0_2, .slice A0_3 l0_3.length c0_3] 24 (0, 0)) (bk_ BK353.out)) : gb354 ≠ gb353)); clear BK353; clear HB; have BK353 := n0_; have HB := n1_; have BK354 := n2_; have GW354 := n3_; have GE354 := n4_; have NB353_354 := n5_; have NB354_353 := n6_; clear n0_ n1_ n2_ n3_ n4_ n5_ n6_; clear hb hbox hg) | ((with_reducible refine gate_callee (f := 7) rfl ?_); refine goesL_ (some 7) rfl rfl Tryd.func7 (by kernel_rfl) rfl #[] rfl (by (try simp only [List.map_toArray, List.map_cons, List.map_nil]); first | done | rfl | (simp only [List.length_drop, List.length_take]; rfl)) ?_; (with_reducible refine (vinculumlaw16_awake.calls k  true _ A3.out).mono ?_); rintro e w89 ⟨rfl, hb⟩; refine ⟨_, rfl, ?_⟩; have n0_ := Aside0.mk (blk_below (g := gb353) (o := .cells #[.int .i64 a0_0, .string a0_1, .int .i64 a0_2, .slice A0_3 l0_3.length c0_3] 24 (0, 0)) (bk_ BK353.out) hb); have n1_ := Aside0.mk (blk_below (g := gb354) (o := .cells #[.int .i64 a1_0, .string a1_1, .int .i64 a1_2, .slice A1_3 l1_3.length c1_3] 24 (0, 0)) (bk_ BK354.out) hb); have n2_ := Aside0.mk (below_step (bs2_ HB.out GE353.out GE354.out) hb); clear BK353; clear BK354; clear HB; have BK353 := n0_; have BK354 := n1_; have HB := n2_; clear n0_ n1_ n2_; (try clear hb); (try clear hb2); (try clear hk); (try clear hi); have hnb90 := NB353_354.out; have hnc90 := NB354_353.out; have hcz91_0 : w89.cell? ⟨gb353, 0, none⟩ = some (.int .i64 a0_0) := (blk_cell BK353.out 0).trans rfl; have hcz91_1 : w89.cell? ⟨gb353, 1, none⟩ = some (.string a0_1) := (blk_cell BK353.out 1).trans rfl; have hcz91_2 : w89.cell? ⟨gb353, 2, none⟩ = some (.int .i64 a0_2) := (blk_cell BK353.out 2).trans rfl; have hcz91_3 : w89.cell? ⟨gb353, 3, none⟩ = some (.slice A0_3 l0_3.length c0_3) := (blk_cell BK353.out 3).trans rfl; have hfz91_0 := blk_frozen BK353.out 0; have hfz91_1 := blk_frozen BK353.out 1; have hfz91_2 := blk_frozen BK353.out 2; have hfz91_3 := blk_frozen BK353.out 3; have hcz92_0 : w89.cell? ⟨gb354, 0, none⟩ = some (.int .i64 a1_0) := (blk_cell BK354.out 0).trans rfl; have hcz92_1 : w89.cell? ⟨gb354, 1, none⟩ = some (.string a1_1) := (blk_cell BK354.out 1).trans rfl; have hcz92_2 : w89.cell? ⟨gb354, 2, none⟩ = some (.int .i64 a1_2) := (blk_cell BK354.out 2).trans rfl; have hcz92_3 : w89.cell? ⟨gb354, 3, none⟩ = some (.slice A1_3 l1_3.length c1_3) := (blk_cell BK354.out 3).trans rfl; have hfz92_0 := blk_frozen BK354.out 0; have hfz92_1 := blk_frozen BK354.out 1; have hfz92_2 := blk_frozen BK354.out 2; have hfz92_3 := blk_frozen BK354.out 3) | ((with_reducible refine gate_callee (f := 8) rfl ?_); refine goesL_ (some 11) rfl rfl Tryd.func8 (by kernel_rfl) rfl #[.agg #[.int .i64 a0_0, .string a0_1, .int .i64 a0_2, .slice A0_3 l0_3.length c0_3], .agg #[.int .i64 a1_0, .string a1_1, .int .i64 a1_2, .slice A1_3 l1_3.length c1_3]] rfl (by (try simp only [List.map_toArray, List.map_cons, List.map_nil]); first | done | rfl | (simp only [List.length_drop, List.length_take]; rfl)) ?_; (with_reducible refine (vinculumlaw16_few.calls k a0_0 a0_1 a0_2 _ _ l0_3 a1_0 a1_1 a1_2 _ _ l1_3 true _ ?side1 ?side2 ?side3 ?side4 A5.out).mono ?_); (case side1 => exact kc_ HR0_3.out HB.out); (case side2 => exact HC0_3.out); (case side3 => exact kc_ HR1_3.out HB.out); (case side4 => exact HC1_3.out); rintro e w93 ⟨rfl, hb⟩; refine ⟨_, rfl, ?_⟩; have n0_ := Aside0.mk (blk_below (g := gb353) (o := .cells #[.int .i64 a0_0, .string a0_1, .int .i64 a0_2, .slice A0_3 l0_3.length c0_3] 24 (0, 0)) (bk_ BK353.out) hb); have n1_ := Aside0.mk (blk_below (g := gb354) (o := .cells #[.int .i64 a1_0, .string a1_1, .int .i64 a1_2, .slice A1_3 l1_3.length c1_3] 24 (0, 0)) (bk_ BK354.out) hb); have n2_ := Aside0.mk (below_step (bs2_ HB.out GE353.out GE354.out) hb); clear BK353; clear BK354; clear HB; have BK353 := n0_; have BK354 := n1_; have HB := n2_; clear n0_ n1_ n2_; (try clear hb); (try clear hb2); (try clear hk); (try clear hi); have hcz94_0 : w93.cell? ⟨gb353, 0, none⟩ = some (.int .i64 a0_0) := (blk_cell BK353.out 0).trans rfl; have hcz94_1 : w93.cell? ⟨gb353, 1, none⟩ = some (.string a0_1) := (blk_cell BK353.out 1).trans rfl; have hcz94_2 : w93.cell? ⟨gb353, 2, none⟩ = some (.int .i64 a0_2) := (blk_cell BK353.out 2).trans rfl; have hcz94_3 : w93.cell? ⟨gb353, 3, none⟩ = some (.slice A0_3 l0_3.length c0_3) := (blk_cell BK353.out 3).trans rfl; have hfz94_0 := blk_frozen BK353.out 0; have hfz94_1 := blk_frozen BK353.out 1; have hfz94_2 := blk_frozen BK353.out 2; have hfz94_3 := blk_frozen BK353.out 3; have hcz95_0 : w93.cell? ⟨gb354, 0, none⟩ = some (.int .i64 a1_0) := (blk_cell BK354.out 0).trans rfl; have hcz95_1 : w93.cell? ⟨gb354, 1, none⟩ = some (.string a1_1) := (blk_cell BK354.out 1).trans rfl; have hcz95_2 : w93.cell? ⟨gb354, 2, none⟩ = some (.int .i64 a1_2) := (blk_cell BK354.out 2).trans rfl; have hcz95_3 : w93.cell? ⟨gb354, 3, none⟩ = some (.slice A1_3 l1_3.length c1_3) := (blk_cell BK354.out 3).trans rfl; have hfz95_0 := blk_frozen BK354.out 0; have hfz95_1 := blk_frozen BK354.out 1; have hfz95_2 := blk_frozen BK354.out 2; have hfz95_3 := blk_frozen BK354.out 3) | ((with_reducible refine gate_callee (f := 9) rfl ?_); refine goesL_ (some 16) rfl rfl Tryd.func9 (by kernel_rfl) rfl #[.agg #[.int .i64 a0_0, .string a0_1, .int .i64 a0_2, .slice A0_3 l0_3.length c0_3], .agg #[.int .i64 a1_0, .string a1_1, .int .i64 a1_2, .slice A1_3 l1_3.length c1_3]] rfl (by (try simp only [List.map_toArray, List.map_cons, List.map_nil]); first | done | rfl | (simp only [List.length_drop, List.length_take]; rfl)) ?_; (with_reducible refine (diff_Cost.calls k a0_0 a0_1 a0_2 _ _ l0_3 a1_0 a1_1 a1_2 _ _ l1_3 t357 t358 _ ?side1 ?side2 ?side3 ?side4 A7.out).mono ?_); (case side1 => exact kc_ HR0_3.out HB.out); (case side2 => exact HC0_3.out); (case side3 => exact kc_ HR1_3.out HB.out); (case side4 => exact HC1_3.out); rintro e w96 ⟨rfl, hb⟩; refine ⟨_, rfl, ?_⟩; have n0_ := Aside0.mk (blk_below (g := gb353) (o := .cells #[.int .i64 a0_0, .string a0_1, .int .i64 a0_2, .slice A0_3 l0_3.length c0_3] 24 (0, 0)) (bk_ BK353.out) hb); have n1_ := Aside0.mk (blk_below (g := gb354) (o := .cells #[.int .i64 a1_0, .string a1_1, .int .i64 a1_2, .slice A1_3 l1_3.length c1_3] 24 (0, 0)) (bk_ BK354.out) hb); have n2_ := Aside0.mk (below_step (bs2_ HB.out GE353.out GE354.out) hb); clear BK353; clear BK354; clear HB; have BK353 := n0_; have BK354 := n1_; have HB := n2_; clear n0_ n1_ n2_; (try clear hb); (try clear hb2); (try clear hk); (try clear hi); have hcz97_0 : w96.cell? ⟨gb353, 0, none⟩ = some (.int .i64 a0_0) := (blk_cell BK353.out 0).trans rfl; have hcz97_1 : w96.cell? ⟨gb353, 1, none⟩ = some (.string a0_1) := (blk_cell BK353.out 1).trans rfl; have hcz97_2 : w96.cell? ⟨gb353, 2, none⟩ = some (.int .i64 a0_2) := (blk_cell BK353.out 2).trans rfl; have hcz97_3 : w96.cell? ⟨gb353, 3, none⟩ = some (.slice A0_3 l0_3.length c0_3) := (blk_cell BK353.out 3).trans rfl; have hfz97_0 := blk_frozen BK353.out 0; have hfz97_1 := blk_frozen BK353.out 1; have hfz97_2 := blk_frozen BK353.out 2; have hfz97_3 := blk_frozen BK353.out 3) | ((with_reducible refine gate_callee (f := 10) rfl ?_); refine goesL_ (some 20) rfl rfl Tryd.func10 (by kernel_rfl) rfl #[.agg #[.int .i64 a0_0, .string a0_1, .int .i64 a0_2, .slice A0_3 l0_3.length c0_3]] rfl (by (try simp only [List.map_toArray, List.map_cons, List.map_nil]); first | done | rfl | (simp only [List.length_drop, List.length_take]; rfl)) ?_; (with_reducible refine (vinculumref09_Valid.calls k a0_0 a0_1 a0_2 _ _ l0_3 false _ ?side1 ?side2 A8.out).mono ?_); (case side1 => exact kc_ HR0_3.out HB.out); (case side2 => exact HC0_3.out); rintro e w98 ⟨rfl, hb⟩; refine ⟨_, rfl, ?_⟩; have n0_ := Aside0.mk (blk_below (g := gb353) (o := .cells #[.int .i64 a0_0, .string a0_1, .int .i64 a0_2, .slice A0_3 l0_3.length c0_3] 24 (0, 0)) (bk_ BK353.out) hb); have n1_ := Aside0.mk (blk_below (g := gb354) (o := .cells #[.int .i64 a1_0, .string a1_1, .int .i64 a1_2, .slice A1_3 l1_3.length c1_3] 24 (0, 0)) (bk_ BK354.out) hb); have n2_ := Aside0.mk (below_step (bs2_ HB.out GE353.out GE354.out) hb); clear BK353; clear BK354; clear HB; have BK353 := n0_; have BK354 := n1_; have HB := n2_; clear n0_ n1_ n2_; (try clear hb); (try clear hb2); (try clear hk); (try clear hi)))
     go_ret
     exact ⟨by first | rfl | (simp [errW_none, errW_some] <;> rfl) | (simp [*, errW_none, errW_some] <;> rfl), bs2_ HB.out GE353.out GE354.out⟩
  ·replace c6 := Bool.eq_false_iff.mpr c6
   subst c6
   have H1 : (some true) = some r := by rw [if_neg (show ¬ (false = true) by decide)] at H; exact H
   clear H
   have H := H1
   clear H1
   obtain rfl := Option.some.inj H
   go_enter Tryd.func3, Tryd.ntmps3
   go_wp2_with (first | ((with_reducible refine gate_dst (N := 2) rfl ?_); refine box_event ?hg (N := 2) ?hd (cs := #[.int .i64 a0_0, .string a0_1, .int .i64 a0_2, .slice A0_3 l0_3.length c0_3]) (t := 24) ?hr ?_; (case hd => rfl); (case hg => rfl); (case hr => first | (go_simp; done) | (go_simp; rfl)); intro gb353 hg w99 hbox hb; have n0_ := Aside0.mk (below_step (bs0_ HB.out) hb); have n1_ := Aside0.mk (hbox); have n2_ := Aside0.mk ((by rw [hg]; exact (below_size (bs0_ HB.out)) : w.heap.size ≤ gb353)); have n3_ := Aside0.mk ((by rw [hg]; exact (below_size (bs0_ HB.out)) : w.heap.size ≤ gb353)); clear HB; have HB := n0_; have BK353 := n1_; have GW353 := n2_; have GE353 := n3_; clear n0_ n1_ n2_ n3_; clear hb hbox hg) | ((with_reducible refine gate_dst (N := 3) rfl ?_); refine box_event ?hg (N := 3) ?hd (cs := #[.int .i64 a1_0, .string a1_1, .int .i64 a1_2, .slice A1_3 l1_3.length c1_3]) (t := 24) ?hr ?_; (case hd => rfl); (case hg => rfl); (case hr => first | (go_simp; done) | (go_simp; rfl)); intro gb354 hg w100 hbox hb; have n0_ := Aside0.mk (blk_below (g := gb353) (o := .cells #[.int .i64 a0_0, .string a0_1, .int .i64 a0_2, .slice A0_3 l0_3.length c0_3] 24 (0, 0)) (bk_ BK353.out) hb); have n1_ := Aside0.mk (below_step (bs1_ HB.out GE353.out) hb); have n2_ := Aside0.mk (hbox); have n3_ := Aside0.mk ((by rw [hg]; exact (below_size (bs1_ HB.out GE353.out)) : w.heap.size ≤ gb354)); have n4_ := Aside0.mk ((by rw [hg]; exact (below_size (bs1_ HB.out GE353.out)) : w.heap.size ≤ gb354)); have n5_ := Aside0.mk ((by rw [hg]; exact Nat.ne_of_lt (blk_lt (g := gb353) (o := .cells #[.int .i64 a0_0, .string a0_1, .int .i64 a0_2, .slice A0_3 l0_3.length c0_3] 24 (0, 0)) (bk_ BK353.out)) : gb353 ≠ gb354)); have n6_ := Aside0.mk ((by rw [hg]; exact Nat.ne_of_gt (blk_lt (g := gb353) (o := .cells #[.int .i64 a0_0, .string a0_1, .int .i64 a0_2, .slice A0_3 l0_3.length c0_3] 24 (0, 0)) (bk_ BK353.out)) : gb354 ≠ gb353)); clear BK353; clear HB; have BK353 := n0_; have HB := n1_; have BK354 := n2_; have GW354 := n3_; have GE354 := n4_; have NB353_354 := n5_; have NB354_353 := n6_; clear n0_ n1_ n2_ n3_ n4_ n5_ n6_; clear hb hbox hg) | ((with_reducible refine gate_callee (f := 7) rfl ?_); refine goesL_ (some 7) rfl rfl Tryd.func7 (by kernel_rfl) rfl #[] rfl (by (try simp only [List.map_toArray, List.map_cons, List.map_nil]); first | done | rfl | (simp only [List.length_drop, List.length_take]; rfl)) ?_; (with_reducible refine (vinculumlaw16_awake.calls k  true _ A3.out).mono ?_); rintro e w101 ⟨rfl, hb⟩; refine ⟨_, rfl, ?_⟩; have n0_ := Aside0.mk (blk_below (g := gb353) (o := .cells #[.int .i64 a0_0, .string a0_1, .int .i64 a0_2, .slice A0_3 l0_3.length c0_3] 24 (0, 0)) (bk_ BK353.out) hb); have n1_ := Aside0.mk (blk_below (g := gb354) (o := .cells #[.int .i64 a1_0, .string a1_1, .int .i64 a1_2, .slice A1_3 l1_3.length c1_3] 24 (0, 0)) (bk_ BK354.out) hb); have n2_ := Aside0.mk (below_step (bs2_ HB.out GE353.out GE354.out) hb); clear BK353; clear BK354; clear HB; have BK353 := n0_; have BK354 := n1_; have HB := n2_; clear n0_ n1_ n2_; (try clear hb); (try clear hb2); (try clear hk); (try clear hi); have hnb102 := NB353_354.out; have hnc102 := NB354_353.out; have hcz103_0 : w101.cell? ⟨gb353, 0, none⟩ = some (.int .i64 a0_0) := (blk_cell BK353.out 0).trans rfl; have hcz103_1 : w101.cell? ⟨gb353, 1, none⟩ = some (.string a0_1) := (blk_cell BK353.out 1).trans rfl; have hcz103_2 : w101.cell? ⟨gb353, 2, none⟩ = some (.int .i64 a0_2) := (blk_cell BK353.out 2).trans rfl; have hcz103_3 : w101.cell? ⟨gb353, 3, none⟩ = some (.slice A0_3 l0_3.length c0_3) := (blk_cell BK353.out 3).trans rfl; have hfz103_0 := blk_frozen BK353.out 0; have hfz103_1 := blk_frozen BK353.out 1; have hfz103_2 := blk_frozen BK353.out 2; have hfz103_3 := blk_frozen BK353.out 3; have hcz104_0 : w101.cell? ⟨gb354, 0, none⟩ = some (.int .i64 a1_0) := (blk_cell BK354.out 0).trans rfl; have hcz104_1 : w101.cell? ⟨gb354, 1, none⟩ = some (.string a1_1) := (blk_cell BK354.out 1).trans rfl; have hcz104_2 : w101.cell? ⟨gb354, 2, none⟩ = some (.int .i64 a1_2) := (blk_cell BK354.out 2).trans rfl; have hcz104_3 : w101.cell? ⟨gb354, 3, none⟩ = some (.slice A1_3 l1_3.length c1_3) := (blk_cell BK354.out 3).trans rfl; have hfz104_0 := blk_frozen BK354.out 0; have hfz104_1 := blk_frozen BK354.out 1; have hfz104_2 := blk_frozen BK354.out 2; have hfz104_3 := blk_frozen BK354.out 3) | ((with_reducible refine gate_callee (f := 8) rfl ?_); refine goesL_ (some 11) rfl rfl Tryd.func8 (by kernel_rfl) rfl #[.agg #[.int .i64 a0_0, .string a0_1, .int .i64 a0_2, .slice A0_3 l0_3.length c0_3], .agg #[.int .i64 a1_0, .string a1_1, .int .i64 a1_2, .slice A1_3 l1_3.length c1_3]] rfl (by (try simp only [List.map_toArray, List.map_cons, List.map_nil]); first | done | rfl | (simp only [List.length_drop, List.length_take]; rfl)) ?_; (with_reducible refine (vinculumlaw16_few.calls k a0_0 a0_1 a0_2 _ _ l0_3 a1_0 a1_1 a1_2 _ _ l1_3 false _ ?side1 ?side2 ?side3 ?side4 A5.out).mono ?_); (case side1 => exact kc_ HR0_3.out HB.out); (case side2 => exact HC0_3.out); (case side3 => exact kc_ HR1_3.out HB.out); (case side4 => exact HC1_3.out); rintro e w105 ⟨rfl, hb⟩; refine ⟨_, rfl, ?_⟩; have n0_ := Aside0.mk (blk_below (g := gb353) (o := .cells #[.int .i64 a0_0, .string a0_1, .int .i64 a0_2, .slice A0_3 l0_3.length c0_3] 24 (0, 0)) (bk_ BK353.out) hb); have n1_ := Aside0.mk (blk_below (g := gb354) (o := .cells #[.int .i64 a1_0, .string a1_1, .int .i64 a1_2, .slice A1_3 l1_3.length c1_3] 24 (0, 0)) (bk_ BK354.out) hb); have n2_ := Aside0.mk (below_step (bs2_ HB.out GE353.out GE354.out) hb); clear BK353; clear BK354; clear HB; have BK353 := n0_; have BK354 := n1_; have HB := n2_; clear n0_ n1_ n2_; (try clear hb); (try clear hb2); (try clear hk); (try clear hi)))
   go_ret
   exact ⟨by first | rfl | (simp [errW_none, errW_some] <;> rfl) | (simp [*, errW_none, errW_some] <;> rfl), bs2_ HB.out GE353.out GE354.out⟩
 ·replace c4 := Bool.eq_false_iff.mpr c4
  subst c4
  have H1 : (some false) = some r := by rw [if_neg (show ¬ (false = true) by decide)] at H; exact H
  clear H
  have H := H1
  clear H1
  obtain rfl := Option.some.inj H
  go_enter Tryd.func3, Tryd.ntmps3
  go_wp2_with (first | ((with_reducible refine gate_dst (N := 2) rfl ?_); refine box_event ?hg (N := 2) ?hd (cs := #[.int .i64 a0_0, .string a0_1, .int .i64 a0_2, .slice A0_3 l0_3.length c0_3]) (t := 24) ?hr ?_; (case hd => rfl); (case hg => rfl); (case hr => first | (go_simp; done) | (go_simp; rfl)); intro gb353 hg w106 hbox hb; have n0_ := Aside0.mk (below_step (bs0_ HB.out) hb); have n1_ := Aside0.mk (hbox); have n2_ := Aside0.mk ((by rw [hg]; exact (below_size (bs0_ HB.out)) : w.heap.size ≤ gb353)); have n3_ := Aside0.mk ((by rw [hg]; exact (below_size (bs0_ HB.out)) : w.heap.size ≤ gb353)); clear HB; have HB := n0_; have BK353 := n1_; have GW353 := n2_; have GE353 := n3_; clear n0_ n1_ n2_ n3_; clear hb hbox hg) | ((with_reducible refine gate_dst (N := 3) rfl ?_); refine box_event ?hg (N := 3) ?hd (cs := #[.int .i64 a1_0, .string a1_1, .int .i64 a1_2, .slice A1_3 l1_3.length c1_3]) (t := 24) ?hr ?_; (case hd => rfl); (case hg => rfl); (case hr => first | (go_simp; done) | (go_simp; rfl)); intro gb354 hg w107 hbox hb; have n0_ := Aside0.mk (blk_below (g := gb353) (o := .cells #[.int .i64 a0_0, .string a0_1, .int .i64 a0_2, .slice A0_3 l0_3.length c0_3] 24 (0, 0)) (bk_ BK353.out) hb); have n1_ := Aside0.mk (below_step (bs1_ HB.out GE353.out) hb); have n2_ := Aside0.mk (hbox); have n3_ := Aside0.mk ((by rw [hg]; exact (below_size (bs1_ HB.out GE353.out)) : w.heap.size ≤ gb354)); have n4_ := Aside0.mk ((by rw [hg]; exact (below_size (bs1_ HB.out GE353.out)) : w.heap.size ≤ gb354)); have n5_ := Aside0.mk ((by rw [hg]; exact Nat.ne_of_lt (blk_lt (g := gb353) (o := .cells #[.int .i64 a0_0, .string a0_1, .int .i64 a0_2, .slice A0_3 l0_3.length c0_3] 24 (0, 0)) (bk_ BK353.out)) : gb353 ≠ gb354)); have n6_ := Aside0.mk ((by rw [hg]; exact Nat.ne_of_gt (blk_lt (g := gb353) (o := .cells #[.int .i64 a0_0, .string a0_1, .int .i64 a0_2, .slice A0_3 l0_3.length c0_3] 24 (0, 0)) (bk_ BK353.out)) : gb354 ≠ gb353)); clear BK353; clear HB; have BK353 := n0_; have HB := n1_; have BK354 := n2_; have GW354 := n3_; have GE354 := n4_; have NB353_354 := n5_; have NB354_353 := n6_; clear n0_ n1_ n2_ n3_ n4_ n5_ n6_; clear hb hbox hg) | ((with_reducible refine gate_callee (f := 7) rfl ?_); refine goesL_ (some 7) rfl rfl Tryd.func7 (by kernel_rfl) rfl #[] rfl (by (try simp only [List.map_toArray, List.map_cons, List.map_nil]); first | done | rfl | (simp only [List.length_drop, List.length_take]; rfl)) ?_; (with_reducible refine (vinculumlaw16_awake.calls k  false _ A3.out).mono ?_); rintro e w108 ⟨rfl, hb⟩; refine ⟨_, rfl, ?_⟩; have n0_ := Aside0.mk (blk_below (g := gb353) (o := .cells #[.int .i64 a0_0, .string a0_1, .int .i64 a0_2, .slice A0_3 l0_3.length c0_3] 24 (0, 0)) (bk_ BK353.out) hb); have n1_ := Aside0.mk (blk_below (g := gb354) (o := .cells #[.int .i64 a1_0, .string a1_1, .int .i64 a1_2, .slice A1_3 l1_3.length c1_3] 24 (0, 0)) (bk_ BK354.out) hb); have n2_ := Aside0.mk (below_step (bs2_ HB.out GE353.out GE354.out) hb); clear BK353; clear BK354; clear HB; have BK353 := n0_; have BK354 := n1_; have HB := n2_; clear n0_ n1_ n2_; (try clear hb); (try clear hb2); (try clear hk); (try clear hi)))
  go_ret
  exact ⟨by first | rfl | (simp [errW_none, errW_some] <;> rfl) | (simp [*, errW_none, errW_some] <;> rfl), bs2_ HB.out GE353.out GE354.out⟩

end Go.Proofs.YtihchehmkhnhaaaDoor.A
/- The plain statement of the law DiffCost: over trees, lists and numbers alone. -/
namespace Go.Proofs.YtihchehmkhnhaaaDoor.A
open Go.RowKit Go.Proofs.YtihchehmkhnhaaaDoorW.PrintWords Go.Proofs.YtihchehmkhnhaaaDoorW.PrintLast Go.Proofs.YtihchehmkhnhaaaDoorW.PrintMore
def vinculumlaw16_DiffCost.Pure : Prop := ∀ (x0 : S24) (x1 : S24) (h0 : Wf24 x0) (h1 : Wf24 x1), ∃ k, vinculumlaw16_DiffCost.f k x0.f0 x0.f1 x0.f2 x0.f3 x1.f0 x1.f1 x1.f2 x1.f3 = some true
end Go.Proofs.YtihchehmkhnhaaaDoor.A
/- Plain laws: the number of nodes of a tree, Few, Count. -/
namespace Go.Proofs.YtihchehmkhnhaaaDoor.A
open Go.RowKit Go.Proofs.YtihchehmkhnhaaaDoorW.PrintWords Go.Proofs.YtihchehmkhnhaaaDoorW.PrintLast Go.Proofs.YtihchehmkhnhaaaDoorW.PrintMore
set_option linter.unusedVariables false

theorem wrap64_id {x : Int} (h1 : -9223372036854775808 ≤ x) (h2 : x ≤ 9223372036854775807) : wrap64 x = x := by
  unfold wrap64
  omega
mutual
def cnt : S24 → Nat
  | ⟨_, _, _, l⟩ => 1 + cntL l
def cntL : List S24 → Nat
  | [] => 0
  | x :: r => cnt x + cntL r
end
theorem cnt_eq (x : S24) : cnt x = 1 + cntL x.f3 := by
  obtain ⟨f0, f1, f2, f3⟩ := x
  simp [cnt]
theorem cntL_append (a b : List S24) : cntL (a ++ b) = cntL a + cntL b := by
  induction a with
  | nil => simp [cntL]
  | cons x r ih => simp [cntL, ih]; omega
theorem cnt_mem {x : S24} {l : List S24} (h : x ∈ l) : cnt x ≤ cntL l := by
  induction l with
  | nil => cases h
  | cons y r ih =>
    simp only [cntL]
    rcases List.mem_cons.1 h with rfl | h
    · omega
    · have := ih h; omega
theorem length_le_cntL (l : List S24) : l.length ≤ cntL l := by
  induction l with
  | nil => simp [cntL]
  | cons x r ih => have := cnt_eq x; simp only [cntL, List.length_cons]; omega
theorem rd_at {l : List S24} {j : Nat} (h : j < l.length) : rd_T24 l (j : Int) = l[j] := by
  unfold rd_T24
  rw [List.getD_eq_getElem?_getD, Int.toNat_natCast, List.getElem?_eq_getElem h]
  rfl
theorem drop_at {α : Type} {l : List α} {j : Nat} (h : j < l.length) : l.drop j = l[j] :: l.drop (j + 1) := List.drop_eq_getElem_cons h
/-- Induction over trees, by their number of nodes. -/
theorem tree_ind {P : S24 → Prop} (h : ∀ x, (∀ y, y ∈ x.f3 → P y) → P x) : ∀ x, P x := by
  have : ∀ n x, cnt x ≤ n → P x := by
    intro n
    induction n with
    | zero => intro x hx; have := cnt_eq x; omega
    | succ n ih =>
      intro x hx
      refine h x (fun y hy => ih y ?_)
      have := cnt_mem hy; have := cnt_eq x; omega
  exact fun x => this _ x (Nat.le_refl _)

theorem node_Count_ev : ∀ x : S24, cnt x ≤ 4611686018427387904 → Ev (fun k => node_Count.f k x.f0 x.f1 x.f2 x.f3) (cnt x : Int) := by
  refine tree_ind (fun x ih hx => ?_)
  have hce := cnt_eq x
  have loop : ∀ (d j : Nat) (acc : Int), x.f3.length - j = d → j ≤ x.f3.length → 0 ≤ acc → acc + cntL (x.f3.drop j) ≤ 4611686018427387904 → Ev (fun k => node_Count.l0 k acc x.f3 (x.f3.length : Int) (j : Int)) (acc + cntL (x.f3.drop j)) := by
    intro d
    induction d with
    | zero =>
      intro j acc hd hj h0 hb
      obtain rfl : j = x.f3.length := by omega
      refine Ev.step (f := fun _ => some acc) (fun k => by simp only [node_Count.l0]; rw [if_neg (by omega)]) ?_
      rw [List.drop_length]
      simp only [cntL, Int.natCast_zero, Int.add_zero]
      exact Ev.now _
    | succ d ihd =>
      intro j acc hd hj h0 hb
      have hlt : j < x.f3.length := by omega
      rw [drop_at hlt] at hb ⊢
      simp only [cntL] at hb ⊢
      refine Ev.step (f := fun k => (node_Count.f k (rd_T24 x.f3 j).f0 (rd_T24 x.f3 j).f1 (rd_T24 x.f3 j).f2 (rd_T24 x.f3 j).f3).bind fun t => node_Count.l0 k (wrap64 (acc + t)) x.f3 (x.f3.length : Int) (wrap64 ((j : Int) + 1))) (fun k => by simp only [node_Count.l0]; rw [if_pos (by omega), if_pos (by omega), if_pos (by omega)]) ?_
      rw [rd_at hlt]
      refine Ev.bind (ih _ (List.getElem_mem hlt) (by omega)) ?_
      have hl := length_le_cntL x.f3
      rw [wrap64_id (by omega) (by omega), wrap64_id (by omega) (by omega)]
      have := ihd (j + 1) (acc + cnt x.f3[j]) (by omega) (by omega) (by omega) (by omega)
      simpa [Int.add_assoc] using this
  refine Ev.step (f := fun k => node_Count.l0 k 1 x.f3 (x.f3.length : Int) 0) (fun k => by simp only [node_Count.f]) ?_
  have := loop _ 0 1 rfl (by omega) (by omega) (by simp; omega)
  rw [hce]
  simpa using this
theorem vinculumref09_Count_ev : ∀ x : S24, cnt x ≤ 4611686018427387904 → Ev (fun k => vinculumref09_Count.f k x.f0 x.f1 x.f2 x.f3) (cnt x : Int) := by
  refine tree_ind (fun x ih hx => ?_)
  have hce := cnt_eq x
  have loop : ∀ (d j : Nat) (acc : Int), x.f3.length - j = d → j ≤ x.f3.length → 0 ≤ acc → acc + cntL (x.f3.drop j) ≤ 4611686018427387904 → Ev (fun k => vinculumref09_Count.l0 k acc (j : Int) x.f0 x.f1 x.f2 x.f3) (acc + cntL (x.f3.drop j)) := by
    intro d
    induction d with
    | zero =>
      intro j acc hd hj h0 hb
      obtain rfl : j = x.f3.length := by omega
      refine Ev.step (f := fun _ => some acc) (fun k => by simp only [vinculumref09_Count.l0]; rw [if_neg (by omega)]) ?_
      rw [List.drop_length]
      simp only [cntL, Int.natCast_zero, Int.add_zero]
      exact Ev.now _
    | succ d ihd =>
      intro j acc hd hj h0 hb
      have hlt : j < x.f3.length := by omega
      rw [drop_at hlt] at hb ⊢
      simp only [cntL] at hb ⊢
      refine Ev.step (f := fun k => (vinculumref09_Count.f k (rd_T24 x.f3 j).f0 (rd_T24 x.f3 j).f1 (rd_T24 x.f3 j).f2 (rd_T24 x.f3 j).f3).bind fun t => vinculumref09_Count.l0 k (wrap64 (acc + t)) (wrap64 ((j : Int) + 1)) x.f0 x.f1 x.f2 x.f3) (fun k => by simp only [vinculumref09_Count.l0]; rw [if_pos (by omega), if_pos (by omega)]) ?_
      rw [rd_at hlt]
      refine Ev.bind (ih _ (List.getElem_mem hlt) (by omega)) ?_
      have hl := length_le_cntL x.f3
      rw [wrap64_id (by omega) (by omega), wrap64_id (by omega) (by omega)]
      have := ihd (j + 1) (acc + cnt x.f3[j]) (by omega) (by omega) (by omega) (by omega)
      simpa [Int.add_assoc] using this
  refine Ev.step (f := fun k => vinculumref09_Count.l0 k 1 0 x.f0 x.f1 x.f2 x.f3) (fun k => by simp only [vinculumref09_Count.f]) ?_
  have := loop _ 0 1 rfl (by omega) (by omega) (by simp; omega)
  rw [hce]
  simpa using this

/-- What 'left' gives: the number that is left, or -1. -/
def leftZ (m : Int) (n : Nat) : Int := if (n : Int) ≤ m then m - n else -1
theorem leftZ_zero {m : Int} (h : -1 ≤ m) : leftZ m 0 = m := by
  unfold leftZ
  by_cases h1 : ((0 : Nat) : Int) ≤ m
  · rw [if_pos h1]; omega
  · rw [if_neg h1]; omega
theorem leftZ_add (m : Int) (a b : Nat) : leftZ (leftZ m a) b = leftZ m (a + b) := by
  unfold leftZ
  by_cases h1 : (a : Int) ≤ m
  · rw [if_pos h1]
    by_cases h2 : (b : Int) ≤ m - a
    · rw [if_pos h2, if_pos (by omega)]; omega
    · rw [if_neg h2, if_neg (by omega)]
  · rw [if_neg h1, if_neg (by omega), if_neg (by omega)]
theorem leftZ_neg {m : Int} {a : Nat} (h : m = -1) : leftZ m a = -1 := by
  unfold leftZ
  rw [if_neg (by omega)]
theorem vinculumref09_left_ev : ∀ x : S24, Wf24 x → ∀ m : Int, 0 ≤ m → m ≤ 4611686018427387904 → Ev (fun k => vinculumref09_left.f k x.f0 x.f1 x.f2 x.f3 m) (leftZ m (cnt x)) := by
  refine tree_ind (fun x ih hw m hm0 hm1 => ?_)
  have hce := cnt_eq x
  obtain ⟨hwl, hwk⟩ := hw.w3
  unfold maxLen at hwl
  have loop : ∀ (d j : Nat) (m : Int), x.f3.length - j = d → j ≤ x.f3.length → -1 ≤ m → m ≤ 4611686018427387904 → Ev (fun k => vinculumref09_left.l0 k m (j : Int) x.f0 x.f1 x.f2 x.f3) (leftZ m (cntL (x.f3.drop j))) := by
    intro d
    induction d with
    | zero =>
      intro j m hd hj h0 hb
      obtain rfl : j = x.f3.length := by omega
      refine Ev.step (f := fun _ => some m) (fun k => by simp only [vinculumref09_left.l0]; rw [if_neg (by omega)]) ?_
      rw [List.drop_length]
      rw [show cntL ([] : List S24) = 0 from rfl, leftZ_zero h0]
      exact Ev.now _
    | succ d ihd =>
      intro j m hd hj h0 hb
      have hlt : j < x.f3.length := by omega
      by_cases hm : m ≥ 0
      · rw [drop_at hlt]
        refine Ev.step (f := fun k => (vinculumref09_left.f k (rd_T24 x.f3 j).f0 (rd_T24 x.f3 j).f1 (rd_T24 x.f3 j).f2 (rd_T24 x.f3 j).f3 m).bind fun t => vinculumref09_left.l0 k t (wrap64 ((j : Int) + 1)) x.f0 x.f1 x.f2 x.f3) (fun k => by simp only [vinculumref09_left.l0]; rw [if_pos (by omega), if_pos hm, if_pos (by omega)]) ?_
        rw [rd_at hlt]
        refine Ev.bind (ih _ (List.getElem_mem hlt) (hwk _ (List.getElem_mem hlt)) m hm hb) ?_
        rw [wrap64_id (by omega) (by omega)]
        have hr : -1 ≤ leftZ m (cnt x.f3[j]) ∧ leftZ m (cnt x.f3[j]) ≤ m := by unfold leftZ; split <;> omega
        have := ihd (j + 1) (leftZ m (cnt x.f3[j])) (by omega) (by omega) hr.1 (by omega)
        have e : leftZ (leftZ m (cnt x.f3[j])) (cntL (x.f3.drop (j + 1))) = leftZ m (cntL (x.f3[j] :: x.f3.drop (j + 1))) := by
          simp only [cntL]
          exact leftZ_add _ _ _
        rw [e] at this
        exact this
      · refine Ev.step (f := fun _ => some m) (fun k => by simp only [vinculumref09_left.l0]; rw [if_pos (by omega), if_neg hm]) ?_
        have : leftZ m (cntL (x.f3.drop j)) = m := by rw [leftZ_neg (by omega)]; omega
        rw [this]
        exact Ev.now _
  refine Ev.step (f := fun k => vinculumref09_left.l0 k (wrap64 (m - 1)) 0 x.f0 x.f1 x.f2 x.f3) (fun k => by simp only [vinculumref09_left.f]) ?_
  rw [wrap64_id (by omega) (by omega)]
  have := loop _ 0 (m - 1) rfl (by omega) (by omega) (by omega)
  have e : leftZ (m - 1) (cntL (x.f3.drop 0)) = leftZ m (cnt x) := by
    rw [hce, List.drop_zero, ← leftZ_add]
    have : leftZ m 1 = m - 1 := by
      unfold leftZ
      by_cases h1 : ((1 : Nat) : Int) ≤ m
      · rw [if_pos h1]; omega
      · rw [if_neg h1]; omega
    rw [this]
  rw [e] at this
  exact this
theorem vinculumref09_Few_ev (x : S24) (hw : Wf24 x) (m : Int) (h0 : 0 ≤ m) (h1 : m ≤ 4611686018427387904) : Ev (fun k => vinculumref09_Few.f k x.f0 x.f1 x.f2 x.f3 m) (decide ((cnt x : Int) ≤ m)) := by
  unfold vinculumref09_Few.f
  refine Ev.bind (vinculumref09_left_ev x hw m h0 h1) ?_
  have e : decide (leftZ m (cnt x) ≥ 0) = decide ((cnt x : Int) ≤ m) := by
    unfold leftZ
    by_cases h1 : (cnt x : Int) ≤ m
    · rw [if_pos h1, decide_eq_true h1]; simp; omega
    · rw [if_neg h1, decide_eq_false h1]; rfl
  rw [e]
  exact Ev.now _
end Go.Proofs.YtihchehmkhnhaaaDoor.A
/- Plain laws: the distance of two rows of trees, and the program's table of it. -/
namespace Go.Proofs.YtihchehmkhnhaaaDoor.A
open Go.RowKit Go.Proofs.YtihchehmkhnhaaaDoorW.PrintWords Go.Proofs.YtihchehmkhnhaaaDoorW.PrintLast Go.Proofs.YtihchehmkhnhaaaDoorW.PrintMore
set_option linter.unusedVariables false

/-- Two items are alike. -/
def alk (x y : S24) : Bool := decide (x.f0 = y.f0) && decide (x.f3.length = y.f3.length) && decide (x.f2 = y.f2)
def chg (x y : S24) : Nat := if x.f1.toList = y.f1.toList then 0 else 1
mutual
/-- The distance of two rows. -/
def dist : List S24 → List S24 → Nat
  | [], [] => 0
  | [], y :: b => cnt y + dist [] b
  | x :: a, [] => cnt x + dist a []
  | x :: a, y :: b =>
    if alk x y = true then min (min (cnt x + dist a (y :: b)) (cnt y + dist (x :: a) b)) (chg x y + kdist x.f3 y.f3 + dist a b)
    else min (cnt x + dist a (y :: b)) (cnt y + dist (x :: a) b)
termination_by a b => cntL a + cntL b
decreasing_by all_goals (simp only [cntL]; first | (have := cnt_eq x; have := cnt_eq y; omega) | (have := cnt_eq x; omega) | (have := cnt_eq y; omega))
def kdist : List S24 → List S24 → Nat
  | x :: a, y :: b => dist x.f3 y.f3 + kdist a b
  | [], _ => 0
  | _ :: _, [] => 0
termination_by a b => cntL a + cntL b
decreasing_by all_goals (simp only [cntL]; have := cnt_eq x; have := cnt_eq y; omega)
end
def pr (x y : S24) : Nat := chg x y + kdist x.f3 y.f3
def pb : List S24 → List S24 → Bool
  | x :: a, y :: b => alk x y && decide (pr x y + dist a b ≤ min (cnt x + dist a (y :: b)) (cnt y + dist (x :: a) b))
  | [], _ => false
  | _ :: _, [] => false
def cellT (a b : List S24) : S47 := ⟨(dist a b : Int), pb a b⟩
def rowT (a b : List S24) (i : Nat) : List S47 := (List.range (b.length + 1)).map fun j => cellT (a.drop i) (b.drop j)
def tabT (a b : List S24) : List (List S47) := (List.range (a.length + 1)).map fun i => rowT a b i

theorem dist_nn : dist [] [] = 0 := by rw [dist]
theorem dist_nc (y : S24) (b : List S24) : dist [] (y :: b) = cnt y + dist [] b := by rw [dist]
theorem dist_cn (x : S24) (a : List S24) : dist (x :: a) [] = cnt x + dist a [] := by rw [dist]
theorem dist_cc (x : S24) (a : List S24) (y : S24) (b : List S24) : dist (x :: a) (y :: b) = if alk x y = true then min (min (cnt x + dist a (y :: b)) (cnt y + dist (x :: a) b)) (pr x y + dist a b) else min (cnt x + dist a (y :: b)) (cnt y + dist (x :: a) b) := by rw [dist, pr]
theorem kdist_cc (x : S24) (a : List S24) (y : S24) (b : List S24) : kdist (x :: a) (y :: b) = dist x.f3 y.f3 + kdist a b := by rw [kdist]
theorem kdist_nil (b : List S24) : kdist [] b = 0 := by rw [kdist]
theorem dist_le : ∀ (n : Nat) (a b : List S24), a.length + b.length ≤ n → dist a b ≤ cntL a + cntL b
  | n, [], [], _ => by rw [dist_nn]; simp [cntL]
  | 0, [], _ :: _, h => by simp at h
  | 0, _ :: _, _, h => by simp at h
  | n + 1, [], y :: b, h => by
    have := dist_le n [] b (by simp at h ⊢; omega)
    rw [dist_nc]; simp only [cntL] at this ⊢; omega
  | n + 1, x :: a, [], h => by
    have := dist_le n a [] (by simp at h ⊢; omega)
    rw [dist_cn]; simp only [cntL] at this ⊢; omega
  | n + 1, x :: a, y :: b, h => by
    have h1 := dist_le n a (y :: b) (by simp at h ⊢; omega)
    rw [dist_cc]; simp only [cntL] at h1 ⊢
    split <;> omega
theorem dist_bound (a b : List S24) : dist a b ≤ cntL a + cntL b := dist_le _ a b (Nat.le_refl _)
theorem kdist_bound : ∀ a b : List S24, kdist a b ≤ cntL a + cntL b
  | [], b => by rw [kdist_nil]; omega
  | x :: a, [] => by rw [kdist]; omega
  | x :: a, y :: b => by
    have h1 := kdist_bound a b
    have h2 := dist_bound x.f3 y.f3
    have := cnt_eq x; have := cnt_eq y
    rw [kdist_cc]; simp only [cntL]; omega
theorem cntL_drop (l : List S24) (j : Nat) : cntL (l.drop j) ≤ cntL l := by
  have := cntL_append (l.take j) (l.drop j)
  rw [List.take_append_drop] at this
  omega
theorem pr_bound (x y : S24) : pr x y ≤ cnt x + cnt y := by
  have := kdist_bound x.f3 y.f3
  have := cnt_eq x; have := cnt_eq y
  unfold pr chg; split <;> omega
theorem rowT_len (a b : List S24) (i : Nat) : (rowT a b i).length = b.length + 1 := by simp [rowT]
theorem tabT_len (a b : List S24) : (tabT a b).length = a.length + 1 := by simp [tabT]
theorem rowT_at {a b : List S24} {i j : Nat} (h : j ≤ b.length) : (rowT a b i)[j]? = some (cellT (a.drop i) (b.drop j)) := by
  unfold rowT
  rw [List.getElem?_map, List.getElem?_range (by omega)]
  rfl
theorem tabT_at {a b : List S24} {i : Nat} (h : i ≤ a.length) : (tabT a b)[i]? = some (rowT a b i) := by
  unfold tabT
  rw [List.getElem?_map, List.getElem?_range (by omega)]
  rfl
theorem rd47_of {l : List S47} {j : Nat} {c : S47} (h : l[j]? = some c) : rd_T47 l (j : Int) = c := by
  unfold rd_T47
  rw [List.getD_eq_getElem?_getD, Int.toNat_natCast, h]
  rfl
theorem rd5_of {l : List (List S47)} {j : Nat} {c : List S47} (h : l[j]? = some c) : rd_L5 l (j : Int) = c := by
  unfold rd_L5
  rw [List.getD_eq_getElem?_getD, Int.toNat_natCast, h]
  rfl
theorem alike_ev (x y : S24) : diff_alike.f x.f0 x.f1 x.f2 x.f3 y.f0 y.f1 y.f2 y.f3 = some (alk x y) := by
  unfold diff_alike.f alk
  by_cases h1 : x.f0 = y.f0
  · rw [if_pos h1, decide_eq_true h1]
    by_cases h2 : x.f3.length = y.f3.length
    · rw [if_pos (by omega), decide_eq_true h2]
      by_cases h3 : x.f2 = y.f2
      · simp [h3]
      · simp [h3]
    · rw [if_neg (by omega), decide_eq_false h2]; simp
  · rw [if_neg h1, decide_eq_false h1]; simp

/-- pair, where the tables of the kids are right. -/
theorem pair_ev (x y : S24) (hb : cnt x + cnt y ≤ 1000000) (hl : x.f3.length = y.f3.length)
    (ih : ∀ u, u ∈ x.f3 → ∀ v, v ∈ y.f3 → Ev (fun k => diff_table.f k u.f3 v.f3) (tabT u.f3 v.f3)) :
    Ev (fun k => diff_pair.f k x.f0 x.f1 x.f2 x.f3 y.f0 y.f1 y.f2 y.f3) (pr x y : Int) := by
  have hx := cnt_eq x
  have hy := cnt_eq y
  have hlx := length_le_cntL x.f3
  have loop : ∀ (d j : Nat) (acc : Nat), x.f3.length - j = d → j ≤ x.f3.length → acc + kdist (x.f3.drop j) (y.f3.drop j) ≤ 4000000 →
      Ev (fun k => diff_pair.l0 k (acc : Int) (x.f3.length : Int) (j : Int) x.f0 x.f1 x.f2 x.f3 y.f0 y.f1 y.f2 y.f3) ((acc + kdist (x.f3.drop j) (y.f3.drop j) : Nat) : Int) := by
    intro d
    induction d with
    | zero =>
      intro j acc hd hj hacc
      obtain rfl : j = x.f3.length := by omega
      refine Ev.step (f := fun _ => some (acc : Int)) (fun k => by simp only [diff_pair.l0]; rw [if_neg (by omega)]) ?_
      rw [List.drop_length, kdist_nil]
      exact Ev.now _
    | succ d ihd =>
      intro j acc hd hj hacc
      have hlt : j < x.f3.length := by omega
      have hlt' : j < y.f3.length := by omega
      rw [drop_at hlt, drop_at hlt', kdist_cc] at hacc ⊢
      refine Ev.step (f := fun k => (diff_table.f k (rd_T24 x.f3 j).f3 (rd_T24 y.f3 j).f3).bind fun t => if 0 < (t.length : Int) then (if 0 < ((rd_L5 t 0).length : Int) then (diff_pair.l0 k (wrap64 ((acc : Int) + (rd_T47 (rd_L5 t 0) 0).f0)) (x.f3.length : Int) (wrap64 ((j : Int) + 1)) x.f0 x.f1 x.f2 x.f3 y.f0 y.f1 y.f2 y.f3) else none) else none) (fun k => by simp only [diff_pair.l0]; rw [if_pos (by omega), if_pos (by omega), if_pos (by omega), if_pos (by omega)]) ?_
      rw [rd_at hlt, rd_at hlt']
      refine Ev.bind (ih _ (List.getElem_mem hlt) _ (List.getElem_mem hlt')) ?_
      have e1 : rd_L5 (tabT x.f3[j].f3 y.f3[j].f3) 0 = rowT x.f3[j].f3 y.f3[j].f3 0 := rd5_of (j := 0) (tabT_at (by omega))
      have e2 : rd_T47 (rowT x.f3[j].f3 y.f3[j].f3 0) 0 = cellT x.f3[j].f3 y.f3[j].f3 := rd47_of (j := 0) (rowT_at (by omega))
      rw [e1, e2, tabT_len, rowT_len]
      refine Ev.congr (f := fun k => diff_pair.l0 k (((acc + dist x.f3[j].f3 y.f3[j].f3 : Nat)) : Int) (x.f3.length : Int) ((j + 1 : Nat) : Int) x.f0 x.f1 x.f2 x.f3 y.f0 y.f1 y.f2 y.f3) (fun k => ?_) ?_
      · rw [if_pos (by omega), if_pos (by omega), wrap64_id (by simp only [cellT]; omega) (by simp only [cellT]; omega), wrap64_id (by omega) (by omega)]
        simp only [cellT]
        norm_cast
      · have := ihd (j + 1) (acc + dist x.f3[j].f3 y.f3[j].f3) (by omega) (by omega) (by omega)
        rw [Nat.add_assoc] at this
        exact this
  have hk := kdist_bound x.f3 y.f3
  have j0 : ∀ s : Nat, s ≤ 1 → Ev (fun k => diff_pair.j0 k (s : Int) x.f0 x.f1 x.f2 x.f3 y.f0 y.f1 y.f2 y.f3) ((s + kdist x.f3 y.f3 : Nat) : Int) := by
    intro s hs
    refine Ev.step (f := fun k => diff_pair.l0 k (s : Int) (x.f3.length : Int) 0 x.f0 x.f1 x.f2 x.f3 y.f0 y.f1 y.f2 y.f3) (fun k => by simp only [diff_pair.j0]) ?_
    have := loop _ 0 s rfl (by omega) (by simp only [List.drop_zero]; omega)
    simpa using this
  by_cases ht : x.f1.toList = y.f1.toList
  · refine Ev.step (f := fun k => diff_pair.j0 k 0 x.f0 x.f1 x.f2 x.f3 y.f0 y.f1 y.f2 y.f3) (fun k => by simp only [diff_pair.f]; rw [if_pos ht]) ?_
    have := j0 0 (by omega)
    simpa [pr, chg, ht] using this
  · refine Ev.step (f := fun k => diff_pair.j0 k 1 x.f0 x.f1 x.f2 x.f3 y.f0 y.f1 y.f2 y.f3) (fun k => by simp only [diff_pair.f]; rw [if_neg ht]) ?_
    have := j0 1 (by omega)
    simpa [pr, chg, ht] using this
end Go.Proofs.YtihchehmkhnhaaaDoor.A
/- Plain laws: the program's table is the table of distances. -/
namespace Go.Proofs.YtihchehmkhnhaaaDoor.A
open Go.RowKit Go.Proofs.YtihchehmkhnhaaaDoorW.PrintWords Go.Proofs.YtihchehmkhnhaaaDoorW.PrintLast Go.Proofs.YtihchehmkhnhaaaDoorW.PrintMore
set_option linter.unusedVariables false

theorem mn_nat (a b : Nat) : mn (a : Int) (b : Int) = ((min a b : Nat) : Int) := by
  unfold mn
  split <;> omega
theorem best_ev (a b : List S24) (T : List (List S47)) (R : List S47) (i j : Nat) (hb : cntL a + cntL b ≤ 1000000) (hi : i ≤ a.length) (hj : j ≤ b.length) (hT : T.length = a.length + 1)
    (hN : i < a.length → T[i + 1]? = some (rowT a b (i + 1))) (hC : T[i]? = some R) (hR : R.length = b.length + 1) (hD : j < b.length → R[j + 1]? = some (cellT (a.drop i) (b.drop (j + 1))))
    (ih : ∀ x, x ∈ a → ∀ y, y ∈ b → alk x y = true → Ev (fun k => diff_pair.f k x.f0 x.f1 x.f2 x.f3 y.f0 y.f1 y.f2 y.f3) (pr x y : Int)) :
    Ev (fun k => diff_best.f k a b T (i : Int) (j : Int)) ((dist (a.drop i) (b.drop j) : Int), pb (a.drop i) (b.drop j)) := by
  have hla := length_le_cntL a
  have hlb := length_le_cntL b
  have hrd := rd5_of hC
  have wi : wrap64 ((i : Int) + 1) = ((i + 1 : Nat) : Int) := by rw [wrap64_id (by omega) (by omega)]; omega
  have wj : wrap64 ((j : Int) + 1) = ((j + 1 : Nat) : Int) := by rw [wrap64_id (by omega) (by omega)]; omega
  have bd : ∀ p q, dist (a.drop p) (b.drop q) ≤ 1000000 := fun p q => by
    have := dist_bound (a.drop p) (b.drop q); have := cntL_drop a p; have := cntL_drop b q; omega
  have cnt64 : ∀ (m n : Nat), m ≤ 1000000 → n ≤ 1000000 → wrap64 ((m : Int) + (n : Int)) = ((m + n : Nat) : Int) := fun m n hm hn => by
    rw [wrap64_id (by omega) (by omega)]; omega
  by_cases ea : i = a.length
  · subst ea
    rw [List.drop_length]
    by_cases eb : j = b.length
    · subst eb
      rw [List.drop_length, dist_nn]
      refine Ev.step (f := fun k => diff_best.j0 k a b T (a.length : Int) (b.length : Int) true) (fun k => by rw [diff_best.f, if_pos rfl]; simp) ?_
      refine Ev.step (f := fun _ => some (0, false)) (fun k => by rw [diff_best.j0, if_pos rfl]) ?_
      exact Ev.now _
    · have hlt : j < b.length := by omega
      rw [drop_at hlt]
      refine Ev.step (f := fun k => diff_best.j0 k a b T (a.length : Int) (j : Int) false) (fun k => by rw [diff_best.f, if_pos rfl, show ((j : Int) == (b.length : Int)) = false from beq_eq_false_iff_ne.2 (by omega)]) ?_
      apply Ev.step
      · intro k; rw [diff_best.j0, if_neg (by simp), if_pos rfl, if_pos (by omega), if_pos (by omega)]
      rw [rd_at hlt]
      have hc := cnt_mem (List.getElem_mem hlt)
      refine Ev.bind (node_Count_ev _ (by omega)) ?_
      rw [hrd, wj, rd47_of (hD hlt), List.drop_length]
      refine Ev.congr (f := fun _ => some (wrap64 ((cnt b[j] : Int) + (cellT [] (b.drop (j + 1))).f0), false)) (fun k => by rw [if_pos (by omega), if_pos (by omega), if_pos (by omega), if_pos (by omega)]) ?_
      have h1 := bd a.length (j + 1)
      rw [List.drop_length] at h1
      simp only [cellT]
      rw [cnt64 _ _ (by omega) h1, dist_nc]
      exact Ev.now _
  · have hla' : i < a.length := by omega
    have hx := cnt_mem (List.getElem_mem hla')
    rw [drop_at hla']
    refine Ev.step (f := fun k => diff_best.j0 k a b T (i : Int) (j : Int) false) (fun k => by rw [diff_best.f, if_neg (by omega)]) ?_
    by_cases eb : j = b.length
    · subst eb
      rw [List.drop_length]
      apply Ev.step
      · intro k; rw [diff_best.j0, if_neg (by simp), if_neg (by omega), if_pos rfl, if_pos (by omega), if_pos (by omega)]
      rw [rd_at hla']
      refine Ev.bind (node_Count_ev _ (by omega)) ?_
      rw [wi, rd5_of (hN hla'), rd47_of (rowT_at (Nat.le_refl _)), rowT_len, List.drop_length]
      refine Ev.congr (f := fun _ => some (wrap64 ((cnt a[i] : Int) + (cellT (a.drop (i + 1)) []).f0), false)) (fun k => by rw [if_pos (by omega), if_pos (by omega), if_pos (by omega), if_pos (by omega)]) ?_
      have h1 := bd (i + 1) b.length
      rw [List.drop_length] at h1
      simp only [cellT]
      rw [cnt64 _ _ (by omega) h1, dist_cn]
      exact Ev.now _
    · have hlt : j < b.length := by omega
      have hy := cnt_mem (List.getElem_mem hlt)
      rw [drop_at hlt]
      apply Ev.step
      · intro k; rw [diff_best.j0, if_neg (by simp), if_neg (by omega), if_neg (by omega), if_pos (by omega), if_pos (by omega)]
      rw [rd_at hla']
      refine Ev.bind (node_Count_ev _ (by omega)) ?_
      rw [rd_at hlt, wi, wj, hrd, rd5_of (hN hla'), rd47_of (rowT_at hj), rd47_of (rowT_at (show j + 1 ≤ b.length by omega)), rd47_of (hD hlt), rowT_len, alike_ev]
      apply Ev.congr
      · intro k; rw [if_pos (by omega), if_pos (by omega), if_pos (by omega), if_pos (by omega), if_pos (by omega)]
      refine Ev.bind (node_Count_ev _ (by omega)) ?_
      have h1 := bd (i + 1) j
      have h2 := bd i (j + 1)
      have h3 := bd (i + 1) (j + 1)
      have e1 : a.drop i = a[i] :: a.drop (i + 1) := drop_at hla'
      have e2 : b.drop j = b[j] :: b.drop (j + 1) := drop_at hlt
      rw [e2] at h1
      rw [e1] at h2
      simp only [cellT, e1, e2]
      rw [cnt64 _ _ (by omega) h1, cnt64 _ _ (by omega) h2, mn_nat]
      apply Ev.congr
      · intro k; rw [if_pos (by omega), if_pos (by omega), if_pos (by omega), Option.bind_some]
      have hp := pr_bound a[i] b[j]
      by_cases hal : alk a[i] b[j] = true
      · apply Ev.congr
        · intro k; rw [if_pos hal]
        refine Ev.bind (ih _ (List.getElem_mem hla') _ (List.getElem_mem hlt) hal) ?_
        rw [cnt64 _ _ (by omega) h3, dist_cc, if_pos hal]
        by_cases hc : pr a[i] b[j] + dist (a.drop (i + 1)) (b.drop (j + 1)) ≤ min (cnt a[i] + dist (a.drop (i + 1)) (b[j] :: b.drop (j + 1))) (cnt b[j] + dist (a[i] :: a.drop (i + 1)) (b.drop (j + 1)))
        · refine Ev.congr (f := fun _ => some (((pr a[i] b[j] + dist (a.drop (i + 1)) (b.drop (j + 1)) : Nat) : Int), true)) (fun k => by rw [if_pos (by omega), if_pos (by exact_mod_cast hc)]) ?_
          rw [Nat.min_eq_right hc]
          simp only [pb, hal, decide_eq_true hc, Bool.and_self]
          exact Ev.now _
        · refine Ev.congr (f := fun _ => some (((min (cnt a[i] + dist (a.drop (i + 1)) (b[j] :: b.drop (j + 1))) (cnt b[j] + dist (a[i] :: a.drop (i + 1)) (b.drop (j + 1))) : Nat) : Int), false)) (fun k => by rw [if_pos (by omega), if_neg (by exact_mod_cast hc)]) ?_
          rw [Nat.min_eq_left (Nat.le_of_lt (Nat.lt_of_not_le hc))]
          simp only [pb, hal, decide_eq_false hc, Bool.and_false]
          exact Ev.now _
      · refine Ev.congr (f := fun _ => some (((min (cnt a[i] + dist (a.drop (i + 1)) (b[j] :: b.drop (j + 1))) (cnt b[j] + dist (a[i] :: a.drop (i + 1)) (b.drop (j + 1))) : Nat) : Int), false)) (fun k => by rw [if_neg hal]) ?_
        rw [dist_cc, if_neg hal]
        have hal' : alk a[i] b[j] = false := by simpa using hal
        simp only [pb, hal', Bool.false_and]
        exact Ev.now _
end Go.Proofs.YtihchehmkhnhaaaDoor.A
/- Plain laws: the program's table, all rows. -/
namespace Go.Proofs.YtihchehmkhnhaaaDoor.A
open Go.RowKit Go.Proofs.YtihchehmkhnhaaaDoorW.PrintWords Go.Proofs.YtihchehmkhnhaaaDoorW.PrintLast Go.Proofs.YtihchehmkhnhaaaDoorW.PrintMore
set_option linter.unusedVariables false

theorem set_same {α : Type} {l : List α} {i : Nat} {x : α} (h : i < l.length) : (l.set i x)[i]? = some x := by
  rw [List.getElem?_set_self h]
theorem set_other {α : Type} {l : List α} {i j : Nat} {x : α} (h : i ≠ j) : (l.set i x)[j]? = l[j]? := List.getElem?_set_ne h
theorem row_done {a b : List S24} {i : Nat} {R : List S47} (hl : R.length = b.length + 1) (h : ∀ j, j ≤ b.length → R[j]? = some (cellT (a.drop i) (b.drop j))) : R = rowT a b i := by
  apply List.ext_getElem?
  intro j
  by_cases hj : j ≤ b.length
  · rw [h j hj, rowT_at hj]
  · rw [List.getElem?_eq_none (by omega), List.getElem?_eq_none (by rw [rowT_len]; omega)]
theorem tab_done {a b : List S24} {T : List (List S47)} (hl : T.length = a.length + 1) (h : ∀ i, i ≤ a.length → T[i]? = some (rowT a b i)) : T = tabT a b := by
  apply List.ext_getElem?
  intro i
  by_cases hi : i ≤ a.length
  · rw [h i hi, tabT_at hi]
  · rw [List.getElem?_eq_none (by omega), List.getElem?_eq_none (by rw [tabT_len]; omega)]

theorem table_inner (a b : List S24) (hb : cntL a + cntL b ≤ 1000000) (i : Nat) (hi : i ≤ a.length)
    (ih : ∀ x, x ∈ a → ∀ y, y ∈ b → alk x y = true → Ev (fun k => diff_pair.f k x.f0 x.f1 x.f2 x.f3 y.f0 y.f1 y.f2 y.f3) (pr x y : Int))
    (next : ∀ T : List (List S47), T.length = a.length + 1 → (∀ i', i ≤ i' → i' ≤ a.length → T[i']? = some (rowT a b i')) → Ev (fun k => diff_table.l0 k a b T ((i : Int) - 1)) (tabT a b)) :
    ∀ (j : Nat) (T : List (List S47)) (R : List S47), j ≤ b.length + 1 → T.length = a.length + 1 → (∀ i', i < i' → i' ≤ a.length → T[i']? = some (rowT a b i')) → T[i]? = some R → R.length = b.length + 1 →
      (∀ j', j ≤ j' → j' ≤ b.length → R[j']? = some (cellT (a.drop i) (b.drop j'))) → ∀ x7 : Int, x7 = (j : Int) - 1 → Ev (fun k => diff_table.l1 k a b T (i : Int) x7) (tabT a b) := by
  have hla := length_le_cntL a
  have hlb := length_le_cntL b
  intro j
  induction j with
  | zero =>
    intro T R hj hT hN hC hR hD x7 hx
    subst hx
    apply Ev.step
    · intro k; rw [diff_table.l1, if_neg (by omega), wrap64_id (by omega) (by omega)]
    refine next T hT (fun i' h1 h2 => ?_)
    by_cases he : i = i'
    · subst he
      rw [hC, row_done hR (fun j hj => hD j (by omega) hj)]
    · exact hN i' (by omega) h2
  | succ j ihj =>
    intro T R hj hT hN hC hR hD x7 hx
    obtain rfl : x7 = (j : Int) := by omega
    apply Ev.step
    · intro k; rw [diff_table.l1, if_pos (by omega), if_pos (by omega), if_pos (by omega)]
    refine Ev.bind (best_ev a b T R i j hb hi (by omega) hT (fun h => hN _ (by omega) (by omega)) hC hR (fun h => hD _ (by omega) (by omega)) ih) ?_
    rw [rd5_of hC, Int.toNat_natCast, Int.toNat_natCast]
    apply Ev.congr
    · intro k; rw [if_pos (by omega), if_pos (by omega), wrap64_id (by omega) (by omega)]
    refine ihj _ (R.set j (cellT (a.drop i) (b.drop j))) (by omega) (by rw [List.length_set]; exact hT) (fun i' h1 h2 => ?_) ?_ (by rw [List.length_set]; exact hR) (fun j' h1 h2 => ?_) _ rfl
    · rw [set_other (by omega)]; exact hN i' h1 h2
    · exact set_same (by omega)
    · by_cases he : j = j'
      · subst he; exact set_same (by omega)
      · rw [set_other he]; exact hD j' (by omega) h2
theorem table_outer (a b : List S24) (hb : cntL a + cntL b ≤ 1000000)
    (ih : ∀ x, x ∈ a → ∀ y, y ∈ b → alk x y = true → Ev (fun k => diff_pair.f k x.f0 x.f1 x.f2 x.f3 y.f0 y.f1 y.f2 y.f3) (pr x y : Int)) :
    ∀ (i : Nat) (T : List (List S47)), i ≤ a.length + 1 → T.length = a.length + 1 → (∀ i', i ≤ i' → i' ≤ a.length → T[i']? = some (rowT a b i')) → Ev (fun k => diff_table.l0 k a b T ((i : Int) - 1)) (tabT a b) := by
  have hla := length_le_cntL a
  have hlb := length_le_cntL b
  intro i
  induction i with
  | zero =>
    intro T hi hT hN
    apply Ev.step
    · intro k; rw [diff_table.l0, if_neg (by omega)]
    rw [tab_done hT (fun i hi => hN i (by omega) hi)]
    exact Ev.now _
  | succ i ihi =>
    intro T hi hT hN
    have e : ((i + 1 : Nat) : Int) - 1 = (i : Int) := by omega
    have wl : wrap64 ((b.length : Int) + 1) = ((b.length + 1 : Nat) : Int) := by rw [wrap64_id (by omega) (by omega)]; omega
    rw [e]
    apply Ev.step
    · intro k; rw [diff_table.l0, wl, Int.toNat_natCast, Int.toNat_natCast, if_pos (by omega), if_pos (by omega), if_pos (by omega), if_pos (by omega), if_pos (by omega)]
    refine table_inner a b hb i (by omega) ih (fun T hT hN => ihi T (by omega) hT hN) (b.length + 1) _ (List.replicate (b.length + 1) z47) (by omega) (by rw [List.length_set]; exact hT) (fun i' h1 h2 => ?_) (set_same (by omega)) (by simp) (fun j' h1 h2 => by omega) _ (by omega)
    rw [set_other (by omega)]; exact hN i' h1 h2
theorem table_ev : ∀ (n : Nat) (a b : List S24), cntL a + cntL b ≤ n → n ≤ 1000000 → Ev (fun k => diff_table.f k a b) (tabT a b) := by
  intro n
  induction n using Nat.strongRecOn with
  | _ n IH =>
    intro a b hn hb
    have hla := length_le_cntL a
    have wl : wrap64 ((a.length : Int) + 1) = ((a.length + 1 : Nat) : Int) := by rw [wrap64_id (by omega) (by omega)]; omega
    apply Ev.step
    · intro k; rw [diff_table.f, wl, Int.toNat_natCast, if_pos (by omega), if_pos (by omega)]
    have := table_outer a b (by omega) (fun x hx y hy hal => ?_) (a.length + 1) (List.replicate (a.length + 1) []) (by omega) (by simp) (fun i' h1 h2 => by omega)
    · have e : ((a.length + 1 : Nat) : Int) - 1 = (a.length : Int) := by omega
      rw [e] at this
      exact this
    have h1 := cnt_mem hx
    have h2 := cnt_mem hy
    have h3 := cnt_eq x
    have h4 := cnt_eq y
    have hl : x.f3.length = y.f3.length := by
      simp only [alk, Bool.and_eq_true, decide_eq_true_eq] at hal
      exact hal.1.2
    refine pair_ev x y (by omega) hl (fun u hu v hv => ?_)
    have h5 := cnt_mem hu
    have h6 := cnt_mem hv
    have h7 := cnt_eq u
    have h8 := cnt_eq v
    exact IH (cntL u.f3 + cntL v.f3) (by omega) _ _ (Nat.le_refl _) (by omega)
end Go.Proofs.YtihchehmkhnhaaaDoor.A
/- Plain laws: the reference's table is the table of distances. -/
namespace Go.Proofs.YtihchehmkhnhaaaDoor.A
open Go.RowKit Go.Proofs.YtihchehmkhnhaaaDoorW.PrintWords Go.Proofs.YtihchehmkhnhaaaDoorW.PrintLast Go.Proofs.YtihchehmkhnhaaaDoorW.PrintMore
set_option linter.unusedVariables false

def rowD (a b : List S24) (i : Nat) : List Int := (List.range (b.length + 1)).map fun j => (dist (a.drop i) (b.drop j) : Int)
def tabD (a b : List S24) : List (List Int) := (List.range (a.length + 1)).map fun i => rowD a b i
theorem rowD_len (a b : List S24) (i : Nat) : (rowD a b i).length = b.length + 1 := by simp [rowD]
theorem tabD_len (a b : List S24) : (tabD a b).length = a.length + 1 := by simp [tabD]
theorem rowD_at {a b : List S24} {i j : Nat} (h : j ≤ b.length) : (rowD a b i)[j]? = some (dist (a.drop i) (b.drop j) : Int) := by
  unfold rowD
  rw [List.getElem?_map, List.getElem?_range (by omega)]
  rfl
theorem tabD_at {a b : List S24} {i : Nat} (h : i ≤ a.length) : (tabD a b)[i]? = some (rowD a b i) := by
  unfold tabD
  rw [List.getElem?_map, List.getElem?_range (by omega)]
  rfl
theorem rd_of {l : List Int} {j : Nat} {c : Int} (h : l[j]? = some c) : rd l (j : Int) = c := by
  unfold rd
  rw [List.getD_eq_getElem?_getD, Int.toNat_natCast, h]
  rfl
theorem rd6_of {l : List (List Int)} {j : Nat} {c : List Int} (h : l[j]? = some c) : rd_L6 l (j : Int) = c := by
  unfold rd_L6
  rw [List.getD_eq_getElem?_getD, Int.toNat_natCast, h]
  rfl
theorem rowD_done {a b : List S24} {i : Nat} {R : List Int} (hl : R.length = b.length + 1) (h : ∀ j, j ≤ b.length → R[j]? = some (dist (a.drop i) (b.drop j) : Int)) : R = rowD a b i := by
  apply List.ext_getElem?
  intro j
  by_cases hj : j ≤ b.length
  · rw [h j hj, rowD_at hj]
  · rw [List.getElem?_eq_none (by omega), List.getElem?_eq_none (by rw [rowD_len]; omega)]
theorem tabD_done {a b : List S24} {T : List (List Int)} (hl : T.length = a.length + 1) (h : ∀ i, i ≤ a.length → T[i]? = some (rowD a b i)) : T = tabD a b := by
  apply List.ext_getElem?
  intro i
  by_cases hi : i ≤ a.length
  · rw [h i hi, tabD_at hi]
  · rw [List.getElem?_eq_none (by omega), List.getElem?_eq_none (by rw [tabD_len]; omega)]
theorem rAlike_ev (x y : S24) : vinculumref16_Alike.f x.f0 x.f1 x.f2 x.f3 y.f0 y.f1 y.f2 y.f3 = some (alk x y) := alike_ev x y

theorem rpair_ev (x y : S24) (hb : cnt x + cnt y ≤ 1000000) (hl : x.f3.length = y.f3.length)
    (ih : ∀ u, u ∈ x.f3 → ∀ v, v ∈ y.f3 → Ev (fun k => vinculumref16_table.f k u.f3 v.f3) (tabD u.f3 v.f3)) :
    Ev (fun k => vinculumref16_pair.f k x.f0 x.f1 x.f2 x.f3 y.f0 y.f1 y.f2 y.f3) (pr x y : Int) := by
  have hx := cnt_eq x
  have hy := cnt_eq y
  have hlx := length_le_cntL x.f3
  have loop : ∀ (d j : Nat) (acc : Nat), x.f3.length - j = d → j ≤ x.f3.length → acc + kdist (x.f3.drop j) (y.f3.drop j) ≤ 4000000 →
      Ev (fun k => vinculumref16_pair.l0 k (acc : Int) (j : Int) x.f0 x.f1 x.f2 x.f3 y.f0 y.f1 y.f2 y.f3) ((acc + kdist (x.f3.drop j) (y.f3.drop j) : Nat) : Int) := by
    intro d
    induction d with
    | zero =>
      intro j acc hd hj hacc
      obtain rfl : j = x.f3.length := by omega
      apply Ev.step
      · intro k; rw [vinculumref16_pair.l0, if_neg (by omega)]
      rw [List.drop_length, kdist_nil]
      exact Ev.now _
    | succ d ihd =>
      intro j acc hd hj hacc
      have hlt : j < x.f3.length := by omega
      have hlt' : j < y.f3.length := by omega
      rw [drop_at hlt, drop_at hlt', kdist_cc] at hacc ⊢
      apply Ev.step
      · intro k; rw [vinculumref16_pair.l0, if_pos (by omega), if_pos (by omega), if_pos (by omega)]
      rw [rd_at hlt, rd_at hlt']
      refine Ev.bind (ih _ (List.getElem_mem hlt) _ (List.getElem_mem hlt')) ?_
      have e1 : rd_L6 (tabD x.f3[j].f3 y.f3[j].f3) 0 = rowD x.f3[j].f3 y.f3[j].f3 0 := rd6_of (j := 0) (tabD_at (by omega))
      have e2 : rd (rowD x.f3[j].f3 y.f3[j].f3 0) 0 = dist x.f3[j].f3 y.f3[j].f3 := rd_of (j := 0) (rowD_at (by omega))
      rw [e1, e2, tabD_len, rowD_len]
      refine Ev.congr (f := fun k => vinculumref16_pair.l0 k (((acc + dist x.f3[j].f3 y.f3[j].f3 : Nat)) : Int) ((j + 1 : Nat) : Int) x.f0 x.f1 x.f2 x.f3 y.f0 y.f1 y.f2 y.f3) (fun k => ?_) ?_
      · rw [if_pos (by omega), if_pos (by omega), wrap64_id (by omega) (by omega), wrap64_id (by omega) (by omega)]
        norm_cast
      · have := ihd (j + 1) (acc + dist x.f3[j].f3 y.f3[j].f3) (by omega) (by omega) (by omega)
        rw [Nat.add_assoc] at this
        exact this
  have hk := kdist_bound x.f3 y.f3
  have j0 : ∀ s : Nat, s ≤ 1 → Ev (fun k => vinculumref16_pair.j0 k (s : Int) x.f0 x.f1 x.f2 x.f3 y.f0 y.f1 y.f2 y.f3) ((s + kdist x.f3 y.f3 : Nat) : Int) := by
    intro s hs
    apply Ev.step
    · intro k; rw [vinculumref16_pair.j0]
    have := loop _ 0 s rfl (by omega) (by simp only [List.drop_zero]; omega)
    simpa using this
  by_cases ht : x.f1.toList = y.f1.toList
  · apply Ev.step
    · intro k; rw [vinculumref16_pair.f, if_pos ht]
    have := j0 0 (by omega)
    simpa [pr, chg, ht] using this
  · apply Ev.step
    · intro k; rw [vinculumref16_pair.f, if_neg ht]
    have := j0 1 (by omega)
    simpa [pr, chg, ht] using this

section
variable (a b : List S24) (T : List (List Int)) (R : List Int) (i j : Nat)
/-- The last part of a step: the pair, and the store. -/
theorem rj5 (r : List (List Int)) (hb : cntL a + cntL b ≤ 1000000) (hi : i ≤ a.length) (hj : j ≤ b.length) (hT : T.length = a.length + 1)
    (hN : i < a.length → T[i + 1]? = some (rowD a b (i + 1))) (hC : T[i]? = some R) (hR : R.length = b.length + 1)
    (ih : ∀ x, x ∈ a → ∀ y, y ∈ b → alk x y = true → Ev (fun k => vinculumref16_pair.f k x.f0 x.f1 x.f2 x.f3 y.f0 y.f1 y.f2 y.f3) (pr x y : Int)) (m v : Nat)
    (hv : ∀ (h1 : i < a.length) (h2 : j < b.length), v = if alk a[i] b[j] = true then min m (pr a[i] b[j] + dist (a.drop (i + 1)) (b.drop (j + 1))) else m)
    (hw : ¬(i < a.length ∧ j < b.length) → v = m)
    (next : Ev (fun k => vinculumref16_table.l2 k a b (T.set i (R.set j (v : Int))) (i : Int) ((j : Int) - 1)) r) :
    Ev (fun k => vinculumref16_table.j5 k a b T (i : Int) (j : Int) (m : Int)) r := by
  have hla := length_le_cntL a
  have hlb := length_le_cntL b
  have wi : wrap64 ((i : Int) + 1) = ((i + 1 : Nat) : Int) := by rw [wrap64_id (by omega) (by omega)]; omega
  have wj : wrap64 ((j : Int) + 1) = ((j + 1 : Nat) : Int) := by rw [wrap64_id (by omega) (by omega)]; omega
  have wp : wrap64 ((j : Int) - 1) = (j : Int) - 1 := wrap64_id (by omega) (by omega)
  by_cases h1 : i < a.length
  · by_cases h2 : j < b.length
    · have hv := hv h1 h2
      apply Ev.step
      · intro k; rw [vinculumref16_table.j5, if_pos (by omega), if_pos (by omega), if_pos (by omega), if_pos (by omega), rd_at h1, rd_at h2, rAlike_ev, Option.bind_some]
      by_cases hal : alk a[i] b[j] = true
      · rw [if_pos hal] at hv
        apply Ev.congr
        · intro k; rw [if_pos hal]
        refine Ev.bind (ih _ (List.getElem_mem h1) _ (List.getElem_mem h2) hal) ?_
        have hp := pr_bound a[i] b[j]
        have h3 := dist_bound (a.drop (i + 1)) (b.drop (j + 1))
        have h4 := cntL_drop a (i + 1)
        have h5 := cntL_drop b (j + 1)
        have h6 := cnt_mem (List.getElem_mem h1)
        have h7 := cnt_mem (List.getElem_mem h2)
        have w3 : wrap64 ((pr a[i] b[j] : Int) + (dist (a.drop (i + 1)) (b.drop (j + 1)) : Int)) = ((pr a[i] b[j] + dist (a.drop (i + 1)) (b.drop (j + 1)) : Nat) : Int) := by rw [wrap64_id (by omega) (by omega)]; omega
        rw [wi, wj, wp, rd6_of (hN h1), rd_of (rowD_at (show j + 1 ≤ b.length by omega)), rd6_of hC, rowD_len, w3, mn_nat, ← hv]
        apply Ev.congr
        · intro k; rw [if_pos (by omega), if_pos (by omega), if_pos (by omega), if_pos (by omega), if_pos (by omega), if_pos (by omega), Int.toNat_natCast, Int.toNat_natCast]
        exact next
      · rw [if_neg hal] at hv
        subst hv
        apply Ev.congr
        · intro k; rw [if_neg hal, rd6_of hC, wp, if_pos (by omega), if_pos (by omega), Int.toNat_natCast, Int.toNat_natCast]
        exact next
    · obtain rfl := hw (by omega)
      apply Ev.step
      · intro k; rw [vinculumref16_table.j5, if_pos (by omega), if_neg (by omega), rd6_of hC, wp, if_pos (by omega), if_pos (by omega), if_pos (by omega), if_pos (by omega), Int.toNat_natCast, Int.toNat_natCast]
      exact next
  · obtain rfl := hw (by omega)
    apply Ev.step
    · intro k; rw [vinculumref16_table.j5, if_neg (by omega), rd6_of hC, wp, if_pos (by omega), if_pos (by omega), if_pos (by omega), if_pos (by omega), Int.toNat_natCast, Int.toNat_natCast]
    exact next
end
end Go.Proofs.YtihchehmkhnhaaaDoor.A
/- Plain laws: the reference's table, all rows. -/
namespace Go.Proofs.YtihchehmkhnhaaaDoor.A
open Go.RowKit Go.Proofs.YtihchehmkhnhaaaDoorW.PrintWords Go.Proofs.YtihchehmkhnhaaaDoorW.PrintLast Go.Proofs.YtihchehmkhnhaaaDoorW.PrintMore
set_option linter.unusedVariables false

theorem rstep (a b : List S24) (T : List (List Int)) (R : List Int) (i j : Nat) (r : List (List Int)) (hb : cntL a + cntL b ≤ 1000000) (hi : i ≤ a.length) (hj : j ≤ b.length) (hT : T.length = a.length + 1)
    (hN : i < a.length → T[i + 1]? = some (rowD a b (i + 1))) (hC : T[i]? = some R) (hR : R.length = b.length + 1) (hD : j < b.length → R[j + 1]? = some (dist (a.drop i) (b.drop (j + 1)) : Int))
    (ih : ∀ x, x ∈ a → ∀ y, y ∈ b → alk x y = true → Ev (fun k => vinculumref16_pair.f k x.f0 x.f1 x.f2 x.f3 y.f0 y.f1 y.f2 y.f3) (pr x y : Int))
    (ne : ¬(i = a.length ∧ j = b.length))
    (next : Ev (fun k => vinculumref16_table.l2 k a b (T.set i (R.set j (dist (a.drop i) (b.drop j) : Int))) (i : Int) ((j : Int) - 1)) r) :
    Ev (fun k => vinculumref16_table.j3 k a b T (i : Int) (j : Int) false) r := by
  have hla := length_le_cntL a
  have hlb := length_le_cntL b
  have wi : wrap64 ((i : Int) + 1) = ((i + 1 : Nat) : Int) := by rw [wrap64_id (by omega) (by omega)]; omega
  have wj : wrap64 ((j : Int) + 1) = ((j + 1 : Nat) : Int) := by rw [wrap64_id (by omega) (by omega)]; omega
  have bd : ∀ p q, dist (a.drop p) (b.drop q) ≤ 1000000 := fun p q => by
    have := dist_bound (a.drop p) (b.drop q); have := cntL_drop a p; have := cntL_drop b q; omega
  have cnt64 : ∀ (m n : Nat), m ≤ 1000000 → n ≤ 1000000 → wrap64 ((m : Int) + (n : Int)) = ((m + n : Nat) : Int) := fun m n hm hn => by
    rw [wrap64_id (by omega) (by omega)]; omega
  have b1 := bd (i + 1) j
  have b2 := bd i (j + 1)
  have fin := fun m v => rj5 a b T R i j r hb hi hj hT hN hC hR ih m v
  by_cases h1 : i < a.length
  · have hx := cnt_mem (List.getElem_mem h1)
    have ea : a.drop i = a[i] :: a.drop (i + 1) := drop_at h1
    apply Ev.step
    · intro k; rw [vinculumref16_table.j3, if_neg Bool.false_ne_true, if_pos (by omega), if_pos (by omega), rd_at h1]
    refine Ev.bind (vinculumref09_Count_ev _ (by omega)) ?_
    rw [wi, rd6_of (hN h1), rowD_len, rd_of (rowD_at hj), cnt64 _ _ (by omega) b1]
    apply Ev.congr
    · intro k; rw [if_pos (by omega), if_pos (by omega), if_pos (by omega), if_pos (by omega)]
    by_cases h2 : j < b.length
    · have hy := cnt_mem (List.getElem_mem h2)
      have eb : b.drop j = b[j] :: b.drop (j + 1) := drop_at h2
      apply Ev.step
      · intro k; rw [vinculumref16_table.j4, if_pos (by omega), if_pos (by omega), rd_at h2]
      refine Ev.bind (vinculumref09_Count_ev _ (by omega)) ?_
      rw [wj, rd6_of hC, rd_of (hD h2), cnt64 _ _ (by omega) b2]
      have hd : dist (a.drop i) (b.drop j) = if alk a[i] b[j] = true then min (min (cnt a[i] + dist (a.drop (i + 1)) (b.drop j)) (cnt b[j] + dist (a.drop i) (b.drop (j + 1)))) (pr a[i] b[j] + dist (a.drop (i + 1)) (b.drop (j + 1))) else min (cnt a[i] + dist (a.drop (i + 1)) (b.drop j)) (cnt b[j] + dist (a.drop i) (b.drop (j + 1))) := by
        rw [ea, eb, dist_cc]
      by_cases hc : cnt b[j] + dist (a.drop i) (b.drop (j + 1)) < cnt a[i] + dist (a.drop (i + 1)) (b.drop j)
      · apply Ev.congr
        · intro k; rw [if_pos (by omega), if_pos (by omega), if_pos (by omega), if_pos (by omega), if_neg (by omega), if_pos (by omega)]
        refine fin _ _ (fun _ _ => ?_) (fun h => absurd ⟨h1, h2⟩ h) next
        rw [hd, Nat.min_eq_right (Nat.le_of_lt hc)]
      · apply Ev.congr
        · intro k; rw [if_pos (by omega), if_pos (by omega), if_pos (by omega), if_pos (by omega), if_neg (by omega), if_neg (by omega)]
        refine fin _ _ (fun _ _ => ?_) (fun h => absurd ⟨h1, h2⟩ h) next
        rw [hd, Nat.min_eq_left (Nat.le_of_not_lt hc)]
    · apply Ev.step
      · intro k; rw [vinculumref16_table.j4, if_neg (by omega)]
      obtain rfl : j = b.length := by omega
      refine fin _ _ (fun _ h => absurd h h2) (fun _ => ?_) next
      rw [ea, List.drop_length, dist_cn]
  · obtain rfl : i = a.length := by omega
    have h2 : j < b.length := by omega
    have hy := cnt_mem (List.getElem_mem h2)
    have eb : b.drop j = b[j] :: b.drop (j + 1) := drop_at h2
    apply Ev.step
    · intro k; rw [vinculumref16_table.j3, if_neg Bool.false_ne_true, if_neg (by omega)]
    apply Ev.step
    · intro k; rw [vinculumref16_table.j4, if_pos (by omega), if_pos (by omega), rd_at h2]
    refine Ev.bind (vinculumref09_Count_ev _ (by omega)) ?_
    rw [wj, rd6_of hC, rd_of (hD h2), cnt64 _ _ (by omega) b2]
    apply Ev.congr
    · intro k; rw [if_pos (by omega), if_pos (by omega), if_pos (by omega), if_pos (by omega), if_pos (by omega)]
    refine fin _ _ (fun h _ => absurd h h1) (fun _ => ?_) next
    rw [eb, List.drop_length, dist_nc]

theorem rinner (a b : List S24) (hb : cntL a + cntL b ≤ 1000000) (i : Nat) (hi : i ≤ a.length)
    (ih : ∀ x, x ∈ a → ∀ y, y ∈ b → alk x y = true → Ev (fun k => vinculumref16_pair.f k x.f0 x.f1 x.f2 x.f3 y.f0 y.f1 y.f2 y.f3) (pr x y : Int))
    (next : ∀ T : List (List Int), T.length = a.length + 1 → (∀ i', i ≤ i' → i' ≤ a.length → T[i']? = some (rowD a b i')) → (∀ i', i' < i → T[i']? = some (List.replicate (b.length + 1) 0)) → Ev (fun k => vinculumref16_table.l1 k a b T ((i : Int) - 1)) (tabD a b)) :
    ∀ (j : Nat) (T : List (List Int)) (R : List Int), j ≤ b.length + 1 → T.length = a.length + 1 → (∀ i', i < i' → i' ≤ a.length → T[i']? = some (rowD a b i')) → (∀ i', i' < i → T[i']? = some (List.replicate (b.length + 1) 0)) → T[i]? = some R → R.length = b.length + 1 →
      (∀ j', j ≤ j' → j' ≤ b.length → R[j']? = some (dist (a.drop i) (b.drop j') : Int)) → (∀ j', j' < j → R[j']? = some 0) → ∀ x7 : Int, x7 = (j : Int) - 1 → Ev (fun k => vinculumref16_table.l2 k a b T (i : Int) x7) (tabD a b) := by
  have hla := length_le_cntL a
  have hlb := length_le_cntL b
  intro j
  induction j with
  | zero =>
    intro T R hj hT hN hZ hC hR hD h0 x7 hx
    subst hx
    apply Ev.step
    · intro k; rw [vinculumref16_table.l2, if_neg (by omega), wrap64_id (by omega) (by omega)]
    refine next T hT (fun i' h1 h2 => ?_) hZ
    by_cases he : i = i'
    · subst he
      rw [hC, rowD_done hR (fun j hj => hD j (by omega) hj)]
    · exact hN i' (by omega) h2
  | succ j ihj =>
    intro T R hj hT hN hZ hC hR hD h0 x7 hx
    obtain rfl : x7 = (j : Int) := by omega
    by_cases ne : i = a.length ∧ j = b.length
    · obtain ⟨rfl, rfl⟩ := ne
      apply Ev.step
      · intro k; rw [vinculumref16_table.l2, if_pos (by omega), if_pos rfl, beq_self_eq_true]
      apply Ev.step
      · intro k; rw [vinculumref16_table.j3, if_pos rfl, wrap64_id (by omega) (by omega)]
      refine ihj T R (by omega) hT hN hZ hC hR (fun j' h1 h2 => ?_) (fun j' h => h0 j' (by omega)) _ rfl
      obtain rfl : j' = b.length := by omega
      rw [h0 _ (by omega), List.drop_length, List.drop_length, dist_nn]
      rfl
    · have step := rstep a b T R i j (tabD a b) hb hi (by omega) hT (fun h => hN _ (by omega) (by omega)) hC hR (fun h => hD _ (by omega) (by omega)) ih ne ?_
      · by_cases ea : i = a.length
        · subst ea
          apply Ev.step
          · intro k; rw [vinculumref16_table.l2, if_pos (by omega), if_pos rfl, show ((j : Int) == (b.length : Int)) = false from beq_eq_false_iff_ne.2 (by omega)]
          exact step
        · apply Ev.step
          · intro k; rw [vinculumref16_table.l2, if_pos (by omega), if_neg (by omega)]
          exact step
      · refine ihj _ (R.set j (dist (a.drop i) (b.drop j) : Int)) (by omega) (by rw [List.length_set]; exact hT) (fun i' h1 h2 => ?_) (fun i' h => ?_) ?_ (by rw [List.length_set]; exact hR) (fun j' h1 h2 => ?_) (fun j' h => ?_) _ rfl
        · rw [set_other (by omega)]; exact hN i' h1 h2
        · rw [set_other (by omega)]; exact hZ i' h
        · exact set_same (by omega)
        · by_cases he : j = j'
          · subst he; exact set_same (by omega)
          · rw [set_other he]; exact hD j' (by omega) h2
        · rw [set_other (by omega)]; exact h0 j' (by omega)
theorem router (a b : List S24) (hb : cntL a + cntL b ≤ 1000000)
    (ih : ∀ x, x ∈ a → ∀ y, y ∈ b → alk x y = true → Ev (fun k => vinculumref16_pair.f k x.f0 x.f1 x.f2 x.f3 y.f0 y.f1 y.f2 y.f3) (pr x y : Int)) :
    ∀ (i : Nat) (T : List (List Int)), i ≤ a.length + 1 → T.length = a.length + 1 → (∀ i', i ≤ i' → i' ≤ a.length → T[i']? = some (rowD a b i')) → (∀ i', i' < i → T[i']? = some (List.replicate (b.length + 1) 0)) → Ev (fun k => vinculumref16_table.l1 k a b T ((i : Int) - 1)) (tabD a b) := by
  have hla := length_le_cntL a
  have hlb := length_le_cntL b
  intro i
  induction i with
  | zero =>
    intro T hi hT hN hZ
    apply Ev.step
    · intro k; rw [vinculumref16_table.l1, if_neg (by omega)]
    rw [tabD_done hT (fun i hi => hN i (by omega) hi)]
    exact Ev.now _
  | succ i ihi =>
    intro T hi hT hN hZ
    have e : ((i + 1 : Nat) : Int) - 1 = (i : Int) := by omega
    rw [e]
    apply Ev.step
    · intro k; rw [vinculumref16_table.l1, if_pos (by omega)]
    refine rinner a b hb i (by omega) ih (fun T hT hN hZ => ihi T (by omega) hT hN hZ) (b.length + 1) T (List.replicate (b.length + 1) 0) (by omega) hT (fun i' h1 h2 => hN i' (by omega) h2) (fun i' h => hZ i' (by omega)) (hZ i (by omega)) (by simp) (fun j' h1 h2 => by omega) (fun j' h => ?_) _ (by omega)
    rw [List.getElem?_replicate, if_pos (by omega)]
theorem rfill (a b : List S24) (hb : cntL a + cntL b ≤ 1000000)
    (ih : ∀ x, x ∈ a → ∀ y, y ∈ b → alk x y = true → Ev (fun k => vinculumref16_pair.f k x.f0 x.f1 x.f2 x.f3 y.f0 y.f1 y.f2 y.f3) (pr x y : Int)) :
    ∀ (d i : Nat) (T : List (List Int)), a.length + 1 - i = d → i ≤ a.length + 1 → T.length = a.length + 1 → (∀ i', i' < i → T[i']? = some (List.replicate (b.length + 1) 0)) → Ev (fun k => vinculumref16_table.l0 k a b T ((a.length + 1 : Nat) : Int) (i : Int)) (tabD a b) := by
  have hla := length_le_cntL a
  have hlb := length_le_cntL b
  have wl : wrap64 ((b.length : Int) + 1) = ((b.length + 1 : Nat) : Int) := by rw [wrap64_id (by omega) (by omega)]; omega
  intro d
  induction d with
  | zero =>
    intro i T hd hi hT hZ
    obtain rfl : i = a.length + 1 := by omega
    apply Ev.step
    · intro k; rw [vinculumref16_table.l0, if_neg (by omega)]
    have e : (a.length : Int) = ((a.length + 1 : Nat) : Int) - 1 := by omega
    rw [e]
    exact router a b hb ih _ T (Nat.le_refl _) hT (fun i' h1 h2 => by omega) hZ
  | succ d ihd =>
    intro i T hd hi hT hZ
    apply Ev.step
    · intro k; rw [vinculumref16_table.l0, wl, Int.toNat_natCast, Int.toNat_natCast, wrap64_id (x := (i : Int) + 1) (by omega) (by omega), if_pos (by omega), if_pos (by omega), if_pos (by omega), if_pos (by omega), if_pos (by omega)]
    refine ihd (i + 1) _ (by omega) (by omega) (by rw [List.length_set]; exact hT) (fun i' h => ?_)
    by_cases he : i = i'
    · subst he; exact set_same (by omega)
    · rw [set_other he]; exact hZ i' (by omega)
theorem rtable_ev : ∀ (n : Nat) (a b : List S24), cntL a + cntL b ≤ n → n ≤ 1000000 → Ev (fun k => vinculumref16_table.f k a b) (tabD a b) := by
  intro n
  induction n using Nat.strongRecOn with
  | _ n IH =>
    intro a b hn hb
    have hla := length_le_cntL a
    have wl : wrap64 ((a.length : Int) + 1) = ((a.length + 1 : Nat) : Int) := by rw [wrap64_id (by omega) (by omega)]; omega
    apply Ev.step
    · intro k; rw [vinculumref16_table.f, wl, Int.toNat_natCast, if_pos (by omega), if_pos (by omega), Option.bind_some, List.length_replicate]
    refine rfill a b (by omega) (fun x hx y hy hal => ?_) _ 0 (List.replicate (a.length + 1) []) rfl (by omega) (by simp) (fun i' h => by omega)
    have h1 := cnt_mem hx
    have h2 := cnt_mem hy
    have h3 := cnt_eq x
    have h4 := cnt_eq y
    have hl : x.f3.length = y.f3.length := by
      simp only [alk, Bool.and_eq_true, decide_eq_true_eq] at hal
      exact hal.1.2
    refine rpair_ev x y (by omega) hl (fun u hu v hv => ?_)
    have h5 := cnt_mem hu
    have h6 := cnt_mem hv
    have h7 := cnt_eq u
    have h8 := cnt_eq v
    exact IH (cntL u.f3 + cntL v.f3) (by omega) _ _ (Nat.le_refl _) (by omega)
end Go.Proofs.YtihchehmkhnhaaaDoor.A
/- Plain laws: the texts of nodes, as the program and as the reference tell them. -/
namespace Go.Proofs.YtihchehmkhnhaaaDoor.A
open Go.RowKit Go.Proofs.YtihchehmkhnhaaaDoorW.PrintWords Go.Proofs.YtihchehmkhnhaaaDoorW.PrintLast Go.Proofs.YtihchehmkhnhaaaDoorW.PrintMore
set_option linter.unusedVariables false

abbrev bs (s : ByteArray) : List UInt8 := s.data.toList
theorem bs_len (s : ByteArray) : (bs s).length = s.size := data_length s
theorem bt_bs {s : ByteArray} {j : Nat} (h : j < (bs s).length) : bt s (j : Int) = (((bs s)[j].toNat : Nat) : Int) := by
  have hs := bs_len s
  unfold bt
  rw [dif_pos (by rw [Int.toNat_natCast]; omega)]
  rfl
def ltr (c : UInt8) : Bool := decide (97 ≤ c.toNat ∧ c.toNat ≤ 122) || decide (65 ≤ c.toNat ∧ c.toNat ≤ 90)
theorem letter_ev (c : UInt8) : node_letter.f (c.toNat : Int) = some (ltr c) := by
  unfold node_letter.f ltr
  by_cases h1 : (c.toNat : Int) ≥ 97
  · rw [if_pos h1]
    by_cases h2 : (c.toNat : Int) ≤ 122
    · rw [if_pos h2, decide_eq_true (p := 97 ≤ c.toNat ∧ c.toNat ≤ 122) (by omega)]; rfl
    · rw [if_neg h2, if_pos (by omega), decide_eq_false (p := 97 ≤ c.toNat ∧ c.toNat ≤ 122) (by omega), decide_eq_false (p := 65 ≤ c.toNat ∧ c.toNat ≤ 90) (by omega), decide_eq_false (by omega)]; rfl
  · rw [if_neg h1, decide_eq_false (p := 97 ≤ c.toNat ∧ c.toNat ≤ 122) (by omega)]
    by_cases h3 : (c.toNat : Int) ≥ 65
    · rw [if_pos h3]
      by_cases h4 : (c.toNat : Int) ≤ 90
      · rw [decide_eq_true h4, decide_eq_true (p := 65 ≤ c.toNat ∧ c.toNat ≤ 90) (by omega)]; rfl
      · rw [decide_eq_false h4, decide_eq_false (p := 65 ≤ c.toNat ∧ c.toNat ≤ 90) (by omega)]; rfl
    · rw [if_neg h3, decide_eq_false (p := 65 ≤ c.toNat ∧ c.toNat ≤ 90) (by omega)]; rfl
theorem rletter_ev (c : UInt8) : vinculumref09_Letter.f (c.toNat : Int) = some (ltr c) := letter_ev c
def inB (L : List ByteArray) (s : ByteArray) : Bool := L.any fun t => decide (t.toList = s.toList)
theorem inB_hit {x s : ByteArray} (r : List ByteArray) (h : x.toList = s.toList) : inB (x :: r) s = true := by
  unfold inB
  rw [List.any_cons, decide_eq_true h, Bool.true_or]
theorem inB_miss {x s : ByteArray} (r : List ByteArray) (h : ¬x.toList = s.toList) : inB (x :: r) s = inB r s := by
  unfold inB
  rw [List.any_cons, decide_eq_false h, Bool.false_or]
theorem has_hit {x c : UInt8} (r : List UInt8) (h : x = c) : (x :: r).contains c = true := by
  rw [List.contains_cons, h, beq_self_eq_true, Bool.true_or]
theorem has_miss {x c : UInt8} (r : List UInt8) (h : ¬x = c) : (x :: r).contains c = r.contains c := by
  rw [List.contains_cons, beq_eq_false_iff_ne.2 (Ne.symm h), Bool.false_or]
theorem headD_get {l : List UInt8} (h : 0 < l.length) : l[0] = l.headD 0 := by
  cases l with
  | nil => simp at h
  | cons x r => rfl
theorem rdb_at {l : List ByteArray} {j : Nat} (h : j < l.length) : rdOf ByteArray.empty l (j : Int) = l[j] := by
  unfold rdOf
  rw [List.getD_eq_getElem?_getD, Int.toNat_natCast, List.getElem?_eq_getElem h]
  rfl
theorem in_ev (L : List ByteArray) (s : ByteArray) (hL : L.length ≤ 1000) : Ev (fun k => vinculumref09_In.f k L s) (inB L s) := by
  have loop : ∀ (d j : Nat), L.length - j = d → j ≤ L.length → Ev (fun k => vinculumref09_In.l0 k L s (j : Int)) (inB (L.drop j) s) := by
    intro d
    induction d with
    | zero =>
      intro j hd hj
      obtain rfl : j = L.length := by omega
      apply Ev.step
      · intro k; rw [vinculumref09_In.l0, if_neg (by omega)]
      rw [List.drop_length]
      exact Ev.now _
    | succ d ihd =>
      intro j hd hj
      have hlt : j < L.length := by omega
      rw [drop_at hlt]
      by_cases he : L[j].toList = s.toList
      · apply Ev.step
        · intro k; rw [vinculumref09_In.l0, if_pos (by omega), if_pos (by omega), rdb_at hlt, if_pos he]
        rw [inB_hit _ he]
        exact Ev.now _
      · apply Ev.step
        · intro k; rw [vinculumref09_In.l0, if_pos (by omega), if_pos (by omega), rdb_at hlt, if_neg he, wrap64_id (by omega) (by omega)]
        rw [inB_miss _ he]
        exact ihd (j + 1) (by omega) (by omega)
  have := loop _ 0 rfl (by omega)
  simpa [vinculumref09_In.f] using this
theorem scontains_ev (L : List ByteArray) (s : ByteArray) (hL : L.length ≤ 1000) : Ev (fun k => slices_Contains_string_string.f k L s) (inB L s) := by
  have loop : ∀ (d j : Nat), L.length - j = d → j ≤ L.length → ∃ r : Int, Ev (fun k => slices_Index_string_string.l0 k L s (L.length : Int) (j : Int)) r ∧ decide (r ≥ 0) = inB (L.drop j) s := by
    intro d
    induction d with
    | zero =>
      intro j hd hj
      obtain rfl : j = L.length := by omega
      refine ⟨-1, ?_, ?_⟩
      · apply Ev.step
        · intro k; rw [slices_Index_string_string.l0, if_neg (by omega)]
        exact Ev.now _
      · rw [List.drop_length]; rfl
    | succ d ihd =>
      intro j hd hj
      have hlt : j < L.length := by omega
      rw [drop_at hlt]
      by_cases he : L[j].toList = s.toList
      · refine ⟨(j : Int), ?_, ?_⟩
        · apply Ev.step
          · intro k; rw [slices_Index_string_string.l0, if_pos (by omega), if_pos (by omega), if_pos (by omega), rdb_at hlt, if_pos he.symm]
          exact Ev.now _
        · rw [inB_hit _ he]
          exact decide_eq_true (by omega)
      · obtain ⟨r, h1, h2⟩ := ihd (j + 1) (by omega) (by omega)
        refine ⟨r, ?_, ?_⟩
        · apply Ev.step
          · intro k; rw [slices_Index_string_string.l0, if_pos (by omega), if_pos (by omega), if_pos (by omega), rdb_at hlt, if_neg (fun h => he h.symm), wrap64_id (by omega) (by omega)]
          exact h1
        · rw [h2, inB_miss _ he]
  obtain ⟨r, h1, h2⟩ := loop _ 0 rfl (by omega)
  rw [List.drop_zero] at h2
  unfold slices_Contains_string_string.f
  refine Ev.bind (a := r) (by simpa [slices_Index_string_string.f] using h1) ?_
  rw [h2]
  exact Ev.now _
/-- A set of bytes that contains a byte: strings.Contains at one byte, and the reference's loop. -/
theorem contains_one_ev (S s : ByteArray) (h : s.size = 1) : strings_Contains.f S s = some ((bs S).contains ((bs s).headD 0)) := by
  unfold strings_Contains.f strings_Index.f stringslite_Index.f
  rw [if_pos h, Option.bind_some, Option.bind_some, Lib.contains_iff_indexByte]
theorem has_ev (S : ByteArray) (c : UInt8) (hS : S.size ≤ 1000) : Ev (fun k => vinculumref09_has.f k S (c.toNat : Int)) ((bs S).contains c) := by
  have hl := bs_len S
  have loop : ∀ (d j : Nat), (bs S).length - j = d → j ≤ (bs S).length → Ev (fun k => vinculumref09_has.l0 k S (c.toNat : Int) (j : Int)) (((bs S).drop j).contains c) := by
    intro d
    induction d with
    | zero =>
      intro j hd hj
      obtain rfl : j = (bs S).length := by omega
      apply Ev.step
      · intro k; rw [vinculumref09_has.l0, if_neg (by omega)]
      rw [List.drop_length]
      exact Ev.now _
    | succ d ihd =>
      intro j hd hj
      have hlt : j < (bs S).length := by omega
      rw [drop_at hlt]
      by_cases he : (bs S)[j] = c
      · apply Ev.step
        · intro k; rw [vinculumref09_has.l0, if_pos (by omega), if_pos (by omega), bt_bs hlt, if_pos (by rw [he])]
        rw [has_hit _ he]
        exact Ev.now _
      · apply Ev.step
        · intro k; rw [vinculumref09_has.l0, if_pos (by omega), if_pos (by omega), bt_bs hlt, if_neg (fun h => he (UInt8.toNat.inj (by omega))), wrap64_id (by omega) (by omega)]
        rw [has_miss _ he]
        exact ihd (j + 1) (by omega) (by omega)
  have := loop _ 0 rfl (by omega)
  simpa [vinculumref09_has.f] using this

def KW : List ByteArray := [(⟨#[102, 114, 97, 99]⟩ : ByteArray), (⟨#[114, 111, 111, 116]⟩ : ByteArray), (⟨#[109, 97, 116, 114, 105, 120]⟩ : ByteArray), (⟨#[102, 101, 110, 99, 101]⟩ : ByteArray)]
def AC : List ByteArray := [(⟨#[104, 97, 116]⟩ : ByteArray), (⟨#[98, 97, 114]⟩ : ByteArray), (⟨#[118, 101, 99]⟩ : ByteArray), (⟨#[100, 111, 116]⟩ : ByteArray), (⟨#[116, 105, 108, 100, 101]⟩ : ByteArray), (⟨#[99, 104, 101, 99, 107]⟩ : ByteArray)]
def SY : ByteArray := ⟨#[43, 45, 42, 47, 61, 60, 62, 44, 59, 58, 33, 124, 39, 63, 126, 64]⟩
/-- The texts of symbols. -/
def symT (s : ByteArray) : Bool := if s.size = 1 then ltr ((bs s).headD 0) || (bs SY).contains ((bs s).headD 0) else decide (2 ≤ s.size) && decide (s.size ≤ 16) && !inB AC s && !inB KW s && (bs s).all ltr
theorem bt0 {s : ByteArray} (h : 0 < s.size) : bt s 0 = ((((bs s).headD 0).toNat : Nat) : Int) := by
  have hl := bs_len s
  have := bt_bs (s := s) (j := 0) (by omega)
  rw [show ((0 : Nat) : Int) = 0 from rfl] at this
  rw [this, headD_get]
theorem nSym_ev (s : ByteArray) (hs : s.size ≤ 9223372036854775807) : Ev (fun k => node_Symbol.f k s) (symT s) := by
  have hl := bs_len s
  have loop : ∀ (d j : Nat), (bs s).length - j = d → j ≤ (bs s).length → Ev (fun k => node_Symbol.l0 k s (s.size : Int) (j : Int)) (((bs s).drop j).all ltr) := by
    intro d
    induction d with
    | zero =>
      intro j hd hj
      obtain rfl : j = (bs s).length := by omega
      apply Ev.step
      · intro k; rw [node_Symbol.l0, if_neg (by omega)]
      rw [List.drop_length]
      exact Ev.now _
    | succ d ihd =>
      intro j hd hj
      have hlt : j < (bs s).length := by omega
      rw [drop_at hlt, List.all_cons]
      apply Ev.step
      · intro k; rw [node_Symbol.l0, if_pos (by omega), if_pos (by omega), if_pos (by omega), bt_bs hlt, letter_ev, Option.bind_some, wrap64_id (by omega) (by omega)]
      cases hc : ltr (bs s)[j] with
      | true => simpa using ihd (j + 1) (by omega) (by omega)
      | false => simpa using Ev.now false
  have j0 : ∀ b : Bool, Ev (fun k => node_Symbol.j0 k s b) (!b && (bs s).all ltr) := by
    intro b
    cases b with
    | true =>
      apply Ev.step
      · intro k; rw [node_Symbol.j0, if_pos rfl]
      exact Ev.now _
    | false =>
      apply Ev.step
      · intro k; rw [node_Symbol.j0, if_neg Bool.false_ne_true]
      simpa using loop _ 0 rfl (by omega)
  unfold node_Symbol.f symT
  by_cases h1 : s.size = 1
  · rw [if_pos h1]
    apply Ev.congr
    · intro k; rw [if_pos (by omega), if_pos (by omega), bt0 (by omega), letter_ev, Option.bind_some, contains_one_ev _ s h1, Option.bind_some]
    cases hc : ltr ((bs s).headD 0) with
    | true => exact Ev.now true
    | false => exact Ev.now ((bs SY).contains ((bs s).headD 0))
  · rw [if_neg h1]
    by_cases h2 : s.size < 2
    · apply Ev.congr
      · intro k; rw [if_neg (by omega), if_pos (by omega)]
      rw [decide_eq_false (by omega)]
      simpa using j0 true
    · by_cases h3 : s.size > 16
      · apply Ev.congr
        · intro k; rw [if_neg (by omega), if_neg (by omega), if_pos (by omega)]
        rw [decide_eq_true (show 2 ≤ s.size by omega), decide_eq_false (show ¬ s.size ≤ 16 by omega)]
        simpa using j0 true
      · apply Ev.congr
        · intro k; rw [if_neg (by omega), if_neg (by omega), if_neg (by omega)]
        rw [decide_eq_true (show 2 ≤ s.size by omega), decide_eq_true (show s.size ≤ 16 by omega)]
        unfold node_accent.f
        refine Ev.bind (a := inB AC s) (Ev.bind (scontains_ev AC s (by decide)) (Ev.now _)) ?_
        cases hA : inB AC s with
        | true => simpa using j0 true
        | false =>
          refine Ev.congr (f := fun k => (slices_Contains_string_string.f k KW s).bind fun t => node_Symbol.j0 k s t) (fun k => rfl) ?_
          refine Ev.bind (scontains_ev KW s (by decide)) ?_
          simpa using j0 (inB KW s)
theorem rSym_ev (s : ByteArray) (hs : s.size ≤ 9223372036854775807) : Ev (fun k => vinculumref09_Symbol.f k s) (symT s) := by
  have hl := bs_len s
  have tail : 2 ≤ s.size ∨ s.size = 0 → Ev (fun k => if (s.size : Int) ≥ 2 then (if (s.size : Int) ≤ 16 then ((vinculumref09_Keywords.f).bind fun t261 => ((vinculumref09_In.f k t261 s).bind fun t264 => (if t264 = true then (some false) else ((vinculumref09_Accents.f).bind fun t265 => ((vinculumref09_In.f k t265 s).bind fun t268 => (some (!t268))))))) else (some false)) else (some false)) (decide (2 ≤ s.size) && decide (s.size ≤ 16) && !inB AC s && !inB KW s) := by
    intro _
    by_cases h2 : 2 ≤ s.size
    · by_cases h3 : s.size ≤ 16
      · apply Ev.congr
        · intro k; rw [if_pos (by omega), if_pos (by omega), vinculumref09_Keywords.f, Option.bind_some, vinculumref09_Accents.f, Option.bind_some]
        refine Ev.bind (in_ev KW s (by decide)) ?_
        rw [decide_eq_true h2, decide_eq_true h3]
        cases hK : inB KW s with
        | true => simpa using Ev.now false
        | false =>
          refine Ev.congr (f := fun k => (vinculumref09_In.f k AC s).bind fun t => some (!t)) (fun k => rfl) ?_
          refine Ev.bind (in_ev AC s (by decide)) ?_
          simpa using Ev.now _
      · apply Ev.congr
        · intro k; rw [if_pos (by omega), if_neg (by omega)]
        rw [decide_eq_false h3]
        simpa using Ev.now false
    · apply Ev.congr
      · intro k; rw [if_neg (by omega)]
      rw [decide_eq_false h2]
      simpa using Ev.now false
  unfold vinculumref09_Symbol.f symT
  by_cases h1 : s.size = 1
  · rw [if_pos h1]
    apply Ev.congr
    · intro k; rw [if_pos (by omega), if_pos (by omega), bt0 (by omega), vinculumref09_Character.f, rletter_ev, Option.bind_some]
    cases hc : ltr ((bs s).headD 0) with
    | true => simpa using Ev.now true
    | false =>
      refine Ev.bind (a := (bs SY).contains ((bs s).headD 0)) ?_ (Ev.now _)
      refine Ev.congr (f := fun k => (vinculumref09_has.f k SY (((bs s).headD 0).toNat : Int)).bind fun t => some t) (fun k => rfl) ?_
      exact Ev.bind (has_ev SY _ (by decide)) (Ev.now _)
  · rw [if_neg h1]
    have loop : ∀ (d j : Nat), (bs s).length - j = d → j ≤ (bs s).length → Ev (fun k => vinculumref09_Symbol.l0 k s (j : Int)) (decide (2 ≤ s.size) && decide (s.size ≤ 16) && !inB AC s && !inB KW s && ((bs s).drop j).all ltr) := by
      intro d
      induction d with
      | zero =>
        intro j hd hj
        obtain rfl : j = (bs s).length := by omega
        apply Ev.step
        · intro k; rw [vinculumref09_Symbol.l0, if_neg (by omega)]
        rw [List.drop_length]
        simpa using tail (by omega)
      | succ d ihd =>
        intro j hd hj
        have hlt : j < (bs s).length := by omega
        rw [drop_at hlt, List.all_cons]
        apply Ev.step
        · intro k; rw [vinculumref09_Symbol.l0, if_pos (by omega), if_pos (by omega), bt_bs hlt, rletter_ev, Option.bind_some, wrap64_id (by omega) (by omega)]
        cases hc : ltr (bs s)[j] with
        | true => simpa using ihd (j + 1) (by omega) (by omega)
        | false => simpa using Ev.now false
    apply Ev.congr
    · intro k; rw [if_neg (by omega)]
    simpa using loop _ 0 rfl (by omega)
end Go.Proofs.YtihchehmkhnhaaaDoor.A
/- Plain laws: the texts of numbers, as the program and as the reference tell them. -/
namespace Go.Proofs.YtihchehmkhnhaaaDoor.A
open Go.RowKit Go.Proofs.YtihchehmkhnhaaaDoorW.PrintWords Go.Proofs.YtihchehmkhnhaaaDoorW.PrintLast Go.Proofs.YtihchehmkhnhaaaDoorW.PrintMore
set_option linter.unusedVariables false

def dig (c : UInt8) : Bool := decide (48 ≤ c.toNat ∧ c.toNat ≤ 57)
def digs (l : List UInt8) : Bool := !l.isEmpty && l.all dig
set_option maxRecDepth 100000 in
theorem dig_set (c : UInt8) : ([48, 49, 50, 51, 52, 53, 54, 55, 56, 57] : List UInt8).contains c = dig c := by
  have h : ∀ n, n < 256 → ([48, 49, 50, 51, 52, 53, 54, 55, 56, 57] : List UInt8).contains (UInt8.ofNat n) = dig (UInt8.ofNat n) := by decide
  have := h c.toNat c.toNat_lt
  rwa [UInt8.ofNat_toNat] at this
theorem dropWhile_nil {p : UInt8 → Bool} : ∀ {l : List UInt8}, l.dropWhile p = [] ↔ l.all p = true
  | [] => by simp
  | x :: r => by
    rw [List.dropWhile_cons, List.all_cons]
    cases h : p x with
    | true => simpa using dropWhile_nil (l := r)
    | false => simp
theorem dropWhile_all {p : UInt8 → Bool} : ∀ {l : List UInt8}, (l.dropWhile p).all p = true → l.dropWhile p = []
  | [], _ => rfl
  | x :: r, h => by
    rw [List.dropWhile_cons] at h ⊢
    cases hx : p x with
    | true =>
      rw [hx, if_pos rfl] at h
      rw [if_pos rfl]
      exact dropWhile_all h
    | false =>
      rw [hx, if_neg Bool.false_ne_true, List.all_cons, hx] at h
      simp at h
theorem trimS_nil (l cs : List UInt8) : Lib.trimS l cs = [] ↔ l.all (cs.contains ·) = true := by
  unfold Lib.trimS Lib.trimLeftS Lib.trimRightS
  rw [dropWhile_nil, List.all_reverse]
  constructor
  · intro h
    have h1 := dropWhile_nil.1 (dropWhile_all h)
    rwa [List.all_reverse] at h1
  · intro h
    rw [dropWhile_nil.2 (by rw [List.all_reverse]; exact h)]
    rfl
theorem toList_bs (s : ByteArray) : s.toList = bs s := Lib.toList_data s
theorem digits_ev (s : ByteArray) (hs : s.size ≤ 9223372036854775807) : node_digits.f s = some (digs (bs s)) := by
  unfold node_digits.f digs
  rw [toList_bs]
  by_cases h : bs s = []
  · rw [if_pos h, h]; rfl
  · rw [if_neg h]
    unfold strings_Trim.f
    rw [if_pos hs, if_pos (by decide), if_pos (by decide), Option.bind_some, toList_bs]
    have e : (bs s).all dig = (bs s).all (([48, 49, 50, 51, 52, 53, 54, 55, 56, 57] : List UInt8).contains ·) := by
      congr 1; funext c; exact (dig_set c).symm
    have he : (bs s).isEmpty = false := by cases hb : bs s with
      | nil => exact absurd hb h
      | cons x r => rfl
    rw [he, Bool.not_false, Bool.true_and, e]
    congr 1
    rw [Bool.eq_iff_iff, beq_iff_eq]
    exact trimS_nil (bs s) [48, 49, 50, 51, 52, 53, 54, 55, 56, 57]
/-- A text, cut at its first point. -/
def cutd : List UInt8 → Option (List UInt8 × List UInt8)
  | [] => none
  | c :: r => if c = 46 then some ([], r) else (cutd r).map fun p => (c :: p.1, p.2)
theorem cutd_none : ∀ {l : List UInt8}, Lib.indexByte l 46 = -1 → cutd l = none
  | [], _ => rfl
  | c :: r, h => by
    unfold Lib.indexByte at h
    unfold cutd
    by_cases hc : c = 46
    · simp [hc] at h
    · rw [if_neg hc]
      rw [if_neg (by simpa using hc)] at h
      by_cases h2 : Lib.indexByte r 46 = -1
      · rw [cutd_none h2]; rfl
      · have := Lib.indexByte_ge r 46
        rw [if_neg (by simpa using h2)] at h
        omega
theorem cutd_some : ∀ {l : List UInt8} {i : Nat}, Lib.indexByte l 46 = i → i < l.length ∧ cutd l = some (l.take i, l.drop (i + 1))
  | [], i, h => by simp [Lib.indexByte] at h
  | c :: r, i, h => by
    unfold Lib.indexByte at h
    unfold cutd
    by_cases hc : c = 46
    · rw [if_pos (by simpa using hc)] at h
      obtain rfl : i = 0 := by omega
      rw [if_pos hc]
      exact ⟨by simp, rfl⟩
    · rw [if_neg hc]
      rw [if_neg (by simpa using hc)] at h
      by_cases h2 : Lib.indexByte r 46 = -1
      · rw [if_pos (by simpa using h2)] at h; omega
      · have := Lib.indexByte_ge r 46
        rw [if_neg (by simpa using h2)] at h
        obtain ⟨i, rfl⟩ : ∃ m, i = m + 1 := ⟨i - 1, by omega⟩
        obtain ⟨h3, h4⟩ := cutd_some (l := r) (i := i) (by omega)
        rw [h4]
        exact ⟨by simpa using h3, rfl⟩
/-- The texts of numbers. -/
def numT (l : List UInt8) : Bool := decide (l.length ≤ 20) && match cutd l with
  | none => digs l
  | some p => digs p.1 && digs p.2
theorem bs_extract (s : ByteArray) (i j : Nat) : bs (s.extract i j) = (bs s).extract i j := by
  unfold bs
  rw [ByteArray.data_extract, Array.toList_extract]
theorem nNum_ev (s : ByteArray) : node_Number.f s = some (numT (bs s)) := by
  have hl := bs_len s
  unfold node_Number.f numT
  by_cases h1 : s.size > 20
  · rw [if_pos (by omega), decide_eq_false (by omega)]; rfl
  · rw [if_neg (by omega), decide_eq_true (by omega), Bool.true_and]
    unfold strings_Cut.f stringslite_Cut.f stringslite_Index.f
    rw [if_pos (by rfl), Option.bind_some]
    have hge := Lib.indexByte_ge (bs s) 46
    by_cases h2 : Lib.indexByte (bs s) 46 = -1
    · rw [cutd_none h2]
      rw [if_neg (by show ¬ Lib.indexByte (bs s) 46 ≥ 0; omega), Option.bind_some, Option.bind_some, digits_ev s (by omega), Option.bind_some]
      cases digs (bs s) <;> rfl
    · obtain ⟨i, hi⟩ : ∃ i : Nat, Lib.indexByte (bs s) 46 = i := ⟨(Lib.indexByte (bs s) 46).toNat, by omega⟩
      obtain ⟨h3, h4⟩ := cutd_some hi
      rw [h4]
      have e : Lib.indexByte s.data.toList (((⟨#[46]⟩ : ByteArray).data.toList).headD 0) = (i : Int) := hi
      have w : wrap64 ((i : Int) + (((⟨#[46]⟩ : ByteArray).size : Nat) : Int)) = ((i + 1 : Nat) : Int) := by
        rw [show (((⟨#[46]⟩ : ByteArray).size : Nat) : Int) = 1 from rfl, wrap64_id (by omega) (by omega)]; omega
      rw [e, w, if_pos (by omega), if_pos (by omega), if_pos (by omega), if_pos (by omega), if_pos (by omega), Option.bind_some, Option.bind_some, Int.toNat_natCast, Int.toNat_natCast]
      have z1 : (s.extract 0 i).size ≤ 9223372036854775807 := by rw [ByteArray.size_extract]; omega
      have z2 : (s.extract (i + 1) s.size).size ≤ 9223372036854775807 := by rw [ByteArray.size_extract]; omega
      have e1 : bs (s.extract 0 i) = (bs s).take i := by rw [bs_extract]; simp [List.extract]
      have e2 : bs (s.extract (i + 1) s.size) = (bs s).drop (i + 1) := by
        rw [bs_extract, ← hl]
        show ((bs s).drop (i + 1)).take ((bs s).length - (i + 1)) = _
        exact List.take_of_length_le (by rw [List.length_drop]; omega)
      rw [digits_ev _ z1, Option.bind_some, digits_ev _ z2, e1, e2]
      show _ = some (digs ((bs s).take i) && digs ((bs s).drop (i + 1)))
      generalize digs ((bs s).take i) = b1
      generalize digs ((bs s).drop (i + 1)) = b2
      cases b1 <;> cases b2 <;> rfl
/-- The reference's loop over a text, of n bytes, from the byte j on, after p points. -/
def rN (n : Nat) : Nat → Nat → List UInt8 → Bool
  | _, p, [] => decide (0 < n) && decide (n ≤ 20) && decide (p ≤ 1)
  | j, p, c :: r => if c = 46 ∧ 0 < j ∧ r ≠ [] then rN n (j + 1) (p + 1) r else if dig c = true then rN n (j + 1) p r else false
theorem dig46 : dig 46 = false := by decide
theorem rN_late (n : Nat) : ∀ (l : List UInt8) (j p : Nat), 1 ≤ p → rN n j p l = (decide (p ≤ 1) && l.all dig && decide (0 < n) && decide (n ≤ 20))
  | [], j, p, hp => by
    unfold rN
    simp only [List.all_nil, Bool.and_true]
    cases decide (0 < n) <;> cases decide (n ≤ 20) <;> cases decide (p ≤ 1) <;> rfl
  | c :: r, j, p, hp => by
    unfold rN
    rw [List.all_cons]
    by_cases h : c = 46 ∧ 0 < j ∧ r ≠ []
    · rw [if_pos h, rN_late n r (j + 1) (p + 1) (by omega), h.1, dig46, decide_eq_false (show ¬ p + 1 ≤ 1 by omega)]
      simp
    · rw [if_neg h]
      cases hd : dig c with
      | true => rw [if_pos rfl, rN_late n r (j + 1) p hp, Bool.true_and]
      | false => simp
theorem rN_first (n : Nat) : ∀ (l : List UInt8) (j : Nat), rN n j 0 l = (decide (n ≤ 20) && decide (0 < n) && match cutd l with
    | none => l.all dig
    | some p => p.1.all dig && decide (0 < j + p.1.length) && digs p.2)
  | [], j => by
    unfold rN cutd
    simp only [List.all_nil, Bool.and_true]
    cases decide (0 < n) <;> cases decide (n ≤ 20) <;> rfl
  | c :: r, j => by
    unfold rN cutd
    by_cases hc : c = 46
    · rw [if_pos hc]
      by_cases h : 0 < j ∧ r ≠ []
      · rw [if_pos ⟨hc, h⟩, rN_late n r (j + 1) (0 + 1) (by omega)]
        have hr : r.isEmpty = false := by cases r with
          | nil => exact absurd rfl h.2
          | cons x r => rfl
        simp only [List.all_nil, List.length_nil, Nat.add_zero, decide_eq_true h.1, digs, hr]
        cases r.all dig <;> cases decide (0 < n) <;> cases decide (n ≤ 20) <;> rfl
      · rw [if_neg (fun h' => h h'.2), hc, dig46, if_neg Bool.false_ne_true]
        by_cases hj : 0 < j
        · have hr : r = [] := Classical.byContradiction fun h' => h ⟨hj, h'⟩
          subst hr
          simp [digs]
        · simp only [List.all_nil, List.length_nil, Nat.add_zero, decide_eq_false hj]
          simp
    · rw [if_neg (fun h => hc h.1), if_neg hc]
      cases hd : dig c with
      | true =>
        rw [if_pos rfl, rN_first n r (j + 1)]
        cases cutd r with
        | none => simp [hd]
        | some p => simp [hd, show 0 < j + 1 + p.1.length by omega, show 0 < j + (p.1.length + 1) by omega]
      | false =>
        cases cutd r with
        | none => simp [hd]
        | some p => simp [hd]
theorem rN_num (l : List UInt8) : rN l.length 0 0 l = numT l := by
  rw [rN_first]
  unfold numT
  cases h : cutd l with
  | none =>
    cases l with
    | nil => simp [digs]
    | cons x r => simp [digs]
  | some p =>
    have hl : 0 < l.length := by
      cases l with
      | nil => simp [cutd] at h
      | cons x r => simp
    rw [decide_eq_true hl]
    simp only [digs, Nat.zero_add, Bool.and_true]
    cases p.1 with
    | nil => simp
    | cons x r => simp
theorem rdigit_ev (c : UInt8) : vinculumref09_Digit.f (c.toNat : Int) = some (dig c) := by
  unfold vinculumref09_Digit.f dig
  by_cases h1 : (c.toNat : Int) ≥ 48
  · rw [if_pos h1]
    by_cases h2 : (c.toNat : Int) ≤ 57
    · rw [decide_eq_true h2, decide_eq_true (by omega)]
    · rw [decide_eq_false h2, decide_eq_false (by omega)]
  · rw [if_neg h1, decide_eq_false (by omega)]
theorem rNum_ev (s : ByteArray) (hs : s.size ≤ 9223372036854775807) : Ev (fun k => vinculumref09_Number.f k s) (numT (bs s)) := by
  have hl := bs_len s
  have loop : ∀ (d j p : Nat), (bs s).length - j = d → j ≤ (bs s).length → p ≤ j → Ev (fun k => vinculumref09_Number.l0 k s (p : Int) (j : Int)) (rN (bs s).length j p ((bs s).drop j)) := by
    intro d
    induction d with
    | zero =>
      intro j p hd hj hp
      obtain rfl : j = (bs s).length := by omega
      rw [List.drop_length]
      unfold rN
      by_cases h0 : 0 < s.size
      · by_cases h1 : s.size ≤ 20
        · apply Ev.step
          · intro k; rw [vinculumref09_Number.l0, if_neg (by omega), if_pos (by omega), if_pos (by omega)]
          rw [hl, decide_eq_true h0, decide_eq_true h1, show decide (p ≤ 1) = decide ((p : Int) ≤ 1) by congr 1; rw [eq_iff_iff]; omega]
          exact Ev.now _
        · apply Ev.step
          · intro k; rw [vinculumref09_Number.l0, if_neg (by omega), if_pos (by omega), if_neg (by omega)]
          rw [hl, decide_eq_false h1, Bool.and_false, Bool.false_and]
          exact Ev.now _
      · apply Ev.step
        · intro k; rw [vinculumref09_Number.l0, if_neg (by omega), if_neg (by omega)]
        rw [hl, decide_eq_false h0, Bool.false_and, Bool.false_and]
        exact Ev.now _
    | succ d ihd =>
      intro j p hd hj hp
      have hlt : j < (bs s).length := by omega
      rw [drop_at hlt]
      unfold rN
      have hr : (bs s).drop (j + 1) ≠ [] ↔ j + 1 < (bs s).length := by
        rw [ne_eq, List.drop_eq_nil_iff]; omega
      have w1 : wrap64 ((j : Int) + 1) = ((j + 1 : Nat) : Int) := by rw [wrap64_id (by omega) (by omega)]; omega
      have w2 : wrap64 ((p : Int) + 1) = ((p + 1 : Nat) : Int) := by rw [wrap64_id (by omega) (by omega)]; omega
      have w3 : wrap64 ((s.size : Int) - 1) = (s.size : Int) - 1 := wrap64_id (by omega) (by omega)
      have no : (¬((bs s)[j] = 46 ∧ 0 < j ∧ (bs s).drop (j + 1) ≠ [])) → Ev (fun k => vinculumref09_Number.j1 k s (p : Int) (j : Int) false) (if (bs s)[j] = 46 ∧ 0 < j ∧ (bs s).drop (j + 1) ≠ [] then rN (bs s).length (j + 1) (p + 1) ((bs s).drop (j + 1)) else if dig (bs s)[j] = true then rN (bs s).length (j + 1) p ((bs s).drop (j + 1)) else false) := by
        intro h
        rw [if_neg h]
        apply Ev.step
        · intro k; rw [vinculumref09_Number.j1, if_neg Bool.false_ne_true, if_pos (by omega), if_pos (by omega), bt_bs hlt, rdigit_ev, Option.bind_some, w1]
        cases hd : dig (bs s)[j] with
        | true => exact ihd (j + 1) p (by omega) (by omega) (by omega)
        | false => exact Ev.now false
      by_cases hc : (bs s)[j] = 46
      · have hb : bt s (j : Int) = 46 := by rw [bt_bs hlt, hc]; rfl
        by_cases h0 : 0 < j
        · apply Ev.step
          · intro k; rw [vinculumref09_Number.l0, if_pos (by omega), if_pos (by omega), if_pos hb, if_pos (by omega), w3]
          by_cases h1 : j + 1 < (bs s).length
          · rw [decide_eq_true (by omega), if_pos ⟨hc, h0, hr.2 h1⟩]
            apply Ev.step
            · intro k; rw [vinculumref09_Number.j1, if_pos rfl, w1, w2]
            exact ihd (j + 1) (p + 1) (by omega) (by omega) (by omega)
          · rw [decide_eq_false (by omega)]
            exact no (fun h => h1 (hr.1 h.2.2))
        · apply Ev.step
          · intro k; rw [vinculumref09_Number.l0, if_pos (by omega), if_pos (by omega), if_pos hb, if_neg (by omega)]
          exact no (fun h => h0 h.2.1)
      · have hb : ¬ bt s (j : Int) = 46 := by
          rw [bt_bs hlt]
          intro h
          exact hc (UInt8.toNat.inj (by have : (46 : UInt8).toNat = 46 := rfl; omega))
        apply Ev.step
        · intro k; rw [vinculumref09_Number.l0, if_pos (by omega), if_pos (by omega), if_neg hb]
        exact no (fun h => hc h.1)
  have := loop _ 0 0 rfl (by omega) (by omega)
  rw [List.drop_zero, rN_num] at this
  exact this
end Go.Proofs.YtihchehmkhnhaaaDoor.A
/- Plain laws: the shapes of nodes, as the program and as the reference tell them. -/
namespace Go.Proofs.YtihchehmkhnhaaaDoor.A
open Go.RowKit Go.Proofs.YtihchehmkhnhaaaDoorW.PrintWords Go.Proofs.YtihchehmkhnhaaaDoorW.PrintLast Go.Proofs.YtihchehmkhnhaaaDoorW.PrintMore
set_option linter.unusedVariables false

def pch (c : UInt8) : Bool := decide (32 ≤ c.toNat) && decide (c.toNat ≤ 126)
theorem nPrn_ev (s : ByteArray) (hs : s.size ≤ 9223372036854775807) : Ev (fun k => node_printable.f k s) ((bs s).all pch && decide (s.size ≤ 200)) := by
  have hl := bs_len s
  have loop : ∀ (d j : Nat), (bs s).length - j = d → j ≤ (bs s).length → Ev (fun k => node_printable.l0 k s (s.size : Int) (j : Int)) (((bs s).drop j).all pch && decide (s.size ≤ 200)) := by
    intro d
    induction d with
    | zero =>
      intro j hd hj
      obtain rfl : j = (bs s).length := by omega
      apply Ev.step
      · intro k; rw [node_printable.l0, if_neg (by omega)]
      rw [List.drop_length, List.all_nil, Bool.true_and, show decide (s.size ≤ 200) = decide ((s.size : Int) ≤ 200) by congr 1; rw [eq_iff_iff]; omega]
      exact Ev.now _
    | succ d ihd =>
      intro j hd hj
      have hlt : j < (bs s).length := by omega
      rw [drop_at hlt, List.all_cons]
      apply Ev.step
      · intro k; rw [node_printable.l0, if_pos (by omega), if_pos (by omega), if_pos (by omega), bt_bs hlt, wrap64_id (by omega) (by omega)]
      by_cases h1 : 32 ≤ (bs s)[j].toNat
      · by_cases h2 : (bs s)[j].toNat ≤ 126
        · apply Ev.congr
          · intro k; rw [if_neg (by omega), if_neg (by omega)]
          rw [show pch (bs s)[j] = true by unfold pch; rw [decide_eq_true h1, decide_eq_true h2]; rfl, Bool.true_and]
          exact ihd (j + 1) (by omega) (by omega)
        · apply Ev.congr
          · intro k; rw [if_neg (by omega), if_pos (by omega)]
          rw [show pch (bs s)[j] = false by unfold pch; rw [decide_eq_false h2, Bool.and_false], Bool.false_and, Bool.false_and]
          exact Ev.now _
      · apply Ev.congr
        · intro k; rw [if_pos (by omega)]
        rw [show pch (bs s)[j] = false by unfold pch; rw [decide_eq_false h1, Bool.false_and], Bool.false_and, Bool.false_and]
        exact Ev.now _
  simpa [node_printable.f] using loop _ 0 rfl (by omega)
theorem rPrn_ev (s : ByteArray) (hs : s.size ≤ 9223372036854775807) : Ev (fun k => vinculumref09_Printable.f k s) ((bs s).all pch) := by
  have hl := bs_len s
  have loop : ∀ (d j : Nat), (bs s).length - j = d → j ≤ (bs s).length → Ev (fun k => vinculumref09_Printable.l0 k s (j : Int)) (((bs s).drop j).all pch) := by
    intro d
    induction d with
    | zero =>
      intro j hd hj
      obtain rfl : j = (bs s).length := by omega
      apply Ev.step
      · intro k; rw [vinculumref09_Printable.l0, if_neg (by omega)]
      rw [List.drop_length, List.all_nil]
      exact Ev.now _
    | succ d ihd =>
      intro j hd hj
      have hlt : j < (bs s).length := by omega
      rw [drop_at hlt, List.all_cons]
      apply Ev.step
      · intro k; rw [vinculumref09_Printable.l0, if_pos (by omega), if_pos (by omega), bt_bs hlt, wrap64_id (by omega) (by omega)]
      by_cases h1 : 32 ≤ (bs s)[j].toNat
      · by_cases h2 : (bs s)[j].toNat ≤ 126
        · apply Ev.congr
          · intro k; rw [if_neg (by omega), if_neg (by omega)]
          rw [show pch (bs s)[j] = true by unfold pch; rw [decide_eq_true h1, decide_eq_true h2]; rfl, Bool.true_and]
          exact ihd (j + 1) (by omega) (by omega)
        · apply Ev.congr
          · intro k; rw [if_neg (by omega), if_pos (by omega)]
          rw [show pch (bs s)[j] = false by unfold pch; rw [decide_eq_false h2, Bool.and_false], Bool.false_and]
          exact Ev.now _
      · apply Ev.congr
        · intro k; rw [if_pos (by omega)]
        rw [show pch (bs s)[j] = false by unfold pch; rw [decide_eq_false h1, Bool.false_and], Bool.false_and]
        exact Ev.now _
  simpa [vinculumref09_Printable.f] using loop _ 0 rfl (by omega)

def DL : ByteArray := ⟨#[40, 41, 91, 93, 123, 125, 124, 60, 62, 47, 46]⟩
def DM : ByteArray := ⟨#[40, 41, 91, 93, 123, 125, 60, 62, 47, 124, 46]⟩
set_option maxRecDepth 100000 in
theorem dl_dm (c : UInt8) : (bs DM).contains c = (bs DL).contains c := by
  have h : ∀ n, n < 256 → ([40, 41, 91, 93, 123, 125, 60, 62, 47, 124, 46] : List UInt8).contains (UInt8.ofNat n) = ([40, 41, 91, 93, 123, 125, 124, 60, 62, 47, 46] : List UInt8).contains (UInt8.ofNat n) := by decide
  have := h c.toNat c.toNat_lt
  rw [UInt8.ofNat_toNat] at this
  exact this
def fenT (s : ByteArray) : Bool := decide (s.size = 2) && (bs DL).contains ((bs s).headD 0) && (bs DL).contains (((bs s).drop 1).headD 0)
theorem nFen_ev (s : ByteArray) : node_fence.f s = some (fenT s) := by
  have hl := bs_len s
  unfold node_fence.f fenT
  by_cases h2 : s.size = 2
  · have z1 : (s.extract 0 1).size = 1 := by rw [ByteArray.size_extract]; omega
    have z2 : (s.extract 1 s.size).size = 1 := by rw [ByteArray.size_extract]; omega
    have e1 : (bs (s.extract 0 1)).headD 0 = (bs s).headD 0 := by
      rw [bs_extract]
      show (((bs s).drop 0).take (1 - 0)).headD 0 = _
      cases hb : bs s with
      | nil => rfl
      | cons x r => rfl
    have e2 : (bs (s.extract 1 s.size)).headD 0 = ((bs s).drop 1).headD 0 := by
      rw [bs_extract, ← hl]
      show (((bs s).drop 1).take ((bs s).length - 1)).headD 0 = _
      rw [List.take_of_length_le (by rw [List.length_drop]; omega)]
    rw [if_pos (by omega), if_pos (by omega), if_pos (by omega), decide_eq_true h2]
    rw [contains_one_ev _ _ z1, Option.bind_some, contains_one_ev _ _ z2, Option.bind_some, e1, e2]
    show (if (bs DM).contains ((bs s).headD 0) = true then some ((bs DM).contains (((bs s).drop 1).headD 0)) else some false) = _
    rw [dl_dm, dl_dm]
    generalize (bs DL).contains ((bs s).headD 0) = b1
    generalize (bs DL).contains (((bs s).drop 1).headD 0) = b2
    cases b1 <;> cases b2 <;> rfl
  · rw [if_neg (by omega), decide_eq_false h2]
    rfl
/-- The text that a kind asks for. -/
def txT (kind : Int) (s : ByteArray) : Bool :=
  if kind = 2 then symT s else if kind = 3 then numT (bs s) else if kind = 4 then (bs s).all pch && decide (s.size ≤ 200) else if kind = 10 then inB AC s else if kind = 11 then fenT s else (s.toList == ([] : List UInt8))
theorem nTx_ev (kind : Int) (s : ByteArray) (hs : s.size ≤ 9223372036854775807) : Ev (fun k => node_textok.f k kind s) (txT kind s) := by
  unfold node_textok.f txT
  by_cases h2 : kind = 2
  · rw [if_pos h2]
    exact Ev.congr (fun k => if_pos h2) (nSym_ev s hs)
  · rw [if_neg h2]
    by_cases h3 : kind = 3
    · rw [if_pos h3]
      refine Ev.congr (f := fun _ => some (numT (bs s))) (fun k => ?_) (Ev.now _)
      rw [if_neg h2, if_pos h3, nNum_ev]
    · rw [if_neg h3]
      by_cases h4 : kind = 4
      · rw [if_pos h4]
        exact Ev.congr (fun k => by rw [if_neg h2, if_neg h3, if_pos h4]) (nPrn_ev s hs)
      · rw [if_neg h4]
        by_cases h10 : kind = 10
        · rw [if_pos h10]
          refine Ev.congr (f := fun k => node_accent.f k s) (fun k => by rw [if_neg h2, if_neg h3, if_neg h4, if_pos h10]) ?_
          unfold node_accent.f
          exact Ev.bind (scontains_ev AC s (by decide)) (Ev.now _)
        · rw [if_neg h10]
          by_cases h11 : kind = 11
          · rw [if_pos h11, if_pos h11]
            refine Ev.congr (f := fun _ => some (fenT s)) (fun k => ?_) (Ev.now _)
            rw [if_neg h2, if_neg h3, if_neg h4, if_neg h10, nFen_ev]
          · rw [if_neg h11, if_neg h11]
            refine Ev.congr (f := fun _ => some (s.toList == ([] : List UInt8))) (fun k => ?_) (Ev.now _)
            rw [if_neg h2, if_neg h3, if_neg h4, if_neg h10, node_empty.f]
theorem bt1 {s : ByteArray} (h : s.size = 2) : bt s 1 = (((((bs s).drop 1).headD 0).toNat : Nat) : Int) := by
  have hl := bs_len s
  have := bt_bs (s := s) (j := 1) (by omega)
  rw [show ((1 : Nat) : Int) = 1 from rfl] at this
  rw [this, drop_at (show 1 < (bs s).length by omega)]
  rfl
theorem rTx_ev (kind : Int) (s : ByteArray) (cols : Int) (l : List S24) (hs : s.size ≤ 9223372036854775807) : Ev (fun k => vinculumref09_text.f k kind s cols l) (txT kind s) := by
  unfold vinculumref09_text.f txT
  by_cases h2 : kind = 2
  · rw [if_pos h2]
    exact Ev.congr (fun k => if_pos h2) (Ev.bind (rSym_ev s hs) (Ev.now _))
  · rw [if_neg h2]
    by_cases h3 : kind = 3
    · rw [if_pos h3]
      exact Ev.congr (fun k => by rw [if_neg h2, if_pos h3]) (Ev.bind (rNum_ev s hs) (Ev.now _))
    · rw [if_neg h3]
      by_cases h4 : kind = 4
      · rw [if_pos h4]
        by_cases hz : s.size ≤ 200
        · refine Ev.congr (fun k => by rw [if_neg h2, if_neg h3, if_pos h4, if_pos (by omega)]) (Ev.bind (rPrn_ev s hs) ?_)
          rw [decide_eq_true hz, Bool.and_true]
          exact Ev.now _
        · refine Ev.congr (f := fun _ => some false) (fun k => by rw [if_neg h2, if_neg h3, if_pos h4, if_neg (by omega)]) ?_
          rw [decide_eq_false hz, Bool.and_false]
          exact Ev.now _
      · rw [if_neg h4]
        by_cases h10 : kind = 10
        · rw [if_pos h10]
          refine Ev.congr (f := fun k => (vinculumref09_In.f k AC s).bind fun t => some t) (fun k => by rw [if_neg h2, if_neg h3, if_neg h4, if_pos h10, vinculumref09_Accents.f, Option.bind_some]; rfl) ?_
          exact Ev.bind (in_ev AC s (by decide)) (Ev.now _)
        · rw [if_neg h10]
          by_cases h11 : kind = 11
          · rw [if_pos h11]
            unfold fenT
            by_cases hz : s.size = 2
            · refine Ev.congr (f := fun k => (vinculumref09_has.f k DL (bt s 0)).bind fun t => if t = true then (if 1 < (s.size : Int) then ((vinculumref09_has.f k DL (bt s 1)).bind fun t => some t) else none) else some false) (fun k => by rw [if_neg h2, if_neg h3, if_neg h4, if_neg h10, if_pos h11, if_pos (by omega), if_pos (by omega)]; rfl) ?_
              rw [bt0 (by omega), bt1 hz, decide_eq_true hz, Bool.true_and]
              refine Ev.bind (has_ev DL _ (by decide)) ?_
              cases (bs DL).contains ((bs s).headD 0) with
              | true =>
                refine Ev.congr (fun k => by rw [if_pos rfl, if_pos (by omega)]) (Ev.bind (has_ev DL _ (by decide)) ?_)
                rw [Bool.true_and]
                exact Ev.now _
              | false => exact Ev.now false
            · refine Ev.congr (f := fun _ => some false) (fun k => by rw [if_neg h2, if_neg h3, if_neg h4, if_neg h10, if_pos h11, if_neg (by omega)]) ?_
              rw [decide_eq_false hz]
              exact Ev.now _
          · rw [if_neg h11]
            refine Ev.congr (f := fun _ => some (s.toList == ([] : List UInt8))) (fun k => ?_) (Ev.now _)
            rw [if_neg h2, if_neg h3, if_neg h4, if_neg h10, if_neg h11]
/-- The number of kids and the columns that a kind asks for. -/
def kdT (kind cols : Int) (n : Nat) : Bool :=
  if kind = 12 then decide (1 ≤ cols) && (decide (cols ≤ 16) && (decide (1 ≤ (n : Int)) && (decide ((n : Int) ≤ 256) && ((n : Int) % cols == 0))))
  else (cols == 0) && (if kind = 1 then decide ((n : Int) ≤ 200) else if kind = 2 ∨ kind = 3 ∨ kind = 4 then ((n : Int) == 0) else if kind = 5 ∨ kind = 6 ∨ kind = 7 ∨ kind = 8 then ((n : Int) == 2) else if kind = 9 then ((n : Int) == 3) else if kind = 10 ∨ kind = 11 then ((n : Int) == 1) else false)
theorem rKd_ev (kind : Int) (s : ByteArray) (cols : Int) (l : List S24) : Ev (fun k => vinculumref09_kids.f k kind s cols l) (kdT kind cols l.length) := by
  refine ⟨2, fun k hk => ?_⟩
  obtain ⟨m, rfl⟩ : ∃ m, k = m + 2 := ⟨k - 2, by omega⟩
  show vinculumref09_kids.f (m + 2) kind s cols l = _
  unfold vinculumref09_kids.f kdT
  by_cases h12 : kind = 12
  · rw [if_pos h12, if_pos h12]
    by_cases c1 : cols ≥ 1
    · rw [if_pos c1, decide_eq_true (show 1 ≤ cols by omega)]
      by_cases c2 : cols ≤ 16
      · rw [if_pos c2, decide_eq_true c2]
        by_cases c3 : (l.length : Int) ≥ 1
        · rw [if_pos c3, decide_eq_true (show 1 ≤ (l.length : Int) by omega)]
          by_cases c4 : (l.length : Int) ≤ 256
          · rw [if_pos c4, decide_eq_true c4, if_neg (by omega)]
            rfl
          · rw [if_neg c4, decide_eq_false c4]; rfl
        · rw [if_neg c3, decide_eq_false (show ¬ 1 ≤ (l.length : Int) by omega)]; rfl
      · rw [if_neg c2, decide_eq_false c2]; rfl
    · rw [if_neg c1, decide_eq_false (show ¬ 1 ≤ cols by omega)]; rfl
  · rw [if_neg h12, if_neg h12]
    by_cases hc : cols = 0
    · rw [if_pos hc, hc, beq_self_eq_true, Bool.true_and]
      have hk : kind = 1 ∨ kind = 2 ∨ kind = 3 ∨ kind = 4 ∨ kind = 5 ∨ kind = 6 ∨ kind = 7 ∨ kind = 8 ∨ kind = 9 ∨ kind = 10 ∨ kind = 11 ∨ (kind < 1 ∨ 11 < kind) := by omega
      rcases hk with rfl | rfl | rfl | rfl | rfl | rfl | rfl | rfl | rfl | rfl | rfl | hk
      · rfl
      · rfl
      · rfl
      · rfl
      · rfl
      · rfl
      · rfl
      · rfl
      · rfl
      · rfl
      · rfl
      · have e : ∀ n : Int, 1 ≤ n → n ≤ 11 → (kind == n) = false := fun n h1 h2 => beq_eq_false_iff_ne.2 (by omega)
        rw [if_neg (by omega), if_neg (by omega), if_neg (by omega), if_neg (by omega), if_neg (by omega), if_neg (by omega), if_neg (by omega), if_neg (by omega), e 4 (by omega) (by omega), vinculumref09_kids.j0, if_neg Bool.false_ne_true, if_neg (by omega), if_neg (by omega), if_neg (by omega), e 8 (by omega) (by omega), vinculumref09_kids.j1, if_neg Bool.false_ne_true, if_neg (by omega), if_neg (by omega), if_neg (by omega)]
    · rw [if_neg hc, beq_eq_false_iff_ne.2 hc]; rfl
def shT (kind : Int) (s : ByteArray) (cols : Int) (n : Nat) : Bool := txT kind s && kdT kind cols n
theorem shape_ev (kind : Int) (s : ByteArray) (cols : Int) (n : Nat) (hs : s.size ≤ 9223372036854775807) : Ev (fun k => node_shape.f k kind s cols n) (shT kind s cols n) := by
  unfold node_shape.f shT
  by_cases h1 : kind < 1
  · refine Ev.congr (f := fun _ => some false) (fun k => if_pos h1) ?_
    have : kdT kind cols n = false := by
      unfold kdT
      rw [if_neg (by omega), if_neg (by omega), if_neg (by omega), if_neg (by omega), if_neg (by omega), if_neg (by omega), Bool.and_false]
    rw [this, Bool.and_false]
    exact Ev.now _
  · by_cases h2 : 12 < kind
    · refine Ev.congr (f := fun _ => some false) (fun k => by rw [if_neg h1, if_pos h2]) ?_
      have : kdT kind cols n = false := by
        unfold kdT
        rw [if_neg (by omega), if_neg (by omega), if_neg (by omega), if_neg (by omega), if_neg (by omega), if_neg (by omega), Bool.and_false]
      rw [this, Bool.and_false]
      exact Ev.now _
    · by_cases h3 : kind = 1
      · refine Ev.congr (f := fun _ => some (s.toList == ([] : List UInt8) && ((cols == 0) && decide ((n : Int) ≤ 200)))) (fun k => by rw [if_neg h1, if_neg h2, if_pos h3]) ?_
        subst h3
        exact Ev.now _
      · by_cases h4 : kind = 12
        · refine Ev.congr (f := fun _ => some (s.toList == ([] : List UInt8) && (decide (1 ≤ cols) && (decide (cols ≤ 16) && (decide (1 ≤ (n : Int)) && (decide ((n : Int) ≤ 256) && ((n : Int) % cols == 0))))))) (fun k => by rw [if_neg h1, if_neg h2, if_neg h3, if_pos h4]) ?_
          subst h4
          exact Ev.now _
        · refine Ev.congr (f := fun k => (node_textok.f k kind s).bind fun t => some (t && (cols == 0) && ((n : Int) == node_slots kind))) (fun k => by rw [if_neg h1, if_neg h2, if_neg h3, if_neg h4]) ?_
          refine Ev.bind (nTx_ev kind s hs) ?_
          have hk : kind = 2 ∨ kind = 3 ∨ kind = 4 ∨ kind = 5 ∨ kind = 6 ∨ kind = 7 ∨ kind = 8 ∨ kind = 9 ∨ kind = 10 ∨ kind = 11 := by omega
          have : kdT kind cols n = ((cols == 0) && ((n : Int) == node_slots kind)) := by
            rcases hk with rfl | rfl | rfl | rfl | rfl | rfl | rfl | rfl | rfl | rfl <;> rfl
          rw [this, ← Bool.and_assoc]
          exact Ev.now _
end Go.Proofs.YtihchehmkhnhaaaDoor.A
/- Plain laws: valid trees, as the program and as the reference tell them. -/
namespace Go.Proofs.YtihchehmkhnhaaaDoor.A
open Go.RowKit Go.Proofs.YtihchehmkhnhaaaDoorW.PrintWords Go.Proofs.YtihchehmkhnhaaaDoorW.PrintLast Go.Proofs.YtihchehmkhnhaaaDoorW.PrintMore
set_option linter.unusedVariables false

mutual
def depT (x : S24) : Nat := 1 + depL x.f3
termination_by 2 * cnt x
decreasing_by (have := cnt_eq x; omega)
def depL : List S24 → Nat
  | [] => 0
  | x :: r => max (depT x) (depL r)
termination_by l => 2 * cntL l + 1
decreasing_by all_goals (simp only [cntL]; have := cnt_eq x; omega)
end
theorem depT_eq (x : S24) : depT x = 1 + depL x.f3 := by rw [depT]
mutual
/-- All nodes of a tree have the form of their kind. -/
def formT : S24 → Bool
  | ⟨k, s, c, l⟩ => shT k s c l.length && formL k l
def formL (k : Int) : List S24 → Bool
  | [] => true
  | x :: r => (!((x.f0 == 1) == (k == 1))) && formT x && formL k r
end
theorem formT_eq (x : S24) : formT x = (shT x.f0 x.f1 x.f2 x.f3.length && formL x.f0 x.f3) := by
  obtain ⟨f0, f1, f2, f3⟩ := x
  simp [formT]
theorem depT_le_cnt : ∀ x : S24, depT x ≤ cnt x := by
  refine tree_ind (fun x ih => ?_)
  rw [depT_eq, cnt_eq]
  have : ∀ l : List S24, (∀ y, y ∈ l → depT y ≤ cnt y) → depL l ≤ cntL l := by
    intro l
    induction l with
    | nil => intro _; simp [depL]
    | cons y r ih =>
      intro h
      have h1 := h y (List.mem_cons_self ..)
      have h2 := ih (fun z hz => h z (List.mem_cons_of_mem _ hz))
      simp only [depL, cntL]
      omega
  have := this x.f3 ih
  omega
theorem wf_size {x : S24} (h : Wf24 x) : x.f1.size ≤ 9223372036854775807 := by
  have := h.w1
  unfold maxLen at this
  omega

theorem mx_split {A B d : Nat} (hd : 1 ≤ d) : max A B + 1 ≤ d ↔ A ≤ d - 1 ∧ B + 1 ≤ d := by omega
theorem le_join {a b n : Nat} (h : a ≤ n) (g : b ≤ n - a) : a + b ≤ n := by omega
theorem le_part {a b n : Nat} (h : a ≤ n) (g : a + b ≤ n) : b ≤ n - a := by omega
theorem sub_join {a b n : Nat} (h : a ≤ n) : ((n - a : Nat) : Int) - (b : Int) = (n : Int) - ((a + b : Nat) : Int) := by omega
/-- The program's checker. -/
theorem check_ev : ∀ x : S24, Wf24 x → cnt x ≤ 1000000 → ∀ left d : Nat, left ≤ 1000000 → d ≤ 1000 →
    ∃ (b : Bool) (L : Int), Ev (fun k => node_check.f k (left : Int) x.f0 x.f1 x.f2 x.f3 (d : Int)) (b, L) ∧ (b = true ↔ (formT x = true ∧ cnt x ≤ left ∧ depT x ≤ d)) ∧ (b = true → L = (left : Int) - cnt x) := by
  refine tree_ind (fun x ih hw hb left d hleft hd => ?_)
  have hce := cnt_eq x
  obtain ⟨D, hDx, hDl⟩ : ∃ D, depT x = 1 + D ∧ Aside0 (D = depL x.f3) := ⟨_, depT_eq x, ⟨rfl⟩⟩
  rw [hDx]
  clear hDx
  have hfe := formT_eq x
  have hlen := length_le_cntL x.f3
  have hcl : cntL x.f3 ≤ 1000000 := by omega
  obtain ⟨_, hwk⟩ := hw.w3
  by_cases h0 : left = 0
  · refine ⟨false, wrap64 ((left : Int) - 1), ?_, ⟨fun h => by simp at h, fun h => by omega⟩, fun h => by simp at h⟩
    apply Ev.step
    · intro k; rw [node_check.f, if_pos (by rw [wrap64_id (by omega) (by omega)]; omega)]
    exact Ev.now _
  have wl : wrap64 ((left : Int) - 1) = ((left - 1 : Nat) : Int) := by rw [wrap64_id (by omega) (by omega)]; omega
  by_cases h1 : d = 0
  · refine ⟨false, ((left - 1 : Nat) : Int), ?_, ⟨fun h => by simp at h, fun h => by omega⟩, fun h => by simp at h⟩
    apply Ev.step
    · intro k; rw [node_check.f, wl, if_neg (by omega), if_pos (by omega)]
    exact Ev.now _
  have wd : wrap64 ((d : Int) - 1) = ((d - 1 : Nat) : Int) := by rw [wrap64_id (by omega) (by omega)]; omega
  have loop : ∀ (e j lf : Nat), x.f3.length - j = e → j ≤ x.f3.length → lf ≤ 1000000 →
      ∃ (b : Bool) (L : Int), Ev (fun k => node_check.l0 k (lf : Int) x.f0 x.f3 (d : Int) (j : Int)) (b, L) ∧ (b = true ↔ (formL x.f0 (x.f3.drop j) = true ∧ cntL (x.f3.drop j) ≤ lf ∧ depL (x.f3.drop j) + 1 ≤ d)) ∧ (b = true → L = (lf : Int) - cntL (x.f3.drop j)) := by
    have wdA := Aside0.mk wd
    clear wl wd hfe
    intro e
    induction e with
    | zero =>
      intro j lf he hj hlf
      obtain rfl : j = x.f3.length := by omega
      rw [List.drop_length]
      refine ⟨true, (lf : Int), ?_, ⟨fun _ => ⟨rfl, by simp [cntL], by simp only [depL]; omega⟩, fun _ => rfl⟩, fun _ => by simp [cntL]⟩
      apply Ev.step
      · intro k; rw [node_check.l0, if_neg (by omega)]
      exact Ev.now _
    | succ e ihe =>
      intro j lf he hj hlf
      have hlt : j < x.f3.length := by omega
      have c1 : (j : Int) < (x.f3.length : Int) := by omega
      have c0 : (0 : Int) ≤ (j : Int) := by omega
      have wj : wrap64 ((j : Int) + 1) = ((j + 1 : Nat) : Int) := by rw [wrap64_id (by omega) (by omega)]; omega
      have hd1 : d - 1 ≤ 1000 := Nat.le_trans (Nat.sub_le _ _) hd
      have n1 : x.f3.length - (j + 1) = e := by rw [Nat.sub_succ, he]; rfl
      have hd0 : 1 ≤ d := Nat.pos_of_ne_zero h1
      have hm := List.getElem_mem hlt
      have hcm := cnt_mem hm
      have hcx : cnt x.f3[j] ≤ 1000000 := Nat.le_trans hcm hcl
      rw [drop_at hlt, formL, cntL, depL]
      clear hce hleft hb
      by_cases hk : (x.f3[j].f0 == 1) = (x.f0 == 1)
      · refine ⟨false, (lf : Int), ?_, ⟨fun h => by simp at h, fun h => ?_⟩, fun h => by simp at h⟩
        · apply Ev.step
          · intro k; rw [node_check.l0, if_pos c1, if_pos c0, rd_at hlt, if_pos hk]
          exact Ev.now _
        · rw [hk] at h
          simp at h
      · have hk' : (!((x.f3[j].f0 == 1) == (x.f0 == 1))) = true := by simpa using hk
        rw [hk', Bool.true_and]
        obtain ⟨b1, L1, e1, p1, q1⟩ := ih _ hm (hwk _ hm) hcx lf (d - 1) hlf hd1
        cases hb1 : b1 with
        | false =>
          rw [hb1] at e1 p1
          refine ⟨false, L1, ?_, ⟨fun h => by simp at h, fun h => ?_⟩, fun h => by simp at h⟩
          · apply Ev.step
            · intro k; rw [node_check.l0, if_pos c1, if_pos c0, rd_at hlt, if_neg hk, wdA.out]
            refine Ev.bind e1 ?_
            exact Ev.now _
          · obtain ⟨h2, h3, h4⟩ := h
            rw [Bool.and_eq_true] at h2
            exact p1.2 ⟨h2.1, Nat.le_trans (Nat.le_add_right _ _) h3, (mx_split hd0).1 h4 |>.1⟩
        | true =>
          rw [hb1] at e1 p1 q1
          obtain ⟨f1, f2, f3⟩ := p1.1 rfl
          have hL := q1 rfl
          obtain ⟨b2, L2, e2, p2, q2⟩ := ihe (j + 1) (lf - cnt x.f3[j]) n1 hlt (Nat.le_trans (Nat.sub_le _ _) hlf)
          have hL' : L1 = ((lf - cnt x.f3[j] : Nat) : Int) := by rw [hL]; exact (Int.ofNat_sub f2).symm
          refine ⟨b2, L2, ?_, ?_, fun h => ?_⟩
          · apply Ev.step
            · intro k; rw [node_check.l0, if_pos c1, if_pos c0, rd_at hlt, if_neg hk, wdA.out, wj]
            refine Ev.bind e1 ?_
            rw [hL']
            refine Ev.congr (f := fun k => node_check.l0 k ((lf - cnt x.f3[j] : Nat) : Int) x.f0 x.f3 (d : Int) ((j + 1 : Nat) : Int)) (fun k => if_pos rfl) ?_
            exact e2
          · rw [p2, f1, Bool.true_and]
            constructor
            · rintro ⟨g1, g2, g3⟩; exact ⟨g1, le_join f2 g2, (mx_split hd0).2 ⟨f3, g3⟩⟩
            · rintro ⟨g1, g2, g3⟩; exact ⟨g1, le_part f2 g2, ((mx_split hd0).1 g3).2⟩
          · have h5 := q2 h
            rw [h5]
            exact sub_join f2
  cases hs : shT x.f0 x.f1 x.f2 x.f3.length with
  | false =>
    refine ⟨false, ((left - 1 : Nat) : Int), ?_, ⟨fun h => by simp at h, fun h => by rw [hfe, hs] at h; simp at h⟩, fun h => by simp at h⟩
    apply Ev.step
    · intro k; rw [node_check.f, wl, if_neg (by omega), if_neg (by omega)]
    refine Ev.bind (shape_ev x.f0 x.f1 x.f2 x.f3.length (wf_size hw)) ?_
    rw [hs]
    exact Ev.now _
  | true =>
    obtain ⟨b, L, e, p, q⟩ := loop _ 0 (left - 1) rfl (by omega) (by omega)
    rw [List.drop_zero] at p q
    rw [← hDl.out] at p
    refine ⟨b, L, ?_, ?_, fun h => ?_⟩
    · apply Ev.step
      · intro k; rw [node_check.f, wl, if_neg (by omega), if_neg (by omega)]
      refine Ev.bind (shape_ev x.f0 x.f1 x.f2 x.f3.length (wf_size hw)) ?_
      rw [hs]
      refine Ev.congr (f := fun k => node_check.l0 k ((left - 1 : Nat) : Int) x.f0 x.f3 (d : Int) 0) (fun k => if_pos rfl) ?_
      exact e
    · rw [p, hfe, hs, Bool.true_and]
      constructor
      · rintro ⟨g1, g2, g3⟩; exact ⟨g1, by omega, by omega⟩
      · rintro ⟨g1, g2, g3⟩; exact ⟨g1, by omega, by omega⟩
    · have := q h
      rw [this]
      omega
/-- The trees that are valid. -/
def validT (x : S24) : Bool := decide (x.f0 = 1) && formT x && decide (cnt x ≤ 1000) && decide (depT x ≤ 24)
theorem nValid_ev (x : S24) (hw : Wf24 x) (hb : cnt x ≤ 1000000) : Ev (fun k => node_Valid.f k x.f0 x.f1 x.f2 x.f3) (validT x) := by
  unfold node_Valid.f validT
  by_cases h1 : x.f0 = 1
  · rw [decide_eq_true h1, Bool.true_and]
    apply Ev.congr
    · intro k; rw [if_pos h1]
    obtain ⟨b, L, e, p, q⟩ := check_ev x hw hb 1000 24 (by omega) (by omega)
    refine Ev.bind e ?_
    have : b = (formT x && decide (cnt x ≤ 1000) && decide (depT x ≤ 24)) := by
      rw [Bool.eq_iff_iff, p]
      simp [and_assoc]
    rw [← this]
    exact Ev.now _
  · rw [decide_eq_false h1]
    exact Ev.congr (f := fun _ => some false) (fun k => if_neg h1) (Ev.now _)
theorem rForm_ev : ∀ x : S24, Wf24 x → cnt x ≤ 1000000 → Ev (fun k => vinculumref09_form.f k x.f0 x.f1 x.f2 x.f3) (formT x) := by
  refine tree_ind (fun x ih hw hb => ?_)
  have hce := cnt_eq x
  have hfe := formT_eq x
  have hlen := length_le_cntL x.f3
  obtain ⟨_, hwk⟩ := hw.w3
  have loop : ∀ (e j : Nat), x.f3.length - j = e → j ≤ x.f3.length → Ev (fun k => vinculumref09_form.l0 k (j : Int) x.f0 x.f1 x.f2 x.f3) (formL x.f0 (x.f3.drop j)) := by
    intro e
    induction e with
    | zero =>
      intro j he hj
      obtain rfl : j = x.f3.length := by omega
      rw [List.drop_length]
      apply Ev.step
      · intro k; rw [vinculumref09_form.l0, if_neg (by omega)]
      exact Ev.now _
    | succ e ihe =>
      intro j he hj
      have hlt : j < x.f3.length := by omega
      rw [drop_at hlt]
      simp only [formL]
      have wj : wrap64 ((j : Int) + 1) = ((j + 1 : Nat) : Int) := by rw [wrap64_id (by omega) (by omega)]; omega
      have hm := List.getElem_mem hlt
      have hcm := cnt_mem hm
      cases hk : ((x.f3[j].f0 == 1) == (x.f0 == 1)) with
      | true =>
        apply Ev.step
        · intro k; rw [vinculumref09_form.l0, if_pos (by omega), if_pos (by omega), rd_at hlt, if_pos hk]
        exact Ev.now _
      | false =>
        apply Ev.step
        · intro k; rw [vinculumref09_form.l0, if_pos (by omega), if_pos (by omega), rd_at hlt, if_neg (by rw [hk]; exact Bool.false_ne_true), wj]
        refine Ev.bind (ih _ hm (hwk _ hm) (by omega)) ?_
        rw [Bool.not_false, Bool.true_and]
        cases formT x.f3[j] with
        | true =>
          rw [Bool.true_and]
          exact Ev.congr (fun k => if_pos rfl) (ihe (j + 1) (by omega) (by omega))
        | false => exact Ev.now false
  have j0 : ∀ b : Bool, Ev (fun k => vinculumref09_form.j0 k b x.f0 x.f1 x.f2 x.f3) (!b && formL x.f0 x.f3) := by
    intro b
    cases b with
    | true =>
      apply Ev.step
      · intro k; rw [vinculumref09_form.j0, if_pos rfl]
      exact Ev.now _
    | false =>
      apply Ev.step
      · intro k; rw [vinculumref09_form.j0, if_neg Bool.false_ne_true]
      simpa using loop _ 0 rfl (by omega)
  apply Ev.step
  · intro k; rw [vinculumref09_form.f]
  refine Ev.bind (rTx_ev x.f0 x.f1 x.f2 x.f3 (wf_size hw)) ?_
  rw [hfe]
  unfold shT
  cases txT x.f0 x.f1 with
  | true =>
    rw [Bool.true_and]
    refine Ev.congr (fun k => if_pos rfl) (Ev.bind (rKd_ev x.f0 x.f1 x.f2 x.f3) ?_)
    simpa using j0 (!kdT x.f0 x.f2 x.f3.length)
  | false =>
    exact Ev.congr (fun k => if_neg Bool.false_ne_true) (j0 true)
theorem mx_nat (a b : Nat) : mx (a : Int) (b : Int) = ((max a b : Nat) : Int) := by
  unfold mx
  split <;> omega
theorem rDepth_ev : ∀ x : S24, cnt x ≤ 1000000 → Ev (fun k => vinculumref09_Depth.f k x.f0 x.f1 x.f2 x.f3) (depT x : Int) := by
  refine tree_ind (fun x ih hb => ?_)
  have hce := cnt_eq x
  have hdc := depT_le_cnt x
  obtain ⟨D, hDx, hDl⟩ : ∃ D, depT x = 1 + D ∧ Aside0 (D = depL x.f3) := ⟨_, depT_eq x, ⟨rfl⟩⟩
  rw [hDx] at hdc ⊢
  clear hDx
  have hlen := length_le_cntL x.f3
  have hcl : cntL x.f3 ≤ 1000000 := by omega
  have loop : ∀ (e j m : Nat), x.f3.length - j = e → j ≤ x.f3.length → m ≤ D → max m (depL (x.f3.drop j)) = D → Ev (fun k => vinculumref09_Depth.l0 k (m : Int) (j : Int) x.f0 x.f1 x.f2 x.f3) ((1 + D : Nat) : Int) := by
    intro e
    induction e with
    | zero =>
      intro j m he hj hm1
      obtain rfl : j = x.f3.length := by omega
      rw [List.drop_length]
      intro hm
      simp only [depL] at hm
      apply Ev.step
      · intro k; rw [vinculumref09_Depth.l0, if_neg (by omega), wrap64_id (by omega) (by omega)]
      rw [show ((1 + D : Nat) : Int) = (m : Int) + 1 by omega]
      exact Ev.now _
    | succ e ihe =>
      intro j m he hj hm1
      have hlt : j < x.f3.length := by omega
      have c1 : (j : Int) < (x.f3.length : Int) := by omega
      have c0 : (0 : Int) ≤ (j : Int) := by omega
      have wj : wrap64 ((j : Int) + 1) = ((j + 1 : Nat) : Int) := by rw [wrap64_id (by omega) (by omega)]; omega
      have n1 : x.f3.length - (j + 1) = e := by omega
      intro hm
      have hmem := List.getElem_mem hlt
      have hcm := cnt_mem hmem
      have hcx : cnt x.f3[j] ≤ 1000000 := Nat.le_trans hcm hcl
      rw [drop_at hlt, depL, ← Nat.max_assoc] at hm
      have n2 : max m (depT x.f3[j]) ≤ D := by rw [← hm]; exact Nat.le_max_left _ _
      apply Ev.step
      · intro k; rw [vinculumref09_Depth.l0, if_pos c1, if_pos c0, rd_at hlt, wj]
      refine Ev.bind (ih _ hmem hcx) ?_
      rw [mx_nat]
      exact ihe (j + 1) _ n1 hlt n2 hm
  apply Ev.step
  · intro k; rw [vinculumref09_Depth.f]
  exact loop _ 0 0 rfl (Nat.zero_le _) (Nat.zero_le _) (by rw [List.drop_zero, ← hDl.out]; exact Nat.max_eq_right (Nat.zero_le _))
theorem rValid_ev (x : S24) (hw : Wf24 x) (hb : cnt x ≤ 1000000) : Ev (fun k => vinculumref09_Valid.f k x.f0 x.f1 x.f2 x.f3) (validT x) := by
  unfold vinculumref09_Valid.f validT
  by_cases h1 : x.f0 = 1
  · rw [decide_eq_true h1, Bool.true_and]
    refine Ev.congr (fun k => if_pos h1) (Ev.bind (rForm_ev x hw hb) ?_)
    cases formT x with
    | false => exact Ev.now false
    | true =>
      rw [Bool.true_and]
      refine Ev.congr (fun k => if_pos rfl) (Ev.bind (vinculumref09_Count_ev x (by omega)) ?_)
      by_cases h2 : cnt x ≤ 1000
      · rw [decide_eq_true h2, Bool.true_and]
        refine Ev.congr (fun k => if_pos (by omega)) (Ev.bind (rDepth_ev x hb) ?_)
        rw [show decide (depT x ≤ 24) = decide ((depT x : Int) ≤ 24) by congr 1; rw [eq_iff_iff]; omega]
        exact Ev.now _
      · rw [decide_eq_false h2, Bool.false_and]
        exact Ev.congr (f := fun _ => some false) (fun k => if_neg (by omega)) (Ev.now _)
  · rw [decide_eq_false h1]
    exact Ev.congr (f := fun _ => some false) (fun k => if_neg h1) (Ev.now _)
end Go.Proofs.YtihchehmkhnhaaaDoor.A
/- Plain laws: the example, the bound, and the value of Cost. -/
namespace Go.Proofs.YtihchehmkhnhaaaDoor.Pure
open Go.RowKit Go.Proofs.YtihchehmkhnhaaaDoorW.PrintWords Go.Proofs.YtihchehmkhnhaaaDoorW.PrintLast Go.Proofs.YtihchehmkhnhaaaDoorW.PrintMore
open Go.Proofs.YtihchehmkhnhaaaDoor.A
set_option linter.unusedVariables false

theorem awake_evC : Ev (fun k => vinculumlaw16_awake.f k) true := Ev.of (fun k => vinculumlaw16_awake.mono k) (k := 40) (by kernel_rfl)
theorem few_ev (x y : S24) (hx : Wf24 x) (hy : Wf24 y) : Ev (fun k => vinculumlaw16_few.f k x.f0 x.f1 x.f2 x.f3 y.f0 y.f1 y.f2 y.f3) (decide ((cnt x : Int) ≤ 120) && decide ((cnt y : Int) ≤ 120)) := by
  unfold vinculumlaw16_few.f
  refine Ev.bind (vinculumref09_Few_ev x hx 120 (by omega) (by omega)) ?_
  cases decide ((cnt x : Int) ≤ 120) with
  | true => exact Ev.congr (fun k => if_pos rfl) (Ev.bind (vinculumref09_Few_ev y hy 120 (by omega) (by omega)) (Ev.now _))
  | false => exact Ev.now false
/-- The value of Cost. -/
theorem cost_ev (x y : S24) (hx : Wf24 x) (hy : Wf24 y) (cx : cnt x ≤ 120) (cy : cnt y ≤ 120) : Ev (fun k => diff_Cost.f k x.f0 x.f1 x.f2 x.f3 y.f0 y.f1 y.f2 y.f3) (if (validT x && validT y) = true then ((dist x.f3 y.f3 : Int), 0) else (0, 1)) := by
  have hxe := cnt_eq x
  have hye := cnt_eq y
  unfold diff_Cost.f diff_valid.f
  refine Ev.bind (a := validT x && validT y) ?_ ?_
  · refine Ev.bind (nValid_ev x hx (by omega)) ?_
    cases validT x with
    | true => exact Ev.congr (fun k => if_pos rfl) (Ev.bind (nValid_ev y hy (by omega)) (Ev.now _))
    | false => exact Ev.now false
  · cases validT x && validT y with
    | false => exact Ev.now _
    | true =>
      refine Ev.congr (fun k => if_pos rfl) (Ev.bind (table_ev (cntL x.f3 + cntL y.f3) x.f3 y.f3 (Nat.le_refl _) (by omega)) ?_)
      have e1 : rd_L5 (tabT x.f3 y.f3) 0 = rowT x.f3 y.f3 0 := rd5_of (j := 0) (tabT_at (by omega))
      have e2 : rd_T47 (rowT x.f3 y.f3 0) 0 = cellT x.f3 y.f3 := rd47_of (j := 0) (rowT_at (by omega))
      rw [e1, e2, tabT_len, rowT_len]
      exact Ev.congr (f := fun _ => some ((dist x.f3 y.f3 : Int), 0)) (fun k => by rw [if_pos (by omega), if_pos (by omega)]; rfl) (Ev.now _)
end Go.Proofs.YtihchehmkhnhaaaDoor.Pure
/- The plain law: Cost, of any two trees that the law speaks of, is the distance that the reference computes. -/
namespace Go.Proofs.YtihchehmkhnhaaaDoor.Pure
open Go.RowKit Go.Proofs.YtihchehmkhnhaaaDoorW.PrintWords Go.Proofs.YtihchehmkhnhaaaDoorW.PrintLast Go.Proofs.YtihchehmkhnhaaaDoorW.PrintMore
open Go.Proofs.YtihchehmkhnhaaaDoor.A
set_option linter.unusedVariables false

theorem distance_ev (a b : List S24) (h : cntL a + cntL b ≤ 1000000) : Ev (fun k => vinculumref16_Distance.f k a b) (dist a b : Int) := by
  unfold vinculumref16_Distance.f
  refine Ev.bind (rtable_ev (cntL a + cntL b) a b (Nat.le_refl _) h) ?_
  have e1 : rd_L6 (tabD a b) 0 = rowD a b 0 := rd6_of (j := 0) (tabD_at (by omega))
  have e2 : rd (rowD a b 0) 0 = dist a b := rd_of (j := 0) (rowD_at (by omega))
  rw [e1, e2, tabD_len, rowD_len]
  exact Ev.congr (f := fun _ => some (dist a b : Int)) (fun k => by rw [if_pos (by omega), if_pos (by omega)]) (Ev.now _)
theorem DiffCost : vinculumlaw16_DiffCost.Pure := by
  intro x y hx hy
  refine Ev.rounds (g := fun k => vinculumlaw16_DiffCost.f k x.f0 x.f1 x.f2 x.f3 y.f0 y.f1 y.f2 y.f3) ?_
  unfold vinculumlaw16_DiffCost.f
  refine Ev.bind awake_evC (Ev.congr (fun k => if_pos rfl) (Ev.bind (few_ev x y hx hy) ?_))
  by_cases cx : cnt x ≤ 120
  · by_cases cy : cnt y ≤ 120
    · have hxe := cnt_eq x
      have hye := cnt_eq y
      rw [decide_eq_true (show (cnt x : Int) ≤ 120 by omega), decide_eq_true (show (cnt y : Int) ≤ 120 by omega)]
      refine Ev.congr (fun k => if_pos rfl) (Ev.bind (cost_ev x y hx hy cx cy) (Ev.bind (rValid_ev x hx (by omega)) ?_))
      cases h1 : validT x with
      | false => exact Ev.now true
      | true =>
        refine Ev.congr (fun k => if_pos rfl) (Ev.bind (rValid_ev y hy (by omega)) ?_)
        cases h2 : validT y with
        | false => exact Ev.now true
        | true =>
          refine Ev.congr (f := fun k => (vinculumref16_Distance.f k x.f3 y.f3).bind fun t => some ((dist x.f3 y.f3 : Int) == t)) (fun k => rfl) (Ev.bind (distance_ev x.f3 y.f3 (by omega)) ?_)
          rw [beq_self_eq_true]
          exact Ev.now true
    · rw [decide_eq_false (show ¬ (cnt y : Int) ≤ 120 by omega), Bool.and_false]
      exact Ev.now true
  · rw [decide_eq_false (show ¬ (cnt x : Int) ≤ 120 by omega), Bool.false_and]
    exact Ev.now true
end Go.Proofs.YtihchehmkhnhaaaDoor.Pure
