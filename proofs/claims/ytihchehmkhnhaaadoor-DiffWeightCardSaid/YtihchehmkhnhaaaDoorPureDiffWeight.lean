/- The plain law: Weight, of any operations that the law speaks of, is what the reference says. -/
import Derived.Test.YtihchehmkhnhaaaDoorSayDiffWeight
import Derived.Test.YtihchehmkhnhaaaDoorPl1
namespace Go.Proofs.YtihchehmkhnhaaaDoor.Pure
open Go.RowKit Go.Proofs.YtihchehmkhnhaaaDoorW.PrintWords Go.Proofs.YtihchehmkhnhaaaDoorW.PrintLast Go.Proofs.YtihchehmkhnhaaaDoorW.PrintMore
open Go.Proofs.YtihchehmkhnhaaaDoor.A
set_option linter.unusedVariables false

theorem awake_ev : Ev (fun k => vinculumlaw16_awake.f k) true := Ev.of (fun k => vinculumlaw16_awake.mono k) (k := 40) (by kernel_rfl)

/-- The cost of operations, from a sum on. -/
def wgt : List S37 → Int → Int × Int
  | [], a => (a, 0)
  | o :: r, a => if o.f0 = 1 ∨ o.f0 = 2 then wgt r (a + cntL o.f4) else if o.f0 = 5 then wgt r (a + 1) else (0, 1)
theorem rdo_at {l : List S37} {j : Nat} (h : j < l.length) : rd_T37 l (j : Int) = l[j] := by
  unfold rd_T37
  rw [List.getD_eq_getElem?_getD, Int.toNat_natCast, List.getElem?_eq_getElem h]
  rfl

theorem diff_Weight_ev (ops : List S37) (hl : ops.length ≤ 30) (hc : ∀ o, o ∈ ops → cntL o.f4 ≤ 1000) : Ev (fun k => diff_Weight.f k ops) (wgt ops 0) := by
  have inner : ∀ (o : S37) (i : Nat) (hi : i < ops.length), o ∈ ops → ∀ (R : Int × Int) (d j : Nat) (acc : Int), o.f4.length - j = d → j ≤ o.f4.length → 0 ≤ acc → acc + cntL (o.f4.drop j) ≤ 100000 →
      Ev (fun k => diff_Weight.l0 k (acc + cntL (o.f4.drop j)) ops (ops.length : Int) ((i : Int) + 1)) R → Ev (fun k => diff_Weight.l1 k acc ops (ops.length : Int) (i : Int) o.f4 (o.f4.length : Int) (j : Int)) R := by
    intro o i hi ho R d
    have hlen := length_le_cntL o.f4
    have hco := hc o ho
    induction d with
    | zero =>
      intro j acc hd hj h0 hb hR
      obtain rfl : j = o.f4.length := by omega
      refine Ev.step (f := fun k => diff_Weight.l0 k acc ops (ops.length : Int) (wrap64 ((i : Int) + 1))) (fun k => by simp only [diff_Weight.l1]; rw [if_neg (by omega)]) ?_
      rw [wrap64_id (by omega) (by omega)]
      rw [List.drop_length] at hR
      simpa [cntL] using hR
    | succ d ihd =>
      intro j acc hd hj h0 hb hR
      have hlt : j < o.f4.length := by omega
      rw [drop_at hlt] at hb hR
      simp only [cntL] at hb hR
      refine Ev.step (f := fun k => (node_Count.f k (rd_T24 o.f4 j).f0 (rd_T24 o.f4 j).f1 (rd_T24 o.f4 j).f2 (rd_T24 o.f4 j).f3).bind fun t => diff_Weight.l1 k (wrap64 (acc + t)) ops (ops.length : Int) (i : Int) o.f4 (o.f4.length : Int) (wrap64 ((j : Int) + 1))) (fun k => by simp only [diff_Weight.l1]; rw [if_pos (by omega), if_pos (by omega), if_pos (by omega)]) ?_
      rw [rd_at hlt]
      have hm := cnt_mem (List.getElem_mem hlt)
      refine Ev.bind (node_Count_ev _ (by omega)) ?_
      rw [wrap64_id (by omega) (by omega), wrap64_id (by omega) (by omega)]
      exact ihd (j + 1) (acc + cnt o.f4[j]) (by omega) (by omega) (by omega) (by omega) (by simpa [Int.add_assoc] using hR)
  have loop : ∀ (d i : Nat) (acc : Int), ops.length - i = d → i ≤ ops.length → 0 ≤ acc → acc ≤ 1000 * i → Ev (fun k => diff_Weight.l0 k acc ops (ops.length : Int) (i : Int)) (wgt (ops.drop i) acc) := by
    intro d
    induction d with
    | zero =>
      intro i acc hd hi h0 hb
      obtain rfl : i = ops.length := by omega
      refine Ev.step (f := fun _ => some (acc, 0)) (fun k => by simp only [diff_Weight.l0]; rw [if_neg (by omega)]) ?_
      rw [List.drop_length]
      exact Ev.now _
    | succ d ihd =>
      intro i acc hd hi h0 hb
      have hlt : i < ops.length := by omega
      rw [drop_at hlt]
      have ho := List.getElem_mem hlt
      have hco := hc _ ho
      generalize ho' : ops[i] = o at *
      have hrd : rd_T37 ops (i : Int) = o := by rw [rdo_at hlt, ho']
      have body : ∀ b : Bool, (b = true ↔ (o.f0 = 1 ∨ o.f0 = 2)) → Ev (fun k => diff_Weight.j1 k acc ops (ops.length : Int) (i : Int) o.f0 b o.f0 o.f1 o.f2 o.f3 o.f4 o.f5 o.f6 o.f7) (wgt (o :: ops.drop (i + 1)) acc) := by
        intro b hb'
        by_cases h12 : o.f0 = 1 ∨ o.f0 = 2
        · refine Ev.step (f := fun k => diff_Weight.l1 k acc ops (ops.length : Int) (i : Int) o.f4 (o.f4.length : Int) 0) (fun k => by simp only [diff_Weight.j1]; rw [if_pos (hb'.2 h12)]) ?_
          refine inner o i hlt ho _ _ 0 acc rfl (by omega) h0 (by simp; omega) ?_
          simp only [wgt]
          rw [if_pos h12]
          have := ihd (i + 1) (acc + cntL o.f4) (by omega) (by omega) (by omega) (by omega)
          simpa using this
        · have hbf : ¬ b = true := fun h => h12 (hb'.1 h)
          by_cases h5 : o.f0 = 5
          · refine Ev.step (f := fun k => diff_Weight.l0 k (wrap64 (acc + 1)) ops (ops.length : Int) (wrap64 ((i : Int) + 1))) (fun k => by simp only [diff_Weight.j1]; rw [if_neg hbf, if_pos h5]) ?_
            rw [wrap64_id (by omega) (by omega), wrap64_id (by omega) (by omega)]
            simp only [wgt]
            rw [if_neg h12, if_pos h5]
            have := ihd (i + 1) (acc + 1) (by omega) (by omega) (by omega) (by omega)
            simpa using this
          · refine Ev.step (f := fun _ => some (0, 1)) (fun k => by simp only [diff_Weight.j1]; rw [if_neg hbf, if_neg h5]) ?_
            simp only [wgt]
            rw [if_neg h12, if_neg h5]
            exact Ev.now _
      by_cases h1 : o.f0 = 1
      · refine Ev.step (f := fun k => diff_Weight.j1 k acc ops (ops.length : Int) (i : Int) o.f0 (o.f0 == 1) o.f0 o.f1 o.f2 o.f3 o.f4 o.f5 o.f6 o.f7) (fun k => by simp only [diff_Weight.l0]; rw [if_pos (by omega), if_pos (by omega), if_pos (by omega), hrd, if_pos h1]) ?_
        exact body _ (by simp [h1])
      · refine Ev.step (f := fun k => diff_Weight.j1 k acc ops (ops.length : Int) (i : Int) o.f0 (o.f0 == 2) o.f0 o.f1 o.f2 o.f3 o.f4 o.f5 o.f6 o.f7) (fun k => by simp only [diff_Weight.l0]; rw [if_pos (by omega), if_pos (by omega), if_pos (by omega), hrd, if_neg h1]) ?_
        exact body _ (by simp [h1])
  have := loop _ 0 0 rfl (by omega) (by omega) (by omega)
  simpa [diff_Weight.f] using this

theorem ref_Weight_ev (ops : List S37) (hl : ops.length ≤ 30) (hc : ∀ o, o ∈ ops → cntL o.f4 ≤ 1000) : Ev (fun k => vinculumref16_Weight.f k ops) (wgt ops 0) := by
  have inner : ∀ (o : S37) (i : Nat) (hi : i < ops.length), ops[i] = o → ∀ (R : Int × Int) (d j : Nat) (acc : Int), o.f4.length - j = d → j ≤ o.f4.length → 0 ≤ acc → acc + cntL (o.f4.drop j) ≤ 100000 →
      Ev (fun k => vinculumref16_Weight.l0 k ops (acc + cntL (o.f4.drop j)) ((i : Int) + 1)) R → Ev (fun k => vinculumref16_Weight.l1 k ops acc (i : Int) (j : Int)) R := by
    intro o i hi ho' R d
    have ho : o ∈ ops := ho' ▸ List.getElem_mem hi
    have hlen := length_le_cntL o.f4
    have hco := hc o ho
    have hrd : rd_T37 ops (i : Int) = o := by rw [rdo_at hi, ho']
    induction d with
    | zero =>
      intro j acc hd hj h0 hb hR
      obtain rfl : j = o.f4.length := by omega
      refine Ev.step (f := fun k => vinculumref16_Weight.l0 k ops acc (wrap64 ((i : Int) + 1))) (fun k => by simp only [vinculumref16_Weight.l1]; rw [if_pos (by omega), if_pos (by omega), hrd, if_neg (by omega)]) ?_
      rw [wrap64_id (by omega) (by omega)]
      rw [List.drop_length] at hR
      simpa [cntL] using hR
    | succ d ihd =>
      intro j acc hd hj h0 hb hR
      have hlt : j < o.f4.length := by omega
      rw [drop_at hlt] at hb hR
      simp only [cntL] at hb hR
      refine Ev.step (f := fun k => (vinculumref09_Count.f k (rd_T24 o.f4 j).f0 (rd_T24 o.f4 j).f1 (rd_T24 o.f4 j).f2 (rd_T24 o.f4 j).f3).bind fun t => vinculumref16_Weight.l1 k ops (wrap64 (acc + t)) (i : Int) (wrap64 ((j : Int) + 1))) (fun k => by simp only [vinculumref16_Weight.l1]; rw [if_pos (by omega), if_pos (by omega), hrd, if_pos (by omega), if_pos (by omega)]) ?_
      rw [rd_at hlt]
      have hm := cnt_mem (List.getElem_mem hlt)
      refine Ev.bind (vinculumref09_Count_ev _ (by omega)) ?_
      rw [wrap64_id (by omega) (by omega), wrap64_id (by omega) (by omega)]
      exact ihd (j + 1) (acc + cnt o.f4[j]) (by omega) (by omega) (by omega) (by omega) (by simpa [Int.add_assoc] using hR)
  have loop : ∀ (d i : Nat) (acc : Int), ops.length - i = d → i ≤ ops.length → 0 ≤ acc → acc ≤ 1000 * i → Ev (fun k => vinculumref16_Weight.l0 k ops acc (i : Int)) (wgt (ops.drop i) acc) := by
    intro d
    induction d with
    | zero =>
      intro i acc hd hi h0 hb
      obtain rfl : i = ops.length := by omega
      refine Ev.step (f := fun _ => some (acc, 0)) (fun k => by simp only [vinculumref16_Weight.l0]; rw [if_neg (by omega)]) ?_
      rw [List.drop_length]
      exact Ev.now _
    | succ d ihd =>
      intro i acc hd hi h0 hb
      have hlt : i < ops.length := by omega
      rw [drop_at hlt]
      have ho := List.getElem_mem hlt
      have hco := hc _ ho
      have inn := inner _ i hlt rfl
      generalize ho' : ops[i] = o at *
      have hrd : rd_T37 ops (i : Int) = o := by rw [rdo_at hlt, ho']
      have body : ∀ b : Bool, (b = true ↔ (o.f0 = 1 ∨ o.f0 = 2)) → Ev (fun k => vinculumref16_Weight.j1 k ops acc (i : Int) o.f0 b) (wgt (o :: ops.drop (i + 1)) acc) := by
        intro b hb'
        by_cases h12 : o.f0 = 1 ∨ o.f0 = 2
        · refine Ev.step (f := fun k => vinculumref16_Weight.l1 k ops acc (i : Int) 0) (fun k => by simp only [vinculumref16_Weight.j1]; rw [if_pos (hb'.2 h12)]) ?_
          refine inn _ _ 0 acc rfl (by omega) h0 (by simp; omega) ?_
          simp only [wgt]
          rw [if_pos h12]
          have := ihd (i + 1) (acc + cntL o.f4) (by omega) (by omega) (by omega) (by omega)
          simpa using this
        · have hbf : ¬ b = true := fun h => h12 (hb'.1 h)
          by_cases h5 : o.f0 = 5
          · refine Ev.step (f := fun k => vinculumref16_Weight.l0 k ops (wrap64 (acc + 1)) (wrap64 ((i : Int) + 1))) (fun k => by simp only [vinculumref16_Weight.j1]; rw [if_neg hbf, if_pos h5]) ?_
            rw [wrap64_id (by omega) (by omega), wrap64_id (by omega) (by omega)]
            simp only [wgt]
            rw [if_neg h12, if_pos h5]
            have := ihd (i + 1) (acc + 1) (by omega) (by omega) (by omega) (by omega)
            simpa using this
          · refine Ev.step (f := fun _ => some (0, 1)) (fun k => by simp only [vinculumref16_Weight.j1]; rw [if_neg hbf, if_neg h5]) ?_
            simp only [wgt]
            rw [if_neg h12, if_neg h5]
            exact Ev.now _
      by_cases h1 : o.f0 = 1
      · refine Ev.step (f := fun k => vinculumref16_Weight.j1 k ops acc (i : Int) o.f0 (o.f0 == 1)) (fun k => by simp only [vinculumref16_Weight.l0]; rw [if_pos (by omega), if_pos (by omega), hrd, if_pos h1]) ?_
        exact body _ (by simp [h1])
      · refine Ev.step (f := fun k => vinculumref16_Weight.j1 k ops acc (i : Int) o.f0 (o.f0 == 2)) (fun k => by simp only [vinculumref16_Weight.l0]; rw [if_pos (by omega), if_pos (by omega), hrd, if_neg h1]) ?_
        exact body _ (by simp [h1])
  have := loop _ 0 0 rfl (by omega) (by omega) (by omega)
  simpa [vinculumref16_Weight.f] using this

theorem DiffWeight : vinculumlaw16_DiffWeight.Pure := by
  rintro ops ⟨hl, hw⟩
  have hws : ∀ (o : S37), o ∈ ops → Wf24 ⟨1, ⟨#[]⟩, 0, o.f4⟩ := fun o ho => .mk (by decide) (by decide) (by decide) (hw o ho).w4.1 (hw o ho).w4.2
  suffices h : Ev (fun k => vinculumlaw16_DiffWeight.f k ops) true from h.rounds
  unfold vinculumlaw16_DiffWeight.f
  refine Ev.bind awake_ev ?_
  simp only [if_true]
  by_cases h30 : (ops.length : Int) > 30
  · simp only [if_pos h30]
    exact Ev.now _
  · simp only [if_neg h30]
    have loop : ∀ (d i : Nat), ops.length - i = d → i ≤ ops.length → (∀ (j : Nat) (hj : j < ops.length), j < i → cntL ops[j].f4 ≤ 1000) → Ev (fun k => vinculumlaw16_DiffWeight.l0 k ops (i : Int)) true := by
      intro d
      induction d with
      | zero =>
        intro i hd hi hc
        obtain rfl : i = ops.length := by omega
        refine Ev.step (f := fun k => (diff_Weight.f k ops).bind fun bt234 => ((vinculumref16_Weight.f k ops).bind fun bt236 => (if bt234.1 = bt236.1 then (some (bt234.2 == bt236.2)) else (some false)))) (fun k => by simp only [vinculumlaw16_DiffWeight.l0]; rw [if_neg (by omega)]) ?_
        have hc' : ∀ o, o ∈ ops → cntL o.f4 ≤ 1000 := by
          intro o ho
          obtain ⟨j, hj, rfl⟩ := List.getElem_of_mem ho
          exact hc j hj hj
        refine Ev.bind (diff_Weight_ev ops (by omega) hc') (Ev.bind (ref_Weight_ev ops (by omega) hc') ?_)
        simp only [if_true, beq_self_eq_true]
        exact Ev.now _
      | succ d ihd =>
        intro i hd hi hc
        have hlt : i < ops.length := by omega
        refine Ev.step (f := fun k => (vinculumref09_ToRow.f ((rd_T37 ops (i : Int)).f4)).bind fun bt239 => ((vinculumref09_Few.f k bt239.1 bt239.2.1 bt239.2.2.1 bt239.2.2.2 200).bind fun t245 => (if t245 = true then (vinculumlaw16_DiffWeight.l0 k ops (wrap64 ((i : Int) + 1))) else (some true)))) (fun k => by simp only [vinculumlaw16_DiffWeight.l0]; rw [if_pos (by omega), if_pos (by omega)]) ?_
        rw [rdo_at hlt]
        simp only [vinculumref09_ToRow.f, Option.bind_some]
        refine Ev.bind (vinculumref09_Few_ev ⟨1, ⟨#[]⟩, 0, ops[i].f4⟩ (hws _ (List.getElem_mem hlt)) 200 (by omega) (by omega)) ?_
        by_cases hf : ((cnt ⟨1, ⟨#[]⟩, 0, ops[i].f4⟩ : Nat) : Int) ≤ 200
        · simp only [decide_eq_true hf, if_true]
          rw [wrap64_id (by omega) (by omega)]
          refine ihd (i + 1) (by omega) (by omega) (fun j hj hji => ?_)
          by_cases e : j = i
          · subst e
            have := cnt_eq ⟨1, ⟨#[]⟩, 0, ops[j].f4⟩
            simp only at this
            omega
          · exact hc j hj (by omega)
        · simp only [decide_eq_false hf, Bool.false_eq_true, if_false]
          exact Ev.now _
    exact loop _ 0 rfl (by omega) (fun j hj h => by omega)
end Go.Proofs.YtihchehmkhnhaaaDoor.Pure
