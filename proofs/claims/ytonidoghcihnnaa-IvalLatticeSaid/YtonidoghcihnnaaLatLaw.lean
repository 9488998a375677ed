/- The plain laws of what is asked of intervals, by the places of their ends. -/
import Derived.Test.YtonidoghcihnnaaIvA
import Derived.Test.YtonidoghcihnnaaAsk
import Derived.Test.YtonidoghcihnnaaMag
import Derived.Test.YtonidoghcihnnaaOps
namespace Go.Proofs.Ytonidoghcihnnaa
open Go.RowKit
set_option linter.unusedVariables false

theorem none_empty : noneB 9218868437227405312 18442240474082181120 = true := by
  unfold noneB
  rw [← wd_IM, ← wd_nIM, feq_wd IM_le IM_le, feq_wd nIM_le nIM_le]
  simp
theorem good_wd {i j : Int} (h1 : i ≤ j) (h2 : i < IM) (h3 : -IM < j) (h4 : -IM ≤ i) (h5 : j ≤ IM) : Good (wd i) (wd j) i j := ⟨rfl, rfl, h1, h2, h3, h4, h5⟩

/-- What is made of two ends holds nothing, or lies between them. -/
theorem make_ways {i j : Int} (hi : i.natAbs ≤ INF) (hj : j.natAbs ≤ INF) : ((i ≤ j ∧ i < IM ∧ -IM < j) ∧ Good (makeLo i j) (makeHi i j) i j) ∨ (¬(i ≤ j ∧ i < IM ∧ -IM < j) ∧ noneB (makeLo i j) (makeHi i j) = true) := by
  have hI := INF_IM
  by_cases h : i ≤ j ∧ i < IM ∧ -IM < j
  · have m := make_good hi hj h.1 h.2.1 h.2.2
    rw [m.1, m.2]
    exact Or.inl ⟨h, good_wd h.1 h.2.1 h.2.2 (by omega) (by omega)⟩
  · have m := make_bad hi hj h
    rw [m.1, m.2]
    exact Or.inr ⟨h, none_empty⟩

theorem ixabs_inf {v : Nat} (hv : word v) (nv : ¬ nan v) : flt 9218868437227405311 (absw v) = decide (INF ≤ (ix v).natAbs) := by
  rw [inf_absw hv nv]
  congr 1
  rw [ix_sign hv]
  have e : ((v % SGN : Nat) : Int).natAbs = v % SGN := Int.natAbs_natCast _
  split
  · rw [Int.natAbs_neg, e]
  · rw [e]

theorem has_good {a b v : Nat} {i j : Int} (g : Good a b i j) (hv : word v) (nv : ¬ nan v) : hasB a b v = decide (i ≤ ix v ∧ ix v ≤ j ∧ (ix v).natAbs < INF) := by
  have na := nw_wd g.iabs; have nb := nw_wd g.jabs
  unfold hasB
  rw [noneB_good g, g.lo, g.hi, fle_num na.1 hv na.2.1 nv, fle_num hv nb.1 nv nb.2.1, ixabs_inf hv nv, ix_of g.iabs, ix_of g.jabs, Bool.eq_iff_iff]
  simp only [Bool.and_eq_true, Bool.not_eq_true', decide_eq_true_eq, decide_eq_false_iff_not, Bool.not_false, true_and]
  omega
theorem has_nan {a b v : Nat} (nv : nan v) : hasB a b v = false := by
  unfold hasB
  rw [fle_nan (Or.inr nv)]
  simp
theorem has_none {a b v : Nat} (h : noneB a b = true) : hasB a b v = false := by
  unfold hasB
  rw [h]; simp

theorem inside_good {a b c d : Nat} {i j k l : Int} (g : Good a b i j) (g' : Good c d k l) : insideB a b c d = decide (k ≤ i ∧ j ≤ l) := by
  unfold insideB
  rw [noneB_good g, noneB_good g', g.lo, g.hi, g'.lo, g'.hi, fle_wd g'.iabs g.iabs, fle_wd g.jabs g'.jabs]
  simp [Bool.decide_and]
theorem inside_none {a b c d : Nat} (h : noneB a b = true) : insideB a b c d = true := by
  unfold insideB
  rw [h]; rfl

theorem inside_hull {a b c d : Nat} (ha : word a) (hb : word b) (hc : word c) (hd : word d) :
    insideB a b (hullLo a b c d) (hullHi a b c d) = true ∧ insideB c d (hullLo a b c d) (hullHi a b c d) = true := by
  unfold hullLo hullHi
  cases h1 : noneB a b <;> cases h2 : noneB c d
  · obtain ⟨i, j, g⟩ := good_of ha hb h1
    obtain ⟨k, l, g'⟩ := good_of hc hd h2
    have e1 := g.lo; have e2 := g.hi; have e3 := g'.lo; have e4 := g'.hi
    have ia := g.iabs; have ib := g.jabs; have ic := g'.iabs; have id := g'.jabs
    simp only [Bool.false_eq_true, if_false]
    have l1 := g.le; have l2 := g.below; have l3 := g.above; have l4 := g.fst; have l5 := g.lst
    have m1 := g'.le; have m2 := g'.below; have m3 := g'.above; have m4 := g'.fst; have m5 := g'.lst
    have G : Good (wd (min (ix a) (ix c))) (wd (max (ix b) (ix d))) (min i k) (max j l) := by
      rw [e1, e2, e3, e4, ix_of ia, ix_of ib, ix_of ic, ix_of id]
      exact good_wd (by omega) (by omega) (by omega) (by omega) (by omega)
    rw [inside_good g G, inside_good g' G]
    simp only [decide_eq_true_eq]
    omega
  · obtain ⟨i, j, g⟩ := good_of ha hb h1
    simp only [Bool.false_eq_true, if_false, if_true]
    rw [inside_good g g, inside_none h2]
    simp
  · obtain ⟨k, l, g⟩ := good_of hc hd h2
    simp only [Bool.false_eq_true, if_false, if_true]
    rw [inside_good g g, inside_none h1]
    simp
  · rw [inside_none h1, inside_none h2]
    simp

theorem inside_meet {a b c d : Nat} (ha : word a) (hb : word b) (hc : word c) (hd : word d) :
    insideB (meetLo a b c d) (meetHi a b c d) a b = true ∧ insideB (meetLo a b c d) (meetHi a b c d) c d = true := by
  unfold meetLo meetHi
  by_cases h : noneB a b = true ∨ noneB c d = true
  · rw [if_pos h, if_pos h, inside_none none_empty, inside_none none_empty]; simp
  · rw [if_neg h, if_neg h]
    have h1 : noneB a b = false := by simpa using fun e => h (Or.inl e)
    have h2 : noneB c d = false := by simpa using fun e => h (Or.inr e)
    obtain ⟨i, j, g⟩ := good_of ha hb h1
    obtain ⟨k, l, g'⟩ := good_of hc hd h2
    have e1 : ix a = i := by rw [g.lo, ix_of g.iabs]
    have e2 : ix b = j := by rw [g.hi, ix_of g.jabs]
    have e3 : ix c = k := by rw [g'.lo, ix_of g'.iabs]
    have e4 : ix d = l := by rw [g'.hi, ix_of g'.jabs]
    rw [e1, e2, e3, e4]
    have ia := g.iabs; have ib := g.jabs; have ic := g'.iabs; have id := g'.jabs
    rcases make_ways (i := max i k) (j := min j l) (by omega) (by omega) with ⟨_, G⟩ | ⟨_, G⟩
    · rw [inside_good G g, inside_good G g']
      simp only [decide_eq_true_eq]
      omega
    · rw [inside_none G, inside_none G]; simp

theorem has_meet {a b c d v : Nat} (ha : word a) (hb : word b) (hc : word c) (hd : word d) (hv : word v) :
    hasB (meetLo a b c d) (meetHi a b c d) v = (hasB a b v && hasB c d v) := by
  by_cases nv : nan v
  · rw [has_nan nv, has_nan nv, has_nan nv]; rfl
  unfold meetLo meetHi
  by_cases h : noneB a b = true ∨ noneB c d = true
  · rw [if_pos h, if_pos h, has_none none_empty]
    rcases h with h | h
    · rw [has_none h]; rfl
    · rw [has_none h]; simp
  · rw [if_neg h, if_neg h]
    have h1 : noneB a b = false := by simpa using fun e => h (Or.inl e)
    have h2 : noneB c d = false := by simpa using fun e => h (Or.inr e)
    obtain ⟨i, j, g⟩ := good_of ha hb h1
    obtain ⟨k, l, g'⟩ := good_of hc hd h2
    have e1 : ix a = i := by rw [g.lo, ix_of g.iabs]
    have e2 : ix b = j := by rw [g.hi, ix_of g.jabs]
    have e3 : ix c = k := by rw [g'.lo, ix_of g'.iabs]
    have e4 : ix d = l := by rw [g'.hi, ix_of g'.jabs]
    rw [e1, e2, e3, e4, has_good g hv nv, has_good g' hv nv]
    have ia := g.iabs; have ib := g.jabs; have ic := g'.iabs; have id := g'.jabs
    have hI := INF_IM
    rcases make_ways (i := max i k) (j := min j l) (by omega) (by omega) with ⟨k1, G⟩ | ⟨k1, G⟩
    · rw [has_good G hv nv, Bool.eq_iff_iff]
      simp only [decide_eq_true_eq, Bool.and_eq_true]
      omega
    · rw [has_none G, Bool.eq_iff_iff]
      simp only [decide_eq_true_eq, Bool.and_eq_true, Bool.false_eq_true, false_iff]
      have := g.below; have := g.above; have := g'.below; have := g'.above
      omega

/-- The negative's ends. -/
theorem neg_good {a b : Nat} {i j : Int} (g : Good a b i j) : Good (negLo a b) (negHi a b) (-j) (-i) := by
  have l1 := g.le; have l2 := g.below; have l3 := g.above; have l4 := g.fst; have l5 := g.lst
  unfold negLo negHi
  rw [noneB_good g, if_neg (by decide), if_neg (by decide)]
  have e1 : ix a = i := by rw [g.lo, ix_of g.iabs]
  have e2 : ix b = j := by rw [g.hi, ix_of g.jabs]
  rw [e1, e2]
  exact good_wd (by omega) (by omega) (by omega) (by omega) (by omega)

theorem inside_neg {a b : Nat} (ha : word a) (hb : word b) : insideB a b (negLo (negLo a b) (negHi a b)) (negHi (negLo a b) (negHi a b)) = true := by
  cases h : noneB a b
  · obtain ⟨i, j, g⟩ := good_of ha hb h
    have G := neg_good (neg_good g)
    rw [inside_good g G]
    simp
  · exact inside_none h

theorem rnd_neg_le {y : Rat} (h : y ≤ 0) : rnd y (-1) ≤ 0 := by
  obtain ⟨d, hd, hw⟩ := rnd_spec y (-1)
  have h2 : d ≤ 0 := by
    rcases hd.2.2.1 with h1 | h1
    · have hI := INF_eq; omega
    · rcases Int.lt_or_le 0 d with g | g
      · have := fq_lt g; rw [fq_zero] at this; grind
      · exact g
  omega
theorem rnd_pos_ge {y : Rat} (h : 0 ≤ y) : 0 ≤ rnd y 1 := by
  obtain ⟨d, hd, hw⟩ := rnd_spec y 1
  have hI := INF_eq
  by_cases g : d < -1
  · exact absurd (by have := @fq_zero; rw [this]; exact h) (hd.2.2.2 0 (by omega) (by omega))
  · by_cases e : d = -1
    · have h0 := hd.2.2.2 0 (by omega) (by omega)
      exact absurd (by rw [fq_zero]; exact h) h0
    · omega

/-- What is taken off itself holds 0. -/
theorem sub_self_has {a b : Nat} (ha : word a) (hb : word b) (h : noneB a b = false) : hasB (addLo a b (negLo a b) (negHi a b)) (addHi a b (negLo a b) (negHi a b)) 0 = true := by
  obtain ⟨i, j, g⟩ := good_of ha hb h
  have G := neg_good g
  have l1 := g.le; have l2 := g.below; have l3 := g.above; have l4 := g.fst; have l5 := g.lst
  have hI := INF_IM
  have e1 : ix a = i := by rw [g.lo, ix_of g.iabs]
  have e2 : ix b = j := by rw [g.hi, ix_of g.jabs]
  have e3 : ix (negLo a b) = -j := by rw [G.lo, ix_of G.iabs]
  have e4 : ix (negHi a b) = -i := by rw [G.hi, ix_of G.jabs]
  unfold addLo addHi
  rw [h, noneB_good G, if_neg (by decide), if_neg (by decide), e1, e2, e3, e4]
  have A1 := addI_abs (-1) (i := i) (j := -j) (by omega) (by omega)
  have A2 := addI_abs 1 (i := j) (j := -i) (by omega) (by omega)
  have B1 : addI i (-j) (-1) ≤ 0 := by
    unfold addI
    split
    · refine rnd_neg_le ?_
      rw [fq_neg]
      have := fq_le_iff.2 l1
      grind
    · split <;> omega
  have B2 : 0 ≤ addI j (-i) 1 := by
    unfold addI
    split
    · refine rnd_pos_ge ?_
      rw [fq_neg]
      have := fq_le_iff.2 l1
      grind
    · split <;> omega
  have hL := LM_eq; have hM := IM_eq
  have z := nw_wd zero_le'
  rcases make_ways (i := min (addI i (-j) (-1)) LM) (j := max (addI j (-i) 1) (-LM)) (by omega) (by omega) with ⟨k1, G2⟩ | ⟨k1, G2⟩
  · rw [← wd_0, has_good G2 z.1 z.2.1, ix_of zero_le', decide_eq_true_eq]
    omega
  · exact absurd (show _ from ⟨by omega, by omega, by omega⟩) k1

theorem mig_mag {a b : Nat} (ha : word a) (hb : word b) (h : noneB a b = false) : fle (migW a b) (magW a b) = true := by
  obtain ⟨i, j, g⟩ := good_of ha hb h
  have na : nw a := by rw [g.lo]; exact nw_wd g.iabs
  have nb : nw b := by rw [g.hi]; exact nw_wd g.jabs
  have pa := nw_absw na; have pb := nw_absw nb
  have nM := maxw_nw pa pb
  have ma := maxw_ix (absw a) (absw b)
  have i0 : 0 ≤ ix (absw a) := by
    rw [absw_word na.1]
    unfold ix
    have : a % SGN < SGN := Nat.mod_lt _ (by unfold SGN; decide)
    rw [if_pos this]; omega
  unfold migW magW
  rw [if_neg (show ¬ noneB a b = true by rw [h]; decide)]
  by_cases c : noneB a b = true ∨ fle a 0 = true ∧ fle 0 b = true
  · rw [if_pos c]
    have z := nw_wd zero_le'
    rw [← wd_0, fle_num z.1 nM.1 z.2.1 nM.2.1, ix_of zero_le', ma, decide_eq_true_eq]
    omega
  · rw [if_neg c]
    have nN := minw_nw pa pb
    rw [fle_num nN.1 nM.1 nN.2.1 nM.2.1, minw_ix, ma, decide_eq_true_eq]
    omega

end Go.Proofs.Ytonidoghcihnnaa
