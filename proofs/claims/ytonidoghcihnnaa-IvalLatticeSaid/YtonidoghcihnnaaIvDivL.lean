/- What ival's Div makes. -/
import Derived.Test.YtonidoghcihnnaaIvDiv
import Derived.Test.YtonidoghcihnnaaLatLaw
namespace Go.Proofs.Ytonidoghcihnnaa
open Go.RowKit
set_option linter.unusedVariables false

def divN (x y : Nat) : Bool := decide ((ix x).natAbs < INF ∨ (ix y).natAbs < INF)
noncomputable def divD (x y : Nat) : Int := divI (ix x) (ix y) (-1)
noncomputable def divU (x y : Nat) : Int := divI (ix x) (ix y) 1

/-- By what is above 0, from 0 on. -/
noncomputable def posEnds (i j l : Int) : Int × Int := if 0 ≤ i then (divI i l (-1), IM) else (-IM, divI j l 1)
noncomputable def divEnds (a b c d : Nat) : Int × Int :=
  if 0 < ix c ∨ ix d < 0 then corn divN divD divU a b c d
  else if (ix c < 0 ∧ 0 < ix d) ∨ (ix a < 0 ∧ 0 < ix b) then (-IM, IM)
  else if ix c < 0 then posEnds (-ix b) (-ix a) (-ix c) else posEnds (ix a) (ix b) (ix d)
theorem posEnds_fit (i j l : Int) : cfit (posEnds i j l) := by
  have h1 := IM_le; have h2 := nIM_le
  unfold posEnds cfit
  split
  · exact ⟨divI_abs _ _ _, h1⟩
  · exact ⟨h2, divI_abs _ _ _⟩
theorem corn_fit {N : Nat → Nat → Bool} {D U : Nat → Nat → Int} (a b c d : Nat) (hD : ∀ x y, (D x y).natAbs ≤ INF) (hU : ∀ x y, (U x y).natAbs ≤ INF) : cfit (corn N D U a b c d) := by
  unfold corn
  exact cstep_fit (cstep_fit (cstep_fit (cstep_fit ⟨IM_le, nIM_le⟩ (hD _ _) (hU _ _)) (hD _ _) (hU _ _)) (hD _ _) (hU _ _)) (hD _ _) (hU _ _)
theorem divEnds_fit (a b c d : Nat) : cfit (divEnds a b c d) := by
  unfold divEnds
  split
  · exact corn_fit _ _ _ _ (fun _ _ => divI_abs _ _ _) (fun _ _ => divI_abs _ _ _)
  · split
    · exact ⟨nIM_le, IM_le⟩
    · split
      · exact posEnds_fit _ _ _
      · exact posEnds_fit _ _ _

@[irreducible] noncomputable def divLo (a b c d : Nat) : Nat := if noneB a b = true ∨ noneB c d = true ∨ (ix c = 0 ∧ ix d = 0) then 9218868437227405312 else if ix a = 0 ∧ ix b = 0 then 0 else makeLo (min (divEnds a b c d).1 LM) (max (divEnds a b c d).2 (-LM))
@[irreducible] noncomputable def divHi (a b c d : Nat) : Nat := if noneB a b = true ∨ noneB c d = true ∨ (ix c = 0 ∧ ix d = 0) then 18442240474082181120 else if ix a = 0 ∧ ix b = 0 then 0 else makeHi (min (divEnds a b c d).1 LM) (max (divEnds a b c d).2 (-LM))

theorem good_nw {a b : Nat} {i j : Int} (g : Good a b i j) : nw a ∧ nw b ∧ ix a = i ∧ ix b = j := by
  have na : nw a := by rw [g.lo]; exact nw_wd g.iabs
  have nb : nw b := by rw [g.hi]; exact nw_wd g.jabs
  exact ⟨na, nb, by rw [g.lo, ix_of g.iabs], by rw [g.hi, ix_of g.jabs]⟩
theorem flt_0 {a : Nat} (h : nw a) : flt a 0 = decide (ix a < 0) ∧ flt 0 a = decide (0 < ix a) ∧ fle 0 a = decide (0 ≤ ix a) := by
  have z := nw_wd zero_le'
  rw [← wd_0, flt_num h.1 z.1 h.2.1 z.2.1, flt_num z.1 h.1 z.2.1 h.2.1, fle_num z.1 h.1 z.2.1 h.2.1, ix_of zero_le']
  exact ⟨rfl, rfl, rfl⟩
theorem two_feq {a b : Nat} (ha : nw a) (hb : nw b) (h : ¬ (ix a = 0 ∧ ix b = 0)) : (feq a 0 && feq b 0) = false := by
  rw [feq_0 ha.1 ha.2.1, feq_0 hb.1 hb.2.1, ← Bool.decide_and]
  exact decide_eq_false h
theorem two_flt {a b : Nat} (ha : nw a) (hb : nw b) (h : ¬ (ix a < 0 ∧ 0 < ix b)) : (flt a 0 && flt 0 b) = false := by
  rw [(flt_0 ha).1, (flt_0 hb).2.1, ← Bool.decide_and]
  exact decide_eq_false h

theorem ends_pair {s : Int × Int} (h : cfit s) (w : World) : Calls Try.prog 67 #[.float .f64 (wd s.1), .float .f64 (wd s.2)] w fun e w' => e = .returned (.agg #[.float .f64 (makeLo (min s.1 LM) (max s.2 (-LM))), .float .f64 (makeHi (min s.1 LM) (max s.2 (-LM)))]) ∧ Below w.heap.size w w' := by
  have hm := ends_any _ _ w (nw_wd h.1) (nw_wd h.2)
  rw [ix_of h.1, ix_of h.2] at hm
  exact hm

theorem makes_div {x y : Nat} (hx : nw x) (hy : nw y) (h : ix y ≠ 0) (dir : Int) (d1 : -1 ≤ dir) (d2 : dir ≤ 1) : Makes divN (fun x y => divI (ix x) (ix y) dir) 71 dir x y := by
  intro w
  by_cases hn : finw x ∨ finw y
  · refine (ulpDiv_any x y dir w hx.1 hx.2.1 hy.1 hy.2.1 h hn d1 d2).mono ?_
    rintro e w' ⟨rfl, hb⟩
    refine ⟨⟨_, rfl, fun _ => rfl, fun h2 => ?_⟩, hb⟩
    unfold divN at h2
    rw [fin_iff hx.1 hx.2.1, fin_iff hy.1 hy.2.1] at hn
    rw [decide_eq_true hn] at h2
    cases h2
  · refine (ulpDiv_nan x y dir w hx.1 hx.2.1 hy.1 hy.2.1 (fun g => hn (Or.inl g)) (fun g => hn (Or.inr g))).mono ?_
    rintro e w' ⟨⟨r, rfl, h1, _⟩, hb⟩
    refine ⟨⟨r, rfl, fun h2 => ?_, fun _ => h1⟩, hb⟩
    unfold divN at h2
    rw [fin_iff hx.1 hx.2.1, fin_iff hy.1 hy.2.1] at hn
    rw [decide_eq_false hn] at h2
    cases h2

theorem div_pos {a b c d : Nat} {i j k l : Int} (g : Good a b i j) (g' : Good c d k l) (hk : k = 0) (hl : 0 < l) (hx : ¬ (i = 0 ∧ j = 0)) (hn : ¬ (i < 0 ∧ 0 < j)) (w : World) :
    Calls Try.prog 34 #[(.agg #[.float .f64 a, .float .f64 b]), (.agg #[.float .f64 c, .float .f64 d])] w fun e w' => e = .returned (.agg #[.float .f64 (makeLo (min (posEnds i j l).1 LM) (max (posEnds i j l).2 (-LM))), .float .f64 (makeHi (min (posEnds i j l).1 LM) (max (posEnds i j l).2 (-LM)))]) ∧ Below w.heap.size w w' := by
  obtain ⟨na, nb, ea, eb⟩ := good_nw g
  obtain ⟨nc, nd, ec, ed⟩ := good_nw g'
  have h : (noneB a b || noneB c d) = false := by rw [noneB_good g, noneB_good g']; rfl
  have hp := two_feq nc nd (by rw [ec, ed]; omega)
  have hq := two_feq na nb (by rw [ea, eb]; exact hx)
  have f1 := (flt_0 nc).2.1; have f2 := (flt_0 nd).1; have f3 := (flt_0 nc).1
  rw [ec, decide_eq_false (by omega)] at f1 f3
  rw [ed, decide_eq_false (by omega)] at f2
  have f4 := (flt_0 na).1; have f5 := (flt_0 na).2.2; have f6 := (flt_0 nb).2.1
  rw [ea] at f4 f5
  rw [eb] at f6
  have hI := INF_IM
  have m1 := g.le; have m2 := g.below; have m3 := g.above; have m4 := g.fst; have m5 := g.lst
  by_cases hi : 0 ≤ i
  · rw [decide_eq_false (by omega)] at f4
    rw [decide_eq_true hi] at f5
    have hv := fun w => ulpDiv_any a d (-1) w na.1 na.2.1 nd.1 nd.2.1 (by omega) (Or.inl ((fin_iff na.1 na.2.1).2 (by omega))) (by omega) (by omega)
    rw [ea, ed] at hv
    have fit := posEnds_fit i j l
    have hm := fun w => ends_pair fit w
    have e0 : posEnds i j l = (divI i l (-1), IM) := by unfold posEnds; rw [if_pos hi]
    rw [e0] at hm ⊢
    dsimp only at hm ⊢
    rw [wd_IM] at hm
    exact div_walk6 a b c d _ _ _ w h hp hq f1 f2 f3 f4 f5 hv hm
  · rw [decide_eq_true (by omega)] at f4
    rw [decide_eq_false hi] at f5
    rw [decide_eq_false (by omega)] at f6
    have hv := fun w => ulpDiv_any b d 1 w nb.1 nb.2.1 nd.1 nd.2.1 (by omega) (Or.inl ((fin_iff nb.1 nb.2.1).2 (by omega))) (by omega) (by omega)
    rw [eb, ed] at hv
    have fit := posEnds_fit i j l
    have hm := fun w => ends_pair fit w
    have e0 : posEnds i j l = (-IM, divI j l 1) := by unfold posEnds; rw [if_neg hi]
    rw [e0] at hm ⊢
    dsimp only at hm ⊢
    rw [wd_nIM] at hm
    exact div_walk7 a b c d _ _ _ w h hp hq f1 f2 f3 f4 f5 f6 hv hm

theorem div_any (a b c d : Nat) (w : World) (ha : word a) (hb : word b) (hc : word c) (hd : word d) :
    Calls Try.prog 34 #[(.agg #[.float .f64 a, .float .f64 b]), (.agg #[.float .f64 c, .float .f64 d])] w fun e w' => e = .returned (.agg #[.float .f64 (divLo a b c d), .float .f64 (divHi a b c d)]) ∧ Below w.heap.size w w' := by
  unfold divLo divHi
  by_cases h0 : noneB a b = true ∨ noneB c d = true
  · rw [if_pos (h0.elim Or.inl (fun h => Or.inr (Or.inl h))), if_pos (h0.elim Or.inl (fun h => Or.inr (Or.inl h)))]
    exact div_walk0 a b c d w (by simpa using h0)
  have h1 : noneB a b = false := by simpa using fun e => h0 (Or.inl e)
  have h2 : noneB c d = false := by simpa using fun e => h0 (Or.inr e)
  have h : (noneB a b || noneB c d) = false := by rw [h1, h2]; rfl
  obtain ⟨i, j, g⟩ := good_of ha hb h1
  obtain ⟨k, l, g'⟩ := good_of hc hd h2
  obtain ⟨na, nb, ea, eb⟩ := good_nw g
  obtain ⟨nc, nd, ec, ed⟩ := good_nw g'
  by_cases hy : ix c = 0 ∧ ix d = 0
  · rw [if_pos (Or.inr (Or.inr hy)), if_pos (Or.inr (Or.inr hy))]
    exact div_walk1 a b c d w h (by rw [feq_0 nc.1 nc.2.1, decide_eq_true hy.1]) (by rw [feq_0 nd.1 nd.2.1, decide_eq_true hy.2])
  have hno : ¬ (noneB a b = true ∨ noneB c d = true ∨ (ix c = 0 ∧ ix d = 0)) := fun x => by
    rcases x with x | x | x
    · rw [h1] at x; cases x
    · rw [h2] at x; cases x
    · exact hy x
  rw [if_neg hno, if_neg hno]
  have hp := two_feq nc nd hy
  by_cases hx : ix a = 0 ∧ ix b = 0
  · rw [if_pos hx, if_pos hx]
    exact div_walk2 a b c d w h hp (by rw [feq_0 na.1 na.2.1, decide_eq_true hx.1]) (by rw [feq_0 nb.1 nb.2.1, decide_eq_true hx.2])
  rw [if_neg hx, if_neg hx]
  have hq := two_feq na nb hx
  have hI := INF_IM
  have m1 := g.le; have m2 := g.below; have m3 := g.above; have m4 := g.fst; have m5 := g.lst
  have n1 := g'.le; have n2 := g'.below; have n3 := g'.above; have n4 := g'.fst; have n5 := g'.lst
  have f1 := (flt_0 nc).2.1; have f2 := (flt_0 nd).1; have f3 := (flt_0 nc).1; have f4 := (flt_0 nd).2.1
  have hfit := divEnds_fit a b c d
  by_cases c1 : 0 < ix c ∨ ix d < 0
  · have hm := fun w => ends_pair hfit w
    have e0 : divEnds a b c d = corn divN divD divU a b c d := by unfold divEnds; rw [if_pos c1]
    rw [e0] at hm ⊢
    have hy0 : ∀ y, y = c ∨ y = d → nw y ∧ ix y ≠ 0 := fun y hy => by
      rcases hy with rfl | rfl
      · exact ⟨nc, by omega⟩
      · exact ⟨nd, by omega⟩
    have hx0 : ∀ x, x = a ∨ x = b → nw x := fun x hx => by rcases hx with rfl | rfl <;> assumption
    have hc := fun w => corners_div a b c d divN divD divU w (fun _ _ => divI_abs _ _ _) (fun _ _ => divI_abs _ _ _) (fun x y hx hy => makes_div (hx0 x hx) (hy0 y hy).1 (hy0 y hy).2 (-1) (by omega) (by omega)) (fun x y hx hy => makes_div (hx0 x hx) (hy0 y hy).1 (hy0 y hy).2 1 (by omega) (by omega)) _ _ hm
    by_cases c2 : 0 < ix c
    · rw [decide_eq_true c2] at f1
      exact div_walk3 a b c d _ _ w h hp hq f1 hc
    · rw [decide_eq_false c2] at f1
      rw [decide_eq_true (by omega)] at f2
      exact div_walk3' a b c d _ _ w h hp hq f1 f2 hc
  have f1' : flt 0 c = false := by rw [f1]; exact decide_eq_false (by omega)
  have f2' : flt d 0 = false := by rw [f2]; exact decide_eq_false (by omega)
  by_cases c3 : (ix c < 0 ∧ 0 < ix d) ∨ (ix a < 0 ∧ 0 < ix b)
  · have e0 : divEnds a b c d = (-IM, IM) := by unfold divEnds; rw [if_neg c1, if_pos c3]
    rw [e0]
    dsimp only
    have hL := LM_eq; have hM := IM_eq
    have mg := make_good (i := min (-IM) LM) (j := max IM (-LM)) (by omega) (by omega) (by omega) (by omega) (by omega)
    rw [mg.1, mg.2, show min (-IM) LM = -IM by omega, show max IM (-LM) = IM by omega, wd_nIM, wd_IM]
    by_cases c4 : ix c < 0 ∧ 0 < ix d
    · exact div_walk4 a b c d w h hp hq f1' f2' (by rw [f3]; exact decide_eq_true c4.1) (by rw [f4]; exact decide_eq_true c4.2)
    · have c5 : ix a < 0 ∧ 0 < ix b := by omega
      exact div_walk4' a b c d w h hp hq f1' f2' (two_flt nc nd c4) (by rw [(flt_0 na).1]; exact decide_eq_true c5.1) (by rw [(flt_0 nb).2.1]; exact decide_eq_true c5.2)
  by_cases c6 : ix c < 0
  · have e0 : divEnds a b c d = posEnds (-ix b) (-ix a) (-ix c) := by unfold divEnds; rw [if_neg c1, if_neg c3, if_pos c6]
    rw [e0, ea, eb, ec]
    have G := neg_good g; have G' := neg_good g'
    exact div_walk5 a b c d _ _ _ _ _ _ w h hp hq f1' f2' (by rw [f3]; exact decide_eq_true c6) (by rw [f4]; exact decide_eq_false (by omega)) (two_flt na nb (by omega)) (fun w => neg_any a b w ha hb) (fun w => neg_any c d w hc hd)
      (fun w => div_pos G G' (by omega) (by omega) (by omega) (by omega) w)
  · have e0 : divEnds a b c d = posEnds (ix a) (ix b) (ix d) := by unfold divEnds; rw [if_neg c1, if_neg c3, if_neg c6]
    rw [e0, ea, eb, ed]
    exact div_pos g g' (by omega) (by omega) (by omega) (by omega) w

theorem divLo_word {a b c d : Nat} (ha : word a) (hb : word b) (hc : word c) (hd : word d) : word (divLo a b c d) ∧ word (divHi a b c d) := by
  have hfit := divEnds_fit a b c d
  have hL := LM_eq; have hI := INF_IM; have hM := IM_eq
  unfold divLo divHi
  split
  · unfold word SGN; exact ⟨by decide, by decide⟩
  · split
    · unfold word SGN; exact ⟨by decide, by decide⟩
    · have f1 := hfit.1; have f2 := hfit.2
      rcases make_ways (i := min (divEnds a b c d).1 LM) (j := max (divEnds a b c d).2 (-LM)) (by omega) (by omega) with ⟨k1, G⟩ | ⟨k1, _⟩
      · have := good_nw G; exact ⟨this.1.1, this.2.1.1⟩
      · have m := make_bad (i := min (divEnds a b c d).1 LM) (j := max (divEnds a b c d).2 (-LM)) (by omega) (by omega) k1
        rw [m.1, m.2]; unfold word SGN; exact ⟨by decide, by decide⟩

/-- The place of 1. -/
def ONE : Int := 4607182418800017408
theorem ONE_eq : ONE = 4607182418800017408 := rfl
theorem fq_one : fq ONE = 1 := by
  have h := vq_one
  unfold vq at h
  rw [ix_nat (by rw [INF_eq]; decide)] at h
  exact h
theorem div_one {i dir : Int} (h0 : i ≠ 0) (h : i.natAbs < INF) : divI i i dir = ONE := by
  unfold divI
  rw [if_pos h, if_pos h]
  have hz : fq i ≠ 0 := fun g => h0 (fq_inj (by rw [g, fq_zero]))
  rw [Rat.div_def, Rat.mul_inv_cancel _ hz, ← fq_one]
  exact rnd_of (rnd_refl (by rw [ONE_eq, INF_eq]; decide))

theorem cstep_le {N : Nat → Nat → Bool} {D U : Nat → Nat → Int} {s : Int × Int} {x y : Nat} : (cstep N D U s x y).1 ≤ s.1 ∧ s.2 ≤ (cstep N D U s x y).2 := by
  unfold cstep; split
  · dsimp only; omega
  · omega
theorem cstep_hit {N : Nat → Nat → Bool} {D U : Nat → Nat → Int} {s : Int × Int} {x y : Nat} (h : N x y = true) : (cstep N D U s x y).1 ≤ D x y ∧ U x y ≤ (cstep N D U s x y).2 := by
  unfold cstep; rw [if_pos h]; dsimp only; omega

/-- What is divided by itself holds 1. -/
theorem div_self_has {a b : Nat} (ha : word a) (hb : word b) (h : noneB a b = false) (h0 : ¬ (ix a = 0 ∧ ix b = 0)) : hasB (divLo a b a b) (divHi a b a b) 4607182418800017408 = true := by
  obtain ⟨i, j, g⟩ := good_of ha hb h
  obtain ⟨na, nb, ea, eb⟩ := good_nw g
  have m1 := g.le; have m2 := g.below; have m3 := g.above; have m4 := g.fst; have m5 := g.lst
  have hI := INF_IM; have hL := LM_eq; have hM := IM_eq; have hO := ONE_eq
  have hno : ¬ (noneB a b = true ∨ noneB a b = true ∨ (ix a = 0 ∧ ix b = 0)) := fun x => by
    rcases x with x | x | x
    · rw [h] at x; cases x
    · rw [h] at x; cases x
    · exact h0 x
  have hfit := divEnds_fit a b a b
  unfold divLo divHi
  rw [if_neg hno, if_neg hno, if_neg h0, if_neg h0]
  have key : (divEnds a b a b).1 ≤ ONE ∧ ONE ≤ (divEnds a b a b).2 := by
    unfold divEnds
    by_cases c1 : 0 < ix a ∨ ix b < 0
    · rw [if_pos c1]
      by_cases fa : i.natAbs < INF
      · have s1 : divN a a = true := by unfold divN; rw [ea]; exact decide_eq_true (Or.inl fa)
        have e1 : divD a a = ONE := by unfold divD; rw [ea]; exact div_one (by omega) fa
        have e2 : divU a a = ONE := by unfold divU; rw [ea]; exact div_one (by omega) fa
        unfold corn
        have t1 := @cstep_hit divN divD divU (IM, -IM) a a s1
        have t2 := @cstep_le divN divD divU (cstep divN divD divU (IM, -IM) a a) a b
        have t3 := @cstep_le divN divD divU (cstep divN divD divU (cstep divN divD divU (IM, -IM) a a) a b) b a
        have t4 := @cstep_le divN divD divU (cstep divN divD divU (cstep divN divD divU (cstep divN divD divU (IM, -IM) a a) a b) b a) b b
        rw [e1, e2] at t1
        omega
      · have fb : j.natAbs < INF := by omega
        have s1 : divN b b = true := by unfold divN; rw [eb]; exact decide_eq_true (Or.inl fb)
        have e1 : divD b b = ONE := by unfold divD; rw [eb]; exact div_one (by omega) fb
        have e2 : divU b b = ONE := by unfold divU; rw [eb]; exact div_one (by omega) fb
        unfold corn
        have t4 := @cstep_hit divN divD divU (cstep divN divD divU (cstep divN divD divU (cstep divN divD divU (IM, -IM) a a) a b) b a) b b s1
        rw [e1, e2] at t4
        exact t4
    · rw [if_neg c1]
      by_cases c3 : (ix a < 0 ∧ 0 < ix b) ∨ (ix a < 0 ∧ 0 < ix b)
      · rw [if_pos c3]; dsimp only; omega
      · rw [if_neg c3]
        have zr : ∀ l : Int, divI 0 l (-1) = 0 := fun l => by
          unfold divI
          rw [if_pos (by omega)]
          split
          · rw [fq_zero, Rat.div_def, Rat.zero_mul, rnd_0]
          · rfl
        by_cases c6 : ix a < 0
        · rw [if_pos c6]
          unfold posEnds
          rw [if_pos (by omega), show -ix b = 0 by omega, zr]
          dsimp only; omega
        · rw [if_neg c6]
          unfold posEnds
          rw [if_pos (by omega), show ix a = 0 by omega, zr]
          dsimp only; omega
  have f1 := hfit.1; have f2 := hfit.2
  have o := nw_wd (i := ONE) (by omega)
  have hwo : (4607182418800017408 : Nat) = wd ONE := by unfold wd; rw [if_neg (by rw [ONE_eq]; decide)]; rfl
  rcases make_ways (i := min (divEnds a b a b).1 LM) (j := max (divEnds a b a b).2 (-LM)) (by omega) (by omega) with ⟨k1, G2⟩ | ⟨k1, G2⟩
  · rw [hwo, has_good G2 o.1 o.2.1, ix_of (by omega), decide_eq_true_eq]
    omega
  · exact absurd (show _ from ⟨by omega, by omega, by omega⟩) k1

end Go.Proofs.Ytonidoghcihnnaa
