/- The walks of hulls, meets and negatives. -/
import Derived.Test.YtonidoghcihnnaaEnds
import Derived.Test.YtonidoghcihnnaaNeg
namespace Go.Proofs.Ytonidoghcihnnaa
open Go.RowKit
set_option maxRecDepth 100000
set_option maxHeartbeats 1000000
set_option linter.unusedSimpArgs false
set_option linter.unusedVariables false

theorem rends_any (a b : Nat) (w : World) (ha : nw a) (hb : nw b) :
    Calls Try.prog 69 #[.float .f64 a, .float .f64 b] w fun e w' => e = .returned (.agg #[.float .f64 (makeLo (min (ix a) LM) (max (ix b) (-LM))), .float .f64 (makeHi (min (ix a) LM) (max (ix b) (-LM)))]) ∧ Below w.heap.size w w' := by
  have h1 : flt 9218868437227405311 a = decide (LM < ix a) := by rw [flt_num nw_MAX.1 ha.1 nw_MAX.2.1 ha.2.1, ix_MAX]
  have h2 : flt b 18442240474082181119 = decide (ix b < -LM) := by rw [flt_num hb.1 nw_nMAX.1 hb.2.1 nw_nMAX.2.1, ix_nMAX]
  have m1 := nw_MAX; have m2 := nw_nMAX
  by_cases g1 : LM < ix a <;> by_cases g2 : ix b < -LM
  · rw [decide_eq_true g1] at h1; rw [decide_eq_true g2] at h2
    have hm := fun w => rmake_any _ _ w m1.1 m2.1 m1.2.1 m2.2.1
    rw [ix_MAX, ix_nMAX] at hm
    rw [show min (ix a) LM = LM by omega, show max (ix b) (-LM) = -LM by omega]
    go_enter Try.func69, Try.ntmps69
    go_wp2_with fail
    refine Calls.mono (hm _) ?_
    rintro e w1 ⟨rfl, hb1⟩
    have hw1 : Below w.heap.size w w1 := Below.trans (by repeat (first | (with_reducible assumption) | (with_reducible exact Below.refl _ _) | ((with_reducible refine Below.alloc ?_ ?_ _); rotate_left; exact (by first | omega | (simp; done) | (simp; omega))) | ((with_reducible refine Below.setCell ?_ ?_ _); rotate_left; exact (by first | omega | (simp; done) | (simp; omega))) | (with_reducible refine Below.drew ?_))) (hb1.mono (by first | omega | (simp; done) | (simp; omega)))
    have hs1 := hb1.size
    try simp at hs1
    have hl1_0 : w.heap.size < w1.heap.size := by omega
    have k1_0_0 := below_cell hb1 (p := ⟨w.heap.size, 0, none⟩) (v := .float .f64 0) (by first | assumption | (go_simp; done))
    have k1_0_0z := below_frozen hb1 (p := ⟨w.heap.size, 0, none⟩) (v := .float .f64 0) (by first | assumption | (go_simp; done)) (by first | assumption | (go_simp; done))
    have k1_0_1 := below_cell hb1 (p := ⟨w.heap.size, 1, none⟩) (v := .float .f64 0) (by first | assumption | (go_simp; done))
    have k1_0_1z := below_frozen hb1 (p := ⟨w.heap.size, 1, none⟩) (v := .float .f64 0) (by first | assumption | (go_simp; done)) (by first | assumption | (go_simp; done))
    clear hm
    go_wp2
    exact bodyPost_ret (v := (.agg #[.float .f64 (makeLo LM (-LM)), .float .f64 (makeHi LM (-LM))])) (by simp [results, Try.results69, go_sem, *]) rfl ⟨rfl, (by repeat (first | (with_reducible assumption) | (with_reducible exact Below.refl _ _) | ((with_reducible refine Below.alloc ?_ ?_ _); rotate_left; exact (by first | omega | (simp; done) | (simp; omega))) | ((with_reducible refine Below.setCell ?_ ?_ _); rotate_left; exact (by first | omega | (simp; done) | (simp; omega))) | (with_reducible refine Below.drew ?_)))⟩
  · rw [decide_eq_true g1] at h1; rw [decide_eq_false g2] at h2
    have hm := fun w => rmake_any _ _ w m1.1 hb.1 m1.2.1 hb.2.1
    rw [ix_MAX] at hm
    rw [show min (ix a) LM = LM by omega, show max (ix b) (-LM) = ix b by omega]
    go_enter Try.func69, Try.ntmps69
    go_wp2_with fail
    refine Calls.mono (hm _) ?_
    rintro e w1 ⟨rfl, hb1⟩
    have hw1 : Below w.heap.size w w1 := Below.trans (by repeat (first | (with_reducible assumption) | (with_reducible exact Below.refl _ _) | ((with_reducible refine Below.alloc ?_ ?_ _); rotate_left; exact (by first | omega | (simp; done) | (simp; omega))) | ((with_reducible refine Below.setCell ?_ ?_ _); rotate_left; exact (by first | omega | (simp; done) | (simp; omega))) | (with_reducible refine Below.drew ?_))) (hb1.mono (by first | omega | (simp; done) | (simp; omega)))
    have hs1 := hb1.size
    try simp at hs1
    have hl1_0 : w.heap.size < w1.heap.size := by omega
    have k1_0_0 := below_cell hb1 (p := ⟨w.heap.size, 0, none⟩) (v := .float .f64 0) (by first | assumption | (go_simp; done))
    have k1_0_0z := below_frozen hb1 (p := ⟨w.heap.size, 0, none⟩) (v := .float .f64 0) (by first | assumption | (go_simp; done)) (by first | assumption | (go_simp; done))
    have k1_0_1 := below_cell hb1 (p := ⟨w.heap.size, 1, none⟩) (v := .float .f64 0) (by first | assumption | (go_simp; done))
    have k1_0_1z := below_frozen hb1 (p := ⟨w.heap.size, 1, none⟩) (v := .float .f64 0) (by first | assumption | (go_simp; done)) (by first | assumption | (go_simp; done))
    clear hm
    go_wp2
    exact bodyPost_ret (v := (.agg #[.float .f64 (makeLo LM (ix b)), .float .f64 (makeHi LM (ix b))])) (by simp [results, Try.results69, go_sem, *]) rfl ⟨rfl, (by repeat (first | (with_reducible assumption) | (with_reducible exact Below.refl _ _) | ((with_reducible refine Below.alloc ?_ ?_ _); rotate_left; exact (by first | omega | (simp; done) | (simp; omega))) | ((with_reducible refine Below.setCell ?_ ?_ _); rotate_left; exact (by first | omega | (simp; done) | (simp; omega))) | (with_reducible refine Below.drew ?_)))⟩
  · rw [decide_eq_false g1] at h1; rw [decide_eq_true g2] at h2
    have hm := fun w => rmake_any _ _ w ha.1 m2.1 ha.2.1 m2.2.1
    rw [ix_nMAX] at hm
    rw [show min (ix a) LM = ix a by omega, show max (ix b) (-LM) = -LM by omega]
    go_enter Try.func69, Try.ntmps69
    go_wp2_with fail
    refine Calls.mono (hm _) ?_
    rintro e w1 ⟨rfl, hb1⟩
    have hw1 : Below w.heap.size w w1 := Below.trans (by repeat (first | (with_reducible assumption) | (with_reducible exact Below.refl _ _) | ((with_reducible refine Below.alloc ?_ ?_ _); rotate_left; exact (by first | omega | (simp; done) | (simp; omega))) | ((with_reducible refine Below.setCell ?_ ?_ _); rotate_left; exact (by first | omega | (simp; done) | (simp; omega))) | (with_reducible refine Below.drew ?_))) (hb1.mono (by first | omega | (simp; done) | (simp; omega)))
    have hs1 := hb1.size
    try simp at hs1
    have hl1_0 : w.heap.size < w1.heap.size := by omega
    have k1_0_0 := below_cell hb1 (p := ⟨w.heap.size, 0, none⟩) (v := .float .f64 0) (by first | assumption | (go_simp; done))
    have k1_0_0z := below_frozen hb1 (p := ⟨w.heap.size, 0, none⟩) (v := .float .f64 0) (by first | assumption | (go_simp; done)) (by first | assumption | (go_simp; done))
    have k1_0_1 := below_cell hb1 (p := ⟨w.heap.size, 1, none⟩) (v := .float .f64 0) (by first | assumption | (go_simp; done))
    have k1_0_1z := below_frozen hb1 (p := ⟨w.heap.size, 1, none⟩) (v := .float .f64 0) (by first | assumption | (go_simp; done)) (by first | assumption | (go_simp; done))
    clear hm
    go_wp2
    exact bodyPost_ret (v := (.agg #[.float .f64 (makeLo (ix a) (-LM)), .float .f64 (makeHi (ix a) (-LM))])) (by simp [results, Try.results69, go_sem, *]) rfl ⟨rfl, (by repeat (first | (with_reducible assumption) | (with_reducible exact Below.refl _ _) | ((with_reducible refine Below.alloc ?_ ?_ _); rotate_left; exact (by first | omega | (simp; done) | (simp; omega))) | ((with_reducible refine Below.setCell ?_ ?_ _); rotate_left; exact (by first | omega | (simp; done) | (simp; omega))) | (with_reducible refine Below.drew ?_)))⟩
  · rw [decide_eq_false g1] at h1; rw [decide_eq_false g2] at h2
    have hm := fun w => rmake_any _ _ w ha.1 hb.1 ha.2.1 hb.2.1
    rw [show min (ix a) LM = ix a by omega, show max (ix b) (-LM) = ix b by omega]
    go_enter Try.func69, Try.ntmps69
    go_wp2_with fail
    refine Calls.mono (hm _) ?_
    rintro e w1 ⟨rfl, hb1⟩
    have hw1 : Below w.heap.size w w1 := Below.trans (by repeat (first | (with_reducible assumption) | (with_reducible exact Below.refl _ _) | ((with_reducible refine Below.alloc ?_ ?_ _); rotate_left; exact (by first | omega | (simp; done) | (simp; omega))) | ((with_reducible refine Below.setCell ?_ ?_ _); rotate_left; exact (by first | omega | (simp; done) | (simp; omega))) | (with_reducible refine Below.drew ?_))) (hb1.mono (by first | omega | (simp; done) | (simp; omega)))
    have hs1 := hb1.size
    try simp at hs1
    have hl1_0 : w.heap.size < w1.heap.size := by omega
    have k1_0_0 := below_cell hb1 (p := ⟨w.heap.size, 0, none⟩) (v := .float .f64 0) (by first | assumption | (go_simp; done))
    have k1_0_0z := below_frozen hb1 (p := ⟨w.heap.size, 0, none⟩) (v := .float .f64 0) (by first | assumption | (go_simp; done)) (by first | assumption | (go_simp; done))
    have k1_0_1 := below_cell hb1 (p := ⟨w.heap.size, 1, none⟩) (v := .float .f64 0) (by first | assumption | (go_simp; done))
    have k1_0_1z := below_frozen hb1 (p := ⟨w.heap.size, 1, none⟩) (v := .float .f64 0) (by first | assumption | (go_simp; done)) (by first | assumption | (go_simp; done))
    clear hm
    go_wp2
    exact bodyPost_ret (v := (.agg #[.float .f64 (makeLo (ix a) (ix b)), .float .f64 (makeHi (ix a) (ix b))])) (by simp [results, Try.results69, go_sem, *]) rfl ⟨rfl, (by repeat (first | (with_reducible assumption) | (with_reducible exact Below.refl _ _) | ((with_reducible refine Below.alloc ?_ ?_ _); rotate_left; exact (by first | omega | (simp; done) | (simp; omega))) | ((with_reducible refine Below.setCell ?_ ?_ _); rotate_left; exact (by first | omega | (simp; done) | (simp; omega))) | (with_reducible refine Below.drew ?_)))⟩

/-- The hull. -/
@[irreducible] def hullLo (a b c d : Nat) : Nat := if noneB a b = true then (if noneB c d = true then 9218868437227405312 else c) else if noneB c d = true then a else wd (min (ix a) (ix c))
@[irreducible] def hullHi (a b c d : Nat) : Nat := if noneB a b = true then (if noneB c d = true then 18442240474082181120 else d) else if noneB c d = true then b else wd (max (ix b) (ix d))

theorem hull_any (a b c d : Nat) (w : World) (ha : word a) (hb : word b) (hc : word c) (hd : word d) :
    Calls Try.prog 62 #[(.agg #[.float .f64 a, .float .f64 b]), (.agg #[.float .f64 c, .float .f64 d])] w fun e w' => e = .returned (.agg #[.float .f64 (hullLo a b c d), .float .f64 (hullHi a b c d)]) ∧ Below w.heap.size w w' := by
  unfold hullLo hullHi
  cases h1 : noneB a b <;> cases h2 : noneB c d
  · simp only [Bool.false_eq_true, if_false]
    obtain ⟨i, j, g⟩ := good_of ha hb h1
    obtain ⟨k, l, g'⟩ := good_of hc hd h2
    have ia := g.iabs; have ib := g.jabs; have ic := g'.iabs; have id := g'.jabs
    obtain ⟨rfl, rfl, q1, q2, q3, _, _⟩ := g
    obtain ⟨rfl, rfl, r1, r2, r3, _, _⟩ := g'
    have na := nw_wd ia; have nb := nw_wd ib; have nc := nw_wd ic; have nd := nw_wd id
    have m1 := fun w => run_fmin (P := Try.prog) #[33, 33] 33 na nc w
    have m2 := fun w => run_fmax (P := Try.prog) #[33, 33] 33 nb nd w
    have n1 := minw_nw na nc; have n2 := maxw_nw nb nd
    have hm := fun w => make_any _ _ w n1.1 n2.1 n1.2.1 n2.2.1
    rw [minw_ix, maxw_ix, (make_good (by rw [ix_of ia, ix_of ic]; omega) (by rw [ix_of ib, ix_of id]; omega) (by rw [ix_of ia, ix_of ic, ix_of ib, ix_of id]; omega) (by rw [ix_of ia, ix_of ic]; omega) (by rw [ix_of ib, ix_of id]; omega)).1, (make_good (by rw [ix_of ia, ix_of ic]; omega) (by rw [ix_of ib, ix_of id]; omega) (by rw [ix_of ia, ix_of ic, ix_of ib, ix_of id]; omega) (by rw [ix_of ia, ix_of ic]; omega) (by rw [ix_of ib, ix_of id]; omega)).2] at hm
    generalize wd (min (ix (wd i)) (ix (wd k))) = lo at *
    generalize wd (max (ix (wd j)) (ix (wd l))) = hi at *
    generalize wd i = a at *
    generalize wd j = b at *
    generalize wd k = c at *
    generalize wd l = d at *
    clear ia ib ic id q1 q2 q3 r1 r2 r3 na nb nc nd n1 n2 ha hb hc hd
    go_enter Try.func62, Try.ntmps62
    go_wp2_with fail
    refine Calls.mono (none1_any a b _ _ (by go_simp) (by go_simp)) ?_
    rintro e w1 ⟨rfl, hb1⟩
    have hw1 : Below w.heap.size w w1 := Below.trans (by repeat (first | (with_reducible assumption) | (with_reducible exact Below.refl _ _) | ((with_reducible refine Below.alloc ?_ ?_ _); rotate_left; exact (by first | omega | (simp; done) | (simp; omega))) | ((with_reducible refine Below.setCell ?_ ?_ _); rotate_left; exact (by first | omega | (simp; done) | (simp; omega))) | (with_reducible refine Below.drew ?_))) (hb1.mono (by first | omega | (simp; done) | (simp; omega)))
    have hs1 := hb1.size
    try simp at hs1
    have hl1_0 : w.heap.size < w1.heap.size := by omega
    have k1_0_0 := below_cell hb1 (p := ⟨w.heap.size, 0, none⟩) (v := .float .f64 a) (by first | assumption | (go_simp; done))
    have k1_0_0z := below_frozen hb1 (p := ⟨w.heap.size, 0, none⟩) (v := .float .f64 a) (by first | assumption | (go_simp; done)) (by first | assumption | (go_simp; done))
    have k1_0_1 := below_cell hb1 (p := ⟨w.heap.size, 1, none⟩) (v := .float .f64 b) (by first | assumption | (go_simp; done))
    have k1_0_1z := below_frozen hb1 (p := ⟨w.heap.size, 1, none⟩) (v := .float .f64 b) (by first | assumption | (go_simp; done)) (by first | assumption | (go_simp; done))
    have hl1_1 : w.heap.size + 1 < w1.heap.size := by omega
    have k1_1_0 := below_cell hb1 (p := ⟨w.heap.size + 1, 0, none⟩) (v := .float .f64 c) (by first | assumption | (go_simp; done))
    have k1_1_0z := below_frozen hb1 (p := ⟨w.heap.size + 1, 0, none⟩) (v := .float .f64 c) (by first | assumption | (go_simp; done)) (by first | assumption | (go_simp; done))
    have k1_1_1 := below_cell hb1 (p := ⟨w.heap.size + 1, 1, none⟩) (v := .float .f64 d) (by first | assumption | (go_simp; done))
    have k1_1_1z := below_frozen hb1 (p := ⟨w.heap.size + 1, 1, none⟩) (v := .float .f64 d) (by first | assumption | (go_simp; done)) (by first | assumption | (go_simp; done))
    have hl1_2 : w.heap.size + 2 < w1.heap.size := by omega
    have k1_2_0 := below_cell hb1 (p := ⟨w.heap.size + 2, 0, none⟩) (v := .float .f64 0) (by first | assumption | (go_simp; done))
    have k1_2_0z := below_frozen hb1 (p := ⟨w.heap.size + 2, 0, none⟩) (v := .float .f64 0) (by first | assumption | (go_simp; done)) (by first | assumption | (go_simp; done))
    have k1_2_1 := below_cell hb1 (p := ⟨w.heap.size + 2, 1, none⟩) (v := .float .f64 0) (by first | assumption | (go_simp; done))
    have k1_2_1z := below_frozen hb1 (p := ⟨w.heap.size + 2, 1, none⟩) (v := .float .f64 0) (by first | assumption | (go_simp; done)) (by first | assumption | (go_simp; done))
    go_wp2_with fail
    refine Calls.mono (none1_any a b _ _ (by go_simp) (by go_simp)) ?_
    rintro e w2 ⟨rfl, hb2⟩
    have hw2 : Below w.heap.size w w2 := Below.trans (by repeat (first | (with_reducible assumption) | (with_reducible exact Below.refl _ _) | ((with_reducible refine Below.alloc ?_ ?_ _); rotate_left; exact (by first | omega | (simp; done) | (simp; omega))) | ((with_reducible refine Below.setCell ?_ ?_ _); rotate_left; exact (by first | omega | (simp; done) | (simp; omega))) | (with_reducible refine Below.drew ?_))) (hb2.mono (by first | omega | (simp; done) | (simp; omega)))
    have hs2 := hb2.size
    try simp at hs2
    have hl2_0 : w.heap.size < w2.heap.size := by omega
    have k2_0_0 := below_cell hb2 (p := ⟨w.heap.size, 0, none⟩) (v := .float .f64 a) (by first | assumption | (go_simp; done))
    have k2_0_0z := below_frozen hb2 (p := ⟨w.heap.size, 0, none⟩) (v := .float .f64 a) (by first | assumption | (go_simp; done)) (by first | assumption | (go_simp; done))
    have k2_0_1 := below_cell hb2 (p := ⟨w.heap.size, 1, none⟩) (v := .float .f64 b) (by first | assumption | (go_simp; done))
    have k2_0_1z := below_frozen hb2 (p := ⟨w.heap.size, 1, none⟩) (v := .float .f64 b) (by first | assumption | (go_simp; done)) (by first | assumption | (go_simp; done))
    have hl2_1 : w.heap.size + 1 < w2.heap.size := by omega
    have k2_1_0 := below_cell hb2 (p := ⟨w.heap.size + 1, 0, none⟩) (v := .float .f64 c) (by first | assumption | (go_simp; done))
    have k2_1_0z := below_frozen hb2 (p := ⟨w.heap.size + 1, 0, none⟩) (v := .float .f64 c) (by first | assumption | (go_simp; done)) (by first | assumption | (go_simp; done))
    have k2_1_1 := below_cell hb2 (p := ⟨w.heap.size + 1, 1, none⟩) (v := .float .f64 d) (by first | assumption | (go_simp; done))
    have k2_1_1z := below_frozen hb2 (p := ⟨w.heap.size + 1, 1, none⟩) (v := .float .f64 d) (by first | assumption | (go_simp; done)) (by first | assumption | (go_simp; done))
    have hl2_2 : w.heap.size + 2 < w2.heap.size := by omega
    have k2_2_0 := below_cell hb2 (p := ⟨w.heap.size + 2, 0, none⟩) (v := .float .f64 0) (by first | assumption | (go_simp; done))
    have k2_2_0z := below_frozen hb2 (p := ⟨w.heap.size + 2, 0, none⟩) (v := .float .f64 0) (by first | assumption | (go_simp; done)) (by first | assumption | (go_simp; done))
    have k2_2_1 := below_cell hb2 (p := ⟨w.heap.size + 2, 1, none⟩) (v := .float .f64 0) (by first | assumption | (go_simp; done))
    have k2_2_1z := below_frozen hb2 (p := ⟨w.heap.size + 2, 1, none⟩) (v := .float .f64 0) (by first | assumption | (go_simp; done)) (by first | assumption | (go_simp; done))
    go_wp2_with fail
    refine Calls.mono (none1_any c d _ _ (by go_simp) (by go_simp)) ?_
    rintro e w3 ⟨rfl, hb3⟩
    have hw3 : Below w.heap.size w w3 := Below.trans (by repeat (first | (with_reducible assumption) | (with_reducible exact Below.refl _ _) | ((with_reducible refine Below.alloc ?_ ?_ _); rotate_left; exact (by first | omega | (simp; done) | (simp; omega))) | ((with_reducible refine Below.setCell ?_ ?_ _); rotate_left; exact (by first | omega | (simp; done) | (simp; omega))) | (with_reducible refine Below.drew ?_))) (hb3.mono (by first | omega | (simp; done) | (simp; omega)))
    have hs3 := hb3.size
    try simp at hs3
    have hl3_0 : w.heap.size < w3.heap.size := by omega
    have k3_0_0 := below_cell hb3 (p := ⟨w.heap.size, 0, none⟩) (v := .float .f64 a) (by first | assumption | (go_simp; done))
    have k3_0_0z := below_frozen hb3 (p := ⟨w.heap.size, 0, none⟩) (v := .float .f64 a) (by first | assumption | (go_simp; done)) (by first | assumption | (go_simp; done))
    have k3_0_1 := below_cell hb3 (p := ⟨w.heap.size, 1, none⟩) (v := .float .f64 b) (by first | assumption | (go_simp; done))
    have k3_0_1z := below_frozen hb3 (p := ⟨w.heap.size, 1, none⟩) (v := .float .f64 b) (by first | assumption | (go_simp; done)) (by first | assumption | (go_simp; done))
    have hl3_1 : w.heap.size + 1 < w3.heap.size := by omega
    have k3_1_0 := below_cell hb3 (p := ⟨w.heap.size + 1, 0, none⟩) (v := .float .f64 c) (by first | assumption | (go_simp; done))
    have k3_1_0z := below_frozen hb3 (p := ⟨w.heap.size + 1, 0, none⟩) (v := .float .f64 c) (by first | assumption | (go_simp; done)) (by first | assumption | (go_simp; done))
    have k3_1_1 := below_cell hb3 (p := ⟨w.heap.size + 1, 1, none⟩) (v := .float .f64 d) (by first | assumption | (go_simp; done))
    have k3_1_1z := below_frozen hb3 (p := ⟨w.heap.size + 1, 1, none⟩) (v := .float .f64 d) (by first | assumption | (go_simp; done)) (by first | assumption | (go_simp; done))
    have hl3_2 : w.heap.size + 2 < w3.heap.size := by omega
    have k3_2_0 := below_cell hb3 (p := ⟨w.heap.size + 2, 0, none⟩) (v := .float .f64 0) (by first | assumption | (go_simp; done))
    have k3_2_0z := below_frozen hb3 (p := ⟨w.heap.size + 2, 0, none⟩) (v := .float .f64 0) (by first | assumption | (go_simp; done)) (by first | assumption | (go_simp; done))
    have k3_2_1 := below_cell hb3 (p := ⟨w.heap.size + 2, 1, none⟩) (v := .float .f64 0) (by first | assumption | (go_simp; done))
    have k3_2_1z := below_frozen hb3 (p := ⟨w.heap.size + 2, 1, none⟩) (v := .float .f64 0) (by first | assumption | (go_simp; done)) (by first | assumption | (go_simp; done))
    go_wp2_with fail
    refine Calls.mono (hm _) ?_
    rintro e w4 ⟨rfl, hb4⟩
    have hw4 : Below w.heap.size w w4 := Below.trans (by repeat (first | (with_reducible assumption) | (with_reducible exact Below.refl _ _) | ((with_reducible refine Below.alloc ?_ ?_ _); rotate_left; exact (by first | omega | (simp; done) | (simp; omega))) | ((with_reducible refine Below.setCell ?_ ?_ _); rotate_left; exact (by first | omega | (simp; done) | (simp; omega))) | (with_reducible refine Below.drew ?_))) (hb4.mono (by first | omega | (simp; done) | (simp; omega)))
    have hs4 := hb4.size
    try simp at hs4
    have hl4_0 : w.heap.size < w4.heap.size := by omega
    have k4_0_0 := below_cell hb4 (p := ⟨w.heap.size, 0, none⟩) (v := .float .f64 a) (by first | assumption | (go_simp; done))
    have k4_0_0z := below_frozen hb4 (p := ⟨w.heap.size, 0, none⟩) (v := .float .f64 a) (by first | assumption | (go_simp; done)) (by first | assumption | (go_simp; done))
    have k4_0_1 := below_cell hb4 (p := ⟨w.heap.size, 1, none⟩) (v := .float .f64 b) (by first | assumption | (go_simp; done))
    have k4_0_1z := below_frozen hb4 (p := ⟨w.heap.size, 1, none⟩) (v := .float .f64 b) (by first | assumption | (go_simp; done)) (by first | assumption | (go_simp; done))
    have hl4_1 : w.heap.size + 1 < w4.heap.size := by omega
    have k4_1_0 := below_cell hb4 (p := ⟨w.heap.size + 1, 0, none⟩) (v := .float .f64 c) (by first | assumption | (go_simp; done))
    have k4_1_0z := below_frozen hb4 (p := ⟨w.heap.size + 1, 0, none⟩) (v := .float .f64 c) (by first | assumption | (go_simp; done)) (by first | assumption | (go_simp; done))
    have k4_1_1 := below_cell hb4 (p := ⟨w.heap.size + 1, 1, none⟩) (v := .float .f64 d) (by first | assumption | (go_simp; done))
    have k4_1_1z := below_frozen hb4 (p := ⟨w.heap.size + 1, 1, none⟩) (v := .float .f64 d) (by first | assumption | (go_simp; done)) (by first | assumption | (go_simp; done))
    have hl4_2 : w.heap.size + 2 < w4.heap.size := by omega
    have k4_2_0 := below_cell hb4 (p := ⟨w.heap.size + 2, 0, none⟩) (v := .float .f64 0) (by first | assumption | (go_simp; done))
    have k4_2_0z := below_frozen hb4 (p := ⟨w.heap.size + 2, 0, none⟩) (v := .float .f64 0) (by first | assumption | (go_simp; done)) (by first | assumption | (go_simp; done))
    have k4_2_1 := below_cell hb4 (p := ⟨w.heap.size + 2, 1, none⟩) (v := .float .f64 0) (by first | assumption | (go_simp; done))
    have k4_2_1z := below_frozen hb4 (p := ⟨w.heap.size + 2, 1, none⟩) (v := .float .f64 0) (by first | assumption | (go_simp; done)) (by first | assumption | (go_simp; done))
    clear hm
    go_wp2
    exact bodyPost_ret (v := (.agg #[.float .f64 lo, .float .f64 hi])) (by simp [results, Try.results62, go_sem, *]) rfl ⟨rfl, (by repeat (first | (with_reducible assumption) | (with_reducible exact Below.refl _ _) | ((with_reducible refine Below.alloc ?_ ?_ _); rotate_left; exact (by first | omega | (simp; done) | (simp; omega))) | ((with_reducible refine Below.setCell ?_ ?_ _); rotate_left; exact (by first | omega | (simp; done) | (simp; omega))) | (with_reducible refine Below.drew ?_)))⟩
  · simp only [Bool.false_eq_true, if_false, if_true]
    clear ha hb hc hd
    go_enter Try.func62, Try.ntmps62
    go_wp2_with fail
    refine Calls.mono (none1_any a b _ _ (by go_simp) (by go_simp)) ?_
    rintro e w1 ⟨rfl, hb1⟩
    have hw1 : Below w.heap.size w w1 := Below.trans (by repeat (first | (with_reducible assumption) | (with_reducible exact Below.refl _ _) | ((with_reducible refine Below.alloc ?_ ?_ _); rotate_left; exact (by first | omega | (simp; done) | (simp; omega))) | ((with_reducible refine Below.setCell ?_ ?_ _); rotate_left; exact (by first | omega | (simp; done) | (simp; omega))) | (with_reducible refine Below.drew ?_))) (hb1.mono (by first | omega | (simp; done) | (simp; omega)))
    have hs1 := hb1.size
    try simp at hs1
    have hl1_0 : w.heap.size < w1.heap.size := by omega
    have k1_0_0 := below_cell hb1 (p := ⟨w.heap.size, 0, none⟩) (v := .float .f64 a) (by first | assumption | (go_simp; done))
    have k1_0_0z := below_frozen hb1 (p := ⟨w.heap.size, 0, none⟩) (v := .float .f64 a) (by first | assumption | (go_simp; done)) (by first | assumption | (go_simp; done))
    have k1_0_1 := below_cell hb1 (p := ⟨w.heap.size, 1, none⟩) (v := .float .f64 b) (by first | assumption | (go_simp; done))
    have k1_0_1z := below_frozen hb1 (p := ⟨w.heap.size, 1, none⟩) (v := .float .f64 b) (by first | assumption | (go_simp; done)) (by first | assumption | (go_simp; done))
    have hl1_1 : w.heap.size + 1 < w1.heap.size := by omega
    have k1_1_0 := below_cell hb1 (p := ⟨w.heap.size + 1, 0, none⟩) (v := .float .f64 c) (by first | assumption | (go_simp; done))
    have k1_1_0z := below_frozen hb1 (p := ⟨w.heap.size + 1, 0, none⟩) (v := .float .f64 c) (by first | assumption | (go_simp; done)) (by first | assumption | (go_simp; done))
    have k1_1_1 := below_cell hb1 (p := ⟨w.heap.size + 1, 1, none⟩) (v := .float .f64 d) (by first | assumption | (go_simp; done))
    have k1_1_1z := below_frozen hb1 (p := ⟨w.heap.size + 1, 1, none⟩) (v := .float .f64 d) (by first | assumption | (go_simp; done)) (by first | assumption | (go_simp; done))
    have hl1_2 : w.heap.size + 2 < w1.heap.size := by omega
    have k1_2_0 := below_cell hb1 (p := ⟨w.heap.size + 2, 0, none⟩) (v := .float .f64 0) (by first | assumption | (go_simp; done))
    have k1_2_0z := below_frozen hb1 (p := ⟨w.heap.size + 2, 0, none⟩) (v := .float .f64 0) (by first | assumption | (go_simp; done)) (by first | assumption | (go_simp; done))
    have k1_2_1 := below_cell hb1 (p := ⟨w.heap.size + 2, 1, none⟩) (v := .float .f64 0) (by first | assumption | (go_simp; done))
    have k1_2_1z := below_frozen hb1 (p := ⟨w.heap.size + 2, 1, none⟩) (v := .float .f64 0) (by first | assumption | (go_simp; done)) (by first | assumption | (go_simp; done))
    go_wp2_with fail
    refine Calls.mono (none1_any a b _ _ (by go_simp) (by go_simp)) ?_
    rintro e w2 ⟨rfl, hb2⟩
    have hw2 : Below w.heap.size w w2 := Below.trans (by repeat (first | (with_reducible assumption) | (with_reducible exact Below.refl _ _) | ((with_reducible refine Below.alloc ?_ ?_ _); rotate_left; exact (by first | omega | (simp; done) | (simp; omega))) | ((with_reducible refine Below.setCell ?_ ?_ _); rotate_left; exact (by first | omega | (simp; done) | (simp; omega))) | (with_reducible refine Below.drew ?_))) (hb2.mono (by first | omega | (simp; done) | (simp; omega)))
    have hs2 := hb2.size
    try simp at hs2
    have hl2_0 : w.heap.size < w2.heap.size := by omega
    have k2_0_0 := below_cell hb2 (p := ⟨w.heap.size, 0, none⟩) (v := .float .f64 a) (by first | assumption | (go_simp; done))
    have k2_0_0z := below_frozen hb2 (p := ⟨w.heap.size, 0, none⟩) (v := .float .f64 a) (by first | assumption | (go_simp; done)) (by first | assumption | (go_simp; done))
    have k2_0_1 := below_cell hb2 (p := ⟨w.heap.size, 1, none⟩) (v := .float .f64 b) (by first | assumption | (go_simp; done))
    have k2_0_1z := below_frozen hb2 (p := ⟨w.heap.size, 1, none⟩) (v := .float .f64 b) (by first | assumption | (go_simp; done)) (by first | assumption | (go_simp; done))
    have hl2_1 : w.heap.size + 1 < w2.heap.size := by omega
    have k2_1_0 := below_cell hb2 (p := ⟨w.heap.size + 1, 0, none⟩) (v := .float .f64 c) (by first | assumption | (go_simp; done))
    have k2_1_0z := below_frozen hb2 (p := ⟨w.heap.size + 1, 0, none⟩) (v := .float .f64 c) (by first | assumption | (go_simp; done)) (by first | assumption | (go_simp; done))
    have k2_1_1 := below_cell hb2 (p := ⟨w.heap.size + 1, 1, none⟩) (v := .float .f64 d) (by first | assumption | (go_simp; done))
    have k2_1_1z := below_frozen hb2 (p := ⟨w.heap.size + 1, 1, none⟩) (v := .float .f64 d) (by first | assumption | (go_simp; done)) (by first | assumption | (go_simp; done))
    have hl2_2 : w.heap.size + 2 < w2.heap.size := by omega
    have k2_2_0 := below_cell hb2 (p := ⟨w.heap.size + 2, 0, none⟩) (v := .float .f64 0) (by first | assumption | (go_simp; done))
    have k2_2_0z := below_frozen hb2 (p := ⟨w.heap.size + 2, 0, none⟩) (v := .float .f64 0) (by first | assumption | (go_simp; done)) (by first | assumption | (go_simp; done))
    have k2_2_1 := below_cell hb2 (p := ⟨w.heap.size + 2, 1, none⟩) (v := .float .f64 0) (by first | assumption | (go_simp; done))
    have k2_2_1z := below_frozen hb2 (p := ⟨w.heap.size + 2, 1, none⟩) (v := .float .f64 0) (by first | assumption | (go_simp; done)) (by first | assumption | (go_simp; done))
    go_wp2_with fail
    refine Calls.mono (none1_any c d _ _ (by go_simp) (by go_simp)) ?_
    rintro e w3 ⟨rfl, hb3⟩
    have hw3 : Below w.heap.size w w3 := Below.trans (by repeat (first | (with_reducible assumption) | (with_reducible exact Below.refl _ _) | ((with_reducible refine Below.alloc ?_ ?_ _); rotate_left; exact (by first | omega | (simp; done) | (simp; omega))) | ((with_reducible refine Below.setCell ?_ ?_ _); rotate_left; exact (by first | omega | (simp; done) | (simp; omega))) | (with_reducible refine Below.drew ?_))) (hb3.mono (by first | omega | (simp; done) | (simp; omega)))
    have hs3 := hb3.size
    try simp at hs3
    have hl3_0 : w.heap.size < w3.heap.size := by omega
    have k3_0_0 := below_cell hb3 (p := ⟨w.heap.size, 0, none⟩) (v := .float .f64 a) (by first | assumption | (go_simp; done))
    have k3_0_0z := below_frozen hb3 (p := ⟨w.heap.size, 0, none⟩) (v := .float .f64 a) (by first | assumption | (go_simp; done)) (by first | assumption | (go_simp; done))
    have k3_0_1 := below_cell hb3 (p := ⟨w.heap.size, 1, none⟩) (v := .float .f64 b) (by first | assumption | (go_simp; done))
    have k3_0_1z := below_frozen hb3 (p := ⟨w.heap.size, 1, none⟩) (v := .float .f64 b) (by first | assumption | (go_simp; done)) (by first | assumption | (go_simp; done))
    have hl3_1 : w.heap.size + 1 < w3.heap.size := by omega
    have k3_1_0 := below_cell hb3 (p := ⟨w.heap.size + 1, 0, none⟩) (v := .float .f64 c) (by first | assumption | (go_simp; done))
    have k3_1_0z := below_frozen hb3 (p := ⟨w.heap.size + 1, 0, none⟩) (v := .float .f64 c) (by first | assumption | (go_simp; done)) (by first | assumption | (go_simp; done))
    have k3_1_1 := below_cell hb3 (p := ⟨w.heap.size + 1, 1, none⟩) (v := .float .f64 d) (by first | assumption | (go_simp; done))
    have k3_1_1z := below_frozen hb3 (p := ⟨w.heap.size + 1, 1, none⟩) (v := .float .f64 d) (by first | assumption | (go_simp; done)) (by first | assumption | (go_simp; done))
    have hl3_2 : w.heap.size + 2 < w3.heap.size := by omega
    have k3_2_0 := below_cell hb3 (p := ⟨w.heap.size + 2, 0, none⟩) (v := .float .f64 0) (by first | assumption | (go_simp; done))
    have k3_2_0z := below_frozen hb3 (p := ⟨w.heap.size + 2, 0, none⟩) (v := .float .f64 0) (by first | assumption | (go_simp; done)) (by first | assumption | (go_simp; done))
    have k3_2_1 := below_cell hb3 (p := ⟨w.heap.size + 2, 1, none⟩) (v := .float .f64 0) (by first | assumption | (go_simp; done))
    have k3_2_1z := below_frozen hb3 (p := ⟨w.heap.size + 2, 1, none⟩) (v := .float .f64 0) (by first | assumption | (go_simp; done)) (by first | assumption | (go_simp; done))
    go_wp2
    exact bodyPost_ret (v := (.agg #[.float .f64 a, .float .f64 b])) (by simp [results, Try.results62, go_sem, *]) rfl ⟨rfl, (by repeat (first | (with_reducible assumption) | (with_reducible exact Below.refl _ _) | ((with_reducible refine Below.alloc ?_ ?_ _); rotate_left; exact (by first | omega | (simp; done) | (simp; omega))) | ((with_reducible refine Below.setCell ?_ ?_ _); rotate_left; exact (by first | omega | (simp; done) | (simp; omega))) | (with_reducible refine Below.drew ?_)))⟩
  · simp only [Bool.false_eq_true, if_false, if_true]
    clear ha hb hc hd
    go_enter Try.func62, Try.ntmps62
    go_wp2_with fail
    refine Calls.mono (none1_any a b _ _ (by go_simp) (by go_simp)) ?_
    rintro e w1 ⟨rfl, hb1⟩
    have hw1 : Below w.heap.size w w1 := Below.trans (by repeat (first | (with_reducible assumption) | (with_reducible exact Below.refl _ _) | ((with_reducible refine Below.alloc ?_ ?_ _); rotate_left; exact (by first | omega | (simp; done) | (simp; omega))) | ((with_reducible refine Below.setCell ?_ ?_ _); rotate_left; exact (by first | omega | (simp; done) | (simp; omega))) | (with_reducible refine Below.drew ?_))) (hb1.mono (by first | omega | (simp; done) | (simp; omega)))
    have hs1 := hb1.size
    try simp at hs1
    have hl1_0 : w.heap.size < w1.heap.size := by omega
    have k1_0_0 := below_cell hb1 (p := ⟨w.heap.size, 0, none⟩) (v := .float .f64 a) (by first | assumption | (go_simp; done))
    have k1_0_0z := below_frozen hb1 (p := ⟨w.heap.size, 0, none⟩) (v := .float .f64 a) (by first | assumption | (go_simp; done)) (by first | assumption | (go_simp; done))
    have k1_0_1 := below_cell hb1 (p := ⟨w.heap.size, 1, none⟩) (v := .float .f64 b) (by first | assumption | (go_simp; done))
    have k1_0_1z := below_frozen hb1 (p := ⟨w.heap.size, 1, none⟩) (v := .float .f64 b) (by first | assumption | (go_simp; done)) (by first | assumption | (go_simp; done))
    have hl1_1 : w.heap.size + 1 < w1.heap.size := by omega
    have k1_1_0 := below_cell hb1 (p := ⟨w.heap.size + 1, 0, none⟩) (v := .float .f64 c) (by first | assumption | (go_simp; done))
    have k1_1_0z := below_frozen hb1 (p := ⟨w.heap.size + 1, 0, none⟩) (v := .float .f64 c) (by first | assumption | (go_simp; done)) (by first | assumption | (go_simp; done))
    have k1_1_1 := below_cell hb1 (p := ⟨w.heap.size + 1, 1, none⟩) (v := .float .f64 d) (by first | assumption | (go_simp; done))
    have k1_1_1z := below_frozen hb1 (p := ⟨w.heap.size + 1, 1, none⟩) (v := .float .f64 d) (by first | assumption | (go_simp; done)) (by first | assumption | (go_simp; done))
    have hl1_2 : w.heap.size + 2 < w1.heap.size := by omega
    have k1_2_0 := below_cell hb1 (p := ⟨w.heap.size + 2, 0, none⟩) (v := .float .f64 0) (by first | assumption | (go_simp; done))
    have k1_2_0z := below_frozen hb1 (p := ⟨w.heap.size + 2, 0, none⟩) (v := .float .f64 0) (by first | assumption | (go_simp; done)) (by first | assumption | (go_simp; done))
    have k1_2_1 := below_cell hb1 (p := ⟨w.heap.size + 2, 1, none⟩) (v := .float .f64 0) (by first | assumption | (go_simp; done))
    have k1_2_1z := below_frozen hb1 (p := ⟨w.heap.size + 2, 1, none⟩) (v := .float .f64 0) (by first | assumption | (go_simp; done)) (by first | assumption | (go_simp; done))
    go_wp2_with fail
    refine Calls.mono (none1_any c d _ _ (by go_simp) (by go_simp)) ?_
    rintro e w2 ⟨rfl, hb2⟩
    have hw2 : Below w.heap.size w w2 := Below.trans (by repeat (first | (with_reducible assumption) | (with_reducible exact Below.refl _ _) | ((with_reducible refine Below.alloc ?_ ?_ _); rotate_left; exact (by first | omega | (simp; done) | (simp; omega))) | ((with_reducible refine Below.setCell ?_ ?_ _); rotate_left; exact (by first | omega | (simp; done) | (simp; omega))) | (with_reducible refine Below.drew ?_))) (hb2.mono (by first | omega | (simp; done) | (simp; omega)))
    have hs2 := hb2.size
    try simp at hs2
    have hl2_0 : w.heap.size < w2.heap.size := by omega
    have k2_0_0 := below_cell hb2 (p := ⟨w.heap.size, 0, none⟩) (v := .float .f64 a) (by first | assumption | (go_simp; done))
    have k2_0_0z := below_frozen hb2 (p := ⟨w.heap.size, 0, none⟩) (v := .float .f64 a) (by first | assumption | (go_simp; done)) (by first | assumption | (go_simp; done))
    have k2_0_1 := below_cell hb2 (p := ⟨w.heap.size, 1, none⟩) (v := .float .f64 b) (by first | assumption | (go_simp; done))
    have k2_0_1z := below_frozen hb2 (p := ⟨w.heap.size, 1, none⟩) (v := .float .f64 b) (by first | assumption | (go_simp; done)) (by first | assumption | (go_simp; done))
    have hl2_1 : w.heap.size + 1 < w2.heap.size := by omega
    have k2_1_0 := below_cell hb2 (p := ⟨w.heap.size + 1, 0, none⟩) (v := .float .f64 c) (by first | assumption | (go_simp; done))
    have k2_1_0z := below_frozen hb2 (p := ⟨w.heap.size + 1, 0, none⟩) (v := .float .f64 c) (by first | assumption | (go_simp; done)) (by first | assumption | (go_simp; done))
    have k2_1_1 := below_cell hb2 (p := ⟨w.heap.size + 1, 1, none⟩) (v := .float .f64 d) (by first | assumption | (go_simp; done))
    have k2_1_1z := below_frozen hb2 (p := ⟨w.heap.size + 1, 1, none⟩) (v := .float .f64 d) (by first | assumption | (go_simp; done)) (by first | assumption | (go_simp; done))
    have hl2_2 : w.heap.size + 2 < w2.heap.size := by omega
    have k2_2_0 := below_cell hb2 (p := ⟨w.heap.size + 2, 0, none⟩) (v := .float .f64 0) (by first | assumption | (go_simp; done))
    have k2_2_0z := below_frozen hb2 (p := ⟨w.heap.size + 2, 0, none⟩) (v := .float .f64 0) (by first | assumption | (go_simp; done)) (by first | assumption | (go_simp; done))
    have k2_2_1 := below_cell hb2 (p := ⟨w.heap.size + 2, 1, none⟩) (v := .float .f64 0) (by first | assumption | (go_simp; done))
    have k2_2_1z := below_frozen hb2 (p := ⟨w.heap.size + 2, 1, none⟩) (v := .float .f64 0) (by first | assumption | (go_simp; done)) (by first | assumption | (go_simp; done))
    go_wp2_with fail
    refine Calls.mono (none1_any a b _ _ (by go_simp) (by go_simp)) ?_
    rintro e w3 ⟨rfl, hb3⟩
    have hw3 : Below w.heap.size w w3 := Below.trans (by repeat (first | (with_reducible assumption) | (with_reducible exact Below.refl _ _) | ((with_reducible refine Below.alloc ?_ ?_ _); rotate_left; exact (by first | omega | (simp; done) | (simp; omega))) | ((with_reducible refine Below.setCell ?_ ?_ _); rotate_left; exact (by first | omega | (simp; done) | (simp; omega))) | (with_reducible refine Below.drew ?_))) (hb3.mono (by first | omega | (simp; done) | (simp; omega)))
    have hs3 := hb3.size
    try simp at hs3
    have hl3_0 : w.heap.size < w3.heap.size := by omega
    have k3_0_0 := below_cell hb3 (p := ⟨w.heap.size, 0, none⟩) (v := .float .f64 a) (by first | assumption | (go_simp; done))
    have k3_0_0z := below_frozen hb3 (p := ⟨w.heap.size, 0, none⟩) (v := .float .f64 a) (by first | assumption | (go_simp; done)) (by first | assumption | (go_simp; done))
    have k3_0_1 := below_cell hb3 (p := ⟨w.heap.size, 1, none⟩) (v := .float .f64 b) (by first | assumption | (go_simp; done))
    have k3_0_1z := below_frozen hb3 (p := ⟨w.heap.size, 1, none⟩) (v := .float .f64 b) (by first | assumption | (go_simp; done)) (by first | assumption | (go_simp; done))
    have hl3_1 : w.heap.size + 1 < w3.heap.size := by omega
    have k3_1_0 := below_cell hb3 (p := ⟨w.heap.size + 1, 0, none⟩) (v := .float .f64 c) (by first | assumption | (go_simp; done))
    have k3_1_0z := below_frozen hb3 (p := ⟨w.heap.size + 1, 0, none⟩) (v := .float .f64 c) (by first | assumption | (go_simp; done)) (by first | assumption | (go_simp; done))
    have k3_1_1 := below_cell hb3 (p := ⟨w.heap.size + 1, 1, none⟩) (v := .float .f64 d) (by first | assumption | (go_simp; done))
    have k3_1_1z := below_frozen hb3 (p := ⟨w.heap.size + 1, 1, none⟩) (v := .float .f64 d) (by first | assumption | (go_simp; done)) (by first | assumption | (go_simp; done))
    have hl3_2 : w.heap.size + 2 < w3.heap.size := by omega
    have k3_2_0 := below_cell hb3 (p := ⟨w.heap.size + 2, 0, none⟩) (v := .float .f64 0) (by first | assumption | (go_simp; done))
    have k3_2_0z := below_frozen hb3 (p := ⟨w.heap.size + 2, 0, none⟩) (v := .float .f64 0) (by first | assumption | (go_simp; done)) (by first | assumption | (go_simp; done))
    have k3_2_1 := below_cell hb3 (p := ⟨w.heap.size + 2, 1, none⟩) (v := .float .f64 0) (by first | assumption | (go_simp; done))
    have k3_2_1z := below_frozen hb3 (p := ⟨w.heap.size + 2, 1, none⟩) (v := .float .f64 0) (by first | assumption | (go_simp; done)) (by first | assumption | (go_simp; done))
    go_wp2
    exact bodyPost_ret (v := (.agg #[.float .f64 c, .float .f64 d])) (by simp [results, Try.results62, go_sem, *]) rfl ⟨rfl, (by repeat (first | (with_reducible assumption) | (with_reducible exact Below.refl _ _) | ((with_reducible refine Below.alloc ?_ ?_ _); rotate_left; exact (by first | omega | (simp; done) | (simp; omega))) | ((with_reducible refine Below.setCell ?_ ?_ _); rotate_left; exact (by first | omega | (simp; done) | (simp; omega))) | (with_reducible refine Below.drew ?_)))⟩
  · simp only [if_true]
    clear ha hb hc hd
    go_enter Try.func62, Try.ntmps62
    go_wp2_with fail
    refine Calls.mono (none1_any a b _ _ (by go_simp) (by go_simp)) ?_
    rintro e w1 ⟨rfl, hb1⟩
    have hw1 : Below w.heap.size w w1 := Below.trans (by repeat (first | (with_reducible assumption) | (with_reducible exact Below.refl _ _) | ((with_reducible refine Below.alloc ?_ ?_ _); rotate_left; exact (by first | omega | (simp; done) | (simp; omega))) | ((with_reducible refine Below.setCell ?_ ?_ _); rotate_left; exact (by first | omega | (simp; done) | (simp; omega))) | (with_reducible refine Below.drew ?_))) (hb1.mono (by first | omega | (simp; done) | (simp; omega)))
    have hs1 := hb1.size
    try simp at hs1
    have hl1_0 : w.heap.size < w1.heap.size := by omega
    have k1_0_0 := below_cell hb1 (p := ⟨w.heap.size, 0, none⟩) (v := .float .f64 a) (by first | assumption | (go_simp; done))
    have k1_0_0z := below_frozen hb1 (p := ⟨w.heap.size, 0, none⟩) (v := .float .f64 a) (by first | assumption | (go_simp; done)) (by first | assumption | (go_simp; done))
    have k1_0_1 := below_cell hb1 (p := ⟨w.heap.size, 1, none⟩) (v := .float .f64 b) (by first | assumption | (go_simp; done))
    have k1_0_1z := below_frozen hb1 (p := ⟨w.heap.size, 1, none⟩) (v := .float .f64 b) (by first | assumption | (go_simp; done)) (by first | assumption | (go_simp; done))
    have hl1_1 : w.heap.size + 1 < w1.heap.size := by omega
    have k1_1_0 := below_cell hb1 (p := ⟨w.heap.size + 1, 0, none⟩) (v := .float .f64 c) (by first | assumption | (go_simp; done))
    have k1_1_0z := below_frozen hb1 (p := ⟨w.heap.size + 1, 0, none⟩) (v := .float .f64 c) (by first | assumption | (go_simp; done)) (by first | assumption | (go_simp; done))
    have k1_1_1 := below_cell hb1 (p := ⟨w.heap.size + 1, 1, none⟩) (v := .float .f64 d) (by first | assumption | (go_simp; done))
    have k1_1_1z := below_frozen hb1 (p := ⟨w.heap.size + 1, 1, none⟩) (v := .float .f64 d) (by first | assumption | (go_simp; done)) (by first | assumption | (go_simp; done))
    have hl1_2 : w.heap.size + 2 < w1.heap.size := by omega
    have k1_2_0 := below_cell hb1 (p := ⟨w.heap.size + 2, 0, none⟩) (v := .float .f64 0) (by first | assumption | (go_simp; done))
    have k1_2_0z := below_frozen hb1 (p := ⟨w.heap.size + 2, 0, none⟩) (v := .float .f64 0) (by first | assumption | (go_simp; done)) (by first | assumption | (go_simp; done))
    have k1_2_1 := below_cell hb1 (p := ⟨w.heap.size + 2, 1, none⟩) (v := .float .f64 0) (by first | assumption | (go_simp; done))
    have k1_2_1z := below_frozen hb1 (p := ⟨w.heap.size + 2, 1, none⟩) (v := .float .f64 0) (by first | assumption | (go_simp; done)) (by first | assumption | (go_simp; done))
    go_wp2_with fail
    refine Calls.mono (none1_any c d _ _ (by go_simp) (by go_simp)) ?_
    rintro e w2 ⟨rfl, hb2⟩
    have hw2 : Below w.heap.size w w2 := Below.trans (by repeat (first | (with_reducible assumption) | (with_reducible exact Below.refl _ _) | ((with_reducible refine Below.alloc ?_ ?_ _); rotate_left; exact (by first | omega | (simp; done) | (simp; omega))) | ((with_reducible refine Below.setCell ?_ ?_ _); rotate_left; exact (by first | omega | (simp; done) | (simp; omega))) | (with_reducible refine Below.drew ?_))) (hb2.mono (by first | omega | (simp; done) | (simp; omega)))
    have hs2 := hb2.size
    try simp at hs2
    have hl2_0 : w.heap.size < w2.heap.size := by omega
    have k2_0_0 := below_cell hb2 (p := ⟨w.heap.size, 0, none⟩) (v := .float .f64 a) (by first | assumption | (go_simp; done))
    have k2_0_0z := below_frozen hb2 (p := ⟨w.heap.size, 0, none⟩) (v := .float .f64 a) (by first | assumption | (go_simp; done)) (by first | assumption | (go_simp; done))
    have k2_0_1 := below_cell hb2 (p := ⟨w.heap.size, 1, none⟩) (v := .float .f64 b) (by first | assumption | (go_simp; done))
    have k2_0_1z := below_frozen hb2 (p := ⟨w.heap.size, 1, none⟩) (v := .float .f64 b) (by first | assumption | (go_simp; done)) (by first | assumption | (go_simp; done))
    have hl2_1 : w.heap.size + 1 < w2.heap.size := by omega
    have k2_1_0 := below_cell hb2 (p := ⟨w.heap.size + 1, 0, none⟩) (v := .float .f64 c) (by first | assumption | (go_simp; done))
    have k2_1_0z := below_frozen hb2 (p := ⟨w.heap.size + 1, 0, none⟩) (v := .float .f64 c) (by first | assumption | (go_simp; done)) (by first | assumption | (go_simp; done))
    have k2_1_1 := below_cell hb2 (p := ⟨w.heap.size + 1, 1, none⟩) (v := .float .f64 d) (by first | assumption | (go_simp; done))
    have k2_1_1z := below_frozen hb2 (p := ⟨w.heap.size + 1, 1, none⟩) (v := .float .f64 d) (by first | assumption | (go_simp; done)) (by first | assumption | (go_simp; done))
    have hl2_2 : w.heap.size + 2 < w2.heap.size := by omega
    have k2_2_0 := below_cell hb2 (p := ⟨w.heap.size + 2, 0, none⟩) (v := .float .f64 0) (by first | assumption | (go_simp; done))
    have k2_2_0z := below_frozen hb2 (p := ⟨w.heap.size + 2, 0, none⟩) (v := .float .f64 0) (by first | assumption | (go_simp; done)) (by first | assumption | (go_simp; done))
    have k2_2_1 := below_cell hb2 (p := ⟨w.heap.size + 2, 1, none⟩) (v := .float .f64 0) (by first | assumption | (go_simp; done))
    have k2_2_1z := below_frozen hb2 (p := ⟨w.heap.size + 2, 1, none⟩) (v := .float .f64 0) (by first | assumption | (go_simp; done)) (by first | assumption | (go_simp; done))
    go_wp2_with fail
    refine Calls.mono (empty_any _) ?_
    rintro e w3 ⟨rfl, hb3⟩
    have hw3 : Below w.heap.size w w3 := Below.trans (by repeat (first | (with_reducible assumption) | (with_reducible exact Below.refl _ _) | ((with_reducible refine Below.alloc ?_ ?_ _); rotate_left; exact (by first | omega | (simp; done) | (simp; omega))) | ((with_reducible refine Below.setCell ?_ ?_ _); rotate_left; exact (by first | omega | (simp; done) | (simp; omega))) | (with_reducible refine Below.drew ?_))) (hb3.mono (by first | omega | (simp; done) | (simp; omega)))
    have hs3 := hb3.size
    try simp at hs3
    have hl3_0 : w.heap.size < w3.heap.size := by omega
    have k3_0_0 := below_cell hb3 (p := ⟨w.heap.size, 0, none⟩) (v := .float .f64 a) (by first | assumption | (go_simp; done))
    have k3_0_0z := below_frozen hb3 (p := ⟨w.heap.size, 0, none⟩) (v := .float .f64 a) (by first | assumption | (go_simp; done)) (by first | assumption | (go_simp; done))
    have k3_0_1 := below_cell hb3 (p := ⟨w.heap.size, 1, none⟩) (v := .float .f64 b) (by first | assumption | (go_simp; done))
    have k3_0_1z := below_frozen hb3 (p := ⟨w.heap.size, 1, none⟩) (v := .float .f64 b) (by first | assumption | (go_simp; done)) (by first | assumption | (go_simp; done))
    have hl3_1 : w.heap.size + 1 < w3.heap.size := by omega
    have k3_1_0 := below_cell hb3 (p := ⟨w.heap.size + 1, 0, none⟩) (v := .float .f64 c) (by first | assumption | (go_simp; done))
    have k3_1_0z := below_frozen hb3 (p := ⟨w.heap.size + 1, 0, none⟩) (v := .float .f64 c) (by first | assumption | (go_simp; done)) (by first | assumption | (go_simp; done))
    have k3_1_1 := below_cell hb3 (p := ⟨w.heap.size + 1, 1, none⟩) (v := .float .f64 d) (by first | assumption | (go_simp; done))
    have k3_1_1z := below_frozen hb3 (p := ⟨w.heap.size + 1, 1, none⟩) (v := .float .f64 d) (by first | assumption | (go_simp; done)) (by first | assumption | (go_simp; done))
    have hl3_2 : w.heap.size + 2 < w3.heap.size := by omega
    have k3_2_0 := below_cell hb3 (p := ⟨w.heap.size + 2, 0, none⟩) (v := .float .f64 0) (by first | assumption | (go_simp; done))
    have k3_2_0z := below_frozen hb3 (p := ⟨w.heap.size + 2, 0, none⟩) (v := .float .f64 0) (by first | assumption | (go_simp; done)) (by first | assumption | (go_simp; done))
    have k3_2_1 := below_cell hb3 (p := ⟨w.heap.size + 2, 1, none⟩) (v := .float .f64 0) (by first | assumption | (go_simp; done))
    have k3_2_1z := below_frozen hb3 (p := ⟨w.heap.size + 2, 1, none⟩) (v := .float .f64 0) (by first | assumption | (go_simp; done)) (by first | assumption | (go_simp; done))
    go_wp2
    exact bodyPost_ret (v := (.agg #[.float .f64 9218868437227405312, .float .f64 18442240474082181120])) (by simp [results, Try.results62, go_sem, *]) rfl ⟨rfl, (by repeat (first | (with_reducible assumption) | (with_reducible exact Below.refl _ _) | ((with_reducible refine Below.alloc ?_ ?_ _); rotate_left; exact (by first | omega | (simp; done) | (simp; omega))) | ((with_reducible refine Below.setCell ?_ ?_ _); rotate_left; exact (by first | omega | (simp; done) | (simp; omega))) | (with_reducible refine Below.drew ?_)))⟩

theorem rhull_any (a b c d : Nat) (w : World) (ha : word a) (hb : word b) (hc : word c) (hd : word d) :
    Calls Try.prog 25 #[(.agg #[.float .f64 a, .float .f64 b]), (.agg #[.float .f64 c, .float .f64 d])] w fun e w' => e = .returned (.agg #[.float .f64 (hullLo a b c d), .float .f64 (hullHi a b c d)]) ∧ Below w.heap.size w w' := by
  unfold hullLo hullHi
  have e1 := none_eq ha hb; have e2 := none_eq hc hd
  cases h1 : noneB a b <;> cases h2 : noneB c d
  · simp only [Bool.false_eq_true, if_false]
    rw [h1] at e1; rw [h2] at e2
    obtain ⟨i, j, g⟩ := good_of ha hb h1
    obtain ⟨k, l, g'⟩ := good_of hc hd h2
    have ia := g.iabs; have ib := g.jabs; have ic := g'.iabs; have id := g'.jabs
    obtain ⟨rfl, rfl, q1, q2, q3, _, _⟩ := g
    obtain ⟨rfl, rfl, r1, r2, r3, _, _⟩ := g'
    have f1 := flt_wd ic ia
    have f2 := flt_wd ib id
    rw [ix_of ia, ix_of ib, ix_of ic, ix_of id]
    clear ia ib ic id q1 q2 q3 r1 r2 r3 ha hb hc hd h1 h2
    by_cases t1 : k < i <;> by_cases t2 : j < l
    · rw [decide_eq_true t1] at f1; rw [decide_eq_true t2] at f2
      rw [show min i k = k by omega, show max j l = l by omega]
      clear t1 t2
      generalize wd i = a at *
      generalize wd j = b at *
      generalize wd k = c at *
      generalize wd l = d at *
      go_enter Try.func25, Try.ntmps25
      go_wp2_with fail
      refine Calls.mono (rnone_any a b _) ?_
      rintro e w1 ⟨rfl, hb1⟩
      have hw1 : Below w.heap.size w w1 := Below.trans (by repeat (first | (with_reducible assumption) | (with_reducible exact Below.refl _ _) | ((with_reducible refine Below.alloc ?_ ?_ _); rotate_left; exact (by first | omega | (simp; done) | (simp; omega))) | ((with_reducible refine Below.setCell ?_ ?_ _); rotate_left; exact (by first | omega | (simp; done) | (simp; omega))) | (with_reducible refine Below.drew ?_))) (hb1.mono (by first | omega | (simp; done) | (simp; omega)))
      have hs1 := hb1.size
      try simp at hs1
      have hl1_0 : w.heap.size < w1.heap.size := by omega
      have k1_0_0 := below_cell hb1 (p := ⟨w.heap.size, 0, none⟩) (v := .float .f64 a) (by first | assumption | (go_simp; done))
      have k1_0_0z := below_frozen hb1 (p := ⟨w.heap.size, 0, none⟩) (v := .float .f64 a) (by first | assumption | (go_simp; done)) (by first | assumption | (go_simp; done))
      have k1_0_1 := below_cell hb1 (p := ⟨w.heap.size, 1, none⟩) (v := .float .f64 b) (by first | assumption | (go_simp; done))
      have k1_0_1z := below_frozen hb1 (p := ⟨w.heap.size, 1, none⟩) (v := .float .f64 b) (by first | assumption | (go_simp; done)) (by first | assumption | (go_simp; done))
      have hl1_1 : w.heap.size + 1 < w1.heap.size := by omega
      have k1_1_0 := below_cell hb1 (p := ⟨w.heap.size + 1, 0, none⟩) (v := .float .f64 c) (by first | assumption | (go_simp; done))
      have k1_1_0z := below_frozen hb1 (p := ⟨w.heap.size + 1, 0, none⟩) (v := .float .f64 c) (by first | assumption | (go_simp; done)) (by first | assumption | (go_simp; done))
      have k1_1_1 := below_cell hb1 (p := ⟨w.heap.size + 1, 1, none⟩) (v := .float .f64 d) (by first | assumption | (go_simp; done))
      have k1_1_1z := below_frozen hb1 (p := ⟨w.heap.size + 1, 1, none⟩) (v := .float .f64 d) (by first | assumption | (go_simp; done)) (by first | assumption | (go_simp; done))
      have hl1_2 : w.heap.size + 2 < w1.heap.size := by omega
      have k1_2_0 := below_cell hb1 (p := ⟨w.heap.size + 2, 0, none⟩) (v := .float .f64 0) (by first | assumption | (go_simp; done))
      have k1_2_0z := below_frozen hb1 (p := ⟨w.heap.size + 2, 0, none⟩) (v := .float .f64 0) (by first | assumption | (go_simp; done)) (by first | assumption | (go_simp; done))
      have k1_2_1 := below_cell hb1 (p := ⟨w.heap.size + 2, 1, none⟩) (v := .float .f64 0) (by first | assumption | (go_simp; done))
      have k1_2_1z := below_frozen hb1 (p := ⟨w.heap.size + 2, 1, none⟩) (v := .float .f64 0) (by first | assumption | (go_simp; done)) (by first | assumption | (go_simp; done))
      go_wp2_with fail
      refine Calls.mono (rnone_any a b _) ?_
      rintro e w2 ⟨rfl, hb2⟩
      have hw2 : Below w.heap.size w w2 := Below.trans (by repeat (first | (with_reducible assumption) | (with_reducible exact Below.refl _ _) | ((with_reducible refine Below.alloc ?_ ?_ _); rotate_left; exact (by first | omega | (simp; done) | (simp; omega))) | ((with_reducible refine Below.setCell ?_ ?_ _); rotate_left; exact (by first | omega | (simp; done) | (simp; omega))) | (with_reducible refine Below.drew ?_))) (hb2.mono (by first | omega | (simp; done) | (simp; omega)))
      have hs2 := hb2.size
      try simp at hs2
      have hl2_0 : w.heap.size < w2.heap.size := by omega
      have k2_0_0 := below_cell hb2 (p := ⟨w.heap.size, 0, none⟩) (v := .float .f64 a) (by first | assumption | (go_simp; done))
      have k2_0_0z := below_frozen hb2 (p := ⟨w.heap.size, 0, none⟩) (v := .float .f64 a) (by first | assumption | (go_simp; done)) (by first | assumption | (go_simp; done))
      have k2_0_1 := below_cell hb2 (p := ⟨w.heap.size, 1, none⟩) (v := .float .f64 b) (by first | assumption | (go_simp; done))
      have k2_0_1z := below_frozen hb2 (p := ⟨w.heap.size, 1, none⟩) (v := .float .f64 b) (by first | assumption | (go_simp; done)) (by first | assumption | (go_simp; done))
      have hl2_1 : w.heap.size + 1 < w2.heap.size := by omega
      have k2_1_0 := below_cell hb2 (p := ⟨w.heap.size + 1, 0, none⟩) (v := .float .f64 c) (by first | assumption | (go_simp; done))
      have k2_1_0z := below_frozen hb2 (p := ⟨w.heap.size + 1, 0, none⟩) (v := .float .f64 c) (by first | assumption | (go_simp; done)) (by first | assumption | (go_simp; done))
      have k2_1_1 := below_cell hb2 (p := ⟨w.heap.size + 1, 1, none⟩) (v := .float .f64 d) (by first | assumption | (go_simp; done))
      have k2_1_1z := below_frozen hb2 (p := ⟨w.heap.size + 1, 1, none⟩) (v := .float .f64 d) (by first | assumption | (go_simp; done)) (by first | assumption | (go_simp; done))
      have hl2_2 : w.heap.size + 2 < w2.heap.size := by omega
      have k2_2_0 := below_cell hb2 (p := ⟨w.heap.size + 2, 0, none⟩) (v := .float .f64 0) (by first | assumption | (go_simp; done))
      have k2_2_0z := below_frozen hb2 (p := ⟨w.heap.size + 2, 0, none⟩) (v := .float .f64 0) (by first | assumption | (go_simp; done)) (by first | assumption | (go_simp; done))
      have k2_2_1 := below_cell hb2 (p := ⟨w.heap.size + 2, 1, none⟩) (v := .float .f64 0) (by first | assumption | (go_simp; done))
      have k2_2_1z := below_frozen hb2 (p := ⟨w.heap.size + 2, 1, none⟩) (v := .float .f64 0) (by first | assumption | (go_simp; done)) (by first | assumption | (go_simp; done))
      go_wp2_with fail
      refine Calls.mono (rnone_any c d _) ?_
      rintro e w3 ⟨rfl, hb3⟩
      have hw3 : Below w.heap.size w w3 := Below.trans (by repeat (first | (with_reducible assumption) | (with_reducible exact Below.refl _ _) | ((with_reducible refine Below.alloc ?_ ?_ _); rotate_left; exact (by first | omega | (simp; done) | (simp; omega))) | ((with_reducible refine Below.setCell ?_ ?_ _); rotate_left; exact (by first | omega | (simp; done) | (simp; omega))) | (with_reducible refine Below.drew ?_))) (hb3.mono (by first | omega | (simp; done) | (simp; omega)))
      have hs3 := hb3.size
      try simp at hs3
      have hl3_0 : w.heap.size < w3.heap.size := by omega
      have k3_0_0 := below_cell hb3 (p := ⟨w.heap.size, 0, none⟩) (v := .float .f64 a) (by first | assumption | (go_simp; done))
      have k3_0_0z := below_frozen hb3 (p := ⟨w.heap.size, 0, none⟩) (v := .float .f64 a) (by first | assumption | (go_simp; done)) (by first | assumption | (go_simp; done))
      have k3_0_1 := below_cell hb3 (p := ⟨w.heap.size, 1, none⟩) (v := .float .f64 b) (by first | assumption | (go_simp; done))
      have k3_0_1z := below_frozen hb3 (p := ⟨w.heap.size, 1, none⟩) (v := .float .f64 b) (by first | assumption | (go_simp; done)) (by first | assumption | (go_simp; done))
      have hl3_1 : w.heap.size + 1 < w3.heap.size := by omega
      have k3_1_0 := below_cell hb3 (p := ⟨w.heap.size + 1, 0, none⟩) (v := .float .f64 c) (by first | assumption | (go_simp; done))
      have k3_1_0z := below_frozen hb3 (p := ⟨w.heap.size + 1, 0, none⟩) (v := .float .f64 c) (by first | assumption | (go_simp; done)) (by first | assumption | (go_simp; done))
      have k3_1_1 := below_cell hb3 (p := ⟨w.heap.size + 1, 1, none⟩) (v := .float .f64 d) (by first | assumption | (go_simp; done))
      have k3_1_1z := below_frozen hb3 (p := ⟨w.heap.size + 1, 1, none⟩) (v := .float .f64 d) (by first | assumption | (go_simp; done)) (by first | assumption | (go_simp; done))
      have hl3_2 : w.heap.size + 2 < w3.heap.size := by omega
      have k3_2_0 := below_cell hb3 (p := ⟨w.heap.size + 2, 0, none⟩) (v := .float .f64 0) (by first | assumption | (go_simp; done))
      have k3_2_0z := below_frozen hb3 (p := ⟨w.heap.size + 2, 0, none⟩) (v := .float .f64 0) (by first | assumption | (go_simp; done)) (by first | assumption | (go_simp; done))
      have k3_2_1 := below_cell hb3 (p := ⟨w.heap.size + 2, 1, none⟩) (v := .float .f64 0) (by first | assumption | (go_simp; done))
      have k3_2_1z := below_frozen hb3 (p := ⟨w.heap.size + 2, 1, none⟩) (v := .float .f64 0) (by first | assumption | (go_simp; done)) (by first | assumption | (go_simp; done))
      go_wp2
      exact bodyPost_ret (v := (.agg #[.float .f64 c, .float .f64 d])) (by simp [results, Try.results25, go_sem, *]) rfl ⟨rfl, (by repeat (first | (with_reducible assumption) | (with_reducible exact Below.refl _ _) | ((with_reducible refine Below.alloc ?_ ?_ _); rotate_left; exact (by first | omega | (simp; done) | (simp; omega))) | ((with_reducible refine Below.setCell ?_ ?_ _); rotate_left; exact (by first | omega | (simp; done) | (simp; omega))) | (with_reducible refine Below.drew ?_)))⟩
    · rw [decide_eq_true t1] at f1; rw [decide_eq_false t2] at f2
      rw [show min i k = k by omega, show max j l = j by omega]
      clear t1 t2
      generalize wd i = a at *
      generalize wd j = b at *
      generalize wd k = c at *
      generalize wd l = d at *
      go_enter Try.func25, Try.ntmps25
      go_wp2_with fail
      refine Calls.mono (rnone_any a b _) ?_
      rintro e w1 ⟨rfl, hb1⟩
      have hw1 : Below w.heap.size w w1 := Below.trans (by repeat (first | (with_reducible assumption) | (with_reducible exact Below.refl _ _) | ((with_reducible refine Below.alloc ?_ ?_ _); rotate_left; exact (by first | omega | (simp; done) | (simp; omega))) | ((with_reducible refine Below.setCell ?_ ?_ _); rotate_left; exact (by first | omega | (simp; done) | (simp; omega))) | (with_reducible refine Below.drew ?_))) (hb1.mono (by first | omega | (simp; done) | (simp; omega)))
      have hs1 := hb1.size
      try simp at hs1
      have hl1_0 : w.heap.size < w1.heap.size := by omega
      have k1_0_0 := below_cell hb1 (p := ⟨w.heap.size, 0, none⟩) (v := .float .f64 a) (by first | assumption | (go_simp; done))
      have k1_0_0z := below_frozen hb1 (p := ⟨w.heap.size, 0, none⟩) (v := .float .f64 a) (by first | assumption | (go_simp; done)) (by first | assumption | (go_simp; done))
      have k1_0_1 := below_cell hb1 (p := ⟨w.heap.size, 1, none⟩) (v := .float .f64 b) (by first | assumption | (go_simp; done))
      have k1_0_1z := below_frozen hb1 (p := ⟨w.heap.size, 1, none⟩) (v := .float .f64 b) (by first | assumption | (go_simp; done)) (by first | assumption | (go_simp; done))
      have hl1_1 : w.heap.size + 1 < w1.heap.size := by omega
      have k1_1_0 := below_cell hb1 (p := ⟨w.heap.size + 1, 0, none⟩) (v := .float .f64 c) (by first | assumption | (go_simp; done))
      have k1_1_0z := below_frozen hb1 (p := ⟨w.heap.size + 1, 0, none⟩) (v := .float .f64 c) (by first | assumption | (go_simp; done)) (by first | assumption | (go_simp; done))
      have k1_1_1 := below_cell hb1 (p := ⟨w.heap.size + 1, 1, none⟩) (v := .float .f64 d) (by first | assumption | (go_simp; done))
      have k1_1_1z := below_frozen hb1 (p := ⟨w.heap.size + 1, 1, none⟩) (v := .float .f64 d) (by first | assumption | (go_simp; done)) (by first | assumption | (go_simp; done))
      have hl1_2 : w.heap.size + 2 < w1.heap.size := by omega
      have k1_2_0 := below_cell hb1 (p := ⟨w.heap.size + 2, 0, none⟩) (v := .float .f64 0) (by first | assumption | (go_simp; done))
      have k1_2_0z := below_frozen hb1 (p := ⟨w.heap.size + 2, 0, none⟩) (v := .float .f64 0) (by first | assumption | (go_simp; done)) (by first | assumption | (go_simp; done))
      have k1_2_1 := below_cell hb1 (p := ⟨w.heap.size + 2, 1, none⟩) (v := .float .f64 0) (by first | assumption | (go_simp; done))
      have k1_2_1z := below_frozen hb1 (p := ⟨w.heap.size + 2, 1, none⟩) (v := .float .f64 0) (by first | assumption | (go_simp; done)) (by first | assumption | (go_simp; done))
      go_wp2_with fail
      refine Calls.mono (rnone_any a b _) ?_
      rintro e w2 ⟨rfl, hb2⟩
      have hw2 : Below w.heap.size w w2 := Below.trans (by repeat (first | (with_reducible assumption) | (with_reducible exact Below.refl _ _) | ((with_reducible refine Below.alloc ?_ ?_ _); rotate_left; exact (by first | omega | (simp; done) | (simp; omega))) | ((with_reducible refine Below.setCell ?_ ?_ _); rotate_left; exact (by first | omega | (simp; done) | (simp; omega))) | (with_reducible refine Below.drew ?_))) (hb2.mono (by first | omega | (simp; done) | (simp; omega)))
      have hs2 := hb2.size
      try simp at hs2
      have hl2_0 : w.heap.size < w2.heap.size := by omega
      have k2_0_0 := below_cell hb2 (p := ⟨w.heap.size, 0, none⟩) (v := .float .f64 a) (by first | assumption | (go_simp; done))
      have k2_0_0z := below_frozen hb2 (p := ⟨w.heap.size, 0, none⟩) (v := .float .f64 a) (by first | assumption | (go_simp; done)) (by first | assumption | (go_simp; done))
      have k2_0_1 := below_cell hb2 (p := ⟨w.heap.size, 1, none⟩) (v := .float .f64 b) (by first | assumption | (go_simp; done))
      have k2_0_1z := below_frozen hb2 (p := ⟨w.heap.size, 1, none⟩) (v := .float .f64 b) (by first | assumption | (go_simp; done)) (by first | assumption | (go_simp; done))
      have hl2_1 : w.heap.size + 1 < w2.heap.size := by omega
      have k2_1_0 := below_cell hb2 (p := ⟨w.heap.size + 1, 0, none⟩) (v := .float .f64 c) (by first | assumption | (go_simp; done))
      have k2_1_0z := below_frozen hb2 (p := ⟨w.heap.size + 1, 0, none⟩) (v := .float .f64 c) (by first | assumption | (go_simp; done)) (by first | assumption | (go_simp; done))
      have k2_1_1 := below_cell hb2 (p := ⟨w.heap.size + 1, 1, none⟩) (v := .float .f64 d) (by first | assumption | (go_simp; done))
      have k2_1_1z := below_frozen hb2 (p := ⟨w.heap.size + 1, 1, none⟩) (v := .float .f64 d) (by first | assumption | (go_simp; done)) (by first | assumption | (go_simp; done))
      have hl2_2 : w.heap.size + 2 < w2.heap.size := by omega
      have k2_2_0 := below_cell hb2 (p := ⟨w.heap.size + 2, 0, none⟩) (v := .float .f64 0) (by first | assumption | (go_simp; done))
      have k2_2_0z := below_frozen hb2 (p := ⟨w.heap.size + 2, 0, none⟩) (v := .float .f64 0) (by first | assumption | (go_simp; done)) (by first | assumption | (go_simp; done))
      have k2_2_1 := below_cell hb2 (p := ⟨w.heap.size + 2, 1, none⟩) (v := .float .f64 0) (by first | assumption | (go_simp; done))
      have k2_2_1z := below_frozen hb2 (p := ⟨w.heap.size + 2, 1, none⟩) (v := .float .f64 0) (by first | assumption | (go_simp; done)) (by first | assumption | (go_simp; done))
      go_wp2_with fail
      refine Calls.mono (rnone_any c d _) ?_
      rintro e w3 ⟨rfl, hb3⟩
      have hw3 : Below w.heap.size w w3 := Below.trans (by repeat (first | (with_reducible assumption) | (with_reducible exact Below.refl _ _) | ((with_reducible refine Below.alloc ?_ ?_ _); rotate_left; exact (by first | omega | (simp; done) | (simp; omega))) | ((with_reducible refine Below.setCell ?_ ?_ _); rotate_left; exact (by first | omega | (simp; done) | (simp; omega))) | (with_reducible refine Below.drew ?_))) (hb3.mono (by first | omega | (simp; done) | (simp; omega)))
      have hs3 := hb3.size
      try simp at hs3
      have hl3_0 : w.heap.size < w3.heap.size := by omega
      have k3_0_0 := below_cell hb3 (p := ⟨w.heap.size, 0, none⟩) (v := .float .f64 a) (by first | assumption | (go_simp; done))
      have k3_0_0z := below_frozen hb3 (p := ⟨w.heap.size, 0, none⟩) (v := .float .f64 a) (by first | assumption | (go_simp; done)) (by first | assumption | (go_simp; done))
      have k3_0_1 := below_cell hb3 (p := ⟨w.heap.size, 1, none⟩) (v := .float .f64 b) (by first | assumption | (go_simp; done))
      have k3_0_1z := below_frozen hb3 (p := ⟨w.heap.size, 1, none⟩) (v := .float .f64 b) (by first | assumption | (go_simp; done)) (by first | assumption | (go_simp; done))
      have hl3_1 : w.heap.size + 1 < w3.heap.size := by omega
      have k3_1_0 := below_cell hb3 (p := ⟨w.heap.size + 1, 0, none⟩) (v := .float .f64 c) (by first | assumption | (go_simp; done))
      have k3_1_0z := below_frozen hb3 (p := ⟨w.heap.size + 1, 0, none⟩) (v := .float .f64 c) (by first | assumption | (go_simp; done)) (by first | assumption | (go_simp; done))
      have k3_1_1 := below_cell hb3 (p := ⟨w.heap.size + 1, 1, none⟩) (v := .float .f64 d) (by first | assumption | (go_simp; done))
      have k3_1_1z := below_frozen hb3 (p := ⟨w.heap.size + 1, 1, none⟩) (v := .float .f64 d) (by first | assumption | (go_simp; done)) (by first | assumption | (go_simp; done))
      have hl3_2 : w.heap.size + 2 < w3.heap.size := by omega
      have k3_2_0 := below_cell hb3 (p := ⟨w.heap.size + 2, 0, none⟩) (v := .float .f64 0) (by first | assumption | (go_simp; done))
      have k3_2_0z := below_frozen hb3 (p := ⟨w.heap.size + 2, 0, none⟩) (v := .float .f64 0) (by first | assumption | (go_simp; done)) (by first | assumption | (go_simp; done))
      have k3_2_1 := below_cell hb3 (p := ⟨w.heap.size + 2, 1, none⟩) (v := .float .f64 0) (by first | assumption | (go_simp; done))
      have k3_2_1z := below_frozen hb3 (p := ⟨w.heap.size + 2, 1, none⟩) (v := .float .f64 0) (by first | assumption | (go_simp; done)) (by first | assumption | (go_simp; done))
      go_wp2
      exact bodyPost_ret (v := (.agg #[.float .f64 c, .float .f64 b])) (by simp [results, Try.results25, go_sem, *]) rfl ⟨rfl, (by repeat (first | (with_reducible assumption) | (with_reducible exact Below.refl _ _) | ((with_reducible refine Below.alloc ?_ ?_ _); rotate_left; exact (by first | omega | (simp; done) | (simp; omega))) | ((with_reducible refine Below.setCell ?_ ?_ _); rotate_left; exact (by first | omega | (simp; done) | (simp; omega))) | (with_reducible refine Below.drew ?_)))⟩
    · rw [decide_eq_false t1] at f1; rw [decide_eq_true t2] at f2
      rw [show min i k = i by omega, show max j l = l by omega]
      clear t1 t2
      generalize wd i = a at *
      generalize wd j = b at *
      generalize wd k = c at *
      generalize wd l = d at *
      go_enter Try.func25, Try.ntmps25
      go_wp2_with fail
      refine Calls.mono (rnone_any a b _) ?_
      rintro e w1 ⟨rfl, hb1⟩
      have hw1 : Below w.heap.size w w1 := Below.trans (by repeat (first | (with_reducible assumption) | (with_reducible exact Below.refl _ _) | ((with_reducible refine Below.alloc ?_ ?_ _); rotate_left; exact (by first | omega | (simp; done) | (simp; omega))) | ((with_reducible refine Below.setCell ?_ ?_ _); rotate_left; exact (by first | omega | (simp; done) | (simp; omega))) | (with_reducible refine Below.drew ?_))) (hb1.mono (by first | omega | (simp; done) | (simp; omega)))
      have hs1 := hb1.size
      try simp at hs1
      have hl1_0 : w.heap.size < w1.heap.size := by omega
      have k1_0_0 := below_cell hb1 (p := ⟨w.heap.size, 0, none⟩) (v := .float .f64 a) (by first | assumption | (go_simp; done))
      have k1_0_0z := below_frozen hb1 (p := ⟨w.heap.size, 0, none⟩) (v := .float .f64 a) (by first | assumption | (go_simp; done)) (by first | assumption | (go_simp; done))
      have k1_0_1 := below_cell hb1 (p := ⟨w.heap.size, 1, none⟩) (v := .float .f64 b) (by first | assumption | (go_simp; done))
      have k1_0_1z := below_frozen hb1 (p := ⟨w.heap.size, 1, none⟩) (v := .float .f64 b) (by first | assumption | (go_simp; done)) (by first | assumption | (go_simp; done))
      have hl1_1 : w.heap.size + 1 < w1.heap.size := by omega
      have k1_1_0 := below_cell hb1 (p := ⟨w.heap.size + 1, 0, none⟩) (v := .float .f64 c) (by first | assumption | (go_simp; done))
      have k1_1_0z := below_frozen hb1 (p := ⟨w.heap.size + 1, 0, none⟩) (v := .float .f64 c) (by first | assumption | (go_simp; done)) (by first | assumption | (go_simp; done))
      have k1_1_1 := below_cell hb1 (p := ⟨w.heap.size + 1, 1, none⟩) (v := .float .f64 d) (by first | assumption | (go_simp; done))
      have k1_1_1z := below_frozen hb1 (p := ⟨w.heap.size + 1, 1, none⟩) (v := .float .f64 d) (by first | assumption | (go_simp; done)) (by first | assumption | (go_simp; done))
      have hl1_2 : w.heap.size + 2 < w1.heap.size := by omega
      have k1_2_0 := below_cell hb1 (p := ⟨w.heap.size + 2, 0, none⟩) (v := .float .f64 0) (by first | assumption | (go_simp; done))
      have k1_2_0z := below_frozen hb1 (p := ⟨w.heap.size + 2, 0, none⟩) (v := .float .f64 0) (by first | assumption | (go_simp; done)) (by first | assumption | (go_simp; done))
      have k1_2_1 := below_cell hb1 (p := ⟨w.heap.size + 2, 1, none⟩) (v := .float .f64 0) (by first | assumption | (go_simp; done))
      have k1_2_1z := below_frozen hb1 (p := ⟨w.heap.size + 2, 1, none⟩) (v := .float .f64 0) (by first | assumption | (go_simp; done)) (by first | assumption | (go_simp; done))
      go_wp2_with fail
      refine Calls.mono (rnone_any a b _) ?_
      rintro e w2 ⟨rfl, hb2⟩
      have hw2 : Below w.heap.size w w2 := Below.trans (by repeat (first | (with_reducible assumption) | (with_reducible exact Below.refl _ _) | ((with_reducible refine Below.alloc ?_ ?_ _); rotate_left; exact (by first | omega | (simp; done) | (simp; omega))) | ((with_reducible refine Below.setCell ?_ ?_ _); rotate_left; exact (by first | omega | (simp; done) | (simp; omega))) | (with_reducible refine Below.drew ?_))) (hb2.mono (by first | omega | (simp; done) | (simp; omega)))
      have hs2 := hb2.size
      try simp at hs2
      have hl2_0 : w.heap.size < w2.heap.size := by omega
      have k2_0_0 := below_cell hb2 (p := ⟨w.heap.size, 0, none⟩) (v := .float .f64 a) (by first | assumption | (go_simp; done))
      have k2_0_0z := below_frozen hb2 (p := ⟨w.heap.size, 0, none⟩) (v := .float .f64 a) (by first | assumption | (go_simp; done)) (by first | assumption | (go_simp; done))
      have k2_0_1 := below_cell hb2 (p := ⟨w.heap.size, 1, none⟩) (v := .float .f64 b) (by first | assumption | (go_simp; done))
      have k2_0_1z := below_frozen hb2 (p := ⟨w.heap.size, 1, none⟩) (v := .float .f64 b) (by first | assumption | (go_simp; done)) (by first | assumption | (go_simp; done))
      have hl2_1 : w.heap.size + 1 < w2.heap.size := by omega
      have k2_1_0 := below_cell hb2 (p := ⟨w.heap.size + 1, 0, none⟩) (v := .float .f64 c) (by first | assumption | (go_simp; done))
      have k2_1_0z := below_frozen hb2 (p := ⟨w.heap.size + 1, 0, none⟩) (v := .float .f64 c) (by first | assumption | (go_simp; done)) (by first | assumption | (go_simp; done))
      have k2_1_1 := below_cell hb2 (p := ⟨w.heap.size + 1, 1, none⟩) (v := .float .f64 d) (by first | assumption | (go_simp; done))
      have k2_1_1z := below_frozen hb2 (p := ⟨w.heap.size + 1, 1, none⟩) (v := .float .f64 d) (by first | assumption | (go_simp; done)) (by first | assumption | (go_simp; done))
      have hl2_2 : w.heap.size + 2 < w2.heap.size := by omega
      have k2_2_0 := below_cell hb2 (p := ⟨w.heap.size + 2, 0, none⟩) (v := .float .f64 0) (by first | assumption | (go_simp; done))
      have k2_2_0z := below_frozen hb2 (p := ⟨w.heap.size + 2, 0, none⟩) (v := .float .f64 0) (by first | assumption | (go_simp; done)) (by first | assumption | (go_simp; done))
      have k2_2_1 := below_cell hb2 (p := ⟨w.heap.size + 2, 1, none⟩) (v := .float .f64 0) (by first | assumption | (go_simp; done))
      have k2_2_1z := below_frozen hb2 (p := ⟨w.heap.size + 2, 1, none⟩) (v := .float .f64 0) (by first | assumption | (go_simp; done)) (by first | assumption | (go_simp; done))
      go_wp2_with fail
      refine Calls.mono (rnone_any c d _) ?_
      rintro e w3 ⟨rfl, hb3⟩
      have hw3 : Below w.heap.size w w3 := Below.trans (by repeat (first | (with_reducible assumption) | (with_reducible exact Below.refl _ _) | ((with_reducible refine Below.alloc ?_ ?_ _); rotate_left; exact (by first | omega | (simp; done) | (simp; omega))) | ((with_reducible refine Below.setCell ?_ ?_ _); rotate_left; exact (by first | omega | (simp; done) | (simp; omega))) | (with_reducible refine Below.drew ?_))) (hb3.mono (by first | omega | (simp; done) | (simp; omega)))
      have hs3 := hb3.size
      try simp at hs3
      have hl3_0 : w.heap.size < w3.heap.size := by omega
      have k3_0_0 := below_cell hb3 (p := ⟨w.heap.size, 0, none⟩) (v := .float .f64 a) (by first | assumption | (go_simp; done))
      have k3_0_0z := below_frozen hb3 (p := ⟨w.heap.size, 0, none⟩) (v := .float .f64 a) (by first | assumption | (go_simp; done)) (by first | assumption | (go_simp; done))
      have k3_0_1 := below_cell hb3 (p := ⟨w.heap.size, 1, none⟩) (v := .float .f64 b) (by first | assumption | (go_simp; done))
      have k3_0_1z := below_frozen hb3 (p := ⟨w.heap.size, 1, none⟩) (v := .float .f64 b) (by first | assumption | (go_simp; done)) (by first | assumption | (go_simp; done))
      have hl3_1 : w.heap.size + 1 < w3.heap.size := by omega
      have k3_1_0 := below_cell hb3 (p := ⟨w.heap.size + 1, 0, none⟩) (v := .float .f64 c) (by first | assumption | (go_simp; done))
      have k3_1_0z := below_frozen hb3 (p := ⟨w.heap.size + 1, 0, none⟩) (v := .float .f64 c) (by first | assumption | (go_simp; done)) (by first | assumption | (go_simp; done))
      have k3_1_1 := below_cell hb3 (p := ⟨w.heap.size + 1, 1, none⟩) (v := .float .f64 d) (by first | assumption | (go_simp; done))
      have k3_1_1z := below_frozen hb3 (p := ⟨w.heap.size + 1, 1, none⟩) (v := .float .f64 d) (by first | assumption | (go_simp; done)) (by first | assumption | (go_simp; done))
      have hl3_2 : w.heap.size + 2 < w3.heap.size := by omega
      have k3_2_0 := below_cell hb3 (p := ⟨w.heap.size + 2, 0, none⟩) (v := .float .f64 0) (by first | assumption | (go_simp; done))
      have k3_2_0z := below_frozen hb3 (p := ⟨w.heap.size + 2, 0, none⟩) (v := .float .f64 0) (by first | assumption | (go_simp; done)) (by first | assumption | (go_simp; done))
      have k3_2_1 := below_cell hb3 (p := ⟨w.heap.size + 2, 1, none⟩) (v := .float .f64 0) (by first | assumption | (go_simp; done))
      have k3_2_1z := below_frozen hb3 (p := ⟨w.heap.size + 2, 1, none⟩) (v := .float .f64 0) (by first | assumption | (go_simp; done)) (by first | assumption | (go_simp; done))
      go_wp2
      exact bodyPost_ret (v := (.agg #[.float .f64 a, .float .f64 d])) (by simp [results, Try.results25, go_sem, *]) rfl ⟨rfl, (by repeat (first | (with_reducible assumption) | (with_reducible exact Below.refl _ _) | ((with_reducible refine Below.alloc ?_ ?_ _); rotate_left; exact (by first | omega | (simp; done) | (simp; omega))) | ((with_reducible refine Below.setCell ?_ ?_ _); rotate_left; exact (by first | omega | (simp; done) | (simp; omega))) | (with_reducible refine Below.drew ?_)))⟩
    · rw [decide_eq_false t1] at f1; rw [decide_eq_false t2] at f2
      rw [show min i k = i by omega, show max j l = j by omega]
      clear t1 t2
      generalize wd i = a at *
      generalize wd j = b at *
      generalize wd k = c at *
      generalize wd l = d at *
      go_enter Try.func25, Try.ntmps25
      go_wp2_with fail
      refine Calls.mono (rnone_any a b _) ?_
      rintro e w1 ⟨rfl, hb1⟩
      have hw1 : Below w.heap.size w w1 := Below.trans (by repeat (first | (with_reducible assumption) | (with_reducible exact Below.refl _ _) | ((with_reducible refine Below.alloc ?_ ?_ _); rotate_left; exact (by first | omega | (simp; done) | (simp; omega))) | ((with_reducible refine Below.setCell ?_ ?_ _); rotate_left; exact (by first | omega | (simp; done) | (simp; omega))) | (with_reducible refine Below.drew ?_))) (hb1.mono (by first | omega | (simp; done) | (simp; omega)))
      have hs1 := hb1.size
      try simp at hs1
      have hl1_0 : w.heap.size < w1.heap.size := by omega
      have k1_0_0 := below_cell hb1 (p := ⟨w.heap.size, 0, none⟩) (v := .float .f64 a) (by first | assumption | (go_simp; done))
      have k1_0_0z := below_frozen hb1 (p := ⟨w.heap.size, 0, none⟩) (v := .float .f64 a) (by first | assumption | (go_simp; done)) (by first | assumption | (go_simp; done))
      have k1_0_1 := below_cell hb1 (p := ⟨w.heap.size, 1, none⟩) (v := .float .f64 b) (by first | assumption | (go_simp; done))
      have k1_0_1z := below_frozen hb1 (p := ⟨w.heap.size, 1, none⟩) (v := .float .f64 b) (by first | assumption | (go_simp; done)) (by first | assumption | (go_simp; done))
      have hl1_1 : w.heap.size + 1 < w1.heap.size := by omega
      have k1_1_0 := below_cell hb1 (p := ⟨w.heap.size + 1, 0, none⟩) (v := .float .f64 c) (by first | assumption | (go_simp; done))
      have k1_1_0z := below_frozen hb1 (p := ⟨w.heap.size + 1, 0, none⟩) (v := .float .f64 c) (by first | assumption | (go_simp; done)) (by first | assumption | (go_simp; done))
      have k1_1_1 := below_cell hb1 (p := ⟨w.heap.size + 1, 1, none⟩) (v := .float .f64 d) (by first | assumption | (go_simp; done))
      have k1_1_1z := below_frozen hb1 (p := ⟨w.heap.size + 1, 1, none⟩) (v := .float .f64 d) (by first | assumption | (go_simp; done)) (by first | assumption | (go_simp; done))
      have hl1_2 : w.heap.size + 2 < w1.heap.size := by omega
      have k1_2_0 := below_cell hb1 (p := ⟨w.heap.size + 2, 0, none⟩) (v := .float .f64 0) (by first | assumption | (go_simp; done))
      have k1_2_0z := below_frozen hb1 (p := ⟨w.heap.size + 2, 0, none⟩) (v := .float .f64 0) (by first | assumption | (go_simp; done)) (by first | assumption | (go_simp; done))
      have k1_2_1 := below_cell hb1 (p := ⟨w.heap.size + 2, 1, none⟩) (v := .float .f64 0) (by first | assumption | (go_simp; done))
      have k1_2_1z := below_frozen hb1 (p := ⟨w.heap.size + 2, 1, none⟩) (v := .float .f64 0) (by first | assumption | (go_simp; done)) (by first | assumption | (go_simp; done))
      go_wp2_with fail
      refine Calls.mono (rnone_any a b _) ?_
      rintro e w2 ⟨rfl, hb2⟩
      have hw2 : Below w.heap.size w w2 := Below.trans (by repeat (first | (with_reducible assumption) | (with_reducible exact Below.refl _ _) | ((with_reducible refine Below.alloc ?_ ?_ _); rotate_left; exact (by first | omega | (simp; done) | (simp; omega))) | ((with_reducible refine Below.setCell ?_ ?_ _); rotate_left; exact (by first | omega | (simp; done) | (simp; omega))) | (with_reducible refine Below.drew ?_))) (hb2.mono (by first | omega | (simp; done) | (simp; omega)))
      have hs2 := hb2.size
      try simp at hs2
      have hl2_0 : w.heap.size < w2.heap.size := by omega
      have k2_0_0 := below_cell hb2 (p := ⟨w.heap.size, 0, none⟩) (v := .float .f64 a) (by first | assumption | (go_simp; done))
      have k2_0_0z := below_frozen hb2 (p := ⟨w.heap.size, 0, none⟩) (v := .float .f64 a) (by first | assumption | (go_simp; done)) (by first | assumption | (go_simp; done))
      have k2_0_1 := below_cell hb2 (p := ⟨w.heap.size, 1, none⟩) (v := .float .f64 b) (by first | assumption | (go_simp; done))
      have k2_0_1z := below_frozen hb2 (p := ⟨w.heap.size, 1, none⟩) (v := .float .f64 b) (by first | assumption | (go_simp; done)) (by first | assumption | (go_simp; done))
      have hl2_1 : w.heap.size + 1 < w2.heap.size := by omega
      have k2_1_0 := below_cell hb2 (p := ⟨w.heap.size + 1, 0, none⟩) (v := .float .f64 c) (by first | assumption | (go_simp; done))
      have k2_1_0z := below_frozen hb2 (p := ⟨w.heap.size + 1, 0, none⟩) (v := .float .f64 c) (by first | assumption | (go_simp; done)) (by first | assumption | (go_simp; done))
      have k2_1_1 := below_cell hb2 (p := ⟨w.heap.size + 1, 1, none⟩) (v := .float .f64 d) (by first | assumption | (go_simp; done))
      have k2_1_1z := below_frozen hb2 (p := ⟨w.heap.size + 1, 1, none⟩) (v := .float .f64 d) (by first | assumption | (go_simp; done)) (by first | assumption | (go_simp; done))
      have hl2_2 : w.heap.size + 2 < w2.heap.size := by omega
      have k2_2_0 := below_cell hb2 (p := ⟨w.heap.size + 2, 0, none⟩) (v := .float .f64 0) (by first | assumption | (go_simp; done))
      have k2_2_0z := below_frozen hb2 (p := ⟨w.heap.size + 2, 0, none⟩) (v := .float .f64 0) (by first | assumption | (go_simp; done)) (by first | assumption | (go_simp; done))
      have k2_2_1 := below_cell hb2 (p := ⟨w.heap.size + 2, 1, none⟩) (v := .float .f64 0) (by first | assumption | (go_simp; done))
      have k2_2_1z := below_frozen hb2 (p := ⟨w.heap.size + 2, 1, none⟩) (v := .float .f64 0) (by first | assumption | (go_simp; done)) (by first | assumption | (go_simp; done))
      go_wp2_with fail
      refine Calls.mono (rnone_any c d _) ?_
      rintro e w3 ⟨rfl, hb3⟩
      have hw3 : Below w.heap.size w w3 := Below.trans (by repeat (first | (with_reducible assumption) | (with_reducible exact Below.refl _ _) | ((with_reducible refine Below.alloc ?_ ?_ _); rotate_left; exact (by first | omega | (simp; done) | (simp; omega))) | ((with_reducible refine Below.setCell ?_ ?_ _); rotate_left; exact (by first | omega | (simp; done) | (simp; omega))) | (with_reducible refine Below.drew ?_))) (hb3.mono (by first | omega | (simp; done) | (simp; omega)))
      have hs3 := hb3.size
      try simp at hs3
      have hl3_0 : w.heap.size < w3.heap.size := by omega
      have k3_0_0 := below_cell hb3 (p := ⟨w.heap.size, 0, none⟩) (v := .float .f64 a) (by first | assumption | (go_simp; done))
      have k3_0_0z := below_frozen hb3 (p := ⟨w.heap.size, 0, none⟩) (v := .float .f64 a) (by first | assumption | (go_simp; done)) (by first | assumption | (go_simp; done))
      have k3_0_1 := below_cell hb3 (p := ⟨w.heap.size, 1, none⟩) (v := .float .f64 b) (by first | assumption | (go_simp; done))
      have k3_0_1z := below_frozen hb3 (p := ⟨w.heap.size, 1, none⟩) (v := .float .f64 b) (by first | assumption | (go_simp; done)) (by first | assumption | (go_simp; done))
      have hl3_1 : w.heap.size + 1 < w3.heap.size := by omega
      have k3_1_0 := below_cell hb3 (p := ⟨w.heap.size + 1, 0, none⟩) (v := .float .f64 c) (by first | assumption | (go_simp; done))
      have k3_1_0z := below_frozen hb3 (p := ⟨w.heap.size + 1, 0, none⟩) (v := .float .f64 c) (by first | assumption | (go_simp; done)) (by first | assumption | (go_simp; done))
      have k3_1_1 := below_cell hb3 (p := ⟨w.heap.size + 1, 1, none⟩) (v := .float .f64 d) (by first | assumption | (go_simp; done))
      have k3_1_1z := below_frozen hb3 (p := ⟨w.heap.size + 1, 1, none⟩) (v := .float .f64 d) (by first | assumption | (go_simp; done)) (by first | assumption | (go_simp; done))
      have hl3_2 : w.heap.size + 2 < w3.heap.size := by omega
      have k3_2_0 := below_cell hb3 (p := ⟨w.heap.size + 2, 0, none⟩) (v := .float .f64 0) (by first | assumption | (go_simp; done))
      have k3_2_0z := below_frozen hb3 (p := ⟨w.heap.size + 2, 0, none⟩) (v := .float .f64 0) (by first | assumption | (go_simp; done)) (by first | assumption | (go_simp; done))
      have k3_2_1 := below_cell hb3 (p := ⟨w.heap.size + 2, 1, none⟩) (v := .float .f64 0) (by first | assumption | (go_simp; done))
      have k3_2_1z := below_frozen hb3 (p := ⟨w.heap.size + 2, 1, none⟩) (v := .float .f64 0) (by first | assumption | (go_simp; done)) (by first | assumption | (go_simp; done))
      go_wp2
      exact bodyPost_ret (v := (.agg #[.float .f64 a, .float .f64 b])) (by simp [results, Try.results25, go_sem, *]) rfl ⟨rfl, (by repeat (first | (with_reducible assumption) | (with_reducible exact Below.refl _ _) | ((with_reducible refine Below.alloc ?_ ?_ _); rotate_left; exact (by first | omega | (simp; done) | (simp; omega))) | ((with_reducible refine Below.setCell ?_ ?_ _); rotate_left; exact (by first | omega | (simp; done) | (simp; omega))) | (with_reducible refine Below.drew ?_)))⟩
  · simp only [Bool.false_eq_true, if_false, if_true]
    rw [h1] at e1; rw [h2] at e2
    clear ha hb hc hd
    go_enter Try.func25, Try.ntmps25
    go_wp2_with fail
    refine Calls.mono (rnone_any a b _) ?_
    rintro e w1 ⟨rfl, hb1⟩
    have hw1 : Below w.heap.size w w1 := Below.trans (by repeat (first | (with_reducible assumption) | (with_reducible exact Below.refl _ _) | ((with_reducible refine Below.alloc ?_ ?_ _); rotate_left; exact (by first | omega | (simp; done) | (simp; omega))) | ((with_reducible refine Below.setCell ?_ ?_ _); rotate_left; exact (by first | omega | (simp; done) | (simp; omega))) | (with_reducible refine Below.drew ?_))) (hb1.mono (by first | omega | (simp; done) | (simp; omega)))
    have hs1 := hb1.size
    try simp at hs1
    have hl1_0 : w.heap.size < w1.heap.size := by omega
    have k1_0_0 := below_cell hb1 (p := ⟨w.heap.size, 0, none⟩) (v := .float .f64 a) (by first | assumption | (go_simp; done))
    have k1_0_0z := below_frozen hb1 (p := ⟨w.heap.size, 0, none⟩) (v := .float .f64 a) (by first | assumption | (go_simp; done)) (by first | assumption | (go_simp; done))
    have k1_0_1 := below_cell hb1 (p := ⟨w.heap.size, 1, none⟩) (v := .float .f64 b) (by first | assumption | (go_simp; done))
    have k1_0_1z := below_frozen hb1 (p := ⟨w.heap.size, 1, none⟩) (v := .float .f64 b) (by first | assumption | (go_simp; done)) (by first | assumption | (go_simp; done))
    have hl1_1 : w.heap.size + 1 < w1.heap.size := by omega
    have k1_1_0 := below_cell hb1 (p := ⟨w.heap.size + 1, 0, none⟩) (v := .float .f64 c) (by first | assumption | (go_simp; done))
    have k1_1_0z := below_frozen hb1 (p := ⟨w.heap.size + 1, 0, none⟩) (v := .float .f64 c) (by first | assumption | (go_simp; done)) (by first | assumption | (go_simp; done))
    have k1_1_1 := below_cell hb1 (p := ⟨w.heap.size + 1, 1, none⟩) (v := .float .f64 d) (by first | assumption | (go_simp; done))
    have k1_1_1z := below_frozen hb1 (p := ⟨w.heap.size + 1, 1, none⟩) (v := .float .f64 d) (by first | assumption | (go_simp; done)) (by first | assumption | (go_simp; done))
    have hl1_2 : w.heap.size + 2 < w1.heap.size := by omega
    have k1_2_0 := below_cell hb1 (p := ⟨w.heap.size + 2, 0, none⟩) (v := .float .f64 0) (by first | assumption | (go_simp; done))
    have k1_2_0z := below_frozen hb1 (p := ⟨w.heap.size + 2, 0, none⟩) (v := .float .f64 0) (by first | assumption | (go_simp; done)) (by first | assumption | (go_simp; done))
    have k1_2_1 := below_cell hb1 (p := ⟨w.heap.size + 2, 1, none⟩) (v := .float .f64 0) (by first | assumption | (go_simp; done))
    have k1_2_1z := below_frozen hb1 (p := ⟨w.heap.size + 2, 1, none⟩) (v := .float .f64 0) (by first | assumption | (go_simp; done)) (by first | assumption | (go_simp; done))
    go_wp2_with fail
    refine Calls.mono (rnone_any a b _) ?_
    rintro e w2 ⟨rfl, hb2⟩
    have hw2 : Below w.heap.size w w2 := Below.trans (by repeat (first | (with_reducible assumption) | (with_reducible exact Below.refl _ _) | ((with_reducible refine Below.alloc ?_ ?_ _); rotate_left; exact (by first | omega | (simp; done) | (simp; omega))) | ((with_reducible refine Below.setCell ?_ ?_ _); rotate_left; exact (by first | omega | (simp; done) | (simp; omega))) | (with_reducible refine Below.drew ?_))) (hb2.mono (by first | omega | (simp; done) | (simp; omega)))
    have hs2 := hb2.size
    try simp at hs2
    have hl2_0 : w.heap.size < w2.heap.size := by omega
    have k2_0_0 := below_cell hb2 (p := ⟨w.heap.size, 0, none⟩) (v := .float .f64 a) (by first | assumption | (go_simp; done))
    have k2_0_0z := below_frozen hb2 (p := ⟨w.heap.size, 0, none⟩) (v := .float .f64 a) (by first | assumption | (go_simp; done)) (by first | assumption | (go_simp; done))
    have k2_0_1 := below_cell hb2 (p := ⟨w.heap.size, 1, none⟩) (v := .float .f64 b) (by first | assumption | (go_simp; done))
    have k2_0_1z := below_frozen hb2 (p := ⟨w.heap.size, 1, none⟩) (v := .float .f64 b) (by first | assumption | (go_simp; done)) (by first | assumption | (go_simp; done))
    have hl2_1 : w.heap.size + 1 < w2.heap.size := by omega
    have k2_1_0 := below_cell hb2 (p := ⟨w.heap.size + 1, 0, none⟩) (v := .float .f64 c) (by first | assumption | (go_simp; done))
    have k2_1_0z := below_frozen hb2 (p := ⟨w.heap.size + 1, 0, none⟩) (v := .float .f64 c) (by first | assumption | (go_simp; done)) (by first | assumption | (go_simp; done))
    have k2_1_1 := below_cell hb2 (p := ⟨w.heap.size + 1, 1, none⟩) (v := .float .f64 d) (by first | assumption | (go_simp; done))
    have k2_1_1z := below_frozen hb2 (p := ⟨w.heap.size + 1, 1, none⟩) (v := .float .f64 d) (by first | assumption | (go_simp; done)) (by first | assumption | (go_simp; done))
    have hl2_2 : w.heap.size + 2 < w2.heap.size := by omega
    have k2_2_0 := below_cell hb2 (p := ⟨w.heap.size + 2, 0, none⟩) (v := .float .f64 0) (by first | assumption | (go_simp; done))
    have k2_2_0z := below_frozen hb2 (p := ⟨w.heap.size + 2, 0, none⟩) (v := .float .f64 0) (by first | assumption | (go_simp; done)) (by first | assumption | (go_simp; done))
    have k2_2_1 := below_cell hb2 (p := ⟨w.heap.size + 2, 1, none⟩) (v := .float .f64 0) (by first | assumption | (go_simp; done))
    have k2_2_1z := below_frozen hb2 (p := ⟨w.heap.size + 2, 1, none⟩) (v := .float .f64 0) (by first | assumption | (go_simp; done)) (by first | assumption | (go_simp; done))
    go_wp2_with fail
    refine Calls.mono (rnone_any c d _) ?_
    rintro e w3 ⟨rfl, hb3⟩
    have hw3 : Below w.heap.size w w3 := Below.trans (by repeat (first | (with_reducible assumption) | (with_reducible exact Below.refl _ _) | ((with_reducible refine Below.alloc ?_ ?_ _); rotate_left; exact (by first | omega | (simp; done) | (simp; omega))) | ((with_reducible refine Below.setCell ?_ ?_ _); rotate_left; exact (by first | omega | (simp; done) | (simp; omega))) | (with_reducible refine Below.drew ?_))) (hb3.mono (by first | omega | (simp; done) | (simp; omega)))
    have hs3 := hb3.size
    try simp at hs3
    have hl3_0 : w.heap.size < w3.heap.size := by omega
    have k3_0_0 := below_cell hb3 (p := ⟨w.heap.size, 0, none⟩) (v := .float .f64 a) (by first | assumption | (go_simp; done))
    have k3_0_0z := below_frozen hb3 (p := ⟨w.heap.size, 0, none⟩) (v := .float .f64 a) (by first | assumption | (go_simp; done)) (by first | assumption | (go_simp; done))
    have k3_0_1 := below_cell hb3 (p := ⟨w.heap.size, 1, none⟩) (v := .float .f64 b) (by first | assumption | (go_simp; done))
    have k3_0_1z := below_frozen hb3 (p := ⟨w.heap.size, 1, none⟩) (v := .float .f64 b) (by first | assumption | (go_simp; done)) (by first | assumption | (go_simp; done))
    have hl3_1 : w.heap.size + 1 < w3.heap.size := by omega
    have k3_1_0 := below_cell hb3 (p := ⟨w.heap.size + 1, 0, none⟩) (v := .float .f64 c) (by first | assumption | (go_simp; done))
    have k3_1_0z := below_frozen hb3 (p := ⟨w.heap.size + 1, 0, none⟩) (v := .float .f64 c) (by first | assumption | (go_simp; done)) (by first | assumption | (go_simp; done))
    have k3_1_1 := below_cell hb3 (p := ⟨w.heap.size + 1, 1, none⟩) (v := .float .f64 d) (by first | assumption | (go_simp; done))
    have k3_1_1z := below_frozen hb3 (p := ⟨w.heap.size + 1, 1, none⟩) (v := .float .f64 d) (by first | assumption | (go_simp; done)) (by first | assumption | (go_simp; done))
    have hl3_2 : w.heap.size + 2 < w3.heap.size := by omega
    have k3_2_0 := below_cell hb3 (p := ⟨w.heap.size + 2, 0, none⟩) (v := .float .f64 0) (by first | assumption | (go_simp; done))
    have k3_2_0z := below_frozen hb3 (p := ⟨w.heap.size + 2, 0, none⟩) (v := .float .f64 0) (by first | assumption | (go_simp; done)) (by first | assumption | (go_simp; done))
    have k3_2_1 := below_cell hb3 (p := ⟨w.heap.size + 2, 1, none⟩) (v := .float .f64 0) (by first | assumption | (go_simp; done))
    have k3_2_1z := below_frozen hb3 (p := ⟨w.heap.size + 2, 1, none⟩) (v := .float .f64 0) (by first | assumption | (go_simp; done)) (by first | assumption | (go_simp; done))
    go_wp2
    exact bodyPost_ret (v := (.agg #[.float .f64 a, .float .f64 b])) (by simp [results, Try.results25, go_sem, *]) rfl ⟨rfl, (by repeat (first | (with_reducible assumption) | (with_reducible exact Below.refl _ _) | ((with_reducible refine Below.alloc ?_ ?_ _); rotate_left; exact (by first | omega | (simp; done) | (simp; omega))) | ((with_reducible refine Below.setCell ?_ ?_ _); rotate_left; exact (by first | omega | (simp; done) | (simp; omega))) | (with_reducible refine Below.drew ?_)))⟩
  · simp only [Bool.false_eq_true, if_false, if_true]
    rw [h1] at e1; rw [h2] at e2
    clear ha hb hc hd
    go_enter Try.func25, Try.ntmps25
    go_wp2_with fail
    refine Calls.mono (rnone_any a b _) ?_
    rintro e w1 ⟨rfl, hb1⟩
    have hw1 : Below w.heap.size w w1 := Below.trans (by repeat (first | (with_reducible assumption) | (with_reducible exact Below.refl _ _) | ((with_reducible refine Below.alloc ?_ ?_ _); rotate_left; exact (by first | omega | (simp; done) | (simp; omega))) | ((with_reducible refine Below.setCell ?_ ?_ _); rotate_left; exact (by first | omega | (simp; done) | (simp; omega))) | (with_reducible refine Below.drew ?_))) (hb1.mono (by first | omega | (simp; done) | (simp; omega)))
    have hs1 := hb1.size
    try simp at hs1
    have hl1_0 : w.heap.size < w1.heap.size := by omega
    have k1_0_0 := below_cell hb1 (p := ⟨w.heap.size, 0, none⟩) (v := .float .f64 a) (by first | assumption | (go_simp; done))
    have k1_0_0z := below_frozen hb1 (p := ⟨w.heap.size, 0, none⟩) (v := .float .f64 a) (by first | assumption | (go_simp; done)) (by first | assumption | (go_simp; done))
    have k1_0_1 := below_cell hb1 (p := ⟨w.heap.size, 1, none⟩) (v := .float .f64 b) (by first | assumption | (go_simp; done))
    have k1_0_1z := below_frozen hb1 (p := ⟨w.heap.size, 1, none⟩) (v := .float .f64 b) (by first | assumption | (go_simp; done)) (by first | assumption | (go_simp; done))
    have hl1_1 : w.heap.size + 1 < w1.heap.size := by omega
    have k1_1_0 := below_cell hb1 (p := ⟨w.heap.size + 1, 0, none⟩) (v := .float .f64 c) (by first | assumption | (go_simp; done))
    have k1_1_0z := below_frozen hb1 (p := ⟨w.heap.size + 1, 0, none⟩) (v := .float .f64 c) (by first | assumption | (go_simp; done)) (by first | assumption | (go_simp; done))
    have k1_1_1 := below_cell hb1 (p := ⟨w.heap.size + 1, 1, none⟩) (v := .float .f64 d) (by first | assumption | (go_simp; done))
    have k1_1_1z := below_frozen hb1 (p := ⟨w.heap.size + 1, 1, none⟩) (v := .float .f64 d) (by first | assumption | (go_simp; done)) (by first | assumption | (go_simp; done))
    have hl1_2 : w.heap.size + 2 < w1.heap.size := by omega
    have k1_2_0 := below_cell hb1 (p := ⟨w.heap.size + 2, 0, none⟩) (v := .float .f64 0) (by first | assumption | (go_simp; done))
    have k1_2_0z := below_frozen hb1 (p := ⟨w.heap.size + 2, 0, none⟩) (v := .float .f64 0) (by first | assumption | (go_simp; done)) (by first | assumption | (go_simp; done))
    have k1_2_1 := below_cell hb1 (p := ⟨w.heap.size + 2, 1, none⟩) (v := .float .f64 0) (by first | assumption | (go_simp; done))
    have k1_2_1z := below_frozen hb1 (p := ⟨w.heap.size + 2, 1, none⟩) (v := .float .f64 0) (by first | assumption | (go_simp; done)) (by first | assumption | (go_simp; done))
    go_wp2_with fail
    refine Calls.mono (rnone_any c d _) ?_
    rintro e w2 ⟨rfl, hb2⟩
    have hw2 : Below w.heap.size w w2 := Below.trans (by repeat (first | (with_reducible assumption) | (with_reducible exact Below.refl _ _) | ((with_reducible refine Below.alloc ?_ ?_ _); rotate_left; exact (by first | omega | (simp; done) | (simp; omega))) | ((with_reducible refine Below.setCell ?_ ?_ _); rotate_left; exact (by first | omega | (simp; done) | (simp; omega))) | (with_reducible refine Below.drew ?_))) (hb2.mono (by first | omega | (simp; done) | (simp; omega)))
    have hs2 := hb2.size
    try simp at hs2
    have hl2_0 : w.heap.size < w2.heap.size := by omega
    have k2_0_0 := below_cell hb2 (p := ⟨w.heap.size, 0, none⟩) (v := .float .f64 a) (by first | assumption | (go_simp; done))
    have k2_0_0z := below_frozen hb2 (p := ⟨w.heap.size, 0, none⟩) (v := .float .f64 a) (by first | assumption | (go_simp; done)) (by first | assumption | (go_simp; done))
    have k2_0_1 := below_cell hb2 (p := ⟨w.heap.size, 1, none⟩) (v := .float .f64 b) (by first | assumption | (go_simp; done))
    have k2_0_1z := below_frozen hb2 (p := ⟨w.heap.size, 1, none⟩) (v := .float .f64 b) (by first | assumption | (go_simp; done)) (by first | assumption | (go_simp; done))
    have hl2_1 : w.heap.size + 1 < w2.heap.size := by omega
    have k2_1_0 := below_cell hb2 (p := ⟨w.heap.size + 1, 0, none⟩) (v := .float .f64 c) (by first | assumption | (go_simp; done))
    have k2_1_0z := below_frozen hb2 (p := ⟨w.heap.size + 1, 0, none⟩) (v := .float .f64 c) (by first | assumption | (go_simp; done)) (by first | assumption | (go_simp; done))
    have k2_1_1 := below_cell hb2 (p := ⟨w.heap.size + 1, 1, none⟩) (v := .float .f64 d) (by first | assumption | (go_simp; done))
    have k2_1_1z := below_frozen hb2 (p := ⟨w.heap.size + 1, 1, none⟩) (v := .float .f64 d) (by first | assumption | (go_simp; done)) (by first | assumption | (go_simp; done))
    have hl2_2 : w.heap.size + 2 < w2.heap.size := by omega
    have k2_2_0 := below_cell hb2 (p := ⟨w.heap.size + 2, 0, none⟩) (v := .float .f64 0) (by first | assumption | (go_simp; done))
    have k2_2_0z := below_frozen hb2 (p := ⟨w.heap.size + 2, 0, none⟩) (v := .float .f64 0) (by first | assumption | (go_simp; done)) (by first | assumption | (go_simp; done))
    have k2_2_1 := below_cell hb2 (p := ⟨w.heap.size + 2, 1, none⟩) (v := .float .f64 0) (by first | assumption | (go_simp; done))
    have k2_2_1z := below_frozen hb2 (p := ⟨w.heap.size + 2, 1, none⟩) (v := .float .f64 0) (by first | assumption | (go_simp; done)) (by first | assumption | (go_simp; done))
    go_wp2_with fail
    refine Calls.mono (rnone_any a b _) ?_
    rintro e w3 ⟨rfl, hb3⟩
    have hw3 : Below w.heap.size w w3 := Below.trans (by repeat (first | (with_reducible assumption) | (with_reducible exact Below.refl _ _) | ((with_reducible refine Below.alloc ?_ ?_ _); rotate_left; exact (by first | omega | (simp; done) | (simp; omega))) | ((with_reducible refine Below.setCell ?_ ?_ _); rotate_left; exact (by first | omega | (simp; done) | (simp; omega))) | (with_reducible refine Below.drew ?_))) (hb3.mono (by first | omega | (simp; done) | (simp; omega)))
    have hs3 := hb3.size
    try simp at hs3
    have hl3_0 : w.heap.size < w3.heap.size := by omega
    have k3_0_0 := below_cell hb3 (p := ⟨w.heap.size, 0, none⟩) (v := .float .f64 a) (by first | assumption | (go_simp; done))
    have k3_0_0z := below_frozen hb3 (p := ⟨w.heap.size, 0, none⟩) (v := .float .f64 a) (by first | assumption | (go_simp; done)) (by first | assumption | (go_simp; done))
    have k3_0_1 := below_cell hb3 (p := ⟨w.heap.size, 1, none⟩) (v := .float .f64 b) (by first | assumption | (go_simp; done))
    have k3_0_1z := below_frozen hb3 (p := ⟨w.heap.size, 1, none⟩) (v := .float .f64 b) (by first | assumption | (go_simp; done)) (by first | assumption | (go_simp; done))
    have hl3_1 : w.heap.size + 1 < w3.heap.size := by omega
    have k3_1_0 := below_cell hb3 (p := ⟨w.heap.size + 1, 0, none⟩) (v := .float .f64 c) (by first | assumption | (go_simp; done))
    have k3_1_0z := below_frozen hb3 (p := ⟨w.heap.size + 1, 0, none⟩) (v := .float .f64 c) (by first | assumption | (go_simp; done)) (by first | assumption | (go_simp; done))
    have k3_1_1 := below_cell hb3 (p := ⟨w.heap.size + 1, 1, none⟩) (v := .float .f64 d) (by first | assumption | (go_simp; done))
    have k3_1_1z := below_frozen hb3 (p := ⟨w.heap.size + 1, 1, none⟩) (v := .float .f64 d) (by first | assumption | (go_simp; done)) (by first | assumption | (go_simp; done))
    have hl3_2 : w.heap.size + 2 < w3.heap.size := by omega
    have k3_2_0 := below_cell hb3 (p := ⟨w.heap.size + 2, 0, none⟩) (v := .float .f64 0) (by first | assumption | (go_simp; done))
    have k3_2_0z := below_frozen hb3 (p := ⟨w.heap.size + 2, 0, none⟩) (v := .float .f64 0) (by first | assumption | (go_simp; done)) (by first | assumption | (go_simp; done))
    have k3_2_1 := below_cell hb3 (p := ⟨w.heap.size + 2, 1, none⟩) (v := .float .f64 0) (by first | assumption | (go_simp; done))
    have k3_2_1z := below_frozen hb3 (p := ⟨w.heap.size + 2, 1, none⟩) (v := .float .f64 0) (by first | assumption | (go_simp; done)) (by first | assumption | (go_simp; done))
    go_wp2
    exact bodyPost_ret (v := (.agg #[.float .f64 c, .float .f64 d])) (by simp [results, Try.results25, go_sem, *]) rfl ⟨rfl, (by repeat (first | (with_reducible assumption) | (with_reducible exact Below.refl _ _) | ((with_reducible refine Below.alloc ?_ ?_ _); rotate_left; exact (by first | omega | (simp; done) | (simp; omega))) | ((with_reducible refine Below.setCell ?_ ?_ _); rotate_left; exact (by first | omega | (simp; done) | (simp; omega))) | (with_reducible refine Below.drew ?_)))⟩
  · simp only [if_true]
    rw [h1] at e1; rw [h2] at e2
    clear ha hb hc hd
    go_enter Try.func25, Try.ntmps25
    go_wp2_with fail
    refine Calls.mono (rnone_any a b _) ?_
    rintro e w1 ⟨rfl, hb1⟩
    have hw1 : Below w.heap.size w w1 := Below.trans (by repeat (first | (with_reducible assumption) | (with_reducible exact Below.refl _ _) | ((with_reducible refine Below.alloc ?_ ?_ _); rotate_left; exact (by first | omega | (simp; done) | (simp; omega))) | ((with_reducible refine Below.setCell ?_ ?_ _); rotate_left; exact (by first | omega | (simp; done) | (simp; omega))) | (with_reducible refine Below.drew ?_))) (hb1.mono (by first | omega | (simp; done) | (simp; omega)))
    have hs1 := hb1.size
    try simp at hs1
    have hl1_0 : w.heap.size < w1.heap.size := by omega
    have k1_0_0 := below_cell hb1 (p := ⟨w.heap.size, 0, none⟩) (v := .float .f64 a) (by first | assumption | (go_simp; done))
    have k1_0_0z := below_frozen hb1 (p := ⟨w.heap.size, 0, none⟩) (v := .float .f64 a) (by first | assumption | (go_simp; done)) (by first | assumption | (go_simp; done))
    have k1_0_1 := below_cell hb1 (p := ⟨w.heap.size, 1, none⟩) (v := .float .f64 b) (by first | assumption | (go_simp; done))
    have k1_0_1z := below_frozen hb1 (p := ⟨w.heap.size, 1, none⟩) (v := .float .f64 b) (by first | assumption | (go_simp; done)) (by first | assumption | (go_simp; done))
    have hl1_1 : w.heap.size + 1 < w1.heap.size := by omega
    have k1_1_0 := below_cell hb1 (p := ⟨w.heap.size + 1, 0, none⟩) (v := .float .f64 c) (by first | assumption | (go_simp; done))
    have k1_1_0z := below_frozen hb1 (p := ⟨w.heap.size + 1, 0, none⟩) (v := .float .f64 c) (by first | assumption | (go_simp; done)) (by first | assumption | (go_simp; done))
    have k1_1_1 := below_cell hb1 (p := ⟨w.heap.size + 1, 1, none⟩) (v := .float .f64 d) (by first | assumption | (go_simp; done))
    have k1_1_1z := below_frozen hb1 (p := ⟨w.heap.size + 1, 1, none⟩) (v := .float .f64 d) (by first | assumption | (go_simp; done)) (by first | assumption | (go_simp; done))
    have hl1_2 : w.heap.size + 2 < w1.heap.size := by omega
    have k1_2_0 := below_cell hb1 (p := ⟨w.heap.size + 2, 0, none⟩) (v := .float .f64 0) (by first | assumption | (go_simp; done))
    have k1_2_0z := below_frozen hb1 (p := ⟨w.heap.size + 2, 0, none⟩) (v := .float .f64 0) (by first | assumption | (go_simp; done)) (by first | assumption | (go_simp; done))
    have k1_2_1 := below_cell hb1 (p := ⟨w.heap.size + 2, 1, none⟩) (v := .float .f64 0) (by first | assumption | (go_simp; done))
    have k1_2_1z := below_frozen hb1 (p := ⟨w.heap.size + 2, 1, none⟩) (v := .float .f64 0) (by first | assumption | (go_simp; done)) (by first | assumption | (go_simp; done))
    go_wp2_with fail
    refine Calls.mono (rnone_any c d _) ?_
    rintro e w2 ⟨rfl, hb2⟩
    have hw2 : Below w.heap.size w w2 := Below.trans (by repeat (first | (with_reducible assumption) | (with_reducible exact Below.refl _ _) | ((with_reducible refine Below.alloc ?_ ?_ _); rotate_left; exact (by first | omega | (simp; done) | (simp; omega))) | ((with_reducible refine Below.setCell ?_ ?_ _); rotate_left; exact (by first | omega | (simp; done) | (simp; omega))) | (with_reducible refine Below.drew ?_))) (hb2.mono (by first | omega | (simp; done) | (simp; omega)))
    have hs2 := hb2.size
    try simp at hs2
    have hl2_0 : w.heap.size < w2.heap.size := by omega
    have k2_0_0 := below_cell hb2 (p := ⟨w.heap.size, 0, none⟩) (v := .float .f64 a) (by first | assumption | (go_simp; done))
    have k2_0_0z := below_frozen hb2 (p := ⟨w.heap.size, 0, none⟩) (v := .float .f64 a) (by first | assumption | (go_simp; done)) (by first | assumption | (go_simp; done))
    have k2_0_1 := below_cell hb2 (p := ⟨w.heap.size, 1, none⟩) (v := .float .f64 b) (by first | assumption | (go_simp; done))
    have k2_0_1z := below_frozen hb2 (p := ⟨w.heap.size, 1, none⟩) (v := .float .f64 b) (by first | assumption | (go_simp; done)) (by first | assumption | (go_simp; done))
    have hl2_1 : w.heap.size + 1 < w2.heap.size := by omega
    have k2_1_0 := below_cell hb2 (p := ⟨w.heap.size + 1, 0, none⟩) (v := .float .f64 c) (by first | assumption | (go_simp; done))
    have k2_1_0z := below_frozen hb2 (p := ⟨w.heap.size + 1, 0, none⟩) (v := .float .f64 c) (by first | assumption | (go_simp; done)) (by first | assumption | (go_simp; done))
    have k2_1_1 := below_cell hb2 (p := ⟨w.heap.size + 1, 1, none⟩) (v := .float .f64 d) (by first | assumption | (go_simp; done))
    have k2_1_1z := below_frozen hb2 (p := ⟨w.heap.size + 1, 1, none⟩) (v := .float .f64 d) (by first | assumption | (go_simp; done)) (by first | assumption | (go_simp; done))
    have hl2_2 : w.heap.size + 2 < w2.heap.size := by omega
    have k2_2_0 := below_cell hb2 (p := ⟨w.heap.size + 2, 0, none⟩) (v := .float .f64 0) (by first | assumption | (go_simp; done))
    have k2_2_0z := below_frozen hb2 (p := ⟨w.heap.size + 2, 0, none⟩) (v := .float .f64 0) (by first | assumption | (go_simp; done)) (by first | assumption | (go_simp; done))
    have k2_2_1 := below_cell hb2 (p := ⟨w.heap.size + 2, 1, none⟩) (v := .float .f64 0) (by first | assumption | (go_simp; done))
    have k2_2_1z := below_frozen hb2 (p := ⟨w.heap.size + 2, 1, none⟩) (v := .float .f64 0) (by first | assumption | (go_simp; done)) (by first | assumption | (go_simp; done))
    go_wp2_with fail
    refine Calls.mono (rempty_any _) ?_
    rintro e w3 ⟨rfl, hb3⟩
    have hw3 : Below w.heap.size w w3 := Below.trans (by repeat (first | (with_reducible assumption) | (with_reducible exact Below.refl _ _) | ((with_reducible refine Below.alloc ?_ ?_ _); rotate_left; exact (by first | omega | (simp; done) | (simp; omega))) | ((with_reducible refine Below.setCell ?_ ?_ _); rotate_left; exact (by first | omega | (simp; done) | (simp; omega))) | (with_reducible refine Below.drew ?_))) (hb3.mono (by first | omega | (simp; done) | (simp; omega)))
    have hs3 := hb3.size
    try simp at hs3
    have hl3_0 : w.heap.size < w3.heap.size := by omega
    have k3_0_0 := below_cell hb3 (p := ⟨w.heap.size, 0, none⟩) (v := .float .f64 a) (by first | assumption | (go_simp; done))
    have k3_0_0z := below_frozen hb3 (p := ⟨w.heap.size, 0, none⟩) (v := .float .f64 a) (by first | assumption | (go_simp; done)) (by first | assumption | (go_simp; done))
    have k3_0_1 := below_cell hb3 (p := ⟨w.heap.size, 1, none⟩) (v := .float .f64 b) (by first | assumption | (go_simp; done))
    have k3_0_1z := below_frozen hb3 (p := ⟨w.heap.size, 1, none⟩) (v := .float .f64 b) (by first | assumption | (go_simp; done)) (by first | assumption | (go_simp; done))
    have hl3_1 : w.heap.size + 1 < w3.heap.size := by omega
    have k3_1_0 := below_cell hb3 (p := ⟨w.heap.size + 1, 0, none⟩) (v := .float .f64 c) (by first | assumption | (go_simp; done))
    have k3_1_0z := below_frozen hb3 (p := ⟨w.heap.size + 1, 0, none⟩) (v := .float .f64 c) (by first | assumption | (go_simp; done)) (by first | assumption | (go_simp; done))
    have k3_1_1 := below_cell hb3 (p := ⟨w.heap.size + 1, 1, none⟩) (v := .float .f64 d) (by first | assumption | (go_simp; done))
    have k3_1_1z := below_frozen hb3 (p := ⟨w.heap.size + 1, 1, none⟩) (v := .float .f64 d) (by first | assumption | (go_simp; done)) (by first | assumption | (go_simp; done))
    have hl3_2 : w.heap.size + 2 < w3.heap.size := by omega
    have k3_2_0 := below_cell hb3 (p := ⟨w.heap.size + 2, 0, none⟩) (v := .float .f64 0) (by first | assumption | (go_simp; done))
    have k3_2_0z := below_frozen hb3 (p := ⟨w.heap.size + 2, 0, none⟩) (v := .float .f64 0) (by first | assumption | (go_simp; done)) (by first | assumption | (go_simp; done))
    have k3_2_1 := below_cell hb3 (p := ⟨w.heap.size + 2, 1, none⟩) (v := .float .f64 0) (by first | assumption | (go_simp; done))
    have k3_2_1z := below_frozen hb3 (p := ⟨w.heap.size + 2, 1, none⟩) (v := .float .f64 0) (by first | assumption | (go_simp; done)) (by first | assumption | (go_simp; done))
    go_wp2
    exact bodyPost_ret (v := (.agg #[.float .f64 9218868437227405312, .float .f64 18442240474082181120])) (by simp [results, Try.results25, go_sem, *]) rfl ⟨rfl, (by repeat (first | (with_reducible assumption) | (with_reducible exact Below.refl _ _) | ((with_reducible refine Below.alloc ?_ ?_ _); rotate_left; exact (by first | omega | (simp; done) | (simp; omega))) | ((with_reducible refine Below.setCell ?_ ?_ _); rotate_left; exact (by first | omega | (simp; done) | (simp; omega))) | (with_reducible refine Below.drew ?_)))⟩

end Go.Proofs.Ytonidoghcihnnaa
