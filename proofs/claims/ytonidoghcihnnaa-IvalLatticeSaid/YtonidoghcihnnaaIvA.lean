/- The walks of ival's Neg, Meet, Add and Sub. -/
import Derived.Test.YtonidoghcihnnaaEnds
import Derived.Test.YtonidoghcihnnaaNone2
import Derived.Test.YtonidoghcihnnaaAdd
namespace Go.Proofs.Ytonidoghcihnnaa
open Go.RowKit
set_option maxRecDepth 100000
set_option maxHeartbeats 1000000
set_option linter.unusedSimpArgs false
set_option linter.unusedVariables false

/-- The negative. -/
@[irreducible] def negLo (a b : Nat) : Nat := if noneB a b = true then 9218868437227405312 else wd (-ix b)
@[irreducible] def negHi (a b : Nat) : Nat := if noneB a b = true then 18442240474082181120 else wd (-ix a)

theorem neg_walk0 (a b : Nat) (w : World) (h : noneB a b = true) :
    Calls Try.prog 28 #[(.agg #[.float .f64 a, .float .f64 b])] w fun e w' => e = .returned (.agg #[.float .f64 9218868437227405312, .float .f64 18442240474082181120]) ∧ Below w.heap.size w w' := by
  go_enter Try.func28, Try.ntmps28
  go_wp2_with fail
  refine Calls.mono (none1_any a b _ _ (by go_simp) (by go_simp)) ?_
  rintro e w1 ⟨rfl, hb1⟩
  have hw1 : Below w.heap.size w w1 := Below.trans (by repeat (first | (with_reducible assumption) | (with_reducible exact Below.refl _ _) | ((with_reducible refine Below.alloc ?_ ?_ _); rotate_left; exact (by first | omega | (simp; done) | (simp; omega))) | ((with_reducible refine Below.setCell ?_ ?_ _); rotate_left; exact (by first | omega | (simp; done) | (simp; omega))) | (with_reducible refine Below.drew ?_))) (hb1.mono (by first | omega | (simp; done) | (simp; omega)))
  have hs1 := hb1.size
  try simp at hs1
  have hl1_0 : w.heap.size < w1.heap.size := by omega
  have k1_0_0 := below_cell hb1 (p := ⟨w.heap.size, 0, none⟩) (v := .float .f64 a) (by first | assumption | (go_simp; done))
  have k1_0_0z := below_frozen hb1 (p := ⟨w.heap.size, 0, none⟩) (v := .float .f64 a) (by first | assumption | (go_simp; done)) (by first | assumption | (go_simp; done))
  have k1_0_1 := below_cell hb1 (p := ⟨w.heap.size, 1, none⟩) (v := .float .f64 b) (by first | assumption | (go_simp; done))
  have k1_0_1z := below_frozen hb1 (p := ⟨w.heap.size, 1, none⟩) (v := .float .f64 b) (by first | assumption | (go_simp; done)) (by first | assumption | (go_simp; done))
  have hl1_1 : w.heap.size + 1 < w1.heap.size := by omega
  have k1_1_0 := below_cell hb1 (p := ⟨w.heap.size + 1, 0, none⟩) (v := .float .f64 0) (by first | assumption | (go_simp; done))
  have k1_1_0z := below_frozen hb1 (p := ⟨w.heap.size + 1, 0, none⟩) (v := .float .f64 0) (by first | assumption | (go_simp; done)) (by first | assumption | (go_simp; done))
  have k1_1_1 := below_cell hb1 (p := ⟨w.heap.size + 1, 1, none⟩) (v := .float .f64 0) (by first | assumption | (go_simp; done))
  have k1_1_1z := below_frozen hb1 (p := ⟨w.heap.size + 1, 1, none⟩) (v := .float .f64 0) (by first | assumption | (go_simp; done)) (by first | assumption | (go_simp; done))
  clear hb1
  go_wp2_with fail
  refine Calls.mono (empty_any _) ?_
  rintro e w2 ⟨rfl, hb2⟩
  have hw2 : Below w.heap.size w w2 := Below.trans (by repeat (first | (with_reducible assumption) | (with_reducible exact Below.refl _ _) | ((with_reducible refine Below.alloc ?_ ?_ _); rotate_left; exact (by first | omega | (simp; done) | (simp; omega))) | ((with_reducible refine Below.setCell ?_ ?_ _); rotate_left; exact (by first | omega | (simp; done) | (simp; omega))) | (with_reducible refine Below.drew ?_))) (hb2.mono (by first | omega | (simp; done) | (simp; omega)))
  have hs2 := hb2.size
  try simp at hs2
  have hl2_0 : w.heap.size < w2.heap.size := by omega
  have k2_0_0 := below_cell hb2 (p := ⟨w.heap.size, 0, none⟩) (v := .float .f64 a) (by first | assumption | (go_simp; done))
  have k2_0_0z := below_frozen hb2 (p := ⟨w.heap.size, 0, none⟩) (v := .float .f64 a) (by first | assumption | (go_simp; done)) (by first | assumption | (go_simp; done))
  have k2_0_1 := below_cell hb2 (p := ⟨w.heap.size, 1, none⟩) (v := .float .f64 b) (by first | assumption | (go_simp; done))
  have k2_0_1z := below_frozen hb2 (p := ⟨w.heap.size, 1, none⟩) (v := .float .f64 b) (by first | assumption | (go_simp; done)) (by first | assumption | (go_simp; done))
  have hl2_1 : w.heap.size + 1 < w2.heap.size := by omega
  have k2_1_0 := below_cell hb2 (p := ⟨w.heap.size + 1, 0, none⟩) (v := .float .f64 0) (by first | assumption | (go_simp; done))
  have k2_1_0z := below_frozen hb2 (p := ⟨w.heap.size + 1, 0, none⟩) (v := .float .f64 0) (by first | assumption | (go_simp; done)) (by first | assumption | (go_simp; done))
  have k2_1_1 := below_cell hb2 (p := ⟨w.heap.size + 1, 1, none⟩) (v := .float .f64 0) (by first | assumption | (go_simp; done))
  have k2_1_1z := below_frozen hb2 (p := ⟨w.heap.size + 1, 1, none⟩) (v := .float .f64 0) (by first | assumption | (go_simp; done)) (by first | assumption | (go_simp; done))
  clear hb2
  go_wp2
  exact bodyPost_ret (v := (.agg #[.float .f64 9218868437227405312, .float .f64 18442240474082181120])) (by simp [results, Try.results28, go_sem, *]) rfl ⟨rfl, (by repeat (first | (with_reducible assumption) | (with_reducible exact Below.refl _ _) | ((with_reducible refine Below.alloc ?_ ?_ _); rotate_left; exact (by first | omega | (simp; done) | (simp; omega))) | ((with_reducible refine Below.setCell ?_ ?_ _); rotate_left; exact (by first | omega | (simp; done) | (simp; omega))) | (with_reducible refine Below.drew ?_)))⟩
theorem neg_walk1 (a b p q lo hi : Nat) (w : World) (h : noneB a b = false) (h1 : ∀ w, (Op.unary .neg (.float .f64 a)).run Try.prog w = .ok (.float .f64 p) w) (h2 : ∀ w, (Op.unary .neg (.float .f64 b)).run Try.prog w = .ok (.float .f64 q) w)
    (hm : ∀ w, Calls Try.prog 65 #[.float .f64 q, .float .f64 p] w fun e w' => e = .returned (.agg #[.float .f64 lo, .float .f64 hi]) ∧ Below w.heap.size w w') :
    Calls Try.prog 28 #[(.agg #[.float .f64 a, .float .f64 b])] w fun e w' => e = .returned (.agg #[.float .f64 lo, .float .f64 hi]) ∧ Below w.heap.size w w' := by
  have Hm := Lib.hid hm
  clear hm
  go_enter Try.func28, Try.ntmps28
  go_wp2_with fail
  refine Calls.mono (none1_any a b _ _ (by go_simp) (by go_simp)) ?_
  rintro e w1 ⟨rfl, hb1⟩
  have hw1 : Below w.heap.size w w1 := Below.trans (by repeat (first | (with_reducible assumption) | (with_reducible exact Below.refl _ _) | ((with_reducible refine Below.alloc ?_ ?_ _); rotate_left; exact (by first | omega | (simp; done) | (simp; omega))) | ((with_reducible refine Below.setCell ?_ ?_ _); rotate_left; exact (by first | omega | (simp; done) | (simp; omega))) | (with_reducible refine Below.drew ?_))) (hb1.mono (by first | omega | (simp; done) | (simp; omega)))
  have hs1 := hb1.size
  try simp at hs1
  have hl1_0 : w.heap.size < w1.heap.size := by omega
  have k1_0_0 := below_cell hb1 (p := ⟨w.heap.size, 0, none⟩) (v := .float .f64 a) (by first | assumption | (go_simp; done))
  have k1_0_0z := below_frozen hb1 (p := ⟨w.heap.size, 0, none⟩) (v := .float .f64 a) (by first | assumption | (go_simp; done)) (by first | assumption | (go_simp; done))
  have k1_0_1 := below_cell hb1 (p := ⟨w.heap.size, 1, none⟩) (v := .float .f64 b) (by first | assumption | (go_simp; done))
  have k1_0_1z := below_frozen hb1 (p := ⟨w.heap.size, 1, none⟩) (v := .float .f64 b) (by first | assumption | (go_simp; done)) (by first | assumption | (go_simp; done))
  have hl1_1 : w.heap.size + 1 < w1.heap.size := by omega
  have k1_1_0 := below_cell hb1 (p := ⟨w.heap.size + 1, 0, none⟩) (v := .float .f64 0) (by first | assumption | (go_simp; done))
  have k1_1_0z := below_frozen hb1 (p := ⟨w.heap.size + 1, 0, none⟩) (v := .float .f64 0) (by first | assumption | (go_simp; done)) (by first | assumption | (go_simp; done))
  have k1_1_1 := below_cell hb1 (p := ⟨w.heap.size + 1, 1, none⟩) (v := .float .f64 0) (by first | assumption | (go_simp; done))
  have k1_1_1z := below_frozen hb1 (p := ⟨w.heap.size + 1, 1, none⟩) (v := .float .f64 0) (by first | assumption | (go_simp; done)) (by first | assumption | (go_simp; done))
  clear hb1
  go_wp2_with fail
  refine Calls.mono (Hm.out _) ?_
  rintro e w2 ⟨rfl, hb2⟩
  have hw2 : Below w.heap.size w w2 := Below.trans (by repeat (first | (with_reducible assumption) | (with_reducible exact Below.refl _ _) | ((with_reducible refine Below.alloc ?_ ?_ _); rotate_left; exact (by first | omega | (simp; done) | (simp; omega))) | ((with_reducible refine Below.setCell ?_ ?_ _); rotate_left; exact (by first | omega | (simp; done) | (simp; omega))) | (with_reducible refine Below.drew ?_))) (hb2.mono (by first | omega | (simp; done) | (simp; omega)))
  have hs2 := hb2.size
  try simp at hs2
  have hl2_0 : w.heap.size < w2.heap.size := by omega
  have k2_0_0 := below_cell hb2 (p := ⟨w.heap.size, 0, none⟩) (v := .float .f64 a) (by first | assumption | (go_simp; done))
  have k2_0_0z := below_frozen hb2 (p := ⟨w.heap.size, 0, none⟩) (v := .float .f64 a) (by first | assumption | (go_simp; done)) (by first | assumption | (go_simp; done))
  have k2_0_1 := below_cell hb2 (p := ⟨w.heap.size, 1, none⟩) (v := .float .f64 b) (by first | assumption | (go_simp; done))
  have k2_0_1z := below_frozen hb2 (p := ⟨w.heap.size, 1, none⟩) (v := .float .f64 b) (by first | assumption | (go_simp; done)) (by first | assumption | (go_simp; done))
  have hl2_1 : w.heap.size + 1 < w2.heap.size := by omega
  have k2_1_0 := below_cell hb2 (p := ⟨w.heap.size + 1, 0, none⟩) (v := .float .f64 0) (by first | assumption | (go_simp; done))
  have k2_1_0z := below_frozen hb2 (p := ⟨w.heap.size + 1, 0, none⟩) (v := .float .f64 0) (by first | assumption | (go_simp; done)) (by first | assumption | (go_simp; done))
  have k2_1_1 := below_cell hb2 (p := ⟨w.heap.size + 1, 1, none⟩) (v := .float .f64 0) (by first | assumption | (go_simp; done))
  have k2_1_1z := below_frozen hb2 (p := ⟨w.heap.size + 1, 1, none⟩) (v := .float .f64 0) (by first | assumption | (go_simp; done)) (by first | assumption | (go_simp; done))
  clear hb2
  go_wp2
  exact bodyPost_ret (v := (.agg #[.float .f64 lo, .float .f64 hi])) (by simp [results, Try.results28, go_sem, *]) rfl ⟨rfl, (by repeat (first | (with_reducible assumption) | (with_reducible exact Below.refl _ _) | ((with_reducible refine Below.alloc ?_ ?_ _); rotate_left; exact (by first | omega | (simp; done) | (simp; omega))) | ((with_reducible refine Below.setCell ?_ ?_ _); rotate_left; exact (by first | omega | (simp; done) | (simp; omega))) | (with_reducible refine Below.drew ?_)))⟩

theorem neg_any (a b : Nat) (w : World) (ha : word a) (hb : word b) :
    Calls Try.prog 28 #[(.agg #[.float .f64 a, .float .f64 b])] w fun e w' => e = .returned (.agg #[.float .f64 (negLo a b), .float .f64 (negHi a b)]) ∧ Below w.heap.size w w' := by
  unfold negLo negHi
  cases h : noneB a b
  · rw [if_neg (by decide), if_neg (by decide)]
    obtain ⟨i, j, g⟩ := good_of ha hb h
    have ia := g.iabs; have ib := g.jabs
    obtain ⟨rfl, rfl, q1, q2, q3, _, _⟩ := g
    have na := nw_wd ia; have nb := nw_wd ib
    refine neg_walk1 _ _ _ _ _ _ w h (run_fneg na.1) (run_fneg nb.1) (fun w => ?_)
    have hm := make_any (negW (wd j)) (negW (wd i)) w (negW_word nb.1) (negW_word na.1) (by rw [negW_nan nb.1]; exact nb.2.1) (by rw [negW_nan na.1]; exact na.2.1)
    rw [negW_ix nb.1, negW_ix na.1, ix_of ia, ix_of ib, (make_good (i := -j) (j := -i) (by omega) (by omega) (by omega) (by omega) (by omega)).1, (make_good (i := -j) (j := -i) (by omega) (by omega) (by omega) (by omega) (by omega)).2] at hm
    rw [ix_of ia, ix_of ib]
    exact hm
  · rw [if_pos rfl, if_pos rfl]
    exact neg_walk0 a b w h

/-- The meet. -/
@[irreducible] def meetLo (a b c d : Nat) : Nat := if noneB a b = true ∨ noneB c d = true then 9218868437227405312 else makeLo (max (ix a) (ix c)) (min (ix b) (ix d))
@[irreducible] def meetHi (a b c d : Nat) : Nat := if noneB a b = true ∨ noneB c d = true then 18442240474082181120 else makeHi (max (ix a) (ix c)) (min (ix b) (ix d))

theorem meet_walk0 (a b c d : Nat) (w : World) (h : (noneB a b || noneB c d) = true) :
    Calls Try.prog 26 #[(.agg #[.float .f64 a, .float .f64 b]), (.agg #[.float .f64 c, .float .f64 d])] w fun e w' => e = .returned (.agg #[.float .f64 9218868437227405312, .float .f64 18442240474082181120]) ∧ Below w.heap.size w w' := by
  have N : Hid (∀ (k : Nat) (w : World), w.cell? ⟨k, 0, none⟩ = some (.float .f64 a) → w.cell? ⟨k, 1, none⟩ = some (.float .f64 b) → w.cell? ⟨k, 2, none⟩ = some (.float .f64 c) → w.cell? ⟨k, 3, none⟩ = some (.float .f64 d) → Calls Try.prog 53 #[.slice (some ⟨k, 0, none⟩) 2 2] w fun e w' => e = .returned (.bool true) ∧ Below w.heap.size w w') := fun k w c0 c1 c2 c3 => h ▸ none2_any a b c d k w c0 c1 c2 c3
  clear h
  go_enter Try.func26, Try.ntmps26
  go_wp2_with fail
  refine Calls.mono (N.out _ _ (by go_simp) (by go_simp) (by go_simp) (by go_simp)) ?_
  rintro e w1 ⟨rfl, hb1⟩
  have hw1 : Below w.heap.size w w1 := Below.trans (by repeat (first | (with_reducible assumption) | (with_reducible exact Below.refl _ _) | ((with_reducible refine Below.alloc ?_ ?_ _); rotate_left; exact (by first | omega | (simp; done) | (simp; omega))) | ((with_reducible refine Below.setCell ?_ ?_ _); rotate_left; exact (by first | omega | (simp; done) | (simp; omega))) | (with_reducible refine Below.drew ?_))) (hb1.mono (by first | omega | (simp; done) | (simp; omega)))
  have hs1 := hb1.size
  try simp at hs1
  have hl1_0 : w.heap.size < w1.heap.size := by omega
  have k1_0_0 := below_cell hb1 (p := ⟨w.heap.size, 0, none⟩) (v := .float .f64 a) (by first | assumption | (go_simp; done))
  have k1_0_0z := below_frozen hb1 (p := ⟨w.heap.size, 0, none⟩) (v := .float .f64 a) (by first | assumption | (go_simp; done)) (by first | assumption | (go_simp; done))
  have k1_0_1 := below_cell hb1 (p := ⟨w.heap.size, 1, none⟩) (v := .float .f64 b) (by first | assumption | (go_simp; done))
  have k1_0_1z := below_frozen hb1 (p := ⟨w.heap.size, 1, none⟩) (v := .float .f64 b) (by first | assumption | (go_simp; done)) (by first | assumption | (go_simp; done))
  have hl1_1 : w.heap.size + 1 < w1.heap.size := by omega
  have k1_1_0 := below_cell hb1 (p := ⟨w.heap.size + 1, 0, none⟩) (v := .float .f64 c) (by first | assumption | (go_simp; done))
  have k1_1_0z := below_frozen hb1 (p := ⟨w.heap.size + 1, 0, none⟩) (v := .float .f64 c) (by first | assumption | (go_simp; done)) (by first | assumption | (go_simp; done))
  have k1_1_1 := below_cell hb1 (p := ⟨w.heap.size + 1, 1, none⟩) (v := .float .f64 d) (by first | assumption | (go_simp; done))
  have k1_1_1z := below_frozen hb1 (p := ⟨w.heap.size + 1, 1, none⟩) (v := .float .f64 d) (by first | assumption | (go_simp; done)) (by first | assumption | (go_simp; done))
  have hl1_2 : w.heap.size + 2 < w1.heap.size := by omega
  have k1_2_0 := below_cell hb1 (p := ⟨w.heap.size + 2, 0, none⟩) (v := .float .f64 0) (by first | assumption | (go_simp; done))
  have k1_2_0z := below_frozen hb1 (p := ⟨w.heap.size + 2, 0, none⟩) (v := .float .f64 0) (by first | assumption | (go_simp; done)) (by first | assumption | (go_simp; done))
  have k1_2_1 := below_cell hb1 (p := ⟨w.heap.size + 2, 1, none⟩) (v := .float .f64 0) (by first | assumption | (go_simp; done))
  have k1_2_1z := below_frozen hb1 (p := ⟨w.heap.size + 2, 1, none⟩) (v := .float .f64 0) (by first | assumption | (go_simp; done)) (by first | assumption | (go_simp; done))
  clear hb1
  go_wp2_with fail
  refine Calls.mono (empty_any _) ?_
  rintro e w2 ⟨rfl, hb2⟩
  have hw2 : Below w.heap.size w w2 := Below.trans (by repeat (first | (with_reducible assumption) | (with_reducible exact Below.refl _ _) | ((with_reducible refine Below.alloc ?_ ?_ _); rotate_left; exact (by first | omega | (simp; done) | (simp; omega))) | ((with_reducible refine Below.setCell ?_ ?_ _); rotate_left; exact (by first | omega | (simp; done) | (simp; omega))) | (with_reducible refine Below.drew ?_))) (hb2.mono (by first | omega | (simp; done) | (simp; omega)))
  have hs2 := hb2.size
  try simp at hs2
  have hl2_0 : w.heap.size < w2.heap.size := by omega
  have k2_0_0 := below_cell hb2 (p := ⟨w.heap.size, 0, none⟩) (v := .float .f64 a) (by first | assumption | (go_simp; done))
  have k2_0_0z := below_frozen hb2 (p := ⟨w.heap.size, 0, none⟩) (v := .float .f64 a) (by first | assumption | (go_simp; done)) (by first | assumption | (go_simp; done))
  have k2_0_1 := below_cell hb2 (p := ⟨w.heap.size, 1, none⟩) (v := .float .f64 b) (by first | assumption | (go_simp; done))
  have k2_0_1z := below_frozen hb2 (p := ⟨w.heap.size, 1, none⟩) (v := .float .f64 b) (by first | assumption | (go_simp; done)) (by first | assumption | (go_simp; done))
  have hl2_1 : w.heap.size + 1 < w2.heap.size := by omega
  have k2_1_0 := below_cell hb2 (p := ⟨w.heap.size + 1, 0, none⟩) (v := .float .f64 c) (by first | assumption | (go_simp; done))
  have k2_1_0z := below_frozen hb2 (p := ⟨w.heap.size + 1, 0, none⟩) (v := .float .f64 c) (by first | assumption | (go_simp; done)) (by first | assumption | (go_simp; done))
  have k2_1_1 := below_cell hb2 (p := ⟨w.heap.size + 1, 1, none⟩) (v := .float .f64 d) (by first | assumption | (go_simp; done))
  have k2_1_1z := below_frozen hb2 (p := ⟨w.heap.size + 1, 1, none⟩) (v := .float .f64 d) (by first | assumption | (go_simp; done)) (by first | assumption | (go_simp; done))
  have hl2_2 : w.heap.size + 2 < w2.heap.size := by omega
  have k2_2_0 := below_cell hb2 (p := ⟨w.heap.size + 2, 0, none⟩) (v := .float .f64 0) (by first | assumption | (go_simp; done))
  have k2_2_0z := below_frozen hb2 (p := ⟨w.heap.size + 2, 0, none⟩) (v := .float .f64 0) (by first | assumption | (go_simp; done)) (by first | assumption | (go_simp; done))
  have k2_2_1 := below_cell hb2 (p := ⟨w.heap.size + 2, 1, none⟩) (v := .float .f64 0) (by first | assumption | (go_simp; done))
  have k2_2_1z := below_frozen hb2 (p := ⟨w.heap.size + 2, 1, none⟩) (v := .float .f64 0) (by first | assumption | (go_simp; done)) (by first | assumption | (go_simp; done))
  clear hb2
  go_wp2
  exact bodyPost_ret (v := (.agg #[.float .f64 9218868437227405312, .float .f64 18442240474082181120])) (by simp [results, Try.results26, go_sem, *]) rfl ⟨rfl, (by repeat (first | (with_reducible assumption) | (with_reducible exact Below.refl _ _) | ((with_reducible refine Below.alloc ?_ ?_ _); rotate_left; exact (by first | omega | (simp; done) | (simp; omega))) | ((with_reducible refine Below.setCell ?_ ?_ _); rotate_left; exact (by first | omega | (simp; done) | (simp; omega))) | (with_reducible refine Below.drew ?_)))⟩
theorem meet_walk1 (a b c d p q lo hi : Nat) (w : World) (h : (noneB a b || noneB c d) = false) (h1 : ∀ w, (Builtin.max_ #[33, 33] 33 #[.float .f64 a, .float .f64 c]).run Try.prog w = .ok (.float .f64 p) w) (h2 : ∀ w, (Builtin.min_ #[33, 33] 33 #[.float .f64 b, .float .f64 d]).run Try.prog w = .ok (.float .f64 q) w)
    (hm : ∀ w, Calls Try.prog 65 #[.float .f64 p, .float .f64 q] w fun e w' => e = .returned (.agg #[.float .f64 lo, .float .f64 hi]) ∧ Below w.heap.size w w') :
    Calls Try.prog 26 #[(.agg #[.float .f64 a, .float .f64 b]), (.agg #[.float .f64 c, .float .f64 d])] w fun e w' => e = .returned (.agg #[.float .f64 lo, .float .f64 hi]) ∧ Below w.heap.size w w' := by
  have N : Hid (∀ (k : Nat) (w : World), w.cell? ⟨k, 0, none⟩ = some (.float .f64 a) → w.cell? ⟨k, 1, none⟩ = some (.float .f64 b) → w.cell? ⟨k, 2, none⟩ = some (.float .f64 c) → w.cell? ⟨k, 3, none⟩ = some (.float .f64 d) → Calls Try.prog 53 #[.slice (some ⟨k, 0, none⟩) 2 2] w fun e w' => e = .returned (.bool false) ∧ Below w.heap.size w w') := fun k w c0 c1 c2 c3 => h ▸ none2_any a b c d k w c0 c1 c2 c3
  have Hm := Lib.hid hm
  clear hm h
  go_enter Try.func26, Try.ntmps26
  go_wp2_with fail
  refine Calls.mono (N.out _ _ (by go_simp) (by go_simp) (by go_simp) (by go_simp)) ?_
  rintro e w1 ⟨rfl, hb1⟩
  have hw1 : Below w.heap.size w w1 := Below.trans (by repeat (first | (with_reducible assumption) | (with_reducible exact Below.refl _ _) | ((with_reducible refine Below.alloc ?_ ?_ _); rotate_left; exact (by first | omega | (simp; done) | (simp; omega))) | ((with_reducible refine Below.setCell ?_ ?_ _); rotate_left; exact (by first | omega | (simp; done) | (simp; omega))) | (with_reducible refine Below.drew ?_))) (hb1.mono (by first | omega | (simp; done) | (simp; omega)))
  have hs1 := hb1.size
  try simp at hs1
  have hl1_0 : w.heap.size < w1.heap.size := by omega
  have k1_0_0 := below_cell hb1 (p := ⟨w.heap.size, 0, none⟩) (v := .float .f64 a) (by first | assumption | (go_simp; done))
  have k1_0_0z := below_frozen hb1 (p := ⟨w.heap.size, 0, none⟩) (v := .float .f64 a) (by first | assumption | (go_simp; done)) (by first | assumption | (go_simp; done))
  have k1_0_1 := below_cell hb1 (p := ⟨w.heap.size, 1, none⟩) (v := .float .f64 b) (by first | assumption | (go_simp; done))
  have k1_0_1z := below_frozen hb1 (p := ⟨w.heap.size, 1, none⟩) (v := .float .f64 b) (by first | assumption | (go_simp; done)) (by first | assumption | (go_simp; done))
  have hl1_1 : w.heap.size + 1 < w1.heap.size := by omega
  have k1_1_0 := below_cell hb1 (p := ⟨w.heap.size + 1, 0, none⟩) (v := .float .f64 c) (by first | assumption | (go_simp; done))
  have k1_1_0z := below_frozen hb1 (p := ⟨w.heap.size + 1, 0, none⟩) (v := .float .f64 c) (by first | assumption | (go_simp; done)) (by first | assumption | (go_simp; done))
  have k1_1_1 := below_cell hb1 (p := ⟨w.heap.size + 1, 1, none⟩) (v := .float .f64 d) (by first | assumption | (go_simp; done))
  have k1_1_1z := below_frozen hb1 (p := ⟨w.heap.size + 1, 1, none⟩) (v := .float .f64 d) (by first | assumption | (go_simp; done)) (by first | assumption | (go_simp; done))
  have hl1_2 : w.heap.size + 2 < w1.heap.size := by omega
  have k1_2_0 := below_cell hb1 (p := ⟨w.heap.size + 2, 0, none⟩) (v := .float .f64 0) (by first | assumption | (go_simp; done))
  have k1_2_0z := below_frozen hb1 (p := ⟨w.heap.size + 2, 0, none⟩) (v := .float .f64 0) (by first | assumption | (go_simp; done)) (by first | assumption | (go_simp; done))
  have k1_2_1 := below_cell hb1 (p := ⟨w.heap.size + 2, 1, none⟩) (v := .float .f64 0) (by first | assumption | (go_simp; done))
  have k1_2_1z := below_frozen hb1 (p := ⟨w.heap.size + 2, 1, none⟩) (v := .float .f64 0) (by first | assumption | (go_simp; done)) (by first | assumption | (go_simp; done))
  clear hb1
  go_wp2_with fail
  refine Calls.mono (Hm.out _) ?_
  rintro e w2 ⟨rfl, hb2⟩
  have hw2 : Below w.heap.size w w2 := Below.trans (by repeat (first | (with_reducible assumption) | (with_reducible exact Below.refl _ _) | ((with_reducible refine Below.alloc ?_ ?_ _); rotate_left; exact (by first | omega | (simp; done) | (simp; omega))) | ((with_reducible refine Below.setCell ?_ ?_ _); rotate_left; exact (by first | omega | (simp; done) | (simp; omega))) | (with_reducible refine Below.drew ?_))) (hb2.mono (by first | omega | (simp; done) | (simp; omega)))
  have hs2 := hb2.size
  try simp at hs2
  have hl2_0 : w.heap.size < w2.heap.size := by omega
  have k2_0_0 := below_cell hb2 (p := ⟨w.heap.size, 0, none⟩) (v := .float .f64 a) (by first | assumption | (go_simp; done))
  have k2_0_0z := below_frozen hb2 (p := ⟨w.heap.size, 0, none⟩) (v := .float .f64 a) (by first | assumption | (go_simp; done)) (by first | assumption | (go_simp; done))
  have k2_0_1 := below_cell hb2 (p := ⟨w.heap.size, 1, none⟩) (v := .float .f64 b) (by first | assumption | (go_simp; done))
  have k2_0_1z := below_frozen hb2 (p := ⟨w.heap.size, 1, none⟩) (v := .float .f64 b) (by first | assumption | (go_simp; done)) (by first | assumption | (go_simp; done))
  have hl2_1 : w.heap.size + 1 < w2.heap.size := by omega
  have k2_1_0 := below_cell hb2 (p := ⟨w.heap.size + 1, 0, none⟩) (v := .float .f64 c) (by first | assumption | (go_simp; done))
  have k2_1_0z := below_frozen hb2 (p := ⟨w.heap.size + 1, 0, none⟩) (v := .float .f64 c) (by first | assumption | (go_simp; done)) (by first | assumption | (go_simp; done))
  have k2_1_1 := below_cell hb2 (p := ⟨w.heap.size + 1, 1, none⟩) (v := .float .f64 d) (by first | assumption | (go_simp; done))
  have k2_1_1z := below_frozen hb2 (p := ⟨w.heap.size + 1, 1, none⟩) (v := .float .f64 d) (by first | assumption | (go_simp; done)) (by first | assumption | (go_simp; done))
  have hl2_2 : w.heap.size + 2 < w2.heap.size := by omega
  have k2_2_0 := below_cell hb2 (p := ⟨w.heap.size + 2, 0, none⟩) (v := .float .f64 0) (by first | assumption | (go_simp; done))
  have k2_2_0z := below_frozen hb2 (p := ⟨w.heap.size + 2, 0, none⟩) (v := .float .f64 0) (by first | assumption | (go_simp; done)) (by first | assumption | (go_simp; done))
  have k2_2_1 := below_cell hb2 (p := ⟨w.heap.size + 2, 1, none⟩) (v := .float .f64 0) (by first | assumption | (go_simp; done))
  have k2_2_1z := below_frozen hb2 (p := ⟨w.heap.size + 2, 1, none⟩) (v := .float .f64 0) (by first | assumption | (go_simp; done)) (by first | assumption | (go_simp; done))
  clear hb2
  go_wp2
  exact bodyPost_ret (v := (.agg #[.float .f64 lo, .float .f64 hi])) (by simp [results, Try.results26, go_sem, *]) rfl ⟨rfl, (by repeat (first | (with_reducible assumption) | (with_reducible exact Below.refl _ _) | ((with_reducible refine Below.alloc ?_ ?_ _); rotate_left; exact (by first | omega | (simp; done) | (simp; omega))) | ((with_reducible refine Below.setCell ?_ ?_ _); rotate_left; exact (by first | omega | (simp; done) | (simp; omega))) | (with_reducible refine Below.drew ?_)))⟩

theorem meet_any (a b c d : Nat) (w : World) (ha : word a) (hb : word b) (hc : word c) (hd : word d) :
    Calls Try.prog 26 #[(.agg #[.float .f64 a, .float .f64 b]), (.agg #[.float .f64 c, .float .f64 d])] w fun e w' => e = .returned (.agg #[.float .f64 (meetLo a b c d), .float .f64 (meetHi a b c d)]) ∧ Below w.heap.size w w' := by
  unfold meetLo meetHi
  by_cases h : noneB a b = true ∨ noneB c d = true
  · rw [if_pos h, if_pos h]
    exact meet_walk0 a b c d w (by simpa using h)
  · rw [if_neg h, if_neg h]
    have h1 : noneB a b = false := by simpa using fun e => h (Or.inl e)
    have h2 : noneB c d = false := by simpa using fun e => h (Or.inr e)
    obtain ⟨i, j, g⟩ := good_of ha hb h1
    obtain ⟨k, l, g'⟩ := good_of hc hd h2
    have ia := g.iabs; have ib := g.jabs; have ic := g'.iabs; have id := g'.jabs
    obtain ⟨rfl, rfl, _, _, _, _, _⟩ := g
    obtain ⟨rfl, rfl, _, _, _, _, _⟩ := g'
    have na := nw_wd ia; have nb := nw_wd ib; have nc := nw_wd ic; have nd := nw_wd id
    have n1 := maxw_nw na nc; have n2 := minw_nw nb nd
    refine meet_walk1 _ _ _ _ _ _ _ _ w (by rw [h1, h2]; rfl) (run_fmax _ _ na nc) (run_fmin _ _ nb nd) (fun w => ?_)
    have hm := make_any _ _ w n1.1 n2.1 n1.2.1 n2.2.1
    rw [maxw_ix, minw_ix] at hm
    exact hm

/-- The sum. -/
@[irreducible] noncomputable def addLo (a b c d : Nat) : Nat := if noneB a b = true ∨ noneB c d = true then 9218868437227405312 else makeLo (min (addI (ix a) (ix c) (-1)) LM) (max (addI (ix b) (ix d) 1) (-LM))
@[irreducible] noncomputable def addHi (a b c d : Nat) : Nat := if noneB a b = true ∨ noneB c d = true then 18442240474082181120 else makeHi (min (addI (ix a) (ix c) (-1)) LM) (max (addI (ix b) (ix d) 1) (-LM))

theorem add_walk0 (a b c d : Nat) (w : World) (h : (noneB a b || noneB c d) = true) :
    Calls Try.prog 30 #[(.agg #[.float .f64 a, .float .f64 b]), (.agg #[.float .f64 c, .float .f64 d])] w fun e w' => e = .returned (.agg #[.float .f64 9218868437227405312, .float .f64 18442240474082181120]) ∧ Below w.heap.size w w' := by
  have N : Hid (∀ (k : Nat) (w : World), w.cell? ⟨k, 0, none⟩ = some (.float .f64 a) → w.cell? ⟨k, 1, none⟩ = some (.float .f64 b) → w.cell? ⟨k, 2, none⟩ = some (.float .f64 c) → w.cell? ⟨k, 3, none⟩ = some (.float .f64 d) → Calls Try.prog 53 #[.slice (some ⟨k, 0, none⟩) 2 2] w fun e w' => e = .returned (.bool true) ∧ Below w.heap.size w w') := fun k w c0 c1 c2 c3 => h ▸ none2_any a b c d k w c0 c1 c2 c3
  clear h
  go_enter Try.func30, Try.ntmps30
  go_wp2_with fail
  refine Calls.mono (N.out _ _ (by go_simp) (by go_simp) (by go_simp) (by go_simp)) ?_
  rintro e w1 ⟨rfl, hb1⟩
  have hw1 : Below w.heap.size w w1 := Below.trans (by repeat (first | (with_reducible assumption) | (with_reducible exact Below.refl _ _) | ((with_reducible refine Below.alloc ?_ ?_ _); rotate_left; exact (by first | omega | (simp; done) | (simp; omega))) | ((with_reducible refine Below.setCell ?_ ?_ _); rotate_left; exact (by first | omega | (simp; done) | (simp; omega))) | (with_reducible refine Below.drew ?_))) (hb1.mono (by first | omega | (simp; done) | (simp; omega)))
  have hs1 := hb1.size
  try simp at hs1
  have hl1_0 : w.heap.size < w1.heap.size := by omega
  have k1_0_0 := below_cell hb1 (p := ⟨w.heap.size, 0, none⟩) (v := .float .f64 a) (by first | assumption | (go_simp; done))
  have k1_0_0z := below_frozen hb1 (p := ⟨w.heap.size, 0, none⟩) (v := .float .f64 a) (by first | assumption | (go_simp; done)) (by first | assumption | (go_simp; done))
  have k1_0_1 := below_cell hb1 (p := ⟨w.heap.size, 1, none⟩) (v := .float .f64 b) (by first | assumption | (go_simp; done))
  have k1_0_1z := below_frozen hb1 (p := ⟨w.heap.size, 1, none⟩) (v := .float .f64 b) (by first | assumption | (go_simp; done)) (by first | assumption | (go_simp; done))
  have hl1_1 : w.heap.size + 1 < w1.heap.size := by omega
  have k1_1_0 := below_cell hb1 (p := ⟨w.heap.size + 1, 0, none⟩) (v := .float .f64 c) (by first | assumption | (go_simp; done))
  have k1_1_0z := below_frozen hb1 (p := ⟨w.heap.size + 1, 0, none⟩) (v := .float .f64 c) (by first | assumption | (go_simp; done)) (by first | assumption | (go_simp; done))
  have k1_1_1 := below_cell hb1 (p := ⟨w.heap.size + 1, 1, none⟩) (v := .float .f64 d) (by first | assumption | (go_simp; done))
  have k1_1_1z := below_frozen hb1 (p := ⟨w.heap.size + 1, 1, none⟩) (v := .float .f64 d) (by first | assumption | (go_simp; done)) (by first | assumption | (go_simp; done))
  have hl1_2 : w.heap.size + 2 < w1.heap.size := by omega
  have k1_2_0 := below_cell hb1 (p := ⟨w.heap.size + 2, 0, none⟩) (v := .float .f64 0) (by first | assumption | (go_simp; done))
  have k1_2_0z := below_frozen hb1 (p := ⟨w.heap.size + 2, 0, none⟩) (v := .float .f64 0) (by first | assumption | (go_simp; done)) (by first | assumption | (go_simp; done))
  have k1_2_1 := below_cell hb1 (p := ⟨w.heap.size + 2, 1, none⟩) (v := .float .f64 0) (by first | assumption | (go_simp; done))
  have k1_2_1z := below_frozen hb1 (p := ⟨w.heap.size + 2, 1, none⟩) (v := .float .f64 0) (by first | assumption | (go_simp; done)) (by first | assumption | (go_simp; done))
  clear hb1
  go_wp2_with fail
  refine Calls.mono (empty_any _) ?_
  rintro e w2 ⟨rfl, hb2⟩
  have hw2 : Below w.heap.size w w2 := Below.trans (by repeat (first | (with_reducible assumption) | (with_reducible exact Below.refl _ _) | ((with_reducible refine Below.alloc ?_ ?_ _); rotate_left; exact (by first | omega | (simp; done) | (simp; omega))) | ((with_reducible refine Below.setCell ?_ ?_ _); rotate_left; exact (by first | omega | (simp; done) | (simp; omega))) | (with_reducible refine Below.drew ?_))) (hb2.mono (by first | omega | (simp; done) | (simp; omega)))
  have hs2 := hb2.size
  try simp at hs2
  have hl2_0 : w.heap.size < w2.heap.size := by omega
  have k2_0_0 := below_cell hb2 (p := ⟨w.heap.size, 0, none⟩) (v := .float .f64 a) (by first | assumption | (go_simp; done))
  have k2_0_0z := below_frozen hb2 (p := ⟨w.heap.size, 0, none⟩) (v := .float .f64 a) (by first | assumption | (go_simp; done)) (by first | assumption | (go_simp; done))
  have k2_0_1 := below_cell hb2 (p := ⟨w.heap.size, 1, none⟩) (v := .float .f64 b) (by first | assumption | (go_simp; done))
  have k2_0_1z := below_frozen hb2 (p := ⟨w.heap.size, 1, none⟩) (v := .float .f64 b) (by first | assumption | (go_simp; done)) (by first | assumption | (go_simp; done))
  have hl2_1 : w.heap.size + 1 < w2.heap.size := by omega
  have k2_1_0 := below_cell hb2 (p := ⟨w.heap.size + 1, 0, none⟩) (v := .float .f64 c) (by first | assumption | (go_simp; done))
  have k2_1_0z := below_frozen hb2 (p := ⟨w.heap.size + 1, 0, none⟩) (v := .float .f64 c) (by first | assumption | (go_simp; done)) (by first | assumption | (go_simp; done))
  have k2_1_1 := below_cell hb2 (p := ⟨w.heap.size + 1, 1, none⟩) (v := .float .f64 d) (by first | assumption | (go_simp; done))
  have k2_1_1z := below_frozen hb2 (p := ⟨w.heap.size + 1, 1, none⟩) (v := .float .f64 d) (by first | assumption | (go_simp; done)) (by first | assumption | (go_simp; done))
  have hl2_2 : w.heap.size + 2 < w2.heap.size := by omega
  have k2_2_0 := below_cell hb2 (p := ⟨w.heap.size + 2, 0, none⟩) (v := .float .f64 0) (by first | assumption | (go_simp; done))
  have k2_2_0z := below_frozen hb2 (p := ⟨w.heap.size + 2, 0, none⟩) (v := .float .f64 0) (by first | assumption | (go_simp; done)) (by first | assumption | (go_simp; done))
  have k2_2_1 := below_cell hb2 (p := ⟨w.heap.size + 2, 1, none⟩) (v := .float .f64 0) (by first | assumption | (go_simp; done))
  have k2_2_1z := below_frozen hb2 (p := ⟨w.heap.size + 2, 1, none⟩) (v := .float .f64 0) (by first | assumption | (go_simp; done)) (by first | assumption | (go_simp; done))
  clear hb2
  go_wp2
  exact bodyPost_ret (v := (.agg #[.float .f64 9218868437227405312, .float .f64 18442240474082181120])) (by simp [results, Try.results30, go_sem, *]) rfl ⟨rfl, (by repeat (first | (with_reducible assumption) | (with_reducible exact Below.refl _ _) | ((with_reducible refine Below.alloc ?_ ?_ _); rotate_left; exact (by first | omega | (simp; done) | (simp; omega))) | ((with_reducible refine Below.setCell ?_ ?_ _); rotate_left; exact (by first | omega | (simp; done) | (simp; omega))) | (with_reducible refine Below.drew ?_)))⟩
theorem add_walk1 (a b c d p q lo hi : Nat) (w : World) (h : (noneB a b || noneB c d) = false)
    (h1 : ∀ w, Calls Try.prog 68 #[.float .f64 a, .float .f64 c, .int .i64 (-1)] w fun e w' => e = .returned (.float .f64 p) ∧ Below w.heap.size w w')
    (h2 : ∀ w, Calls Try.prog 68 #[.float .f64 b, .float .f64 d, .int .i64 1] w fun e w' => e = .returned (.float .f64 q) ∧ Below w.heap.size w w')
    (hm : ∀ w, Calls Try.prog 67 #[.float .f64 p, .float .f64 q] w fun e w' => e = .returned (.agg #[.float .f64 lo, .float .f64 hi]) ∧ Below w.heap.size w w') :
    Calls Try.prog 30 #[(.agg #[.float .f64 a, .float .f64 b]), (.agg #[.float .f64 c, .float .f64 d])] w fun e w' => e = .returned (.agg #[.float .f64 lo, .float .f64 hi]) ∧ Below w.heap.size w w' := by
  have N : Hid (∀ (k : Nat) (w : World), w.cell? ⟨k, 0, none⟩ = some (.float .f64 a) → w.cell? ⟨k, 1, none⟩ = some (.float .f64 b) → w.cell? ⟨k, 2, none⟩ = some (.float .f64 c) → w.cell? ⟨k, 3, none⟩ = some (.float .f64 d) → Calls Try.prog 53 #[.slice (some ⟨k, 0, none⟩) 2 2] w fun e w' => e = .returned (.bool false) ∧ Below w.heap.size w w') := fun k w c0 c1 c2 c3 => h ▸ none2_any a b c d k w c0 c1 c2 c3
  have Hm := Lib.hid hm
  have H1 := Lib.hid h1
  have H2 := Lib.hid h2
  clear hm h h1 h2
  go_enter Try.func30, Try.ntmps30
  go_wp2_with fail
  refine Calls.mono (N.out _ _ (by go_simp) (by go_simp) (by go_simp) (by go_simp)) ?_
  rintro e w1 ⟨rfl, hb1⟩
  have hw1 : Below w.heap.size w w1 := Below.trans (by repeat (first | (with_reducible assumption) | (with_reducible exact Below.refl _ _) | ((with_reducible refine Below.alloc ?_ ?_ _); rotate_left; exact (by first | omega | (simp; done) | (simp; omega))) | ((with_reducible refine Below.setCell ?_ ?_ _); rotate_left; exact (by first | omega | (simp; done) | (simp; omega))) | (with_reducible refine Below.drew ?_))) (hb1.mono (by first | omega | (simp; done) | (simp; omega)))
  have hs1 := hb1.size
  try simp at hs1
  have hl1_0 : w.heap.size < w1.heap.size := by omega
  have k1_0_0 := below_cell hb1 (p := ⟨w.heap.size, 0, none⟩) (v := .float .f64 a) (by first | assumption | (go_simp; done))
  have k1_0_0z := below_frozen hb1 (p := ⟨w.heap.size, 0, none⟩) (v := .float .f64 a) (by first | assumption | (go_simp; done)) (by first | assumption | (go_simp; done))
  have k1_0_1 := below_cell hb1 (p := ⟨w.heap.size, 1, none⟩) (v := .float .f64 b) (by first | assumption | (go_simp; done))
  have k1_0_1z := below_frozen hb1 (p := ⟨w.heap.size, 1, none⟩) (v := .float .f64 b) (by first | assumption | (go_simp; done)) (by first | assumption | (go_simp; done))
  have hl1_1 : w.heap.size + 1 < w1.heap.size := by omega
  have k1_1_0 := below_cell hb1 (p := ⟨w.heap.size + 1, 0, none⟩) (v := .float .f64 c) (by first | assumption | (go_simp; done))
  have k1_1_0z := below_frozen hb1 (p := ⟨w.heap.size + 1, 0, none⟩) (v := .float .f64 c) (by first | assumption | (go_simp; done)) (by first | assumption | (go_simp; done))
  have k1_1_1 := below_cell hb1 (p := ⟨w.heap.size + 1, 1, none⟩) (v := .float .f64 d) (by first | assumption | (go_simp; done))
  have k1_1_1z := below_frozen hb1 (p := ⟨w.heap.size + 1, 1, none⟩) (v := .float .f64 d) (by first | assumption | (go_simp; done)) (by first | assumption | (go_simp; done))
  have hl1_2 : w.heap.size + 2 < w1.heap.size := by omega
  have k1_2_0 := below_cell hb1 (p := ⟨w.heap.size + 2, 0, none⟩) (v := .float .f64 0) (by first | assumption | (go_simp; done))
  have k1_2_0z := below_frozen hb1 (p := ⟨w.heap.size + 2, 0, none⟩) (v := .float .f64 0) (by first | assumption | (go_simp; done)) (by first | assumption | (go_simp; done))
  have k1_2_1 := below_cell hb1 (p := ⟨w.heap.size + 2, 1, none⟩) (v := .float .f64 0) (by first | assumption | (go_simp; done))
  have k1_2_1z := below_frozen hb1 (p := ⟨w.heap.size + 2, 1, none⟩) (v := .float .f64 0) (by first | assumption | (go_simp; done)) (by first | assumption | (go_simp; done))
  clear hb1
  go_wp2_with fail
  refine wp_region_grow_tail 11 (by kernel_rfl) (by kernel_rfl) ?_
  simp only [List.take_succ_cons, List.take_zero, List.drop_succ_cons, List.drop_zero]
  intro X _ M hM hup
  have d0 := grow_cell hM k1_0_0
  have d1 := grow_cell hM k1_0_1
  have d2 := grow_cell hM k1_1_0
  have d3 := grow_cell hM k1_1_1
  have d4 := grow_cell hM k1_2_0
  have d5 := grow_cell hM k1_2_1
  have d4z := fun x => below_frozen (hM x) k1_2_0 k1_2_0z
  have d5z := fun x => below_frozen (hM x) k1_2_1 k1_2_1z
  have hbm : ∀ x, Below w.heap.size w (M x) := fun x => hw1.trans ((hM x).mono hw1.size)
  clear hM
  repeat (go_big_quiet_step (first | (go_at_call 68; first | with_reducible exact grow_of (hup _) (H1.out _) | with_reducible exact grow_of (hup _) (H2.out _)) | (go_at_call 67; exact grow_of (hup _) (Hm.out _))))
  refine wpQuiet_nil ?_
  rintro _ ⟨x, rfl⟩
  have hbx := hbm x
  clear hbm
  go_wp2
  exact bodyPost_ret (v := (.agg #[.float .f64 lo, .float .f64 hi])) (by simp [results, Try.results30, go_sem, *]) rfl ⟨rfl, (by repeat (first | (with_reducible assumption) | (with_reducible exact Below.refl _ _) | ((with_reducible refine Below.alloc ?_ ?_ _); rotate_left; exact (by first | omega | (simp; done) | (simp; omega))) | ((with_reducible refine Below.setCell ?_ ?_ _); rotate_left; exact (by first | omega | (simp; done) | (simp; omega))) | (with_reducible refine Below.drew ?_)))⟩

/-- The two ends of a sum. -/
theorem add_ends {a b c d : Nat} (ha : word a) (hb : word b) (hc : word c) (hd : word d) (h1 : noneB a b = false) (h2 : noneB c d = false) :
    nw a ∧ nw b ∧ nw c ∧ nw d ∧ ((ix a).natAbs = INF → ix c ≠ - ix a) ∧ ((ix b).natAbs = INF → ix d ≠ - ix b) := by
  obtain ⟨i, j, g⟩ := good_of ha hb h1
  obtain ⟨k, l, g'⟩ := good_of hc hd h2
  have ia := g.iabs; have ib := g.jabs; have ic := g'.iabs; have id := g'.jabs
  obtain ⟨rfl, rfl, q1, q2, q3, q4, q5⟩ := g
  obtain ⟨rfl, rfl, r1, r2, r3, r4, r5⟩ := g'
  have hI := INF_IM
  refine ⟨nw_wd ia, nw_wd ib, nw_wd ic, nw_wd id, ?_, ?_⟩
  · rw [ix_of ia, ix_of ic]; omega
  · rw [ix_of ib, ix_of id]; omega

theorem add_any (a b c d : Nat) (w : World) (ha : word a) (hb : word b) (hc : word c) (hd : word d) :
    Calls Try.prog 30 #[(.agg #[.float .f64 a, .float .f64 b]), (.agg #[.float .f64 c, .float .f64 d])] w fun e w' => e = .returned (.agg #[.float .f64 (addLo a b c d), .float .f64 (addHi a b c d)]) ∧ Below w.heap.size w w' := by
  unfold addLo addHi
  by_cases h : noneB a b = true ∨ noneB c d = true
  · rw [if_pos h, if_pos h]
    exact add_walk0 a b c d w (by simpa using h)
  · rw [if_neg h, if_neg h]
    have h1 : noneB a b = false := by simpa using fun e => h (Or.inl e)
    have h2 : noneB c d = false := by simpa using fun e => h (Or.inr e)
    obtain ⟨na, nb, nc, nd, o1, o2⟩ := add_ends ha hb hc hd h1 h2
    have A1 := addI_abs (-1) (num_abs na.1 na.2.1) (num_abs nc.1 nc.2.1)
    have A2 := addI_abs 1 (num_abs nb.1 nb.2.1) (num_abs nd.1 nd.2.1)
    refine add_walk1 _ _ _ _ _ _ _ _ w (by rw [h1, h2]; rfl) (fun w => ulpAdd_any a c (-1) w na.1 na.2.1 nc.1 nc.2.1 (by omega) (by omega) o1) (fun w => ulpAdd_any b d 1 w nb.1 nb.2.1 nd.1 nd.2.1 (by omega) (by omega) o2) (fun w => ?_)
    have hm := ends_any _ _ w (nw_wd A1) (nw_wd A2)
    rw [ix_of A1, ix_of A2] at hm
    exact hm

/-- The difference. -/
theorem sub_walk (a b c d p q lo hi : Nat) (w : World)
    (h1 : ∀ w, Calls Try.prog 28 #[(.agg #[.float .f64 c, .float .f64 d])] w fun e w' => e = .returned (.agg #[.float .f64 p, .float .f64 q]) ∧ Below w.heap.size w w')
    (h2 : ∀ w, Calls Try.prog 30 #[(.agg #[.float .f64 a, .float .f64 b]), (.agg #[.float .f64 p, .float .f64 q])] w fun e w' => e = .returned (.agg #[.float .f64 lo, .float .f64 hi]) ∧ Below w.heap.size w w') :
    Calls Try.prog 32 #[(.agg #[.float .f64 a, .float .f64 b]), (.agg #[.float .f64 c, .float .f64 d])] w fun e w' => e = .returned (.agg #[.float .f64 lo, .float .f64 hi]) ∧ Below w.heap.size w w' := by
  have H1 := Lib.hid h1
  have H2 := Lib.hid h2
  clear h1 h2
  go_enter Try.func32, Try.ntmps32
  go_wp2_with fail
  refine wp_region_grow_tail 4 (by kernel_rfl) (by kernel_rfl) ?_
  simp only [List.take_succ_cons, List.take_zero, List.drop_succ_cons, List.drop_zero]
  intro X _ M hM hup
  have d0 := grow_cell hM (p := ⟨w.heap.size, 0, none⟩) (v := .float .f64 a) (by go_simp)
  have d1 := grow_cell hM (p := ⟨w.heap.size, 1, none⟩) (v := .float .f64 b) (by go_simp)
  have d2 := grow_cell hM (p := ⟨w.heap.size + 1, 0, none⟩) (v := .float .f64 c) (by go_simp)
  have d3 := grow_cell hM (p := ⟨w.heap.size + 1, 1, none⟩) (v := .float .f64 d) (by go_simp)
  have d4 := grow_cell hM (p := ⟨w.heap.size + 2, 0, none⟩) (v := .float .f64 0) (by go_simp)
  have d5 := grow_cell hM (p := ⟨w.heap.size + 2, 1, none⟩) (v := .float .f64 0) (by go_simp)
  have d4z := fun x => below_frozen (hM x) (p := ⟨w.heap.size + 2, 0, none⟩) (v := .float .f64 0) (by go_simp) (by go_simp)
  have d5z := fun x => below_frozen (hM x) (p := ⟨w.heap.size + 2, 1, none⟩) (v := .float .f64 0) (by go_simp) (by go_simp)
  have hbm : ∀ x, Below w.heap.size w (M x) := fun x => Below.trans (by repeat (first | (with_reducible assumption) | (with_reducible exact Below.refl _ _) | ((with_reducible refine Below.alloc ?_ ?_ _); rotate_left; exact (by first | omega | (simp; done) | (simp; omega))) | ((with_reducible refine Below.setCell ?_ ?_ _); rotate_left; exact (by first | omega | (simp; done) | (simp; omega))) | (with_reducible refine Below.drew ?_))) ((hM x).mono (by simp; omega))
  clear hM
  repeat (go_big_quiet_step (first | (go_at_call 28; exact grow_of (hup _) (H1.out _)) | (go_at_call 30; exact grow_of (hup _) (H2.out _))))
  refine wpQuiet_nil ?_
  rintro _ ⟨x, rfl⟩
  have hbx := hbm x
  clear hbm
  go_wp2
  exact bodyPost_ret (v := (.agg #[.float .f64 lo, .float .f64 hi])) (by simp [results, Try.results32, go_sem, *]) rfl ⟨rfl, (by repeat (first | (with_reducible assumption) | (with_reducible exact Below.refl _ _) | ((with_reducible refine Below.alloc ?_ ?_ _); rotate_left; exact (by first | omega | (simp; done) | (simp; omega))) | ((with_reducible refine Below.setCell ?_ ?_ _); rotate_left; exact (by first | omega | (simp; done) | (simp; omega))) | (with_reducible refine Below.drew ?_)))⟩

theorem negLo_word {a b : Nat} (ha : word a) (hb : word b) : word (negLo a b) ∧ word (negHi a b) := by
  unfold negLo negHi
  cases h : noneB a b
  · rw [if_neg (by decide), if_neg (by decide)]
    obtain ⟨i, j, g⟩ := good_of ha hb h
    have ia := g.iabs; have ib := g.jabs
    rw [g.lo, g.hi, ix_of ia, ix_of ib]
    exact ⟨(nw_wd (by omega)).1, (nw_wd (by omega)).1⟩
  · rw [if_pos rfl, if_pos rfl]
    unfold word SGN
    exact ⟨by decide, by decide⟩

theorem sub_any (a b c d : Nat) (w : World) (ha : word a) (hb : word b) (hc : word c) (hd : word d) :
    Calls Try.prog 32 #[(.agg #[.float .f64 a, .float .f64 b]), (.agg #[.float .f64 c, .float .f64 d])] w fun e w' => e = .returned (.agg #[.float .f64 (addLo a b (negLo c d) (negHi c d)), .float .f64 (addHi a b (negLo c d) (negHi c d))]) ∧ Below w.heap.size w w' :=
  sub_walk a b c d _ _ _ _ w (fun w => neg_any c d w hc hd) (fun w => add_any a b _ _ w ha hb (negLo_word hc hd).1 (negLo_word hc hd).2)

end Go.Proofs.Ytonidoghcihnnaa
