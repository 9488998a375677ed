/- The walks of ival's Div. -/
import Derived.Test.YtonidoghcihnnaaCorn
import Derived.Test.YtonidoghcihnnaaIvA
namespace Go.Proofs.Ytonidoghcihnnaa
open Go.RowKit
set_option maxRecDepth 100000
set_option maxHeartbeats 1000000
set_option linter.unusedSimpArgs false
set_option linter.unusedVariables false


theorem div_walk0 (a b c d : Nat) (w : World) (h : (noneB a b || noneB c d) = true) :
    Calls Try.prog 34 #[(.agg #[.float .f64 a, .float .f64 b]), (.agg #[.float .f64 c, .float .f64 d])] w fun e w' => e = .returned (.agg #[.float .f64 9218868437227405312, .float .f64 18442240474082181120]) ∧ Below w.heap.size w w' := by
  have N : Hid (∀ (k : Nat) (w : World), w.cell? ⟨k, 0, none⟩ = some (.float .f64 a) → w.cell? ⟨k, 1, none⟩ = some (.float .f64 b) → w.cell? ⟨k, 2, none⟩ = some (.float .f64 c) → w.cell? ⟨k, 3, none⟩ = some (.float .f64 d) → Calls Try.prog 53 #[.slice (some ⟨k, 0, none⟩) 2 2] w fun e w' => e = .returned (.bool true) ∧ Below w.heap.size w w') := fun k w c0 c1 c2 c3 => h ▸ none2_any a b c d k w c0 c1 c2 c3
  clear h
  go_enter Try.func34, Try.ntmps34
  go_wp2_with fail
  refine Calls.mono (N.out _ _ (by go_simp) (by go_simp) (by go_simp) (by go_simp)) ?_
  rintro e w1 ⟨rfl, hb1⟩
  have hw1 : Below w.heap.size w w1 := Below.trans (by repeat (first | (with_reducible assumption) | (with_reducible exact Below.refl _ _) | ((with_reducible refine Below.alloc ?_ ?_ _); rotate_left; exact (by first | omega | (simp; done) | (simp; omega))) | ((with_reducible refine Below.setCell ?_ ?_ _); rotate_left; exact (by first | omega | (simp; done) | (simp; omega))) | (with_reducible refine Below.drew ?_))) (hb1.mono (by first | omega | (simp; done) | (simp; omega)))
  have hs1 := hb1.size
  try simp at hs1
  have hl1_0 : w.heap.size < w1.heap.size := by omega
  have k1_0_0 := below_cell hb1 (p := ⟨w.heap.size, 0, none⟩) (v := .float .f64 a) (by first | assumption | (go_simp; done))
  have k1_0_0z := below_frozen hb1 (p := ⟨w.heap.size, 0, none⟩) (v := .float .f64 a) (by first | assumption | (go_simp; done)) (by first | assumption | (go_simp; done))
  have k1_0_1 := below_cell hb1 (p := ⟨w.heap.size, 1, none⟩) (v := .float .f64 b) (by first | assumption | (go_simp; done))
  have k1_0_1z := below_frozen hb1 (p := ⟨w.heap.size, 1, none⟩) (v := .float .f64 b) (by first | assumption | (go_simp; done)) (by first | assumption | (go_simp; done))
  have hl1_1 : w.heap.size + 1 < w1.heap.size := by omega
  have k1_1_0 := below_cell hb1 (p := ⟨w.heap.size + 1, 0, none⟩) (v := .float .f64 c) (by first | assumption | (go_simp; done))
  have k1_1_0z := below_frozen hb1 (p := ⟨w.heap.size + 1, 0, none⟩) (v := .float .f64 c) (by first | assumption | (go_simp; done)) (by first | assumption | (go_simp; done))
  have k1_1_1 := below_cell hb1 (p := ⟨w.heap.size + 1, 1, none⟩) (v := .float .f64 d) (by first | assumption | (go_simp; done))
  have k1_1_1z := below_frozen hb1 (p := ⟨w.heap.size + 1, 1, none⟩) (v := .float .f64 d) (by first | assumption | (go_simp; done)) (by first | assumption | (go_simp; done))
  have hl1_2 : w.heap.size + 2 < w1.heap.size := by omega
  have k1_2_0 := below_cell hb1 (p := ⟨w.heap.size + 2, 0, none⟩) (v := .float .f64 0) (by first | assumption | (go_simp; done))
  have k1_2_0z := below_frozen hb1 (p := ⟨w.heap.size + 2, 0, none⟩) (v := .float .f64 0) (by first | assumption | (go_simp; done)) (by first | assumption | (go_simp; done))
  have k1_2_1 := below_cell hb1 (p := ⟨w.heap.size + 2, 1, none⟩) (v := .float .f64 0) (by first | assumption | (go_simp; done))
  have k1_2_1z := below_frozen hb1 (p := ⟨w.heap.size + 2, 1, none⟩) (v := .float .f64 0) (by first | assumption | (go_simp; done)) (by first | assumption | (go_simp; done))
  have hl1_3 : w.heap.size + 3 < w1.heap.size := by omega
  have k1_3_0 := below_cell hb1 (p := ⟨w.heap.size + 3, 0, none⟩) (v := .float .f64 0) (by first | assumption | (go_simp; done))
  have k1_3_0z := below_frozen hb1 (p := ⟨w.heap.size + 3, 0, none⟩) (v := .float .f64 0) (by first | assumption | (go_simp; done)) (by first | assumption | (go_simp; done))
  have k1_3_1 := below_cell hb1 (p := ⟨w.heap.size + 3, 1, none⟩) (v := .float .f64 0) (by first | assumption | (go_simp; done))
  have k1_3_1z := below_frozen hb1 (p := ⟨w.heap.size + 3, 1, none⟩) (v := .float .f64 0) (by first | assumption | (go_simp; done)) (by first | assumption | (go_simp; done))
  clear hb1
  go_wp2_with fail
  refine Calls.mono (empty_any _) ?_
  rintro e w2 ⟨rfl, hb2⟩
  have hw2 : Below w.heap.size w w2 := Below.trans (by repeat (first | (with_reducible assumption) | (with_reducible exact Below.refl _ _) | ((with_reducible refine Below.alloc ?_ ?_ _); rotate_left; exact (by first | omega | (simp; done) | (simp; omega))) | ((with_reducible refine Below.setCell ?_ ?_ _); rotate_left; exact (by first | omega | (simp; done) | (simp; omega))) | (with_reducible refine Below.drew ?_))) (hb2.mono (by first | omega | (simp; done) | (simp; omega)))
  have hs2 := hb2.size
  try simp at hs2
  have hl2_0 : w.heap.size < w2.heap.size := by omega
  have k2_0_0 := below_cell hb2 (p := ⟨w.heap.size, 0, none⟩) (v := .float .f64 a) (by first | assumption | (go_simp; done))
  have k2_0_0z := below_frozen hb2 (p := ⟨w.heap.size, 0, none⟩) (v := .float .f64 a) (by first | assumption | (go_simp; done)) (by first | assumption | (go_simp; done))
  have k2_0_1 := below_cell hb2 (p := ⟨w.heap.size, 1, none⟩) (v := .float .f64 b) (by first | assumption | (go_simp; done))
  have k2_0_1z := below_frozen hb2 (p := ⟨w.heap.size, 1, none⟩) (v := .float .f64 b) (by first | assumption | (go_simp; done)) (by first | assumption | (go_simp; done))
  have hl2_1 : w.heap.size + 1 < w2.heap.size := by omega
  have k2_1_0 := below_cell hb2 (p := ⟨w.heap.size + 1, 0, none⟩) (v := .float .f64 c) (by first | assumption | (go_simp; done))
  have k2_1_0z := below_frozen hb2 (p := ⟨w.heap.size + 1, 0, none⟩) (v := .float .f64 c) (by first | assumption | (go_simp; done)) (by first | assumption | (go_simp; done))
  have k2_1_1 := below_cell hb2 (p := ⟨w.heap.size + 1, 1, none⟩) (v := .float .f64 d) (by first | assumption | (go_simp; done))
  have k2_1_1z := below_frozen hb2 (p := ⟨w.heap.size + 1, 1, none⟩) (v := .float .f64 d) (by first | assumption | (go_simp; done)) (by first | assumption | (go_simp; done))
  have hl2_2 : w.heap.size + 2 < w2.heap.size := by omega
  have k2_2_0 := below_cell hb2 (p := ⟨w.heap.size + 2, 0, none⟩) (v := .float .f64 0) (by first | assumption | (go_simp; done))
  have k2_2_0z := below_frozen hb2 (p := ⟨w.heap.size + 2, 0, none⟩) (v := .float .f64 0) (by first | assumption | (go_simp; done)) (by first | assumption | (go_simp; done))
  have k2_2_1 := below_cell hb2 (p := ⟨w.heap.size + 2, 1, none⟩) (v := .float .f64 0) (by first | assumption | (go_simp; done))
  have k2_2_1z := below_frozen hb2 (p := ⟨w.heap.size + 2, 1, none⟩) (v := .float .f64 0) (by first | assumption | (go_simp; done)) (by first | assumption | (go_simp; done))
  have hl2_3 : w.heap.size + 3 < w2.heap.size := by omega
  have k2_3_0 := below_cell hb2 (p := ⟨w.heap.size + 3, 0, none⟩) (v := .float .f64 0) (by first | assumption | (go_simp; done))
  have k2_3_0z := below_frozen hb2 (p := ⟨w.heap.size + 3, 0, none⟩) (v := .float .f64 0) (by first | assumption | (go_simp; done)) (by first | assumption | (go_simp; done))
  have k2_3_1 := below_cell hb2 (p := ⟨w.heap.size + 3, 1, none⟩) (v := .float .f64 0) (by first | assumption | (go_simp; done))
  have k2_3_1z := below_frozen hb2 (p := ⟨w.heap.size + 3, 1, none⟩) (v := .float .f64 0) (by first | assumption | (go_simp; done)) (by first | assumption | (go_simp; done))
  clear hb2
  go_wp2
  exact bodyPost_ret (v := (.agg #[.float .f64 9218868437227405312, .float .f64 18442240474082181120])) (by simp [results, Try.results34, go_sem, *]) rfl ⟨rfl, (by repeat (first | (with_reducible assumption) | (with_reducible exact Below.refl _ _) | ((with_reducible refine Below.alloc ?_ ?_ _); rotate_left; exact (by first | omega | (simp; done) | (simp; omega))) | ((with_reducible refine Below.setCell ?_ ?_ _); rotate_left; exact (by first | omega | (simp; done) | (simp; omega))) | (with_reducible refine Below.drew ?_)))⟩
theorem div_walk1 (a b c d : Nat) (w : World) (h : (noneB a b || noneB c d) = false) (z1 : feq c 0 = true) (z2 : feq d 0 = true) :
    Calls Try.prog 34 #[(.agg #[.float .f64 a, .float .f64 b]), (.agg #[.float .f64 c, .float .f64 d])] w fun e w' => e = .returned (.agg #[.float .f64 9218868437227405312, .float .f64 18442240474082181120]) ∧ Below w.heap.size w w' := by
  have N : Hid (∀ (k : Nat) (w : World), w.cell? ⟨k, 0, none⟩ = some (.float .f64 a) → w.cell? ⟨k, 1, none⟩ = some (.float .f64 b) → w.cell? ⟨k, 2, none⟩ = some (.float .f64 c) → w.cell? ⟨k, 3, none⟩ = some (.float .f64 d) → Calls Try.prog 53 #[.slice (some ⟨k, 0, none⟩) 2 2] w fun e w' => e = .returned (.bool false) ∧ Below w.heap.size w w') := fun k w c0 c1 c2 c3 => h ▸ none2_any a b c d k w c0 c1 c2 c3
  clear h
  go_enter Try.func34, Try.ntmps34
  go_wp2_with fail
  refine Calls.mono (N.out _ _ (by go_simp) (by go_simp) (by go_simp) (by go_simp)) ?_
  rintro e w1 ⟨rfl, hb1⟩
  have hw1 : Below w.heap.size w w1 := Below.trans (by repeat (first | (with_reducible assumption) | (with_reducible exact Below.refl _ _) | ((with_reducible refine Below.alloc ?_ ?_ _); rotate_left; exact (by first | omega | (simp; done) | (simp; omega))) | ((with_reducible refine Below.setCell ?_ ?_ _); rotate_left; exact (by first | omega | (simp; done) | (simp; omega))) | (with_reducible refine Below.drew ?_))) (hb1.mono (by first | omega | (simp; done) | (simp; omega)))
  have hs1 := hb1.size
  try simp at hs1
  have hl1_0 : w.heap.size < w1.heap.size := by omega
  have k1_0_0 := below_cell hb1 (p := ⟨w.heap.size, 0, none⟩) (v := .float .f64 a) (by first | assumption | (go_simp; done))
  have k1_0_0z := below_frozen hb1 (p := ⟨w.heap.size, 0, none⟩) (v := .float .f64 a) (by first | assumption | (go_simp; done)) (by first | assumption | (go_simp; done))
  have k1_0_1 := below_cell hb1 (p := ⟨w.heap.size, 1, none⟩) (v := .float .f64 b) (by first | assumption | (go_simp; done))
  have k1_0_1z := below_frozen hb1 (p := ⟨w.heap.size, 1, none⟩) (v := .float .f64 b) (by first | assumption | (go_simp; done)) (by first | assumption | (go_simp; done))
  have hl1_1 : w.heap.size + 1 < w1.heap.size := by omega
  have k1_1_0 := below_cell hb1 (p := ⟨w.heap.size + 1, 0, none⟩) (v := .float .f64 c) (by first | assumption | (go_simp; done))
  have k1_1_0z := below_frozen hb1 (p := ⟨w.heap.size + 1, 0, none⟩) (v := .float .f64 c) (by first | assumption | (go_simp; done)) (by first | assumption | (go_simp; done))
  have k1_1_1 := below_cell hb1 (p := ⟨w.heap.size + 1, 1, none⟩) (v := .float .f64 d) (by first | assumption | (go_simp; done))
  have k1_1_1z := below_frozen hb1 (p := ⟨w.heap.size + 1, 1, none⟩) (v := .float .f64 d) (by first | assumption | (go_simp; done)) (by first | assumption | (go_simp; done))
  have hl1_2 : w.heap.size + 2 < w1.heap.size := by omega
  have k1_2_0 := below_cell hb1 (p := ⟨w.heap.size + 2, 0, none⟩) (v := .float .f64 0) (by first | assumption | (go_simp; done))
  have k1_2_0z := below_frozen hb1 (p := ⟨w.heap.size + 2, 0, none⟩) (v := .float .f64 0) (by first | assumption | (go_simp; done)) (by first | assumption | (go_simp; done))
  have k1_2_1 := below_cell hb1 (p := ⟨w.heap.size + 2, 1, none⟩) (v := .float .f64 0) (by first | assumption | (go_simp; done))
  have k1_2_1z := below_frozen hb1 (p := ⟨w.heap.size + 2, 1, none⟩) (v := .float .f64 0) (by first | assumption | (go_simp; done)) (by first | assumption | (go_simp; done))
  have hl1_3 : w.heap.size + 3 < w1.heap.size := by omega
  have k1_3_0 := below_cell hb1 (p := ⟨w.heap.size + 3, 0, none⟩) (v := .float .f64 0) (by first | assumption | (go_simp; done))
  have k1_3_0z := below_frozen hb1 (p := ⟨w.heap.size + 3, 0, none⟩) (v := .float .f64 0) (by first | assumption | (go_simp; done)) (by first | assumption | (go_simp; done))
  have k1_3_1 := below_cell hb1 (p := ⟨w.heap.size + 3, 1, none⟩) (v := .float .f64 0) (by first | assumption | (go_simp; done))
  have k1_3_1z := below_frozen hb1 (p := ⟨w.heap.size + 3, 1, none⟩) (v := .float .f64 0) (by first | assumption | (go_simp; done)) (by first | assumption | (go_simp; done))
  clear hb1
  go_wp2_with fail
  refine Calls.mono (empty_any _) ?_
  rintro e w2 ⟨rfl, hb2⟩
  have hw2 : Below w.heap.size w w2 := Below.trans (by repeat (first | (with_reducible assumption) | (with_reducible exact Below.refl _ _) | ((with_reducible refine Below.alloc ?_ ?_ _); rotate_left; exact (by first | omega | (simp; done) | (simp; omega))) | ((with_reducible refine Below.setCell ?_ ?_ _); rotate_left; exact (by first | omega | (simp; done) | (simp; omega))) | (with_reducible refine Below.drew ?_))) (hb2.mono (by first | omega | (simp; done) | (simp; omega)))
  have hs2 := hb2.size
  try simp at hs2
  have hl2_0 : w.heap.size < w2.heap.size := by omega
  have k2_0_0 := below_cell hb2 (p := ⟨w.heap.size, 0, none⟩) (v := .float .f64 a) (by first | assumption | (go_simp; done))
  have k2_0_0z := below_frozen hb2 (p := ⟨w.heap.size, 0, none⟩) (v := .float .f64 a) (by first | assumption | (go_simp; done)) (by first | assumption | (go_simp; done))
  have k2_0_1 := below_cell hb2 (p := ⟨w.heap.size, 1, none⟩) (v := .float .f64 b) (by first | assumption | (go_simp; done))
  have k2_0_1z := below_frozen hb2 (p := ⟨w.heap.size, 1, none⟩) (v := .float .f64 b) (by first | assumption | (go_simp; done)) (by first | assumption | (go_simp; done))
  have hl2_1 : w.heap.size + 1 < w2.heap.size := by omega
  have k2_1_0 := below_cell hb2 (p := ⟨w.heap.size + 1, 0, none⟩) (v := .float .f64 c) (by first | assumption | (go_simp; done))
  have k2_1_0z := below_frozen hb2 (p := ⟨w.heap.size + 1, 0, none⟩) (v := .float .f64 c) (by first | assumption | (go_simp; done)) (by first | assumption | (go_simp; done))
  have k2_1_1 := below_cell hb2 (p := ⟨w.heap.size + 1, 1, none⟩) (v := .float .f64 d) (by first | assumption | (go_simp; done))
  have k2_1_1z := below_frozen hb2 (p := ⟨w.heap.size + 1, 1, none⟩) (v := .float .f64 d) (by first | assumption | (go_simp; done)) (by first | assumption | (go_simp; done))
  have hl2_2 : w.heap.size + 2 < w2.heap.size := by omega
  have k2_2_0 := below_cell hb2 (p := ⟨w.heap.size + 2, 0, none⟩) (v := .float .f64 0) (by first | assumption | (go_simp; done))
  have k2_2_0z := below_frozen hb2 (p := ⟨w.heap.size + 2, 0, none⟩) (v := .float .f64 0) (by first | assumption | (go_simp; done)) (by first | assumption | (go_simp; done))
  have k2_2_1 := below_cell hb2 (p := ⟨w.heap.size + 2, 1, none⟩) (v := .float .f64 0) (by first | assumption | (go_simp; done))
  have k2_2_1z := below_frozen hb2 (p := ⟨w.heap.size + 2, 1, none⟩) (v := .float .f64 0) (by first | assumption | (go_simp; done)) (by first | assumption | (go_simp; done))
  have hl2_3 : w.heap.size + 3 < w2.heap.size := by omega
  have k2_3_0 := below_cell hb2 (p := ⟨w.heap.size + 3, 0, none⟩) (v := .float .f64 0) (by first | assumption | (go_simp; done))
  have k2_3_0z := below_frozen hb2 (p := ⟨w.heap.size + 3, 0, none⟩) (v := .float .f64 0) (by first | assumption | (go_simp; done)) (by first | assumption | (go_simp; done))
  have k2_3_1 := below_cell hb2 (p := ⟨w.heap.size + 3, 1, none⟩) (v := .float .f64 0) (by first | assumption | (go_simp; done))
  have k2_3_1z := below_frozen hb2 (p := ⟨w.heap.size + 3, 1, none⟩) (v := .float .f64 0) (by first | assumption | (go_simp; done)) (by first | assumption | (go_simp; done))
  clear hb2
  go_wp2
  exact bodyPost_ret (v := (.agg #[.float .f64 9218868437227405312, .float .f64 18442240474082181120])) (by simp [results, Try.results34, go_sem, *]) rfl ⟨rfl, (by repeat (first | (with_reducible assumption) | (with_reducible exact Below.refl _ _) | ((with_reducible refine Below.alloc ?_ ?_ _); rotate_left; exact (by first | omega | (simp; done) | (simp; omega))) | ((with_reducible refine Below.setCell ?_ ?_ _); rotate_left; exact (by first | omega | (simp; done) | (simp; omega))) | (with_reducible refine Below.drew ?_)))⟩
theorem div_walk2 (a b c d : Nat) (w : World) (h : (noneB a b || noneB c d) = false) (hp : (feq c 0 && feq d 0) = false) (z1 : feq a 0 = true) (z2 : feq b 0 = true) :
    Calls Try.prog 34 #[(.agg #[.float .f64 a, .float .f64 b]), (.agg #[.float .f64 c, .float .f64 d])] w fun e w' => e = .returned (.agg #[.float .f64 0, .float .f64 0]) ∧ Below w.heap.size w w' := by
  have N : Hid (∀ (k : Nat) (w : World), w.cell? ⟨k, 0, none⟩ = some (.float .f64 a) → w.cell? ⟨k, 1, none⟩ = some (.float .f64 b) → w.cell? ⟨k, 2, none⟩ = some (.float .f64 c) → w.cell? ⟨k, 3, none⟩ = some (.float .f64 d) → Calls Try.prog 53 #[.slice (some ⟨k, 0, none⟩) 2 2] w fun e w' => e = .returned (.bool false) ∧ Below w.heap.size w w') := fun k w c0 c1 c2 c3 => h ▸ none2_any a b c d k w c0 c1 c2 c3
  clear h
  go_enter Try.func34, Try.ntmps34
  go_wp2_with fail
  refine Calls.mono (N.out _ _ (by go_simp) (by go_simp) (by go_simp) (by go_simp)) ?_
  rintro e w1 ⟨rfl, hb1⟩
  have hw1 : Below w.heap.size w w1 := Below.trans (by repeat (first | (with_reducible assumption) | (with_reducible exact Below.refl _ _) | ((with_reducible refine Below.alloc ?_ ?_ _); rotate_left; exact (by first | omega | (simp; done) | (simp; omega))) | ((with_reducible refine Below.setCell ?_ ?_ _); rotate_left; exact (by first | omega | (simp; done) | (simp; omega))) | (with_reducible refine Below.drew ?_))) (hb1.mono (by first | omega | (simp; done) | (simp; omega)))
  have hs1 := hb1.size
  try simp at hs1
  have hl1_0 : w.heap.size < w1.heap.size := by omega
  have k1_0_0 := below_cell hb1 (p := ⟨w.heap.size, 0, none⟩) (v := .float .f64 a) (by first | assumption | (go_simp; done))
  have k1_0_0z := below_frozen hb1 (p := ⟨w.heap.size, 0, none⟩) (v := .float .f64 a) (by first | assumption | (go_simp; done)) (by first | assumption | (go_simp; done))
  have k1_0_1 := below_cell hb1 (p := ⟨w.heap.size, 1, none⟩) (v := .float .f64 b) (by first | assumption | (go_simp; done))
  have k1_0_1z := below_frozen hb1 (p := ⟨w.heap.size, 1, none⟩) (v := .float .f64 b) (by first | assumption | (go_simp; done)) (by first | assumption | (go_simp; done))
  have hl1_1 : w.heap.size + 1 < w1.heap.size := by omega
  have k1_1_0 := below_cell hb1 (p := ⟨w.heap.size + 1, 0, none⟩) (v := .float .f64 c) (by first | assumption | (go_simp; done))
  have k1_1_0z := below_frozen hb1 (p := ⟨w.heap.size + 1, 0, none⟩) (v := .float .f64 c) (by first | assumption | (go_simp; done)) (by first | assumption | (go_simp; done))
  have k1_1_1 := below_cell hb1 (p := ⟨w.heap.size + 1, 1, none⟩) (v := .float .f64 d) (by first | assumption | (go_simp; done))
  have k1_1_1z := below_frozen hb1 (p := ⟨w.heap.size + 1, 1, none⟩) (v := .float .f64 d) (by first | assumption | (go_simp; done)) (by first | assumption | (go_simp; done))
  have hl1_2 : w.heap.size + 2 < w1.heap.size := by omega
  have k1_2_0 := below_cell hb1 (p := ⟨w.heap.size + 2, 0, none⟩) (v := .float .f64 0) (by first | assumption | (go_simp; done))
  have k1_2_0z := below_frozen hb1 (p := ⟨w.heap.size + 2, 0, none⟩) (v := .float .f64 0) (by first | assumption | (go_simp; done)) (by first | assumption | (go_simp; done))
  have k1_2_1 := below_cell hb1 (p := ⟨w.heap.size + 2, 1, none⟩) (v := .float .f64 0) (by first | assumption | (go_simp; done))
  have k1_2_1z := below_frozen hb1 (p := ⟨w.heap.size + 2, 1, none⟩) (v := .float .f64 0) (by first | assumption | (go_simp; done)) (by first | assumption | (go_simp; done))
  have hl1_3 : w.heap.size + 3 < w1.heap.size := by omega
  have k1_3_0 := below_cell hb1 (p := ⟨w.heap.size + 3, 0, none⟩) (v := .float .f64 0) (by first | assumption | (go_simp; done))
  have k1_3_0z := below_frozen hb1 (p := ⟨w.heap.size + 3, 0, none⟩) (v := .float .f64 0) (by first | assumption | (go_simp; done)) (by first | assumption | (go_simp; done))
  have k1_3_1 := below_cell hb1 (p := ⟨w.heap.size + 3, 1, none⟩) (v := .float .f64 0) (by first | assumption | (go_simp; done))
  have k1_3_1z := below_frozen hb1 (p := ⟨w.heap.size + 3, 1, none⟩) (v := .float .f64 0) (by first | assumption | (go_simp; done)) (by first | assumption | (go_simp; done))
  clear hb1
  go_wp2
  exact bodyPost_ret (v := (.agg #[.float .f64 0, .float .f64 0])) (by simp [results, Try.results34, go_sem, *]) rfl ⟨rfl, (by repeat (first | (with_reducible assumption) | (with_reducible exact Below.refl _ _) | ((with_reducible refine Below.alloc ?_ ?_ _); rotate_left; exact (by first | omega | (simp; done) | (simp; omega))) | ((with_reducible refine Below.setCell ?_ ?_ _); rotate_left; exact (by first | omega | (simp; done) | (simp; omega))) | (with_reducible refine Below.drew ?_)))⟩
theorem div_walk3 (a b c d lo hi : Nat) (w : World) (h : (noneB a b || noneB c d) = false) (hp : (feq c 0 && feq d 0) = false) (hq : (feq a 0 && feq b 0) = false) (g1 : flt 0 c = true)
    (hm : ∀ w, Calls Try.prog 70 #[(.agg #[.float .f64 a, .float .f64 b]), (.agg #[.float .f64 c, .float .f64 d]), .func (.func 71) #[] #[]] w fun e w' => e = .returned (.agg #[.float .f64 lo, .float .f64 hi]) ∧ Below w.heap.size w w') :
    Calls Try.prog 34 #[(.agg #[.float .f64 a, .float .f64 b]), (.agg #[.float .f64 c, .float .f64 d])] w fun e w' => e = .returned (.agg #[.float .f64 lo, .float .f64 hi]) ∧ Below w.heap.size w w' := by
  have Hm := Lib.hid hm
  clear hm
  have N : Hid (∀ (k : Nat) (w : World), w.cell? ⟨k, 0, none⟩ = some (.float .f64 a) → w.cell? ⟨k, 1, none⟩ = some (.float .f64 b) → w.cell? ⟨k, 2, none⟩ = some (.float .f64 c) → w.cell? ⟨k, 3, none⟩ = some (.float .f64 d) → Calls Try.prog 53 #[.slice (some ⟨k, 0, none⟩) 2 2] w fun e w' => e = .returned (.bool false) ∧ Below w.heap.size w w') := fun k w c0 c1 c2 c3 => h ▸ none2_any a b c d k w c0 c1 c2 c3
  clear h
  go_enter Try.func34, Try.ntmps34
  go_wp2_with fail
  refine Calls.mono (N.out _ _ (by go_simp) (by go_simp) (by go_simp) (by go_simp)) ?_
  rintro e w1 ⟨rfl, hb1⟩
  have hw1 : Below w.heap.size w w1 := Below.trans (by repeat (first | (with_reducible assumption) | (with_reducible exact Below.refl _ _) | ((with_reducible refine Below.alloc ?_ ?_ _); rotate_left; exact (by first | omega | (simp; done) | (simp; omega))) | ((with_reducible refine Below.setCell ?_ ?_ _); rotate_left; exact (by first | omega | (simp; done) | (simp; omega))) | (with_reducible refine Below.drew ?_))) (hb1.mono (by first | omega | (simp; done) | (simp; omega)))
  have hs1 := hb1.size
  try simp at hs1
  have hl1_0 : w.heap.size < w1.heap.size := by omega
  have k1_0_0 := below_cell hb1 (p := ⟨w.heap.size, 0, none⟩) (v := .float .f64 a) (by first | assumption | (go_simp; done))
  have k1_0_0z := below_frozen hb1 (p := ⟨w.heap.size, 0, none⟩) (v := .float .f64 a) (by first | assumption | (go_simp; done)) (by first | assumption | (go_simp; done))
  have k1_0_1 := below_cell hb1 (p := ⟨w.heap.size, 1, none⟩) (v := .float .f64 b) (by first | assumption | (go_simp; done))
  have k1_0_1z := below_frozen hb1 (p := ⟨w.heap.size, 1, none⟩) (v := .float .f64 b) (by first | assumption | (go_simp; done)) (by first | assumption | (go_simp; done))
  have hl1_1 : w.heap.size + 1 < w1.heap.size := by omega
  have k1_1_0 := below_cell hb1 (p := ⟨w.heap.size + 1, 0, none⟩) (v := .float .f64 c) (by first | assumption | (go_simp; done))
  have k1_1_0z := below_frozen hb1 (p := ⟨w.heap.size + 1, 0, none⟩) (v := .float .f64 c) (by first | assumption | (go_simp; done)) (by first | assumption | (go_simp; done))
  have k1_1_1 := below_cell hb1 (p := ⟨w.heap.size + 1, 1, none⟩) (v := .float .f64 d) (by first | assumption | (go_simp; done))
  have k1_1_1z := below_frozen hb1 (p := ⟨w.heap.size + 1, 1, none⟩) (v := .float .f64 d) (by first | assumption | (go_simp; done)) (by first | assumption | (go_simp; done))
  have hl1_2 : w.heap.size + 2 < w1.heap.size := by omega
  have k1_2_0 := below_cell hb1 (p := ⟨w.heap.size + 2, 0, none⟩) (v := .float .f64 0) (by first | assumption | (go_simp; done))
  have k1_2_0z := below_frozen hb1 (p := ⟨w.heap.size + 2, 0, none⟩) (v := .float .f64 0) (by first | assumption | (go_simp; done)) (by first | assumption | (go_simp; done))
  have k1_2_1 := below_cell hb1 (p := ⟨w.heap.size + 2, 1, none⟩) (v := .float .f64 0) (by first | assumption | (go_simp; done))
  have k1_2_1z := below_frozen hb1 (p := ⟨w.heap.size + 2, 1, none⟩) (v := .float .f64 0) (by first | assumption | (go_simp; done)) (by first | assumption | (go_simp; done))
  have hl1_3 : w.heap.size + 3 < w1.heap.size := by omega
  have k1_3_0 := below_cell hb1 (p := ⟨w.heap.size + 3, 0, none⟩) (v := .float .f64 0) (by first | assumption | (go_simp; done))
  have k1_3_0z := below_frozen hb1 (p := ⟨w.heap.size + 3, 0, none⟩) (v := .float .f64 0) (by first | assumption | (go_simp; done)) (by first | assumption | (go_simp; done))
  have k1_3_1 := below_cell hb1 (p := ⟨w.heap.size + 3, 1, none⟩) (v := .float .f64 0) (by first | assumption | (go_simp; done))
  have k1_3_1z := below_frozen hb1 (p := ⟨w.heap.size + 3, 1, none⟩) (v := .float .f64 0) (by first | assumption | (go_simp; done)) (by first | assumption | (go_simp; done))
  clear hb1
  go_wp2_with fail
  refine Calls.mono (Hm.out _) ?_
  rintro e w2 ⟨rfl, hb2⟩
  have hw2 : Below w.heap.size w w2 := Below.trans (by repeat (first | (with_reducible assumption) | (with_reducible exact Below.refl _ _) | ((with_reducible refine Below.alloc ?_ ?_ _); rotate_left; exact (by first | omega | (simp; done) | (simp; omega))) | ((with_reducible refine Below.setCell ?_ ?_ _); rotate_left; exact (by first | omega | (simp; done) | (simp; omega))) | (with_reducible refine Below.drew ?_))) (hb2.mono (by first | omega | (simp; done) | (simp; omega)))
  have hs2 := hb2.size
  try simp at hs2
  have hl2_0 : w.heap.size < w2.heap.size := by omega
  have k2_0_0 := below_cell hb2 (p := ⟨w.heap.size, 0, none⟩) (v := .float .f64 a) (by first | assumption | (go_simp; done))
  have k2_0_0z := below_frozen hb2 (p := ⟨w.heap.size, 0, none⟩) (v := .float .f64 a) (by first | assumption | (go_simp; done)) (by first | assumption | (go_simp; done))
  have k2_0_1 := below_cell hb2 (p := ⟨w.heap.size, 1, none⟩) (v := .float .f64 b) (by first | assumption | (go_simp; done))
  have k2_0_1z := below_frozen hb2 (p := ⟨w.heap.size, 1, none⟩) (v := .float .f64 b) (by first | assumption | (go_simp; done)) (by first | assumption | (go_simp; done))
  have hl2_1 : w.heap.size + 1 < w2.heap.size := by omega
  have k2_1_0 := below_cell hb2 (p := ⟨w.heap.size + 1, 0, none⟩) (v := .float .f64 c) (by first | assumption | (go_simp; done))
  have k2_1_0z := below_frozen hb2 (p := ⟨w.heap.size + 1, 0, none⟩) (v := .float .f64 c) (by first | assumption | (go_simp; done)) (by first | assumption | (go_simp; done))
  have k2_1_1 := below_cell hb2 (p := ⟨w.heap.size + 1, 1, none⟩) (v := .float .f64 d) (by first | assumption | (go_simp; done))
  have k2_1_1z := below_frozen hb2 (p := ⟨w.heap.size + 1, 1, none⟩) (v := .float .f64 d) (by first | assumption | (go_simp; done)) (by first | assumption | (go_simp; done))
  have hl2_2 : w.heap.size + 2 < w2.heap.size := by omega
  have k2_2_0 := below_cell hb2 (p := ⟨w.heap.size + 2, 0, none⟩) (v := .float .f64 0) (by first | assumption | (go_simp; done))
  have k2_2_0z := below_frozen hb2 (p := ⟨w.heap.size + 2, 0, none⟩) (v := .float .f64 0) (by first | assumption | (go_simp; done)) (by first | assumption | (go_simp; done))
  have k2_2_1 := below_cell hb2 (p := ⟨w.heap.size + 2, 1, none⟩) (v := .float .f64 0) (by first | assumption | (go_simp; done))
  have k2_2_1z := below_frozen hb2 (p := ⟨w.heap.size + 2, 1, none⟩) (v := .float .f64 0) (by first | assumption | (go_simp; done)) (by first | assumption | (go_simp; done))
  have hl2_3 : w.heap.size + 3 < w2.heap.size := by omega
  have k2_3_0 := below_cell hb2 (p := ⟨w.heap.size + 3, 0, none⟩) (v := .float .f64 0) (by first | assumption | (go_simp; done))
  have k2_3_0z := below_frozen hb2 (p := ⟨w.heap.size + 3, 0, none⟩) (v := .float .f64 0) (by first | assumption | (go_simp; done)) (by first | assumption | (go_simp; done))
  have k2_3_1 := below_cell hb2 (p := ⟨w.heap.size + 3, 1, none⟩) (v := .float .f64 0) (by first | assumption | (go_simp; done))
  have k2_3_1z := below_frozen hb2 (p := ⟨w.heap.size + 3, 1, none⟩) (v := .float .f64 0) (by first | assumption | (go_simp; done)) (by first | assumption | (go_simp; done))
  clear hb2
  go_wp2
  exact bodyPost_ret (v := (.agg #[.float .f64 lo, .float .f64 hi])) (by simp [results, Try.results34, go_sem, *]) rfl ⟨rfl, (by repeat (first | (with_reducible assumption) | (with_reducible exact Below.refl _ _) | ((with_reducible refine Below.alloc ?_ ?_ _); rotate_left; exact (by first | omega | (simp; done) | (simp; omega))) | ((with_reducible refine Below.setCell ?_ ?_ _); rotate_left; exact (by first | omega | (simp; done) | (simp; omega))) | (with_reducible refine Below.drew ?_)))⟩
theorem div_walk3' (a b c d lo hi : Nat) (w : World) (h : (noneB a b || noneB c d) = false) (hp : (feq c 0 && feq d 0) = false) (hq : (feq a 0 && feq b 0) = false) (g1 : flt 0 c = false) (g2 : flt d 0 = true)
    (hm : ∀ w, Calls Try.prog 70 #[(.agg #[.float .f64 a, .float .f64 b]), (.agg #[.float .f64 c, .float .f64 d]), .func (.func 71) #[] #[]] w fun e w' => e = .returned (.agg #[.float .f64 lo, .float .f64 hi]) ∧ Below w.heap.size w w') :
    Calls Try.prog 34 #[(.agg #[.float .f64 a, .float .f64 b]), (.agg #[.float .f64 c, .float .f64 d])] w fun e w' => e = .returned (.agg #[.float .f64 lo, .float .f64 hi]) ∧ Below w.heap.size w w' := by
  have Hm := Lib.hid hm
  clear hm
  have N : Hid (∀ (k : Nat) (w : World), w.cell? ⟨k, 0, none⟩ = some (.float .f64 a) → w.cell? ⟨k, 1, none⟩ = some (.float .f64 b) → w.cell? ⟨k, 2, none⟩ = some (.float .f64 c) → w.cell? ⟨k, 3, none⟩ = some (.float .f64 d) → Calls Try.prog 53 #[.slice (some ⟨k, 0, none⟩) 2 2] w fun e w' => e = .returned (.bool false) ∧ Below w.heap.size w w') := fun k w c0 c1 c2 c3 => h ▸ none2_any a b c d k w c0 c1 c2 c3
  clear h
  go_enter Try.func34, Try.ntmps34
  go_wp2_with fail
  refine Calls.mono (N.out _ _ (by go_simp) (by go_simp) (by go_simp) (by go_simp)) ?_
  rintro e w1 ⟨rfl, hb1⟩
  have hw1 : Below w.heap.size w w1 := Below.trans (by repeat (first | (with_reducible assumption) | (with_reducible exact Below.refl _ _) | ((with_reducible refine Below.alloc ?_ ?_ _); rotate_left; exact (by first | omega | (simp; done) | (simp; omega))) | ((with_reducible refine Below.setCell ?_ ?_ _); rotate_left; exact (by first | omega | (simp; done) | (simp; omega))) | (with_reducible refine Below.drew ?_))) (hb1.mono (by first | omega | (simp; done) | (simp; omega)))
  have hs1 := hb1.size
  try simp at hs1
  have hl1_0 : w.heap.size < w1.heap.size := by omega
  have k1_0_0 := below_cell hb1 (p := ⟨w.heap.size, 0, none⟩) (v := .float .f64 a) (by first | assumption | (go_simp; done))
  have k1_0_0z := below_frozen hb1 (p := ⟨w.heap.size, 0, none⟩) (v := .float .f64 a) (by first | assumption | (go_simp; done)) (by first | assumption | (go_simp; done))
  have k1_0_1 := below_cell hb1 (p := ⟨w.heap.size, 1, none⟩) (v := .float .f64 b) (by first | assumption | (go_simp; done))
  have k1_0_1z := below_frozen hb1 (p := ⟨w.heap.size, 1, none⟩) (v := .float .f64 b) (by first | assumption | (go_simp; done)) (by first | assumption | (go_simp; done))
  have hl1_1 : w.heap.size + 1 < w1.heap.size := by omega
  have k1_1_0 := below_cell hb1 (p := ⟨w.heap.size + 1, 0, none⟩) (v := .float .f64 c) (by first | assumption | (go_simp; done))
  have k1_1_0z := below_frozen hb1 (p := ⟨w.heap.size + 1, 0, none⟩) (v := .float .f64 c) (by first | assumption | (go_simp; done)) (by first | assumption | (go_simp; done))
  have k1_1_1 := below_cell hb1 (p := ⟨w.heap.size + 1, 1, none⟩) (v := .float .f64 d) (by first | assumption | (go_simp; done))
  have k1_1_1z := below_frozen hb1 (p := ⟨w.heap.size + 1, 1, none⟩) (v := .float .f64 d) (by first | assumption | (go_simp; done)) (by first | assumption | (go_simp; done))
  have hl1_2 : w.heap.size + 2 < w1.heap.size := by omega
  have k1_2_0 := below_cell hb1 (p := ⟨w.heap.size + 2, 0, none⟩) (v := .float .f64 0) (by first | assumption | (go_simp; done))
  have k1_2_0z := below_frozen hb1 (p := ⟨w.heap.size + 2, 0, none⟩) (v := .float .f64 0) (by first | assumption | (go_simp; done)) (by first | assumption | (go_simp; done))
  have k1_2_1 := below_cell hb1 (p := ⟨w.heap.size + 2, 1, none⟩) (v := .float .f64 0) (by first | assumption | (go_simp; done))
  have k1_2_1z := below_frozen hb1 (p := ⟨w.heap.size + 2, 1, none⟩) (v := .float .f64 0) (by first | assumption | (go_simp; done)) (by first | assumption | (go_simp; done))
  have hl1_3 : w.heap.size + 3 < w1.heap.size := by omega
  have k1_3_0 := below_cell hb1 (p := ⟨w.heap.size + 3, 0, none⟩) (v := .float .f64 0) (by first | assumption | (go_simp; done))
  have k1_3_0z := below_frozen hb1 (p := ⟨w.heap.size + 3, 0, none⟩) (v := .float .f64 0) (by first | assumption | (go_simp; done)) (by first | assumption | (go_simp; done))
  have k1_3_1 := below_cell hb1 (p := ⟨w.heap.size + 3, 1, none⟩) (v := .float .f64 0) (by first | assumption | (go_simp; done))
  have k1_3_1z := below_frozen hb1 (p := ⟨w.heap.size + 3, 1, none⟩) (v := .float .f64 0) (by first | assumption | (go_simp; done)) (by first | assumption | (go_simp; done))
  clear hb1
  go_wp2_with fail
  refine Calls.mono (Hm.out _) ?_
  rintro e w2 ⟨rfl, hb2⟩
  have hw2 : Below w.heap.size w w2 := Below.trans (by repeat (first | (with_reducible assumption) | (with_reducible exact Below.refl _ _) | ((with_reducible refine Below.alloc ?_ ?_ _); rotate_left; exact (by first | omega | (simp; done) | (simp; omega))) | ((with_reducible refine Below.setCell ?_ ?_ _); rotate_left; exact (by first | omega | (simp; done) | (simp; omega))) | (with_reducible refine Below.drew ?_))) (hb2.mono (by first | omega | (simp; done) | (simp; omega)))
  have hs2 := hb2.size
  try simp at hs2
  have hl2_0 : w.heap.size < w2.heap.size := by omega
  have k2_0_0 := below_cell hb2 (p := ⟨w.heap.size, 0, none⟩) (v := .float .f64 a) (by first | assumption | (go_simp; done))
  have k2_0_0z := below_frozen hb2 (p := ⟨w.heap.size, 0, none⟩) (v := .float .f64 a) (by first | assumption | (go_simp; done)) (by first | assumption | (go_simp; done))
  have k2_0_1 := below_cell hb2 (p := ⟨w.heap.size, 1, none⟩) (v := .float .f64 b) (by first | assumption | (go_simp; done))
  have k2_0_1z := below_frozen hb2 (p := ⟨w.heap.size, 1, none⟩) (v := .float .f64 b) (by first | assumption | (go_simp; done)) (by first | assumption | (go_simp; done))
  have hl2_1 : w.heap.size + 1 < w2.heap.size := by omega
  have k2_1_0 := below_cell hb2 (p := ⟨w.heap.size + 1, 0, none⟩) (v := .float .f64 c) (by first | assumption | (go_simp; done))
  have k2_1_0z := below_frozen hb2 (p := ⟨w.heap.size + 1, 0, none⟩) (v := .float .f64 c) (by first | assumption | (go_simp; done)) (by first | assumption | (go_simp; done))
  have k2_1_1 := below_cell hb2 (p := ⟨w.heap.size + 1, 1, none⟩) (v := .float .f64 d) (by first | assumption | (go_simp; done))
  have k2_1_1z := below_frozen hb2 (p := ⟨w.heap.size + 1, 1, none⟩) (v := .float .f64 d) (by first | assumption | (go_simp; done)) (by first | assumption | (go_simp; done))
  have hl2_2 : w.heap.size + 2 < w2.heap.size := by omega
  have k2_2_0 := below_cell hb2 (p := ⟨w.heap.size + 2, 0, none⟩) (v := .float .f64 0) (by first | assumption | (go_simp; done))
  have k2_2_0z := below_frozen hb2 (p := ⟨w.heap.size + 2, 0, none⟩) (v := .float .f64 0) (by first | assumption | (go_simp; done)) (by first | assumption | (go_simp; done))
  have k2_2_1 := below_cell hb2 (p := ⟨w.heap.size + 2, 1, none⟩) (v := .float .f64 0) (by first | assumption | (go_simp; done))
  have k2_2_1z := below_frozen hb2 (p := ⟨w.heap.size + 2, 1, none⟩) (v := .float .f64 0) (by first | assumption | (go_simp; done)) (by first | assumption | (go_simp; done))
  have hl2_3 : w.heap.size + 3 < w2.heap.size := by omega
  have k2_3_0 := below_cell hb2 (p := ⟨w.heap.size + 3, 0, none⟩) (v := .float .f64 0) (by first | assumption | (go_simp; done))
  have k2_3_0z := below_frozen hb2 (p := ⟨w.heap.size + 3, 0, none⟩) (v := .float .f64 0) (by first | assumption | (go_simp; done)) (by first | assumption | (go_simp; done))
  have k2_3_1 := below_cell hb2 (p := ⟨w.heap.size + 3, 1, none⟩) (v := .float .f64 0) (by first | assumption | (go_simp; done))
  have k2_3_1z := below_frozen hb2 (p := ⟨w.heap.size + 3, 1, none⟩) (v := .float .f64 0) (by first | assumption | (go_simp; done)) (by first | assumption | (go_simp; done))
  clear hb2
  go_wp2
  exact bodyPost_ret (v := (.agg #[.float .f64 lo, .float .f64 hi])) (by simp [results, Try.results34, go_sem, *]) rfl ⟨rfl, (by repeat (first | (with_reducible assumption) | (with_reducible exact Below.refl _ _) | ((with_reducible refine Below.alloc ?_ ?_ _); rotate_left; exact (by first | omega | (simp; done) | (simp; omega))) | ((with_reducible refine Below.setCell ?_ ?_ _); rotate_left; exact (by first | omega | (simp; done) | (simp; omega))) | (with_reducible refine Below.drew ?_)))⟩
theorem div_walk4 (a b c d : Nat) (w : World) (h : (noneB a b || noneB c d) = false) (hp : (feq c 0 && feq d 0) = false) (hq : (feq a 0 && feq b 0) = false) (g1 : flt 0 c = false) (g2 : flt d 0 = false) (g3 : flt c 0 = true) (g4 : flt 0 d = true) :
    Calls Try.prog 34 #[(.agg #[.float .f64 a, .float .f64 b]), (.agg #[.float .f64 c, .float .f64 d])] w fun e w' => e = .returned (.agg #[.float .f64 18442240474082181120, .float .f64 9218868437227405312]) ∧ Below w.heap.size w w' := by
  have N : Hid (∀ (k : Nat) (w : World), w.cell? ⟨k, 0, none⟩ = some (.float .f64 a) → w.cell? ⟨k, 1, none⟩ = some (.float .f64 b) → w.cell? ⟨k, 2, none⟩ = some (.float .f64 c) → w.cell? ⟨k, 3, none⟩ = some (.float .f64 d) → Calls Try.prog 53 #[.slice (some ⟨k, 0, none⟩) 2 2] w fun e w' => e = .returned (.bool false) ∧ Below w.heap.size w w') := fun k w c0 c1 c2 c3 => h ▸ none2_any a b c d k w c0 c1 c2 c3
  clear h
  go_enter Try.func34, Try.ntmps34
  go_wp2_with fail
  refine Calls.mono (N.out _ _ (by go_simp) (by go_simp) (by go_simp) (by go_simp)) ?_
  rintro e w1 ⟨rfl, hb1⟩
  have hw1 : Below w.heap.size w w1 := Below.trans (by repeat (first | (with_reducible assumption) | (with_reducible exact Below.refl _ _) | ((with_reducible refine Below.alloc ?_ ?_ _); rotate_left; exact (by first | omega | (simp; done) | (simp; omega))) | ((with_reducible refine Below.setCell ?_ ?_ _); rotate_left; exact (by first | omega | (simp; done) | (simp; omega))) | (with_reducible refine Below.drew ?_))) (hb1.mono (by first | omega | (simp; done) | (simp; omega)))
  have hs1 := hb1.size
  try simp at hs1
  have hl1_0 : w.heap.size < w1.heap.size := by omega
  have k1_0_0 := below_cell hb1 (p := ⟨w.heap.size, 0, none⟩) (v := .float .f64 a) (by first | assumption | (go_simp; done))
  have k1_0_0z := below_frozen hb1 (p := ⟨w.heap.size, 0, none⟩) (v := .float .f64 a) (by first | assumption | (go_simp; done)) (by first | assumption | (go_simp; done))
  have k1_0_1 := below_cell hb1 (p := ⟨w.heap.size, 1, none⟩) (v := .float .f64 b) (by first | assumption | (go_simp; done))
  have k1_0_1z := below_frozen hb1 (p := ⟨w.heap.size, 1, none⟩) (v := .float .f64 b) (by first | assumption | (go_simp; done)) (by first | assumption | (go_simp; done))
  have hl1_1 : w.heap.size + 1 < w1.heap.size := by omega
  have k1_1_0 := below_cell hb1 (p := ⟨w.heap.size + 1, 0, none⟩) (v := .float .f64 c) (by first | assumption | (go_simp; done))
  have k1_1_0z := below_frozen hb1 (p := ⟨w.heap.size + 1, 0, none⟩) (v := .float .f64 c) (by first | assumption | (go_simp; done)) (by first | assumption | (go_simp; done))
  have k1_1_1 := below_cell hb1 (p := ⟨w.heap.size + 1, 1, none⟩) (v := .float .f64 d) (by first | assumption | (go_simp; done))
  have k1_1_1z := below_frozen hb1 (p := ⟨w.heap.size + 1, 1, none⟩) (v := .float .f64 d) (by first | assumption | (go_simp; done)) (by first | assumption | (go_simp; done))
  have hl1_2 : w.heap.size + 2 < w1.heap.size := by omega
  have k1_2_0 := below_cell hb1 (p := ⟨w.heap.size + 2, 0, none⟩) (v := .float .f64 0) (by first | assumption | (go_simp; done))
  have k1_2_0z := below_frozen hb1 (p := ⟨w.heap.size + 2, 0, none⟩) (v := .float .f64 0) (by first | assumption | (go_simp; done)) (by first | assumption | (go_simp; done))
  have k1_2_1 := below_cell hb1 (p := ⟨w.heap.size + 2, 1, none⟩) (v := .float .f64 0) (by first | assumption | (go_simp; done))
  have k1_2_1z := below_frozen hb1 (p := ⟨w.heap.size + 2, 1, none⟩) (v := .float .f64 0) (by first | assumption | (go_simp; done)) (by first | assumption | (go_simp; done))
  have hl1_3 : w.heap.size + 3 < w1.heap.size := by omega
  have k1_3_0 := below_cell hb1 (p := ⟨w.heap.size + 3, 0, none⟩) (v := .float .f64 0) (by first | assumption | (go_simp; done))
  have k1_3_0z := below_frozen hb1 (p := ⟨w.heap.size + 3, 0, none⟩) (v := .float .f64 0) (by first | assumption | (go_simp; done)) (by first | assumption | (go_simp; done))
  have k1_3_1 := below_cell hb1 (p := ⟨w.heap.size + 3, 1, none⟩) (v := .float .f64 0) (by first | assumption | (go_simp; done))
  have k1_3_1z := below_frozen hb1 (p := ⟨w.heap.size + 3, 1, none⟩) (v := .float .f64 0) (by first | assumption | (go_simp; done)) (by first | assumption | (go_simp; done))
  clear hb1
  go_wp2_with fail
  refine Calls.mono (whole_any _) ?_
  rintro e w2 ⟨rfl, hb2⟩
  have hw2 : Below w.heap.size w w2 := Below.trans (by repeat (first | (with_reducible assumption) | (with_reducible exact Below.refl _ _) | ((with_reducible refine Below.alloc ?_ ?_ _); rotate_left; exact (by first | omega | (simp; done) | (simp; omega))) | ((with_reducible refine Below.setCell ?_ ?_ _); rotate_left; exact (by first | omega | (simp; done) | (simp; omega))) | (with_reducible refine Below.drew ?_))) (hb2.mono (by first | omega | (simp; done) | (simp; omega)))
  have hs2 := hb2.size
  try simp at hs2
  have hl2_0 : w.heap.size < w2.heap.size := by omega
  have k2_0_0 := below_cell hb2 (p := ⟨w.heap.size, 0, none⟩) (v := .float .f64 a) (by first | assumption | (go_simp; done))
  have k2_0_0z := below_frozen hb2 (p := ⟨w.heap.size, 0, none⟩) (v := .float .f64 a) (by first | assumption | (go_simp; done)) (by first | assumption | (go_simp; done))
  have k2_0_1 := below_cell hb2 (p := ⟨w.heap.size, 1, none⟩) (v := .float .f64 b) (by first | assumption | (go_simp; done))
  have k2_0_1z := below_frozen hb2 (p := ⟨w.heap.size, 1, none⟩) (v := .float .f64 b) (by first | assumption | (go_simp; done)) (by first | assumption | (go_simp; done))
  have hl2_1 : w.heap.size + 1 < w2.heap.size := by omega
  have k2_1_0 := below_cell hb2 (p := ⟨w.heap.size + 1, 0, none⟩) (v := .float .f64 c) (by first | assumption | (go_simp; done))
  have k2_1_0z := below_frozen hb2 (p := ⟨w.heap.size + 1, 0, none⟩) (v := .float .f64 c) (by first | assumption | (go_simp; done)) (by first | assumption | (go_simp; done))
  have k2_1_1 := below_cell hb2 (p := ⟨w.heap.size + 1, 1, none⟩) (v := .float .f64 d) (by first | assumption | (go_simp; done))
  have k2_1_1z := below_frozen hb2 (p := ⟨w.heap.size + 1, 1, none⟩) (v := .float .f64 d) (by first | assumption | (go_simp; done)) (by first | assumption | (go_simp; done))
  have hl2_2 : w.heap.size + 2 < w2.heap.size := by omega
  have k2_2_0 := below_cell hb2 (p := ⟨w.heap.size + 2, 0, none⟩) (v := .float .f64 0) (by first | assumption | (go_simp; done))
  have k2_2_0z := below_frozen hb2 (p := ⟨w.heap.size + 2, 0, none⟩) (v := .float .f64 0) (by first | assumption | (go_simp; done)) (by first | assumption | (go_simp; done))
  have k2_2_1 := below_cell hb2 (p := ⟨w.heap.size + 2, 1, none⟩) (v := .float .f64 0) (by first | assumption | (go_simp; done))
  have k2_2_1z := below_frozen hb2 (p := ⟨w.heap.size + 2, 1, none⟩) (v := .float .f64 0) (by first | assumption | (go_simp; done)) (by first | assumption | (go_simp; done))
  have hl2_3 : w.heap.size + 3 < w2.heap.size := by omega
  have k2_3_0 := below_cell hb2 (p := ⟨w.heap.size + 3, 0, none⟩) (v := .float .f64 0) (by first | assumption | (go_simp; done))
  have k2_3_0z := below_frozen hb2 (p := ⟨w.heap.size + 3, 0, none⟩) (v := .float .f64 0) (by first | assumption | (go_simp; done)) (by first | assumption | (go_simp; done))
  have k2_3_1 := below_cell hb2 (p := ⟨w.heap.size + 3, 1, none⟩) (v := .float .f64 0) (by first | assumption | (go_simp; done))
  have k2_3_1z := below_frozen hb2 (p := ⟨w.heap.size + 3, 1, none⟩) (v := .float .f64 0) (by first | assumption | (go_simp; done)) (by first | assumption | (go_simp; done))
  clear hb2
  go_wp2
  exact bodyPost_ret (v := (.agg #[.float .f64 18442240474082181120, .float .f64 9218868437227405312])) (by simp [results, Try.results34, go_sem, *]) rfl ⟨rfl, (by repeat (first | (with_reducible assumption) | (with_reducible exact Below.refl _ _) | ((with_reducible refine Below.alloc ?_ ?_ _); rotate_left; exact (by first | omega | (simp; done) | (simp; omega))) | ((with_reducible refine Below.setCell ?_ ?_ _); rotate_left; exact (by first | omega | (simp; done) | (simp; omega))) | (with_reducible refine Below.drew ?_)))⟩
theorem div_walk4' (a b c d : Nat) (w : World) (h : (noneB a b || noneB c d) = false) (hp : (feq c 0 && feq d 0) = false) (hq : (feq a 0 && feq b 0) = false) (g1 : flt 0 c = false) (g2 : flt d 0 = false) (g3 : (flt c 0 && flt 0 d) = false) (g5 : flt a 0 = true) (g6 : flt 0 b = true) :
    Calls Try.prog 34 #[(.agg #[.float .f64 a, .float .f64 b]), (.agg #[.float .f64 c, .float .f64 d])] w fun e w' => e = .returned (.agg #[.float .f64 18442240474082181120, .float .f64 9218868437227405312]) ∧ Below w.heap.size w w' := by
  cases g7 : flt c 0 with
  | false =>
    have N : Hid (∀ (k : Nat) (w : World), w.cell? ⟨k, 0, none⟩ = some (.float .f64 a) → w.cell? ⟨k, 1, none⟩ = some (.float .f64 b) → w.cell? ⟨k, 2, none⟩ = some (.float .f64 c) → w.cell? ⟨k, 3, none⟩ = some (.float .f64 d) → Calls Try.prog 53 #[.slice (some ⟨k, 0, none⟩) 2 2] w fun e w' => e = .returned (.bool false) ∧ Below w.heap.size w w') := fun k w c0 c1 c2 c3 => h ▸ none2_any a b c d k w c0 c1 c2 c3
    clear h
    go_enter Try.func34, Try.ntmps34
    go_wp2_with fail
    refine Calls.mono (N.out _ _ (by go_simp) (by go_simp) (by go_simp) (by go_simp)) ?_
    rintro e w1 ⟨rfl, hb1⟩
    have hw1 : Below w.heap.size w w1 := Below.trans (by repeat (first | (with_reducible assumption) | (with_reducible exact Below.refl _ _) | ((with_reducible refine Below.alloc ?_ ?_ _); rotate_left; exact (by first | omega | (simp; done) | (simp; omega))) | ((with_reducible refine Below.setCell ?_ ?_ _); rotate_left; exact (by first | omega | (simp; done) | (simp; omega))) | (with_reducible refine Below.drew ?_))) (hb1.mono (by first | omega | (simp; done) | (simp; omega)))
    have hs1 := hb1.size
    try simp at hs1
    have hl1_0 : w.heap.size < w1.heap.size := by omega
    have k1_0_0 := below_cell hb1 (p := ⟨w.heap.size, 0, none⟩) (v := .float .f64 a) (by first | assumption | (go_simp; done))
    have k1_0_0z := below_frozen hb1 (p := ⟨w.heap.size, 0, none⟩) (v := .float .f64 a) (by first | assumption | (go_simp; done)) (by first | assumption | (go_simp; done))
    have k1_0_1 := below_cell hb1 (p := ⟨w.heap.size, 1, none⟩) (v := .float .f64 b) (by first | assumption | (go_simp; done))
    have k1_0_1z := below_frozen hb1 (p := ⟨w.heap.size, 1, none⟩) (v := .float .f64 b) (by first | assumption | (go_simp; done)) (by first | assumption | (go_simp; done))
    have hl1_1 : w.heap.size + 1 < w1.heap.size := by omega
    have k1_1_0 := below_cell hb1 (p := ⟨w.heap.size + 1, 0, none⟩) (v := .float .f64 c) (by first | assumption | (go_simp; done))
    have k1_1_0z := below_frozen hb1 (p := ⟨w.heap.size + 1, 0, none⟩) (v := .float .f64 c) (by first | assumption | (go_simp; done)) (by first | assumption | (go_simp; done))
    have k1_1_1 := below_cell hb1 (p := ⟨w.heap.size + 1, 1, none⟩) (v := .float .f64 d) (by first | assumption | (go_simp; done))
    have k1_1_1z := below_frozen hb1 (p := ⟨w.heap.size + 1, 1, none⟩) (v := .float .f64 d) (by first | assumption | (go_simp; done)) (by first | assumption | (go_simp; done))
    have hl1_2 : w.heap.size + 2 < w1.heap.size := by omega
    have k1_2_0 := below_cell hb1 (p := ⟨w.heap.size + 2, 0, none⟩) (v := .float .f64 0) (by first | assumption | (go_simp; done))
    have k1_2_0z := below_frozen hb1 (p := ⟨w.heap.size + 2, 0, none⟩) (v := .float .f64 0) (by first | assumption | (go_simp; done)) (by first | assumption | (go_simp; done))
    have k1_2_1 := below_cell hb1 (p := ⟨w.heap.size + 2, 1, none⟩) (v := .float .f64 0) (by first | assumption | (go_simp; done))
    have k1_2_1z := below_frozen hb1 (p := ⟨w.heap.size + 2, 1, none⟩) (v := .float .f64 0) (by first | assumption | (go_simp; done)) (by first | assumption | (go_simp; done))
    have hl1_3 : w.heap.size + 3 < w1.heap.size := by omega
    have k1_3_0 := below_cell hb1 (p := ⟨w.heap.size + 3, 0, none⟩) (v := .float .f64 0) (by first | assumption | (go_simp; done))
    have k1_3_0z := below_frozen hb1 (p := ⟨w.heap.size + 3, 0, none⟩) (v := .float .f64 0) (by first | assumption | (go_simp; done)) (by first | assumption | (go_simp; done))
    have k1_3_1 := below_cell hb1 (p := ⟨w.heap.size + 3, 1, none⟩) (v := .float .f64 0) (by first | assumption | (go_simp; done))
    have k1_3_1z := below_frozen hb1 (p := ⟨w.heap.size + 3, 1, none⟩) (v := .float .f64 0) (by first | assumption | (go_simp; done)) (by first | assumption | (go_simp; done))
    clear hb1
    go_wp2_with fail
    refine Calls.mono (whole_any _) ?_
    rintro e w2 ⟨rfl, hb2⟩
    have hw2 : Below w.heap.size w w2 := Below.trans (by repeat (first | (with_reducible assumption) | (with_reducible exact Below.refl _ _) | ((with_reducible refine Below.alloc ?_ ?_ _); rotate_left; exact (by first | omega | (simp; done) | (simp; omega))) | ((with_reducible refine Below.setCell ?_ ?_ _); rotate_left; exact (by first | omega | (simp; done) | (simp; omega))) | (with_reducible refine Below.drew ?_))) (hb2.mono (by first | omega | (simp; done) | (simp; omega)))
    have hs2 := hb2.size
    try simp at hs2
    have hl2_0 : w.heap.size < w2.heap.size := by omega
    have k2_0_0 := below_cell hb2 (p := ⟨w.heap.size, 0, none⟩) (v := .float .f64 a) (by first | assumption | (go_simp; done))
    have k2_0_0z := below_frozen hb2 (p := ⟨w.heap.size, 0, none⟩) (v := .float .f64 a) (by first | assumption | (go_simp; done)) (by first | assumption | (go_simp; done))
    have k2_0_1 := below_cell hb2 (p := ⟨w.heap.size, 1, none⟩) (v := .float .f64 b) (by first | assumption | (go_simp; done))
    have k2_0_1z := below_frozen hb2 (p := ⟨w.heap.size, 1, none⟩) (v := .float .f64 b) (by first | assumption | (go_simp; done)) (by first | assumption | (go_simp; done))
    have hl2_1 : w.heap.size + 1 < w2.heap.size := by omega
    have k2_1_0 := below_cell hb2 (p := ⟨w.heap.size + 1, 0, none⟩) (v := .float .f64 c) (by first | assumption | (go_simp; done))
    have k2_1_0z := below_frozen hb2 (p := ⟨w.heap.size + 1, 0, none⟩) (v := .float .f64 c) (by first | assumption | (go_simp; done)) (by first | assumption | (go_simp; done))
    have k2_1_1 := below_cell hb2 (p := ⟨w.heap.size + 1, 1, none⟩) (v := .float .f64 d) (by first | assumption | (go_simp; done))
    have k2_1_1z := below_frozen hb2 (p := ⟨w.heap.size + 1, 1, none⟩) (v := .float .f64 d) (by first | assumption | (go_simp; done)) (by first | assumption | (go_simp; done))
    have hl2_2 : w.heap.size + 2 < w2.heap.size := by omega
    have k2_2_0 := below_cell hb2 (p := ⟨w.heap.size + 2, 0, none⟩) (v := .float .f64 0) (by first | assumption | (go_simp; done))
    have k2_2_0z := below_frozen hb2 (p := ⟨w.heap.size + 2, 0, none⟩) (v := .float .f64 0) (by first | assumption | (go_simp; done)) (by first | assumption | (go_simp; done))
    have k2_2_1 := below_cell hb2 (p := ⟨w.heap.size + 2, 1, none⟩) (v := .float .f64 0) (by first | assumption | (go_simp; done))
    have k2_2_1z := below_frozen hb2 (p := ⟨w.heap.size + 2, 1, none⟩) (v := .float .f64 0) (by first | assumption | (go_simp; done)) (by first | assumption | (go_simp; done))
    have hl2_3 : w.heap.size + 3 < w2.heap.size := by omega
    have k2_3_0 := below_cell hb2 (p := ⟨w.heap.size + 3, 0, none⟩) (v := .float .f64 0) (by first | assumption | (go_simp; done))
    have k2_3_0z := below_frozen hb2 (p := ⟨w.heap.size + 3, 0, none⟩) (v := .float .f64 0) (by first | assumption | (go_simp; done)) (by first | assumption | (go_simp; done))
    have k2_3_1 := below_cell hb2 (p := ⟨w.heap.size + 3, 1, none⟩) (v := .float .f64 0) (by first | assumption | (go_simp; done))
    have k2_3_1z := below_frozen hb2 (p := ⟨w.heap.size + 3, 1, none⟩) (v := .float .f64 0) (by first | assumption | (go_simp; done)) (by first | assumption | (go_simp; done))
    clear hb2
    go_wp2
    exact bodyPost_ret (v := (.agg #[.float .f64 18442240474082181120, .float .f64 9218868437227405312])) (by simp [results, Try.results34, go_sem, *]) rfl ⟨rfl, (by repeat (first | (with_reducible assumption) | (with_reducible exact Below.refl _ _) | ((with_reducible refine Below.alloc ?_ ?_ _); rotate_left; exact (by first | omega | (simp; done) | (simp; omega))) | ((with_reducible refine Below.setCell ?_ ?_ _); rotate_left; exact (by first | omega | (simp; done) | (simp; omega))) | (with_reducible refine Below.drew ?_)))⟩
  | true =>
    rw [g7, Bool.true_and] at g3
    have N : Hid (∀ (k : Nat) (w : World), w.cell? ⟨k, 0, none⟩ = some (.float .f64 a) → w.cell? ⟨k, 1, none⟩ = some (.float .f64 b) → w.cell? ⟨k, 2, none⟩ = some (.float .f64 c) → w.cell? ⟨k, 3, none⟩ = some (.float .f64 d) → Calls Try.prog 53 #[.slice (some ⟨k, 0, none⟩) 2 2] w fun e w' => e = .returned (.bool false) ∧ Below w.heap.size w w') := fun k w c0 c1 c2 c3 => h ▸ none2_any a b c d k w c0 c1 c2 c3
    clear h
    go_enter Try.func34, Try.ntmps34
    go_wp2_with fail
    refine Calls.mono (N.out _ _ (by go_simp) (by go_simp) (by go_simp) (by go_simp)) ?_
    rintro e w1 ⟨rfl, hb1⟩
    have hw1 : Below w.heap.size w w1 := Below.trans (by repeat (first | (with_reducible assumption) | (with_reducible exact Below.refl _ _) | ((with_reducible refine Below.alloc ?_ ?_ _); rotate_left; exact (by first | omega | (simp; done) | (simp; omega))) | ((with_reducible refine Below.setCell ?_ ?_ _); rotate_left; exact (by first | omega | (simp; done) | (simp; omega))) | (with_reducible refine Below.drew ?_))) (hb1.mono (by first | omega | (simp; done) | (simp; omega)))
    have hs1 := hb1.size
    try simp at hs1
    have hl1_0 : w.heap.size < w1.heap.size := by omega
    have k1_0_0 := below_cell hb1 (p := ⟨w.heap.size, 0, none⟩) (v := .float .f64 a) (by first | assumption | (go_simp; done))
    have k1_0_0z := below_frozen hb1 (p := ⟨w.heap.size, 0, none⟩) (v := .float .f64 a) (by first | assumption | (go_simp; done)) (by first | assumption | (go_simp; done))
    have k1_0_1 := below_cell hb1 (p := ⟨w.heap.size, 1, none⟩) (v := .float .f64 b) (by first | assumption | (go_simp; done))
    have k1_0_1z := below_frozen hb1 (p := ⟨w.heap.size, 1, none⟩) (v := .float .f64 b) (by first | assumption | (go_simp; done)) (by first | assumption | (go_simp; done))
    have hl1_1 : w.heap.size + 1 < w1.heap.size := by omega
    have k1_1_0 := below_cell hb1 (p := ⟨w.heap.size + 1, 0, none⟩) (v := .float .f64 c) (by first | assumption | (go_simp; done))
    have k1_1_0z := below_frozen hb1 (p := ⟨w.heap.size + 1, 0, none⟩) (v := .float .f64 c) (by first | assumption | (go_simp; done)) (by first | assumption | (go_simp; done))
    have k1_1_1 := below_cell hb1 (p := ⟨w.heap.size + 1, 1, none⟩) (v := .float .f64 d) (by first | assumption | (go_simp; done))
    have k1_1_1z := below_frozen hb1 (p := ⟨w.heap.size + 1, 1, none⟩) (v := .float .f64 d) (by first | assumption | (go_simp; done)) (by first | assumption | (go_simp; done))
    have hl1_2 : w.heap.size + 2 < w1.heap.size := by omega
    have k1_2_0 := below_cell hb1 (p := ⟨w.heap.size + 2, 0, none⟩) (v := .float .f64 0) (by first | assumption | (go_simp; done))
    have k1_2_0z := below_frozen hb1 (p := ⟨w.heap.size + 2, 0, none⟩) (v := .float .f64 0) (by first | assumption | (go_simp; done)) (by first | assumption | (go_simp; done))
    have k1_2_1 := below_cell hb1 (p := ⟨w.heap.size + 2, 1, none⟩) (v := .float .f64 0) (by first | assumption | (go_simp; done))
    have k1_2_1z := below_frozen hb1 (p := ⟨w.heap.size + 2, 1, none⟩) (v := .float .f64 0) (by first | assumption | (go_simp; done)) (by first | assumption | (go_simp; done))
    have hl1_3 : w.heap.size + 3 < w1.heap.size := by omega
    have k1_3_0 := below_cell hb1 (p := ⟨w.heap.size + 3, 0, none⟩) (v := .float .f64 0) (by first | assumption | (go_simp; done))
    have k1_3_0z := below_frozen hb1 (p := ⟨w.heap.size + 3, 0, none⟩) (v := .float .f64 0) (by first | assumption | (go_simp; done)) (by first | assumption | (go_simp; done))
    have k1_3_1 := below_cell hb1 (p := ⟨w.heap.size + 3, 1, none⟩) (v := .float .f64 0) (by first | assumption | (go_simp; done))
    have k1_3_1z := below_frozen hb1 (p := ⟨w.heap.size + 3, 1, none⟩) (v := .float .f64 0) (by first | assumption | (go_simp; done)) (by first | assumption | (go_simp; done))
    clear hb1
    go_wp2_with fail
    refine Calls.mono (whole_any _) ?_
    rintro e w2 ⟨rfl, hb2⟩
    have hw2 : Below w.heap.size w w2 := Below.trans (by repeat (first | (with_reducible assumption) | (with_reducible exact Below.refl _ _) | ((with_reducible refine Below.alloc ?_ ?_ _); rotate_left; exact (by first | omega | (simp; done) | (simp; omega))) | ((with_reducible refine Below.setCell ?_ ?_ _); rotate_left; exact (by first | omega | (simp; done) | (simp; omega))) | (with_reducible refine Below.drew ?_))) (hb2.mono (by first | omega | (simp; done) | (simp; omega)))
    have hs2 := hb2.size
    try simp at hs2
    have hl2_0 : w.heap.size < w2.heap.size := by omega
    have k2_0_0 := below_cell hb2 (p := ⟨w.heap.size, 0, none⟩) (v := .float .f64 a) (by first | assumption | (go_simp; done))
    have k2_0_0z := below_frozen hb2 (p := ⟨w.heap.size, 0, none⟩) (v := .float .f64 a) (by first | assumption | (go_simp; done)) (by first | assumption | (go_simp; done))
    have k2_0_1 := below_cell hb2 (p := ⟨w.heap.size, 1, none⟩) (v := .float .f64 b) (by first | assumption | (go_simp; done))
    have k2_0_1z := below_frozen hb2 (p := ⟨w.heap.size, 1, none⟩) (v := .float .f64 b) (by first | assumption | (go_simp; done)) (by first | assumption | (go_simp; done))
    have hl2_1 : w.heap.size + 1 < w2.heap.size := by omega
    have k2_1_0 := below_cell hb2 (p := ⟨w.heap.size + 1, 0, none⟩) (v := .float .f64 c) (by first | assumption | (go_simp; done))
    have k2_1_0z := below_frozen hb2 (p := ⟨w.heap.size + 1, 0, none⟩) (v := .float .f64 c) (by first | assumption | (go_simp; done)) (by first | assumption | (go_simp; done))
    have k2_1_1 := below_cell hb2 (p := ⟨w.heap.size + 1, 1, none⟩) (v := .float .f64 d) (by first | assumption | (go_simp; done))
    have k2_1_1z := below_frozen hb2 (p := ⟨w.heap.size + 1, 1, none⟩) (v := .float .f64 d) (by first | assumption | (go_simp; done)) (by first | assumption | (go_simp; done))
    have hl2_2 : w.heap.size + 2 < w2.heap.size := by omega
    have k2_2_0 := below_cell hb2 (p := ⟨w.heap.size + 2, 0, none⟩) (v := .float .f64 0) (by first | assumption | (go_simp; done))
    have k2_2_0z := below_frozen hb2 (p := ⟨w.heap.size + 2, 0, none⟩) (v := .float .f64 0) (by first | assumption | (go_simp; done)) (by first | assumption | (go_simp; done))
    have k2_2_1 := below_cell hb2 (p := ⟨w.heap.size + 2, 1, none⟩) (v := .float .f64 0) (by first | assumption | (go_simp; done))
    have k2_2_1z := below_frozen hb2 (p := ⟨w.heap.size + 2, 1, none⟩) (v := .float .f64 0) (by first | assumption | (go_simp; done)) (by first | assumption | (go_simp; done))
    have hl2_3 : w.heap.size + 3 < w2.heap.size := by omega
    have k2_3_0 := below_cell hb2 (p := ⟨w.heap.size + 3, 0, none⟩) (v := .float .f64 0) (by first | assumption | (go_simp; done))
    have k2_3_0z := below_frozen hb2 (p := ⟨w.heap.size + 3, 0, none⟩) (v := .float .f64 0) (by first | assumption | (go_simp; done)) (by first | assumption | (go_simp; done))
    have k2_3_1 := below_cell hb2 (p := ⟨w.heap.size + 3, 1, none⟩) (v := .float .f64 0) (by first | assumption | (go_simp; done))
    have k2_3_1z := below_frozen hb2 (p := ⟨w.heap.size + 3, 1, none⟩) (v := .float .f64 0) (by first | assumption | (go_simp; done)) (by first | assumption | (go_simp; done))
    clear hb2
    go_wp2
    exact bodyPost_ret (v := (.agg #[.float .f64 18442240474082181120, .float .f64 9218868437227405312])) (by simp [results, Try.results34, go_sem, *]) rfl ⟨rfl, (by repeat (first | (with_reducible assumption) | (with_reducible exact Below.refl _ _) | ((with_reducible refine Below.alloc ?_ ?_ _); rotate_left; exact (by first | omega | (simp; done) | (simp; omega))) | ((with_reducible refine Below.setCell ?_ ?_ _); rotate_left; exact (by first | omega | (simp; done) | (simp; omega))) | (with_reducible refine Below.drew ?_)))⟩

theorem div_walk5 (a b c d p q r s lo hi : Nat) (w : World) (h : (noneB a b || noneB c d) = false) (hp : (feq c 0 && feq d 0) = false) (hq : (feq a 0 && feq b 0) = false) (g1 : flt 0 c = false) (g2 : flt d 0 = false) (g3 : flt c 0 = true) (g4 : flt 0 d = false) (g5 : (flt a 0 && flt 0 b) = false)
    (h1 : ∀ w, Calls Try.prog 28 #[(.agg #[.float .f64 a, .float .f64 b])] w fun e w' => e = .returned (.agg #[.float .f64 p, .float .f64 q]) ∧ Below w.heap.size w w')
    (h2 : ∀ w, Calls Try.prog 28 #[(.agg #[.float .f64 c, .float .f64 d])] w fun e w' => e = .returned (.agg #[.float .f64 r, .float .f64 s]) ∧ Below w.heap.size w w')
    (h3 : ∀ w, Calls Try.prog 34 #[(.agg #[.float .f64 p, .float .f64 q]), (.agg #[.float .f64 r, .float .f64 s])] w fun e w' => e = .returned (.agg #[.float .f64 lo, .float .f64 hi]) ∧ Below w.heap.size w w') :
    Calls Try.prog 34 #[(.agg #[.float .f64 a, .float .f64 b]), (.agg #[.float .f64 c, .float .f64 d])] w fun e w' => e = .returned (.agg #[.float .f64 lo, .float .f64 hi]) ∧ Below w.heap.size w w' := by
  cases g7 : flt a 0 with
  | false =>
    have H1 := Lib.hid h1
    have H2 := Lib.hid h2
    have H3 := Lib.hid h3
    clear h1 h2 h3
    have N : Hid (∀ (k : Nat) (w : World), w.cell? ⟨k, 0, none⟩ = some (.float .f64 a) → w.cell? ⟨k, 1, none⟩ = some (.float .f64 b) → w.cell? ⟨k, 2, none⟩ = some (.float .f64 c) → w.cell? ⟨k, 3, none⟩ = some (.float .f64 d) → Calls Try.prog 53 #[.slice (some ⟨k, 0, none⟩) 2 2] w fun e w' => e = .returned (.bool false) ∧ Below w.heap.size w w') := fun k w c0 c1 c2 c3 => h ▸ none2_any a b c d k w c0 c1 c2 c3
    clear h
    go_enter Try.func34, Try.ntmps34
    go_wp2_with fail
    refine Calls.mono (N.out _ _ (by go_simp) (by go_simp) (by go_simp) (by go_simp)) ?_
    rintro e w1 ⟨rfl, hb1⟩
    have hw1 : Below w.heap.size w w1 := Below.trans (by repeat (first | (with_reducible assumption) | (with_reducible exact Below.refl _ _) | ((with_reducible refine Below.alloc ?_ ?_ _); rotate_left; exact (by first | omega | (simp; done) | (simp; omega))) | ((with_reducible refine Below.setCell ?_ ?_ _); rotate_left; exact (by first | omega | (simp; done) | (simp; omega))) | (with_reducible refine Below.drew ?_))) (hb1.mono (by first | omega | (simp; done) | (simp; omega)))
    have hs1 := hb1.size
    try simp at hs1
    have hl1_0 : w.heap.size < w1.heap.size := by omega
    have k1_0_0 := below_cell hb1 (p := ⟨w.heap.size, 0, none⟩) (v := .float .f64 a) (by first | assumption | (go_simp; done))
    have k1_0_0z := below_frozen hb1 (p := ⟨w.heap.size, 0, none⟩) (v := .float .f64 a) (by first | assumption | (go_simp; done)) (by first | assumption | (go_simp; done))
    have k1_0_1 := below_cell hb1 (p := ⟨w.heap.size, 1, none⟩) (v := .float .f64 b) (by first | assumption | (go_simp; done))
    have k1_0_1z := below_frozen hb1 (p := ⟨w.heap.size, 1, none⟩) (v := .float .f64 b) (by first | assumption | (go_simp; done)) (by first | assumption | (go_simp; done))
    have hl1_1 : w.heap.size + 1 < w1.heap.size := by omega
    have k1_1_0 := below_cell hb1 (p := ⟨w.heap.size + 1, 0, none⟩) (v := .float .f64 c) (by first | assumption | (go_simp; done))
    have k1_1_0z := below_frozen hb1 (p := ⟨w.heap.size + 1, 0, none⟩) (v := .float .f64 c) (by first | assumption | (go_simp; done)) (by first | assumption | (go_simp; done))
    have k1_1_1 := below_cell hb1 (p := ⟨w.heap.size + 1, 1, none⟩) (v := .float .f64 d) (by first | assumption | (go_simp; done))
    have k1_1_1z := below_frozen hb1 (p := ⟨w.heap.size + 1, 1, none⟩) (v := .float .f64 d) (by first | assumption | (go_simp; done)) (by first | assumption | (go_simp; done))
    have hl1_2 : w.heap.size + 2 < w1.heap.size := by omega
    have k1_2_0 := below_cell hb1 (p := ⟨w.heap.size + 2, 0, none⟩) (v := .float .f64 0) (by first | assumption | (go_simp; done))
    have k1_2_0z := below_frozen hb1 (p := ⟨w.heap.size + 2, 0, none⟩) (v := .float .f64 0) (by first | assumption | (go_simp; done)) (by first | assumption | (go_simp; done))
    have k1_2_1 := below_cell hb1 (p := ⟨w.heap.size + 2, 1, none⟩) (v := .float .f64 0) (by first | assumption | (go_simp; done))
    have k1_2_1z := below_frozen hb1 (p := ⟨w.heap.size + 2, 1, none⟩) (v := .float .f64 0) (by first | assumption | (go_simp; done)) (by first | assumption | (go_simp; done))
    have hl1_3 : w.heap.size + 3 < w1.heap.size := by omega
    have k1_3_0 := below_cell hb1 (p := ⟨w.heap.size + 3, 0, none⟩) (v := .float .f64 0) (by first | assumption | (go_simp; done))
    have k1_3_0z := below_frozen hb1 (p := ⟨w.heap.size + 3, 0, none⟩) (v := .float .f64 0) (by first | assumption | (go_simp; done)) (by first | assumption | (go_simp; done))
    have k1_3_1 := below_cell hb1 (p := ⟨w.heap.size + 3, 1, none⟩) (v := .float .f64 0) (by first | assumption | (go_simp; done))
    have k1_3_1z := below_frozen hb1 (p := ⟨w.heap.size + 3, 1, none⟩) (v := .float .f64 0) (by first | assumption | (go_simp; done)) (by first | assumption | (go_simp; done))
    clear hb1
    go_wp2_with fail
    refine wp_region_grow_tail 5 (by kernel_rfl) (by kernel_rfl) ?_
    simp only [List.take_succ_cons, List.take_zero, List.drop_succ_cons, List.drop_zero]
    intro X _ M hM hup
    have d0 := grow_cell hM k1_0_0
    have d1 := grow_cell hM k1_0_1
    have d2 := grow_cell hM k1_1_0
    have d3 := grow_cell hM k1_1_1
    have d4 := grow_cell hM k1_2_0
    have d5 := grow_cell hM k1_2_1
    have d4z := fun x => below_frozen (hM x) k1_2_0 k1_2_0z
    have d5z := fun x => below_frozen (hM x) k1_2_1 k1_2_1z
    have hbm : ∀ x, Below w.heap.size w (M x) := fun x => hw1.trans ((hM x).mono hw1.size)
    clear hM
    repeat (go_big_quiet_step (first | (go_at_call 28; first | with_reducible exact grow_of (hup _) (H1.out _) | with_reducible exact grow_of (hup _) (H2.out _)) | (go_at_call 34; exact grow_of (hup _) (H3.out _))))
    refine wpQuiet_nil ?_
    rintro _ ⟨x, rfl⟩
    have hbx := hbm x
    clear hbm
    go_wp2
    exact bodyPost_ret (v := (.agg #[.float .f64 lo, .float .f64 hi])) (by simp [results, Try.results34, go_sem, *]) rfl ⟨rfl, (by repeat (first | (with_reducible assumption) | (with_reducible exact Below.refl _ _) | ((with_reducible refine Below.alloc ?_ ?_ _); rotate_left; exact (by first | omega | (simp; done) | (simp; omega))) | ((with_reducible refine Below.setCell ?_ ?_ _); rotate_left; exact (by first | omega | (simp; done) | (simp; omega))) | (with_reducible refine Below.drew ?_)))⟩
  | true =>
    rw [g7, Bool.true_and] at g5
    have H1 := Lib.hid h1
    have H2 := Lib.hid h2
    have H3 := Lib.hid h3
    clear h1 h2 h3
    have N : Hid (∀ (k : Nat) (w : World), w.cell? ⟨k, 0, none⟩ = some (.float .f64 a) → w.cell? ⟨k, 1, none⟩ = some (.float .f64 b) → w.cell? ⟨k, 2, none⟩ = some (.float .f64 c) → w.cell? ⟨k, 3, none⟩ = some (.float .f64 d) → Calls Try.prog 53 #[.slice (some ⟨k, 0, none⟩) 2 2] w fun e w' => e = .returned (.bool false) ∧ Below w.heap.size w w') := fun k w c0 c1 c2 c3 => h ▸ none2_any a b c d k w c0 c1 c2 c3
    clear h
    go_enter Try.func34, Try.ntmps34
    go_wp2_with fail
    refine Calls.mono (N.out _ _ (by go_simp) (by go_simp) (by go_simp) (by go_simp)) ?_
    rintro e w1 ⟨rfl, hb1⟩
    have hw1 : Below w.heap.size w w1 := Below.trans (by repeat (first | (with_reducible assumption) | (with_reducible exact Below.refl _ _) | ((with_reducible refine Below.alloc ?_ ?_ _); rotate_left; exact (by first | omega | (simp; done) | (simp; omega))) | ((with_reducible refine Below.setCell ?_ ?_ _); rotate_left; exact (by first | omega | (simp; done) | (simp; omega))) | (with_reducible refine Below.drew ?_))) (hb1.mono (by first | omega | (simp; done) | (simp; omega)))
    have hs1 := hb1.size
    try simp at hs1
    have hl1_0 : w.heap.size < w1.heap.size := by omega
    have k1_0_0 := below_cell hb1 (p := ⟨w.heap.size, 0, none⟩) (v := .float .f64 a) (by first | assumption | (go_simp; done))
    have k1_0_0z := below_frozen hb1 (p := ⟨w.heap.size, 0, none⟩) (v := .float .f64 a) (by first | assumption | (go_simp; done)) (by first | assumption | (go_simp; done))
    have k1_0_1 := below_cell hb1 (p := ⟨w.heap.size, 1, none⟩) (v := .float .f64 b) (by first | assumption | (go_simp; done))
    have k1_0_1z := below_frozen hb1 (p := ⟨w.heap.size, 1, none⟩) (v := .float .f64 b) (by first | assumption | (go_simp; done)) (by first | assumption | (go_simp; done))
    have hl1_1 : w.heap.size + 1 < w1.heap.size := by omega
    have k1_1_0 := below_cell hb1 (p := ⟨w.heap.size + 1, 0, none⟩) (v := .float .f64 c) (by first | assumption | (go_simp; done))
    have k1_1_0z := below_frozen hb1 (p := ⟨w.heap.size + 1, 0, none⟩) (v := .float .f64 c) (by first | assumption | (go_simp; done)) (by first | assumption | (go_simp; done))
    have k1_1_1 := below_cell hb1 (p := ⟨w.heap.size + 1, 1, none⟩) (v := .float .f64 d) (by first | assumption | (go_simp; done))
    have k1_1_1z := below_frozen hb1 (p := ⟨w.heap.size + 1, 1, none⟩) (v := .float .f64 d) (by first | assumption | (go_simp; done)) (by first | assumption | (go_simp; done))
    have hl1_2 : w.heap.size + 2 < w1.heap.size := by omega
    have k1_2_0 := below_cell hb1 (p := ⟨w.heap.size + 2, 0, none⟩) (v := .float .f64 0) (by first | assumption | (go_simp; done))
    have k1_2_0z := below_frozen hb1 (p := ⟨w.heap.size + 2, 0, none⟩) (v := .float .f64 0) (by first | assumption | (go_simp; done)) (by first | assumption | (go_simp; done))
    have k1_2_1 := below_cell hb1 (p := ⟨w.heap.size + 2, 1, none⟩) (v := .float .f64 0) (by first | assumption | (go_simp; done))
    have k1_2_1z := below_frozen hb1 (p := ⟨w.heap.size + 2, 1, none⟩) (v := .float .f64 0) (by first | assumption | (go_simp; done)) (by first | assumption | (go_simp; done))
    have hl1_3 : w.heap.size + 3 < w1.heap.size := by omega
    have k1_3_0 := below_cell hb1 (p := ⟨w.heap.size + 3, 0, none⟩) (v := .float .f64 0) (by first | assumption | (go_simp; done))
    have k1_3_0z := below_frozen hb1 (p := ⟨w.heap.size + 3, 0, none⟩) (v := .float .f64 0) (by first | assumption | (go_simp; done)) (by first | assumption | (go_simp; done))
    have k1_3_1 := below_cell hb1 (p := ⟨w.heap.size + 3, 1, none⟩) (v := .float .f64 0) (by first | assumption | (go_simp; done))
    have k1_3_1z := below_frozen hb1 (p := ⟨w.heap.size + 3, 1, none⟩) (v := .float .f64 0) (by first | assumption | (go_simp; done)) (by first | assumption | (go_simp; done))
    clear hb1
    go_wp2_with fail
    refine wp_region_grow_tail 5 (by kernel_rfl) (by kernel_rfl) ?_
    simp only [List.take_succ_cons, List.take_zero, List.drop_succ_cons, List.drop_zero]
    intro X _ M hM hup
    have d0 := grow_cell hM k1_0_0
    have d1 := grow_cell hM k1_0_1
    have d2 := grow_cell hM k1_1_0
    have d3 := grow_cell hM k1_1_1
    have d4 := grow_cell hM k1_2_0
    have d5 := grow_cell hM k1_2_1
    have d4z := fun x => below_frozen (hM x) k1_2_0 k1_2_0z
    have d5z := fun x => below_frozen (hM x) k1_2_1 k1_2_1z
    have hbm : ∀ x, Below w.heap.size w (M x) := fun x => hw1.trans ((hM x).mono hw1.size)
    clear hM
    repeat (go_big_quiet_step (first | (go_at_call 28; first | with_reducible exact grow_of (hup _) (H1.out _) | with_reducible exact grow_of (hup _) (H2.out _)) | (go_at_call 34; exact grow_of (hup _) (H3.out _))))
    refine wpQuiet_nil ?_
    rintro _ ⟨x, rfl⟩
    have hbx := hbm x
    clear hbm
    go_wp2
    exact bodyPost_ret (v := (.agg #[.float .f64 lo, .float .f64 hi])) (by simp [results, Try.results34, go_sem, *]) rfl ⟨rfl, (by repeat (first | (with_reducible assumption) | (with_reducible exact Below.refl _ _) | ((with_reducible refine Below.alloc ?_ ?_ _); rotate_left; exact (by first | omega | (simp; done) | (simp; omega))) | ((with_reducible refine Below.setCell ?_ ?_ _); rotate_left; exact (by first | omega | (simp; done) | (simp; omega))) | (with_reducible refine Below.drew ?_)))⟩

theorem div_walk6 (a b c d p lo hi : Nat) (w : World) (h : (noneB a b || noneB c d) = false) (hp : (feq c 0 && feq d 0) = false) (hq : (feq a 0 && feq b 0) = false) (g1 : flt 0 c = false) (g2 : flt d 0 = false) (g3 : flt c 0 = false) (g5 : flt a 0 = false) (g6 : fle 0 a = true)
    (h1 : ∀ w, Calls Try.prog 71 #[.float .f64 a, .float .f64 d, .int .i64 (-1)] w fun e w' => e = .returned (.float .f64 p) ∧ Below w.heap.size w w')
    (hm : ∀ w, Calls Try.prog 67 #[.float .f64 p, .float .f64 9218868437227405312] w fun e w' => e = .returned (.agg #[.float .f64 lo, .float .f64 hi]) ∧ Below w.heap.size w w') :
    Calls Try.prog 34 #[(.agg #[.float .f64 a, .float .f64 b]), (.agg #[.float .f64 c, .float .f64 d])] w fun e w' => e = .returned (.agg #[.float .f64 lo, .float .f64 hi]) ∧ Below w.heap.size w w' := by
  have H1 := Lib.hid h1
  have Hm := Lib.hid hm
  clear h1 hm
  have N : Hid (∀ (k : Nat) (w : World), w.cell? ⟨k, 0, none⟩ = some (.float .f64 a) → w.cell? ⟨k, 1, none⟩ = some (.float .f64 b) → w.cell? ⟨k, 2, none⟩ = some (.float .f64 c) → w.cell? ⟨k, 3, none⟩ = some (.float .f64 d) → Calls Try.prog 53 #[.slice (some ⟨k, 0, none⟩) 2 2] w fun e w' => e = .returned (.bool false) ∧ Below w.heap.size w w') := fun k w c0 c1 c2 c3 => h ▸ none2_any a b c d k w c0 c1 c2 c3
  clear h
  go_enter Try.func34, Try.ntmps34
  go_wp2_with fail
  refine Calls.mono (N.out _ _ (by go_simp) (by go_simp) (by go_simp) (by go_simp)) ?_
  rintro e w1 ⟨rfl, hb1⟩
  have hw1 : Below w.heap.size w w1 := Below.trans (by repeat (first | (with_reducible assumption) | (with_reducible exact Below.refl _ _) | ((with_reducible refine Below.alloc ?_ ?_ _); rotate_left; exact (by first | omega | (simp; done) | (simp; omega))) | ((with_reducible refine Below.setCell ?_ ?_ _); rotate_left; exact (by first | omega | (simp; done) | (simp; omega))) | (with_reducible refine Below.drew ?_))) (hb1.mono (by first | omega | (simp; done) | (simp; omega)))
  have hs1 := hb1.size
  try simp at hs1
  have hl1_0 : w.heap.size < w1.heap.size := by omega
  have k1_0_0 := below_cell hb1 (p := ⟨w.heap.size, 0, none⟩) (v := .float .f64 a) (by first | assumption | (go_simp; done))
  have k1_0_0z := below_frozen hb1 (p := ⟨w.heap.size, 0, none⟩) (v := .float .f64 a) (by first | assumption | (go_simp; done)) (by first | assumption | (go_simp; done))
  have k1_0_1 := below_cell hb1 (p := ⟨w.heap.size, 1, none⟩) (v := .float .f64 b) (by first | assumption | (go_simp; done))
  have k1_0_1z := below_frozen hb1 (p := ⟨w.heap.size, 1, none⟩) (v := .float .f64 b) (by first | assumption | (go_simp; done)) (by first | assumption | (go_simp; done))
  have hl1_1 : w.heap.size + 1 < w1.heap.size := by omega
  have k1_1_0 := below_cell hb1 (p := ⟨w.heap.size + 1, 0, none⟩) (v := .float .f64 c) (by first | assumption | (go_simp; done))
  have k1_1_0z := below_frozen hb1 (p := ⟨w.heap.size + 1, 0, none⟩) (v := .float .f64 c) (by first | assumption | (go_simp; done)) (by first | assumption | (go_simp; done))
  have k1_1_1 := below_cell hb1 (p := ⟨w.heap.size + 1, 1, none⟩) (v := .float .f64 d) (by first | assumption | (go_simp; done))
  have k1_1_1z := below_frozen hb1 (p := ⟨w.heap.size + 1, 1, none⟩) (v := .float .f64 d) (by first | assumption | (go_simp; done)) (by first | assumption | (go_simp; done))
  have hl1_2 : w.heap.size + 2 < w1.heap.size := by omega
  have k1_2_0 := below_cell hb1 (p := ⟨w.heap.size + 2, 0, none⟩) (v := .float .f64 0) (by first | assumption | (go_simp; done))
  have k1_2_0z := below_frozen hb1 (p := ⟨w.heap.size + 2, 0, none⟩) (v := .float .f64 0) (by first | assumption | (go_simp; done)) (by first | assumption | (go_simp; done))
  have k1_2_1 := below_cell hb1 (p := ⟨w.heap.size + 2, 1, none⟩) (v := .float .f64 0) (by first | assumption | (go_simp; done))
  have k1_2_1z := below_frozen hb1 (p := ⟨w.heap.size + 2, 1, none⟩) (v := .float .f64 0) (by first | assumption | (go_simp; done)) (by first | assumption | (go_simp; done))
  have hl1_3 : w.heap.size + 3 < w1.heap.size := by omega
  have k1_3_0 := below_cell hb1 (p := ⟨w.heap.size + 3, 0, none⟩) (v := .float .f64 0) (by first | assumption | (go_simp; done))
  have k1_3_0z := below_frozen hb1 (p := ⟨w.heap.size + 3, 0, none⟩) (v := .float .f64 0) (by first | assumption | (go_simp; done)) (by first | assumption | (go_simp; done))
  have k1_3_1 := below_cell hb1 (p := ⟨w.heap.size + 3, 1, none⟩) (v := .float .f64 0) (by first | assumption | (go_simp; done))
  have k1_3_1z := below_frozen hb1 (p := ⟨w.heap.size + 3, 1, none⟩) (v := .float .f64 0) (by first | assumption | (go_simp; done)) (by first | assumption | (go_simp; done))
  clear hb1
  go_wp2_with fail
  refine Calls.mono (H1.out _) ?_
  rintro e w2 ⟨rfl, hb2⟩
  have hw2 : Below w.heap.size w w2 := Below.trans (by repeat (first | (with_reducible assumption) | (with_reducible exact Below.refl _ _) | ((with_reducible refine Below.alloc ?_ ?_ _); rotate_left; exact (by first | omega | (simp; done) | (simp; omega))) | ((with_reducible refine Below.setCell ?_ ?_ _); rotate_left; exact (by first | omega | (simp; done) | (simp; omega))) | (with_reducible refine Below.drew ?_))) (hb2.mono (by first | omega | (simp; done) | (simp; omega)))
  have hs2 := hb2.size
  try simp at hs2
  have hl2_0 : w.heap.size < w2.heap.size := by omega
  have k2_0_0 := below_cell hb2 (p := ⟨w.heap.size, 0, none⟩) (v := .float .f64 a) (by first | assumption | (go_simp; done))
  have k2_0_0z := below_frozen hb2 (p := ⟨w.heap.size, 0, none⟩) (v := .float .f64 a) (by first | assumption | (go_simp; done)) (by first | assumption | (go_simp; done))
  have k2_0_1 := below_cell hb2 (p := ⟨w.heap.size, 1, none⟩) (v := .float .f64 b) (by first | assumption | (go_simp; done))
  have k2_0_1z := below_frozen hb2 (p := ⟨w.heap.size, 1, none⟩) (v := .float .f64 b) (by first | assumption | (go_simp; done)) (by first | assumption | (go_simp; done))
  have hl2_1 : w.heap.size + 1 < w2.heap.size := by omega
  have k2_1_0 := below_cell hb2 (p := ⟨w.heap.size + 1, 0, none⟩) (v := .float .f64 c) (by first | assumption | (go_simp; done))
  have k2_1_0z := below_frozen hb2 (p := ⟨w.heap.size + 1, 0, none⟩) (v := .float .f64 c) (by first | assumption | (go_simp; done)) (by first | assumption | (go_simp; done))
  have k2_1_1 := below_cell hb2 (p := ⟨w.heap.size + 1, 1, none⟩) (v := .float .f64 d) (by first | assumption | (go_simp; done))
  have k2_1_1z := below_frozen hb2 (p := ⟨w.heap.size + 1, 1, none⟩) (v := .float .f64 d) (by first | assumption | (go_simp; done)) (by first | assumption | (go_simp; done))
  have hl2_2 : w.heap.size + 2 < w2.heap.size := by omega
  have k2_2_0 := below_cell hb2 (p := ⟨w.heap.size + 2, 0, none⟩) (v := .float .f64 0) (by first | assumption | (go_simp; done))
  have k2_2_0z := below_frozen hb2 (p := ⟨w.heap.size + 2, 0, none⟩) (v := .float .f64 0) (by first | assumption | (go_simp; done)) (by first | assumption | (go_simp; done))
  have k2_2_1 := below_cell hb2 (p := ⟨w.heap.size + 2, 1, none⟩) (v := .float .f64 0) (by first | assumption | (go_simp; done))
  have k2_2_1z := below_frozen hb2 (p := ⟨w.heap.size + 2, 1, none⟩) (v := .float .f64 0) (by first | assumption | (go_simp; done)) (by first | assumption | (go_simp; done))
  have hl2_3 : w.heap.size + 3 < w2.heap.size := by omega
  have k2_3_0 := below_cell hb2 (p := ⟨w.heap.size + 3, 0, none⟩) (v := .float .f64 0) (by first | assumption | (go_simp; done))
  have k2_3_0z := below_frozen hb2 (p := ⟨w.heap.size + 3, 0, none⟩) (v := .float .f64 0) (by first | assumption | (go_simp; done)) (by first | assumption | (go_simp; done))
  have k2_3_1 := below_cell hb2 (p := ⟨w.heap.size + 3, 1, none⟩) (v := .float .f64 0) (by first | assumption | (go_simp; done))
  have k2_3_1z := below_frozen hb2 (p := ⟨w.heap.size + 3, 1, none⟩) (v := .float .f64 0) (by first | assumption | (go_simp; done)) (by first | assumption | (go_simp; done))
  clear hb2
  go_wp2_with fail
  refine (inf_pos _).mono ?_
  rintro e wz ⟨rfl, hwz⟩
  subst hwz
  go_wp2_with fail
  refine Calls.mono (Hm.out _) ?_
  rintro e w3 ⟨rfl, hb3⟩
  have hw3 : Below w.heap.size w w3 := Below.trans (by repeat (first | (with_reducible assumption) | (with_reducible exact Below.refl _ _) | ((with_reducible refine Below.alloc ?_ ?_ _); rotate_left; exact (by first | omega | (simp; done) | (simp; omega))) | ((with_reducible refine Below.setCell ?_ ?_ _); rotate_left; exact (by first | omega | (simp; done) | (simp; omega))) | (with_reducible refine Below.drew ?_))) (hb3.mono (by first | omega | (simp; done) | (simp; omega)))
  have hs3 := hb3.size
  try simp at hs3
  have hl3_0 : w.heap.size < w3.heap.size := by omega
  have k3_0_0 := below_cell hb3 (p := ⟨w.heap.size, 0, none⟩) (v := .float .f64 a) (by first | assumption | (go_simp; done))
  have k3_0_0z := below_frozen hb3 (p := ⟨w.heap.size, 0, none⟩) (v := .float .f64 a) (by first | assumption | (go_simp; done)) (by first | assumption | (go_simp; done))
  have k3_0_1 := below_cell hb3 (p := ⟨w.heap.size, 1, none⟩) (v := .float .f64 b) (by first | assumption | (go_simp; done))
  have k3_0_1z := below_frozen hb3 (p := ⟨w.heap.size, 1, none⟩) (v := .float .f64 b) (by first | assumption | (go_simp; done)) (by first | assumption | (go_simp; done))
  have hl3_1 : w.heap.size + 1 < w3.heap.size := by omega
  have k3_1_0 := below_cell hb3 (p := ⟨w.heap.size + 1, 0, none⟩) (v := .float .f64 c) (by first | assumption | (go_simp; done))
  have k3_1_0z := below_frozen hb3 (p := ⟨w.heap.size + 1, 0, none⟩) (v := .float .f64 c) (by first | assumption | (go_simp; done)) (by first | assumption | (go_simp; done))
  have k3_1_1 := below_cell hb3 (p := ⟨w.heap.size + 1, 1, none⟩) (v := .float .f64 d) (by first | assumption | (go_simp; done))
  have k3_1_1z := below_frozen hb3 (p := ⟨w.heap.size + 1, 1, none⟩) (v := .float .f64 d) (by first | assumption | (go_simp; done)) (by first | assumption | (go_simp; done))
  have hl3_2 : w.heap.size + 2 < w3.heap.size := by omega
  have k3_2_0 := below_cell hb3 (p := ⟨w.heap.size + 2, 0, none⟩) (v := .float .f64 0) (by first | assumption | (go_simp; done))
  have k3_2_0z := below_frozen hb3 (p := ⟨w.heap.size + 2, 0, none⟩) (v := .float .f64 0) (by first | assumption | (go_simp; done)) (by first | assumption | (go_simp; done))
  have k3_2_1 := below_cell hb3 (p := ⟨w.heap.size + 2, 1, none⟩) (v := .float .f64 0) (by first | assumption | (go_simp; done))
  have k3_2_1z := below_frozen hb3 (p := ⟨w.heap.size + 2, 1, none⟩) (v := .float .f64 0) (by first | assumption | (go_simp; done)) (by first | assumption | (go_simp; done))
  have hl3_3 : w.heap.size + 3 < w3.heap.size := by omega
  have k3_3_0 := below_cell hb3 (p := ⟨w.heap.size + 3, 0, none⟩) (v := .float .f64 0) (by first | assumption | (go_simp; done))
  have k3_3_0z := below_frozen hb3 (p := ⟨w.heap.size + 3, 0, none⟩) (v := .float .f64 0) (by first | assumption | (go_simp; done)) (by first | assumption | (go_simp; done))
  have k3_3_1 := below_cell hb3 (p := ⟨w.heap.size + 3, 1, none⟩) (v := .float .f64 0) (by first | assumption | (go_simp; done))
  have k3_3_1z := below_frozen hb3 (p := ⟨w.heap.size + 3, 1, none⟩) (v := .float .f64 0) (by first | assumption | (go_simp; done)) (by first | assumption | (go_simp; done))
  clear hb3
  go_wp2
  exact bodyPost_ret (v := (.agg #[.float .f64 lo, .float .f64 hi])) (by simp [results, Try.results34, go_sem, *]) rfl ⟨rfl, (by repeat (first | (with_reducible assumption) | (with_reducible exact Below.refl _ _) | ((with_reducible refine Below.alloc ?_ ?_ _); rotate_left; exact (by first | omega | (simp; done) | (simp; omega))) | ((with_reducible refine Below.setCell ?_ ?_ _); rotate_left; exact (by first | omega | (simp; done) | (simp; omega))) | (with_reducible refine Below.drew ?_)))⟩

theorem div_walk7 (a b c d p lo hi : Nat) (w : World) (h : (noneB a b || noneB c d) = false) (hp : (feq c 0 && feq d 0) = false) (hq : (feq a 0 && feq b 0) = false) (g1 : flt 0 c = false) (g2 : flt d 0 = false) (g3 : flt c 0 = false) (g5 : flt a 0 = true) (g6 : fle 0 a = false) (g7 : flt 0 b = false)
    (h1 : ∀ w, Calls Try.prog 71 #[.float .f64 b, .float .f64 d, .int .i64 1] w fun e w' => e = .returned (.float .f64 p) ∧ Below w.heap.size w w')
    (hm : ∀ w, Calls Try.prog 67 #[.float .f64 18442240474082181120, .float .f64 p] w fun e w' => e = .returned (.agg #[.float .f64 lo, .float .f64 hi]) ∧ Below w.heap.size w w') :
    Calls Try.prog 34 #[(.agg #[.float .f64 a, .float .f64 b]), (.agg #[.float .f64 c, .float .f64 d])] w fun e w' => e = .returned (.agg #[.float .f64 lo, .float .f64 hi]) ∧ Below w.heap.size w w' := by
  have H1 := Lib.hid h1
  have Hm := Lib.hid hm
  clear h1 hm
  have N : Hid (∀ (k : Nat) (w : World), w.cell? ⟨k, 0, none⟩ = some (.float .f64 a) → w.cell? ⟨k, 1, none⟩ = some (.float .f64 b) → w.cell? ⟨k, 2, none⟩ = some (.float .f64 c) → w.cell? ⟨k, 3, none⟩ = some (.float .f64 d) → Calls Try.prog 53 #[.slice (some ⟨k, 0, none⟩) 2 2] w fun e w' => e = .returned (.bool false) ∧ Below w.heap.size w w') := fun k w c0 c1 c2 c3 => h ▸ none2_any a b c d k w c0 c1 c2 c3
  clear h
  go_enter Try.func34, Try.ntmps34
  go_wp2_with fail
  refine Calls.mono (N.out _ _ (by go_simp) (by go_simp) (by go_simp) (by go_simp)) ?_
  rintro e w1 ⟨rfl, hb1⟩
  have hw1 : Below w.heap.size w w1 := Below.trans (by repeat (first | (with_reducible assumption) | (with_reducible exact Below.refl _ _) | ((with_reducible refine Below.alloc ?_ ?_ _); rotate_left; exact (by first | omega | (simp; done) | (simp; omega))) | ((with_reducible refine Below.setCell ?_ ?_ _); rotate_left; exact (by first | omega | (simp; done) | (simp; omega))) | (with_reducible refine Below.drew ?_))) (hb1.mono (by first | omega | (simp; done) | (simp; omega)))
  have hs1 := hb1.size
  try simp at hs1
  have hl1_0 : w.heap.size < w1.heap.size := by omega
  have k1_0_0 := below_cell hb1 (p := ⟨w.heap.size, 0, none⟩) (v := .float .f64 a) (by first | assumption | (go_simp; done))
  have k1_0_0z := below_frozen hb1 (p := ⟨w.heap.size, 0, none⟩) (v := .float .f64 a) (by first | assumption | (go_simp; done)) (by first | assumption | (go_simp; done))
  have k1_0_1 := below_cell hb1 (p := ⟨w.heap.size, 1, none⟩) (v := .float .f64 b) (by first | assumption | (go_simp; done))
  have k1_0_1z := below_frozen hb1 (p := ⟨w.heap.size, 1, none⟩) (v := .float .f64 b) (by first | assumption | (go_simp; done)) (by first | assumption | (go_simp; done))
  have hl1_1 : w.heap.size + 1 < w1.heap.size := by omega
  have k1_1_0 := below_cell hb1 (p := ⟨w.heap.size + 1, 0, none⟩) (v := .float .f64 c) (by first | assumption | (go_simp; done))
  have k1_1_0z := below_frozen hb1 (p := ⟨w.heap.size + 1, 0, none⟩) (v := .float .f64 c) (by first | assumption | (go_simp; done)) (by first | assumption | (go_simp; done))
  have k1_1_1 := below_cell hb1 (p := ⟨w.heap.size + 1, 1, none⟩) (v := .float .f64 d) (by first | assumption | (go_simp; done))
  have k1_1_1z := below_frozen hb1 (p := ⟨w.heap.size + 1, 1, none⟩) (v := .float .f64 d) (by first | assumption | (go_simp; done)) (by first | assumption | (go_simp; done))
  have hl1_2 : w.heap.size + 2 < w1.heap.size := by omega
  have k1_2_0 := below_cell hb1 (p := ⟨w.heap.size + 2, 0, none⟩) (v := .float .f64 0) (by first | assumption | (go_simp; done))
  have k1_2_0z := below_frozen hb1 (p := ⟨w.heap.size + 2, 0, none⟩) (v := .float .f64 0) (by first | assumption | (go_simp; done)) (by first | assumption | (go_simp; done))
  have k1_2_1 := below_cell hb1 (p := ⟨w.heap.size + 2, 1, none⟩) (v := .float .f64 0) (by first | assumption | (go_simp; done))
  have k1_2_1z := below_frozen hb1 (p := ⟨w.heap.size + 2, 1, none⟩) (v := .float .f64 0) (by first | assumption | (go_simp; done)) (by first | assumption | (go_simp; done))
  have hl1_3 : w.heap.size + 3 < w1.heap.size := by omega
  have k1_3_0 := below_cell hb1 (p := ⟨w.heap.size + 3, 0, none⟩) (v := .float .f64 0) (by first | assumption | (go_simp; done))
  have k1_3_0z := below_frozen hb1 (p := ⟨w.heap.size + 3, 0, none⟩) (v := .float .f64 0) (by first | assumption | (go_simp; done)) (by first | assumption | (go_simp; done))
  have k1_3_1 := below_cell hb1 (p := ⟨w.heap.size + 3, 1, none⟩) (v := .float .f64 0) (by first | assumption | (go_simp; done))
  have k1_3_1z := below_frozen hb1 (p := ⟨w.heap.size + 3, 1, none⟩) (v := .float .f64 0) (by first | assumption | (go_simp; done)) (by first | assumption | (go_simp; done))
  clear hb1
  go_wp2_with fail
  refine wp_region_grow_tail 7 (by kernel_rfl) (by kernel_rfl) ?_
  simp only [List.take_succ_cons, List.take_zero, List.drop_succ_cons, List.drop_zero]
  intro X _ M hM hup
  have d0 := grow_cell hM k1_0_0
  have d1 := grow_cell hM k1_0_1
  have d2 := grow_cell hM k1_1_0
  have d3 := grow_cell hM k1_1_1
  have d4 := grow_cell hM k1_2_0
  have d5 := grow_cell hM k1_2_1
  have d4z := fun x => below_frozen (hM x) k1_2_0 k1_2_0z
  have d5z := fun x => below_frozen (hM x) k1_2_1 k1_2_1z
  have hbm : ∀ x, Below w.heap.size w (M x) := fun x => hw1.trans ((hM x).mono hw1.size)
  clear hM
  repeat (go_big_quiet_step (first | (go_at_call 73; exact grow_same (inf_neg _)) | (go_at_call 71; exact grow_of (hup _) (H1.out _)) | (go_at_call 67; exact grow_of (hup _) (Hm.out _))))
  refine wpQuiet_nil ?_
  rintro _ ⟨x, rfl⟩
  have hbx := hbm x
  clear hbm
  go_wp2
  exact bodyPost_ret (v := (.agg #[.float .f64 lo, .float .f64 hi])) (by simp [results, Try.results34, go_sem, *]) rfl ⟨rfl, (by repeat (first | (with_reducible assumption) | (with_reducible exact Below.refl _ _) | ((with_reducible refine Below.alloc ?_ ?_ _); rotate_left; exact (by first | omega | (simp; done) | (simp; omega))) | ((with_reducible refine Below.setCell ?_ ?_ _); rotate_left; exact (by first | omega | (simp; done) | (simp; omega))) | (with_reducible refine Below.drew ?_)))⟩

end Go.Proofs.Ytonidoghcihnnaa
