/- The walk of ulp.both. -/
import Derived.Test.YtonidoghcihnnaaSplit
import Derived.Test.YtonidoghcihnnaaGrow
namespace Go.Proofs.Ytonidoghcihnnaa
open Go.RowKit
set_option maxRecDepth 100000
set_option maxHeartbeats 1000000
set_option linter.unusedSimpArgs false
set_option linter.unusedVariables false

theorem both_yes (a b Ma Mb : Nat) (Ea Eb : Int) (na nb : Bool) (w : World)
    (ha : ∀ w, Calls Try.prog 122 #[.float .f64 a] w fun e w' => e = .returned (.tuple #[.agg #[.bool na, .int .u64 (Ma : Int), .int .i64 Ea], .bool true]) ∧ Below w.heap.size w w')
    (hb : ∀ w, Calls Try.prog 122 #[.float .f64 b] w fun e w' => e = .returned (.tuple #[.agg #[.bool nb, .int .u64 (Mb : Int), .int .i64 Eb], .bool true]) ∧ Below w.heap.size w w') :
    Calls Try.prog 97 #[.float .f64 a, .float .f64 b] w fun e w' => e = .returned (.tuple #[.agg #[.bool na, .int .u64 (Ma : Int), .int .i64 Ea], .agg #[.bool nb, .int .u64 (Mb : Int), .int .i64 Eb], .bool true]) ∧ Below w.heap.size w w' := by
  have Ha := Lib.hid ha
  have Hb := Lib.hid hb
  clear ha hb
  go_enter Try.func97, Try.ntmps97
  go_wp2_with fail
  refine Calls.mono (Ha.out _) ?_
  rintro e w1 ⟨rfl, hb1⟩
  have hw1 : Below w.heap.size w w1 := Below.trans (by repeat (first | (with_reducible assumption) | (with_reducible exact Below.refl _ _) | ((with_reducible refine Below.alloc ?_ ?_ _); rotate_left; exact (by first | omega | (simp; done) | (simp; omega))) | ((with_reducible refine Below.setCell ?_ ?_ _); rotate_left; exact (by first | omega | (simp; done) | (simp; omega))) | (with_reducible refine Below.drew ?_))) (hb1.mono (by first | omega | (simp; done) | (simp; omega)))
  have hs1 := hb1.size
  try simp at hs1
  have hl1_0 : w.heap.size < w1.heap.size := by omega
  have k1_0_0 := below_cell hb1 (p := ⟨w.heap.size, 0, none⟩) (v := .bool false) (by first | assumption | (go_simp; done))
  have k1_0_0z := below_frozen hb1 (p := ⟨w.heap.size, 0, none⟩) (v := .bool false) (by first | assumption | (go_simp; done)) (by first | assumption | (go_simp; done))
  have k1_0_1 := below_cell hb1 (p := ⟨w.heap.size, 1, none⟩) (v := .int .u64 0) (by first | assumption | (go_simp; done))
  have k1_0_1z := below_frozen hb1 (p := ⟨w.heap.size, 1, none⟩) (v := .int .u64 0) (by first | assumption | (go_simp; done)) (by first | assumption | (go_simp; done))
  have k1_0_2 := below_cell hb1 (p := ⟨w.heap.size, 2, none⟩) (v := .int .i64 0) (by first | assumption | (go_simp; done))
  have k1_0_2z := below_frozen hb1 (p := ⟨w.heap.size, 2, none⟩) (v := .int .i64 0) (by first | assumption | (go_simp; done)) (by first | assumption | (go_simp; done))
  have hl1_1 : w.heap.size + 1 < w1.heap.size := by omega
  have k1_1_0 := below_cell hb1 (p := ⟨w.heap.size + 1, 0, none⟩) (v := .bool false) (by first | assumption | (go_simp; done))
  have k1_1_0z := below_frozen hb1 (p := ⟨w.heap.size + 1, 0, none⟩) (v := .bool false) (by first | assumption | (go_simp; done)) (by first | assumption | (go_simp; done))
  have k1_1_1 := below_cell hb1 (p := ⟨w.heap.size + 1, 1, none⟩) (v := .int .u64 0) (by first | assumption | (go_simp; done))
  have k1_1_1z := below_frozen hb1 (p := ⟨w.heap.size + 1, 1, none⟩) (v := .int .u64 0) (by first | assumption | (go_simp; done)) (by first | assumption | (go_simp; done))
  have k1_1_2 := below_cell hb1 (p := ⟨w.heap.size + 1, 2, none⟩) (v := .int .i64 0) (by first | assumption | (go_simp; done))
  have k1_1_2z := below_frozen hb1 (p := ⟨w.heap.size + 1, 2, none⟩) (v := .int .i64 0) (by first | assumption | (go_simp; done)) (by first | assumption | (go_simp; done))
  go_wp2_with fail
  refine Calls.mono (Hb.out _) ?_
  rintro e w2 ⟨rfl, hb2⟩
  have hw2 : Below w.heap.size w w2 := Below.trans (by repeat (first | (with_reducible assumption) | (with_reducible exact Below.refl _ _) | ((with_reducible refine Below.alloc ?_ ?_ _); rotate_left; exact (by first | omega | (simp; done) | (simp; omega))) | ((with_reducible refine Below.setCell ?_ ?_ _); rotate_left; exact (by first | omega | (simp; done) | (simp; omega))) | (with_reducible refine Below.drew ?_))) (hb2.mono (by first | omega | (simp; done) | (simp; omega)))
  have hs2 := hb2.size
  try simp at hs2
  have hl2_0 : w.heap.size < w2.heap.size := by omega
  have k2_0_0 := below_cell hb2 (p := ⟨w.heap.size, 0, none⟩) (v := .bool false) (by first | assumption | (go_simp; done))
  have k2_0_0z := below_frozen hb2 (p := ⟨w.heap.size, 0, none⟩) (v := .bool false) (by first | assumption | (go_simp; done)) (by first | assumption | (go_simp; done))
  have k2_0_1 := below_cell hb2 (p := ⟨w.heap.size, 1, none⟩) (v := .int .u64 0) (by first | assumption | (go_simp; done))
  have k2_0_1z := below_frozen hb2 (p := ⟨w.heap.size, 1, none⟩) (v := .int .u64 0) (by first | assumption | (go_simp; done)) (by first | assumption | (go_simp; done))
  have k2_0_2 := below_cell hb2 (p := ⟨w.heap.size, 2, none⟩) (v := .int .i64 0) (by first | assumption | (go_simp; done))
  have k2_0_2z := below_frozen hb2 (p := ⟨w.heap.size, 2, none⟩) (v := .int .i64 0) (by first | assumption | (go_simp; done)) (by first | assumption | (go_simp; done))
  have hl2_1 : w.heap.size + 1 < w2.heap.size := by omega
  have k2_1_0 := below_cell hb2 (p := ⟨w.heap.size + 1, 0, none⟩) (v := .bool false) (by first | assumption | (go_simp; done))
  have k2_1_0z := below_frozen hb2 (p := ⟨w.heap.size + 1, 0, none⟩) (v := .bool false) (by first | assumption | (go_simp; done)) (by first | assumption | (go_simp; done))
  have k2_1_1 := below_cell hb2 (p := ⟨w.heap.size + 1, 1, none⟩) (v := .int .u64 0) (by first | assumption | (go_simp; done))
  have k2_1_1z := below_frozen hb2 (p := ⟨w.heap.size + 1, 1, none⟩) (v := .int .u64 0) (by first | assumption | (go_simp; done)) (by first | assumption | (go_simp; done))
  have k2_1_2 := below_cell hb2 (p := ⟨w.heap.size + 1, 2, none⟩) (v := .int .i64 0) (by first | assumption | (go_simp; done))
  have k2_1_2z := below_frozen hb2 (p := ⟨w.heap.size + 1, 2, none⟩) (v := .int .i64 0) (by first | assumption | (go_simp; done)) (by first | assumption | (go_simp; done))
  have hl2_2 : w1.heap.size < w2.heap.size := by omega
  have k2_2_0 := below_cell hb2 (p := ⟨w1.heap.size, 0, none⟩) (v := .bool na) (by first | assumption | (go_simp; done))
  have k2_2_0z := below_frozen hb2 (p := ⟨w1.heap.size, 0, none⟩) (v := .bool na) (by first | assumption | (go_simp; done)) (by first | assumption | (go_simp; done))
  have k2_2_1 := below_cell hb2 (p := ⟨w1.heap.size, 1, none⟩) (v := .int .u64 (Ma : Int)) (by first | assumption | (go_simp; done))
  have k2_2_1z := below_frozen hb2 (p := ⟨w1.heap.size, 1, none⟩) (v := .int .u64 (Ma : Int)) (by first | assumption | (go_simp; done)) (by first | assumption | (go_simp; done))
  have k2_2_2 := below_cell hb2 (p := ⟨w1.heap.size, 2, none⟩) (v := .int .i64 Ea) (by first | assumption | (go_simp; done))
  have k2_2_2z := below_frozen hb2 (p := ⟨w1.heap.size, 2, none⟩) (v := .int .i64 Ea) (by first | assumption | (go_simp; done)) (by first | assumption | (go_simp; done))
  go_wp2_with fail
  clear hb1 hb2 Ha Hb
  go_region
  go_wp2
  exact bodyPost_ret (v := .tuple #[.agg #[.bool na, .int .u64 (Ma : Int), .int .i64 Ea], .agg #[.bool nb, .int .u64 (Mb : Int), .int .i64 Eb], .bool true]) (by simp [results, Try.results97, go_sem, *]) rfl ⟨rfl, (by repeat (first | (with_reducible assumption) | (with_reducible exact Below.refl _ _) | ((with_reducible refine Below.alloc ?_ ?_ _); rotate_left; exact (by first | omega | (simp; done) | (simp; omega))) | ((with_reducible refine Below.setCell ?_ ?_ _); rotate_left; exact (by first | omega | (simp; done) | (simp; omega))) | (with_reducible refine Below.drew ?_)))⟩

theorem both_no1 (a b Ma Mb : Nat) (Ea Eb : Int) (na nb : Bool) (w : World)
    (ha : ∀ w, Calls Try.prog 122 #[.float .f64 a] w fun e w' => e = .returned (.tuple #[.agg #[.bool na, .int .u64 (Ma : Int), .int .i64 Ea], .bool false]) ∧ Below w.heap.size w w')
    (hb : ∀ w, Calls Try.prog 122 #[.float .f64 b] w fun e w' => e = .returned (.tuple #[.agg #[.bool nb, .int .u64 (Mb : Int), .int .i64 Eb], .bool true]) ∧ Below w.heap.size w w') :
    Calls Try.prog 97 #[.float .f64 a, .float .f64 b] w fun e w' => e = .returned (.tuple #[.agg #[.bool na, .int .u64 (Ma : Int), .int .i64 Ea], .agg #[.bool nb, .int .u64 (Mb : Int), .int .i64 Eb], .bool false]) ∧ Below w.heap.size w w' := by
  have Ha := Lib.hid ha
  have Hb := Lib.hid hb
  clear ha hb
  go_enter Try.func97, Try.ntmps97
  go_wp2_with fail
  refine Calls.mono (Ha.out _) ?_
  rintro e w1 ⟨rfl, hb1⟩
  have hw1 : Below w.heap.size w w1 := Below.trans (by repeat (first | (with_reducible assumption) | (with_reducible exact Below.refl _ _) | ((with_reducible refine Below.alloc ?_ ?_ _); rotate_left; exact (by first | omega | (simp; done) | (simp; omega))) | ((with_reducible refine Below.setCell ?_ ?_ _); rotate_left; exact (by first | omega | (simp; done) | (simp; omega))) | (with_reducible refine Below.drew ?_))) (hb1.mono (by first | omega | (simp; done) | (simp; omega)))
  have hs1 := hb1.size
  try simp at hs1
  have hl1_0 : w.heap.size < w1.heap.size := by omega
  have k1_0_0 := below_cell hb1 (p := ⟨w.heap.size, 0, none⟩) (v := .bool false) (by first | assumption | (go_simp; done))
  have k1_0_0z := below_frozen hb1 (p := ⟨w.heap.size, 0, none⟩) (v := .bool false) (by first | assumption | (go_simp; done)) (by first | assumption | (go_simp; done))
  have k1_0_1 := below_cell hb1 (p := ⟨w.heap.size, 1, none⟩) (v := .int .u64 0) (by first | assumption | (go_simp; done))
  have k1_0_1z := below_frozen hb1 (p := ⟨w.heap.size, 1, none⟩) (v := .int .u64 0) (by first | assumption | (go_simp; done)) (by first | assumption | (go_simp; done))
  have k1_0_2 := below_cell hb1 (p := ⟨w.heap.size, 2, none⟩) (v := .int .i64 0) (by first | assumption | (go_simp; done))
  have k1_0_2z := below_frozen hb1 (p := ⟨w.heap.size, 2, none⟩) (v := .int .i64 0) (by first | assumption | (go_simp; done)) (by first | assumption | (go_simp; done))
  have hl1_1 : w.heap.size + 1 < w1.heap.size := by omega
  have k1_1_0 := below_cell hb1 (p := ⟨w.heap.size + 1, 0, none⟩) (v := .bool false) (by first | assumption | (go_simp; done))
  have k1_1_0z := below_frozen hb1 (p := ⟨w.heap.size + 1, 0, none⟩) (v := .bool false) (by first | assumption | (go_simp; done)) (by first | assumption | (go_simp; done))
  have k1_1_1 := below_cell hb1 (p := ⟨w.heap.size + 1, 1, none⟩) (v := .int .u64 0) (by first | assumption | (go_simp; done))
  have k1_1_1z := below_frozen hb1 (p := ⟨w.heap.size + 1, 1, none⟩) (v := .int .u64 0) (by first | assumption | (go_simp; done)) (by first | assumption | (go_simp; done))
  have k1_1_2 := below_cell hb1 (p := ⟨w.heap.size + 1, 2, none⟩) (v := .int .i64 0) (by first | assumption | (go_simp; done))
  have k1_1_2z := below_frozen hb1 (p := ⟨w.heap.size + 1, 2, none⟩) (v := .int .i64 0) (by first | assumption | (go_simp; done)) (by first | assumption | (go_simp; done))
  go_wp2_with fail
  refine Calls.mono (Hb.out _) ?_
  rintro e w2 ⟨rfl, hb2⟩
  have hw2 : Below w.heap.size w w2 := Below.trans (by repeat (first | (with_reducible assumption) | (with_reducible exact Below.refl _ _) | ((with_reducible refine Below.alloc ?_ ?_ _); rotate_left; exact (by first | omega | (simp; done) | (simp; omega))) | ((with_reducible refine Below.setCell ?_ ?_ _); rotate_left; exact (by first | omega | (simp; done) | (simp; omega))) | (with_reducible refine Below.drew ?_))) (hb2.mono (by first | omega | (simp; done) | (simp; omega)))
  have hs2 := hb2.size
  try simp at hs2
  have hl2_0 : w.heap.size < w2.heap.size := by omega
  have k2_0_0 := below_cell hb2 (p := ⟨w.heap.size, 0, none⟩) (v := .bool false) (by first | assumption | (go_simp; done))
  have k2_0_0z := below_frozen hb2 (p := ⟨w.heap.size, 0, none⟩) (v := .bool false) (by first | assumption | (go_simp; done)) (by first | assumption | (go_simp; done))
  have k2_0_1 := below_cell hb2 (p := ⟨w.heap.size, 1, none⟩) (v := .int .u64 0) (by first | assumption | (go_simp; done))
  have k2_0_1z := below_frozen hb2 (p := ⟨w.heap.size, 1, none⟩) (v := .int .u64 0) (by first | assumption | (go_simp; done)) (by first | assumption | (go_simp; done))
  have k2_0_2 := below_cell hb2 (p := ⟨w.heap.size, 2, none⟩) (v := .int .i64 0) (by first | assumption | (go_simp; done))
  have k2_0_2z := below_frozen hb2 (p := ⟨w.heap.size, 2, none⟩) (v := .int .i64 0) (by first | assumption | (go_simp; done)) (by first | assumption | (go_simp; done))
  have hl2_1 : w.heap.size + 1 < w2.heap.size := by omega
  have k2_1_0 := below_cell hb2 (p := ⟨w.heap.size + 1, 0, none⟩) (v := .bool false) (by first | assumption | (go_simp; done))
  have k2_1_0z := below_frozen hb2 (p := ⟨w.heap.size + 1, 0, none⟩) (v := .bool false) (by first | assumption | (go_simp; done)) (by first | assumption | (go_simp; done))
  have k2_1_1 := below_cell hb2 (p := ⟨w.heap.size + 1, 1, none⟩) (v := .int .u64 0) (by first | assumption | (go_simp; done))
  have k2_1_1z := below_frozen hb2 (p := ⟨w.heap.size + 1, 1, none⟩) (v := .int .u64 0) (by first | assumption | (go_simp; done)) (by first | assumption | (go_simp; done))
  have k2_1_2 := below_cell hb2 (p := ⟨w.heap.size + 1, 2, none⟩) (v := .int .i64 0) (by first | assumption | (go_simp; done))
  have k2_1_2z := below_frozen hb2 (p := ⟨w.heap.size + 1, 2, none⟩) (v := .int .i64 0) (by first | assumption | (go_simp; done)) (by first | assumption | (go_simp; done))
  have hl2_2 : w1.heap.size < w2.heap.size := by omega
  have k2_2_0 := below_cell hb2 (p := ⟨w1.heap.size, 0, none⟩) (v := .bool na) (by first | assumption | (go_simp; done))
  have k2_2_0z := below_frozen hb2 (p := ⟨w1.heap.size, 0, none⟩) (v := .bool na) (by first | assumption | (go_simp; done)) (by first | assumption | (go_simp; done))
  have k2_2_1 := below_cell hb2 (p := ⟨w1.heap.size, 1, none⟩) (v := .int .u64 (Ma : Int)) (by first | assumption | (go_simp; done))
  have k2_2_1z := below_frozen hb2 (p := ⟨w1.heap.size, 1, none⟩) (v := .int .u64 (Ma : Int)) (by first | assumption | (go_simp; done)) (by first | assumption | (go_simp; done))
  have k2_2_2 := below_cell hb2 (p := ⟨w1.heap.size, 2, none⟩) (v := .int .i64 Ea) (by first | assumption | (go_simp; done))
  have k2_2_2z := below_frozen hb2 (p := ⟨w1.heap.size, 2, none⟩) (v := .int .i64 Ea) (by first | assumption | (go_simp; done)) (by first | assumption | (go_simp; done))
  go_wp2_with fail
  clear hb1 hb2 Ha Hb
  go_region
  go_wp2
  exact bodyPost_ret (v := .tuple #[.agg #[.bool na, .int .u64 (Ma : Int), .int .i64 Ea], .agg #[.bool nb, .int .u64 (Mb : Int), .int .i64 Eb], .bool false]) (by simp [results, Try.results97, go_sem, *]) rfl ⟨rfl, (by repeat (first | (with_reducible assumption) | (with_reducible exact Below.refl _ _) | ((with_reducible refine Below.alloc ?_ ?_ _); rotate_left; exact (by first | omega | (simp; done) | (simp; omega))) | ((with_reducible refine Below.setCell ?_ ?_ _); rotate_left; exact (by first | omega | (simp; done) | (simp; omega))) | (with_reducible refine Below.drew ?_)))⟩

theorem both_no2 (a b Ma Mb : Nat) (Ea Eb : Int) (na nb : Bool) (w : World)
    (ha : ∀ w, Calls Try.prog 122 #[.float .f64 a] w fun e w' => e = .returned (.tuple #[.agg #[.bool na, .int .u64 (Ma : Int), .int .i64 Ea], .bool true]) ∧ Below w.heap.size w w')
    (hb : ∀ w, Calls Try.prog 122 #[.float .f64 b] w fun e w' => e = .returned (.tuple #[.agg #[.bool nb, .int .u64 (Mb : Int), .int .i64 Eb], .bool false]) ∧ Below w.heap.size w w') :
    Calls Try.prog 97 #[.float .f64 a, .float .f64 b] w fun e w' => e = .returned (.tuple #[.agg #[.bool na, .int .u64 (Ma : Int), .int .i64 Ea], .agg #[.bool nb, .int .u64 (Mb : Int), .int .i64 Eb], .bool false]) ∧ Below w.heap.size w w' := by
  have Ha := Lib.hid ha
  have Hb := Lib.hid hb
  clear ha hb
  go_enter Try.func97, Try.ntmps97
  go_wp2_with fail
  refine Calls.mono (Ha.out _) ?_
  rintro e w1 ⟨rfl, hb1⟩
  have hw1 : Below w.heap.size w w1 := Below.trans (by repeat (first | (with_reducible assumption) | (with_reducible exact Below.refl _ _) | ((with_reducible refine Below.alloc ?_ ?_ _); rotate_left; exact (by first | omega | (simp; done) | (simp; omega))) | ((with_reducible refine Below.setCell ?_ ?_ _); rotate_left; exact (by first | omega | (simp; done) | (simp; omega))) | (with_reducible refine Below.drew ?_))) (hb1.mono (by first | omega | (simp; done) | (simp; omega)))
  have hs1 := hb1.size
  try simp at hs1
  have hl1_0 : w.heap.size < w1.heap.size := by omega
  have k1_0_0 := below_cell hb1 (p := ⟨w.heap.size, 0, none⟩) (v := .bool false) (by first | assumption | (go_simp; done))
  have k1_0_0z := below_frozen hb1 (p := ⟨w.heap.size, 0, none⟩) (v := .bool false) (by first | assumption | (go_simp; done)) (by first | assumption | (go_simp; done))
  have k1_0_1 := below_cell hb1 (p := ⟨w.heap.size, 1, none⟩) (v := .int .u64 0) (by first | assumption | (go_simp; done))
  have k1_0_1z := below_frozen hb1 (p := ⟨w.heap.size, 1, none⟩) (v := .int .u64 0) (by first | assumption | (go_simp; done)) (by first | assumption | (go_simp; done))
  have k1_0_2 := below_cell hb1 (p := ⟨w.heap.size, 2, none⟩) (v := .int .i64 0) (by first | assumption | (go_simp; done))
  have k1_0_2z := below_frozen hb1 (p := ⟨w.heap.size, 2, none⟩) (v := .int .i64 0) (by first | assumption | (go_simp; done)) (by first | assumption | (go_simp; done))
  have hl1_1 : w.heap.size + 1 < w1.heap.size := by omega
  have k1_1_0 := below_cell hb1 (p := ⟨w.heap.size + 1, 0, none⟩) (v := .bool false) (by first | assumption | (go_simp; done))
  have k1_1_0z := below_frozen hb1 (p := ⟨w.heap.size + 1, 0, none⟩) (v := .bool false) (by first | assumption | (go_simp; done)) (by first | assumption | (go_simp; done))
  have k1_1_1 := below_cell hb1 (p := ⟨w.heap.size + 1, 1, none⟩) (v := .int .u64 0) (by first | assumption | (go_simp; done))
  have k1_1_1z := below_frozen hb1 (p := ⟨w.heap.size + 1, 1, none⟩) (v := .int .u64 0) (by first | assumption | (go_simp; done)) (by first | assumption | (go_simp; done))
  have k1_1_2 := below_cell hb1 (p := ⟨w.heap.size + 1, 2, none⟩) (v := .int .i64 0) (by first | assumption | (go_simp; done))
  have k1_1_2z := below_frozen hb1 (p := ⟨w.heap.size + 1, 2, none⟩) (v := .int .i64 0) (by first | assumption | (go_simp; done)) (by first | assumption | (go_simp; done))
  go_wp2_with fail
  refine Calls.mono (Hb.out _) ?_
  rintro e w2 ⟨rfl, hb2⟩
  have hw2 : Below w.heap.size w w2 := Below.trans (by repeat (first | (with_reducible assumption) | (with_reducible exact Below.refl _ _) | ((with_reducible refine Below.alloc ?_ ?_ _); rotate_left; exact (by first | omega | (simp; done) | (simp; omega))) | ((with_reducible refine Below.setCell ?_ ?_ _); rotate_left; exact (by first | omega | (simp; done) | (simp; omega))) | (with_reducible refine Below.drew ?_))) (hb2.mono (by first | omega | (simp; done) | (simp; omega)))
  have hs2 := hb2.size
  try simp at hs2
  have hl2_0 : w.heap.size < w2.heap.size := by omega
  have k2_0_0 := below_cell hb2 (p := ⟨w.heap.size, 0, none⟩) (v := .bool false) (by first | assumption | (go_simp; done))
  have k2_0_0z := below_frozen hb2 (p := ⟨w.heap.size, 0, none⟩) (v := .bool false) (by first | assumption | (go_simp; done)) (by first | assumption | (go_simp; done))
  have k2_0_1 := below_cell hb2 (p := ⟨w.heap.size, 1, none⟩) (v := .int .u64 0) (by first | assumption | (go_simp; done))
  have k2_0_1z := below_frozen hb2 (p := ⟨w.heap.size, 1, none⟩) (v := .int .u64 0) (by first | assumption | (go_simp; done)) (by first | assumption | (go_simp; done))
  have k2_0_2 := below_cell hb2 (p := ⟨w.heap.size, 2, none⟩) (v := .int .i64 0) (by first | assumption | (go_simp; done))
  have k2_0_2z := below_frozen hb2 (p := ⟨w.heap.size, 2, none⟩) (v := .int .i64 0) (by first | assumption | (go_simp; done)) (by first | assumption | (go_simp; done))
  have hl2_1 : w.heap.size + 1 < w2.heap.size := by omega
  have k2_1_0 := below_cell hb2 (p := ⟨w.heap.size + 1, 0, none⟩) (v := .bool false) (by first | assumption | (go_simp; done))
  have k2_1_0z := below_frozen hb2 (p := ⟨w.heap.size + 1, 0, none⟩) (v := .bool false) (by first | assumption | (go_simp; done)) (by first | assumption | (go_simp; done))
  have k2_1_1 := below_cell hb2 (p := ⟨w.heap.size + 1, 1, none⟩) (v := .int .u64 0) (by first | assumption | (go_simp; done))
  have k2_1_1z := below_frozen hb2 (p := ⟨w.heap.size + 1, 1, none⟩) (v := .int .u64 0) (by first | assumption | (go_simp; done)) (by first | assumption | (go_simp; done))
  have k2_1_2 := below_cell hb2 (p := ⟨w.heap.size + 1, 2, none⟩) (v := .int .i64 0) (by first | assumption | (go_simp; done))
  have k2_1_2z := below_frozen hb2 (p := ⟨w.heap.size + 1, 2, none⟩) (v := .int .i64 0) (by first | assumption | (go_simp; done)) (by first | assumption | (go_simp; done))
  have hl2_2 : w1.heap.size < w2.heap.size := by omega
  have k2_2_0 := below_cell hb2 (p := ⟨w1.heap.size, 0, none⟩) (v := .bool na) (by first | assumption | (go_simp; done))
  have k2_2_0z := below_frozen hb2 (p := ⟨w1.heap.size, 0, none⟩) (v := .bool na) (by first | assumption | (go_simp; done)) (by first | assumption | (go_simp; done))
  have k2_2_1 := below_cell hb2 (p := ⟨w1.heap.size, 1, none⟩) (v := .int .u64 (Ma : Int)) (by first | assumption | (go_simp; done))
  have k2_2_1z := below_frozen hb2 (p := ⟨w1.heap.size, 1, none⟩) (v := .int .u64 (Ma : Int)) (by first | assumption | (go_simp; done)) (by first | assumption | (go_simp; done))
  have k2_2_2 := below_cell hb2 (p := ⟨w1.heap.size, 2, none⟩) (v := .int .i64 Ea) (by first | assumption | (go_simp; done))
  have k2_2_2z := below_frozen hb2 (p := ⟨w1.heap.size, 2, none⟩) (v := .int .i64 Ea) (by first | assumption | (go_simp; done)) (by first | assumption | (go_simp; done))
  go_wp2_with fail
  clear hb1 hb2 Ha Hb
  go_region
  go_wp2
  exact bodyPost_ret (v := .tuple #[.agg #[.bool na, .int .u64 (Ma : Int), .int .i64 Ea], .agg #[.bool nb, .int .u64 (Mb : Int), .int .i64 Eb], .bool false]) (by simp [results, Try.results97, go_sem, *]) rfl ⟨rfl, (by repeat (first | (with_reducible assumption) | (with_reducible exact Below.refl _ _) | ((with_reducible refine Below.alloc ?_ ?_ _); rotate_left; exact (by first | omega | (simp; done) | (simp; omega))) | ((with_reducible refine Below.setCell ?_ ?_ _); rotate_left; exact (by first | omega | (simp; done) | (simp; omega))) | (with_reducible refine Below.drew ?_)))⟩

theorem both_no3 (a b Ma Mb : Nat) (Ea Eb : Int) (na nb : Bool) (w : World)
    (ha : ∀ w, Calls Try.prog 122 #[.float .f64 a] w fun e w' => e = .returned (.tuple #[.agg #[.bool na, .int .u64 (Ma : Int), .int .i64 Ea], .bool false]) ∧ Below w.heap.size w w')
    (hb : ∀ w, Calls Try.prog 122 #[.float .f64 b] w fun e w' => e = .returned (.tuple #[.agg #[.bool nb, .int .u64 (Mb : Int), .int .i64 Eb], .bool false]) ∧ Below w.heap.size w w') :
    Calls Try.prog 97 #[.float .f64 a, .float .f64 b] w fun e w' => e = .returned (.tuple #[.agg #[.bool na, .int .u64 (Ma : Int), .int .i64 Ea], .agg #[.bool nb, .int .u64 (Mb : Int), .int .i64 Eb], .bool false]) ∧ Below w.heap.size w w' := by
  have Ha := Lib.hid ha
  have Hb := Lib.hid hb
  clear ha hb
  go_enter Try.func97, Try.ntmps97
  go_wp2_with fail
  refine Calls.mono (Ha.out _) ?_
  rintro e w1 ⟨rfl, hb1⟩
  have hw1 : Below w.heap.size w w1 := Below.trans (by repeat (first | (with_reducible assumption) | (with_reducible exact Below.refl _ _) | ((with_reducible refine Below.alloc ?_ ?_ _); rotate_left; exact (by first | omega | (simp; done) | (simp; omega))) | ((with_reducible refine Below.setCell ?_ ?_ _); rotate_left; exact (by first | omega | (simp; done) | (simp; omega))) | (with_reducible refine Below.drew ?_))) (hb1.mono (by first | omega | (simp; done) | (simp; omega)))
  have hs1 := hb1.size
  try simp at hs1
  have hl1_0 : w.heap.size < w1.heap.size := by omega
  have k1_0_0 := below_cell hb1 (p := ⟨w.heap.size, 0, none⟩) (v := .bool false) (by first | assumption | (go_simp; done))
  have k1_0_0z := below_frozen hb1 (p := ⟨w.heap.size, 0, none⟩) (v := .bool false) (by first | assumption | (go_simp; done)) (by first | assumption | (go_simp; done))
  have k1_0_1 := below_cell hb1 (p := ⟨w.heap.size, 1, none⟩) (v := .int .u64 0) (by first | assumption | (go_simp; done))
  have k1_0_1z := below_frozen hb1 (p := ⟨w.heap.size, 1, none⟩) (v := .int .u64 0) (by first | assumption | (go_simp; done)) (by first | assumption | (go_simp; done))
  have k1_0_2 := below_cell hb1 (p := ⟨w.heap.size, 2, none⟩) (v := .int .i64 0) (by first | assumption | (go_simp; done))
  have k1_0_2z := below_frozen hb1 (p := ⟨w.heap.size, 2, none⟩) (v := .int .i64 0) (by first | assumption | (go_simp; done)) (by first | assumption | (go_simp; done))
  have hl1_1 : w.heap.size + 1 < w1.heap.size := by omega
  have k1_1_0 := below_cell hb1 (p := ⟨w.heap.size + 1, 0, none⟩) (v := .bool false) (by first | assumption | (go_simp; done))
  have k1_1_0z := below_frozen hb1 (p := ⟨w.heap.size + 1, 0, none⟩) (v := .bool false) (by first | assumption | (go_simp; done)) (by first | assumption | (go_simp; done))
  have k1_1_1 := below_cell hb1 (p := ⟨w.heap.size + 1, 1, none⟩) (v := .int .u64 0) (by first | assumption | (go_simp; done))
  have k1_1_1z := below_frozen hb1 (p := ⟨w.heap.size + 1, 1, none⟩) (v := .int .u64 0) (by first | assumption | (go_simp; done)) (by first | assumption | (go_simp; done))
  have k1_1_2 := below_cell hb1 (p := ⟨w.heap.size + 1, 2, none⟩) (v := .int .i64 0) (by first | assumption | (go_simp; done))
  have k1_1_2z := below_frozen hb1 (p := ⟨w.heap.size + 1, 2, none⟩) (v := .int .i64 0) (by first | assumption | (go_simp; done)) (by first | assumption | (go_simp; done))
  go_wp2_with fail
  refine Calls.mono (Hb.out _) ?_
  rintro e w2 ⟨rfl, hb2⟩
  have hw2 : Below w.heap.size w w2 := Below.trans (by repeat (first | (with_reducible assumption) | (with_reducible exact Below.refl _ _) | ((with_reducible refine Below.alloc ?_ ?_ _); rotate_left; exact (by first | omega | (simp; done) | (simp; omega))) | ((with_reducible refine Below.setCell ?_ ?_ _); rotate_left; exact (by first | omega | (simp; done) | (simp; omega))) | (with_reducible refine Below.drew ?_))) (hb2.mono (by first | omega | (simp; done) | (simp; omega)))
  have hs2 := hb2.size
  try simp at hs2
  have hl2_0 : w.heap.size < w2.heap.size := by omega
  have k2_0_0 := below_cell hb2 (p := ⟨w.heap.size, 0, none⟩) (v := .bool false) (by first | assumption | (go_simp; done))
  have k2_0_0z := below_frozen hb2 (p := ⟨w.heap.size, 0, none⟩) (v := .bool false) (by first | assumption | (go_simp; done)) (by first | assumption | (go_simp; done))
  have k2_0_1 := below_cell hb2 (p := ⟨w.heap.size, 1, none⟩) (v := .int .u64 0) (by first | assumption | (go_simp; done))
  have k2_0_1z := below_frozen hb2 (p := ⟨w.heap.size, 1, none⟩) (v := .int .u64 0) (by first | assumption | (go_simp; done)) (by first | assumption | (go_simp; done))
  have k2_0_2 := below_cell hb2 (p := ⟨w.heap.size, 2, none⟩) (v := .int .i64 0) (by first | assumption | (go_simp; done))
  have k2_0_2z := below_frozen hb2 (p := ⟨w.heap.size, 2, none⟩) (v := .int .i64 0) (by first | assumption | (go_simp; done)) (by first | assumption | (go_simp; done))
  have hl2_1 : w.heap.size + 1 < w2.heap.size := by omega
  have k2_1_0 := below_cell hb2 (p := ⟨w.heap.size + 1, 0, none⟩) (v := .bool false) (by first | assumption | (go_simp; done))
  have k2_1_0z := below_frozen hb2 (p := ⟨w.heap.size + 1, 0, none⟩) (v := .bool false) (by first | assumption | (go_simp; done)) (by first | assumption | (go_simp; done))
  have k2_1_1 := below_cell hb2 (p := ⟨w.heap.size + 1, 1, none⟩) (v := .int .u64 0) (by first | assumption | (go_simp; done))
  have k2_1_1z := below_frozen hb2 (p := ⟨w.heap.size + 1, 1, none⟩) (v := .int .u64 0) (by first | assumption | (go_simp; done)) (by first | assumption | (go_simp; done))
  have k2_1_2 := below_cell hb2 (p := ⟨w.heap.size + 1, 2, none⟩) (v := .int .i64 0) (by first | assumption | (go_simp; done))
  have k2_1_2z := below_frozen hb2 (p := ⟨w.heap.size + 1, 2, none⟩) (v := .int .i64 0) (by first | assumption | (go_simp; done)) (by first | assumption | (go_simp; done))
  have hl2_2 : w1.heap.size < w2.heap.size := by omega
  have k2_2_0 := below_cell hb2 (p := ⟨w1.heap.size, 0, none⟩) (v := .bool na) (by first | assumption | (go_simp; done))
  have k2_2_0z := below_frozen hb2 (p := ⟨w1.heap.size, 0, none⟩) (v := .bool na) (by first | assumption | (go_simp; done)) (by first | assumption | (go_simp; done))
  have k2_2_1 := below_cell hb2 (p := ⟨w1.heap.size, 1, none⟩) (v := .int .u64 (Ma : Int)) (by first | assumption | (go_simp; done))
  have k2_2_1z := below_frozen hb2 (p := ⟨w1.heap.size, 1, none⟩) (v := .int .u64 (Ma : Int)) (by first | assumption | (go_simp; done)) (by first | assumption | (go_simp; done))
  have k2_2_2 := below_cell hb2 (p := ⟨w1.heap.size, 2, none⟩) (v := .int .i64 Ea) (by first | assumption | (go_simp; done))
  have k2_2_2z := below_frozen hb2 (p := ⟨w1.heap.size, 2, none⟩) (v := .int .i64 Ea) (by first | assumption | (go_simp; done)) (by first | assumption | (go_simp; done))
  go_wp2_with fail
  clear hb1 hb2 Ha Hb
  go_region
  go_wp2
  exact bodyPost_ret (v := .tuple #[.agg #[.bool na, .int .u64 (Ma : Int), .int .i64 Ea], .agg #[.bool nb, .int .u64 (Mb : Int), .int .i64 Eb], .bool false]) (by simp [results, Try.results97, go_sem, *]) rfl ⟨rfl, (by repeat (first | (with_reducible assumption) | (with_reducible exact Below.refl _ _) | ((with_reducible refine Below.alloc ?_ ?_ _); rotate_left; exact (by first | omega | (simp; done) | (simp; omega))) | ((with_reducible refine Below.setCell ?_ ?_ _); rotate_left; exact (by first | omega | (simp; done) | (simp; omega))) | (with_reducible refine Below.drew ?_)))⟩

/-- ulp.both of two finite ones. -/
theorem both_fin {a b : Nat} (ha : finw a) (hb : finw b) (w : World) :
    Calls Try.prog 97 #[.float .f64 a, .float .f64 b] w fun e w' => e = .returned (.tuple #[.agg #[.bool (splN a), .int .u64 (splM a : Nat), .int .i64 (splE a)], .agg #[.bool (splN b), .int .u64 (splM b : Nat), .int .i64 (splE b)], .bool true]) ∧ Below w.heap.size w w' :=
  both_yes a b _ _ _ _ _ _ w (fun w => split_fin ha w) (fun w => split_fin hb w)
theorem both_bad {a b : Nat} (ha : word a) (hb : word b) (h : ¬ (finw a ∧ finw b)) :
    ∃ (na nb : Bool) (Ma Mb : Nat) (Ea Eb : Int), ∀ w, Calls Try.prog 97 #[.float .f64 a, .float .f64 b] w fun e w' => e = .returned (.tuple #[.agg #[.bool na, .int .u64 (Ma : Int), .int .i64 Ea], .agg #[.bool nb, .int .u64 (Mb : Int), .int .i64 Eb], .bool false]) ∧ Below w.heap.size w w' := by
  by_cases h1 : finw a
  · have h2 : ¬ finw b := fun h2 => h ⟨h1, h2⟩
    exact ⟨_, false, _, 0, _, 0, fun w => both_no2 a b _ 0 _ 0 _ false w (fun w => split_fin h1 w) (fun w => split_bad hb h2 w)⟩
  · by_cases h2 : finw b
    · exact ⟨false, _, 0, _, 0, _, fun w => both_no1 a b 0 _ 0 _ false _ w (fun w => split_bad ha h1 w) (fun w => split_fin h2 w)⟩
    · exact ⟨false, false, 0, 0, 0, 0, fun w => both_no3 a b 0 0 0 0 false false w (fun w => split_bad ha h1 w) (fun w => split_bad hb h2 w)⟩

end Go.Proofs.Ytonidoghcihnnaa
