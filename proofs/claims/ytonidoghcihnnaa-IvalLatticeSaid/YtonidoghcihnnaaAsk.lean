/- The walks of ival's Has and Inside. -/
import Derived.Test.YtonidoghcihnnaaNone2
namespace Go.Proofs.Ytonidoghcihnnaa
open Go.RowKit
set_option maxRecDepth 100000
set_option maxHeartbeats 1000000
set_option linter.unusedSimpArgs false
set_option linter.unusedVariables false

/-- Does an interval hold a number? -/
@[irreducible] def hasB (a b v : Nat) : Bool := !noneB a b && fle a v && fle v b && !flt 9218868437227405311 (absw v)

theorem has_ways (a b v : Nat) (w : World) (n p q r : Bool) (hn : noneB a b = n) (hp : fle a v = p) (hq : fle v b = q) (hr : (!n && p && q && !flt 9218868437227405311 (absw v)) = r) :
    Calls Try.prog 41 #[(.agg #[.float .f64 a, .float .f64 b]), .float .f64 v] w fun e w' => e = .returned (.bool r) ∧ Below w.heap.size w w' := by
  have N : Hid (∀ (k : Nat) (w : World), w.cell? ⟨k, 0, none⟩ = some (.float .f64 a) → w.cell? ⟨k, 1, none⟩ = some (.float .f64 b) → Calls Try.prog 53 #[.slice (some ⟨k, 0, none⟩) 1 1] w fun e w' => e = .returned (.bool n) ∧ Below w.heap.size w w') := fun k w c0 c1 => hn ▸ none1_any a b k w c0 c1
  have HR := Lib.hid hr
  clear hn hr
  have HP := Lib.hid hp
  have HQ := Lib.hid hq
  clear hp hq
  cases n with
  | true =>
    have hp := HP.out
    have hq := HQ.out
    go_enter Try.func41, Try.ntmps41
    go_wp2_with (first | (go_at_call 53; refine Calls.mono (N.out _ _ (by go_simp) (by go_simp)) ?_; rintro e w1 ⟨rfl, hb1⟩; have k0 := below_cell hb1 (p := ⟨w.heap.size, 0, none⟩) (v := .float .f64 a) (by go_simp); have k1 := below_cell hb1 (p := ⟨w.heap.size, 1, none⟩) (v := .float .f64 b) (by go_simp)) | (go_at_call 81; refine (isInf_any _ _).mono ?_; rintro e wz ⟨rfl, hwz⟩; subst hwz))
    go_ret
    exact ⟨by rw [← HR.out]; rfl, Below.trans (by repeat (first | (with_reducible assumption) | (with_reducible exact Below.refl _ _) | ((with_reducible refine Below.alloc ?_ ?_ _); rotate_left; exact (by first | omega | (simp; done) | (simp; omega))) | ((with_reducible refine Below.setCell ?_ ?_ _); rotate_left; exact (by first | omega | (simp; done) | (simp; omega))) | (with_reducible refine Below.drew ?_))) (hb1.mono (by simp; omega))⟩
  | false =>
    cases p with
    | false =>
      have hp := HP.out
      have hq := HQ.out
      go_enter Try.func41, Try.ntmps41
      go_wp2_with (first | (go_at_call 53; refine Calls.mono (N.out _ _ (by go_simp) (by go_simp)) ?_; rintro e w1 ⟨rfl, hb1⟩; have k0 := below_cell hb1 (p := ⟨w.heap.size, 0, none⟩) (v := .float .f64 a) (by go_simp); have k1 := below_cell hb1 (p := ⟨w.heap.size, 1, none⟩) (v := .float .f64 b) (by go_simp)) | (go_at_call 81; refine (isInf_any _ _).mono ?_; rintro e wz ⟨rfl, hwz⟩; subst hwz))
      go_ret
      exact ⟨by rw [← HR.out]; rfl, Below.trans (by repeat (first | (with_reducible assumption) | (with_reducible exact Below.refl _ _) | ((with_reducible refine Below.alloc ?_ ?_ _); rotate_left; exact (by first | omega | (simp; done) | (simp; omega))) | ((with_reducible refine Below.setCell ?_ ?_ _); rotate_left; exact (by first | omega | (simp; done) | (simp; omega))) | (with_reducible refine Below.drew ?_))) (hb1.mono (by simp; omega))⟩
    | true =>
      cases q with
      | false =>
        have hp := HP.out
        have hq := HQ.out
        go_enter Try.func41, Try.ntmps41
        go_wp2_with (first | (go_at_call 53; refine Calls.mono (N.out _ _ (by go_simp) (by go_simp)) ?_; rintro e w1 ⟨rfl, hb1⟩; have k0 := below_cell hb1 (p := ⟨w.heap.size, 0, none⟩) (v := .float .f64 a) (by go_simp); have k1 := below_cell hb1 (p := ⟨w.heap.size, 1, none⟩) (v := .float .f64 b) (by go_simp)) | (go_at_call 81; refine (isInf_any _ _).mono ?_; rintro e wz ⟨rfl, hwz⟩; subst hwz))
        go_ret
        exact ⟨by rw [← HR.out]; rfl, Below.trans (by repeat (first | (with_reducible assumption) | (with_reducible exact Below.refl _ _) | ((with_reducible refine Below.alloc ?_ ?_ _); rotate_left; exact (by first | omega | (simp; done) | (simp; omega))) | ((with_reducible refine Below.setCell ?_ ?_ _); rotate_left; exact (by first | omega | (simp; done) | (simp; omega))) | (with_reducible refine Below.drew ?_))) (hb1.mono (by simp; omega))⟩
      | true =>
        have hp := HP.out
        have hq := HQ.out
        go_enter Try.func41, Try.ntmps41
        go_wp2_with (first | (go_at_call 53; refine Calls.mono (N.out _ _ (by go_simp) (by go_simp)) ?_; rintro e w1 ⟨rfl, hb1⟩; have k0 := below_cell hb1 (p := ⟨w.heap.size, 0, none⟩) (v := .float .f64 a) (by go_simp); have k1 := below_cell hb1 (p := ⟨w.heap.size, 1, none⟩) (v := .float .f64 b) (by go_simp)) | (go_at_call 81; refine (isInf_any _ _).mono ?_; rintro e wz ⟨rfl, hwz⟩; subst hwz))
        go_ret
        exact ⟨by rw [← HR.out]; rfl, Below.trans (by repeat (first | (with_reducible assumption) | (with_reducible exact Below.refl _ _) | ((with_reducible refine Below.alloc ?_ ?_ _); rotate_left; exact (by first | omega | (simp; done) | (simp; omega))) | ((with_reducible refine Below.setCell ?_ ?_ _); rotate_left; exact (by first | omega | (simp; done) | (simp; omega))) | (with_reducible refine Below.drew ?_))) (hb1.mono (by simp; omega))⟩

theorem has_any (a b v : Nat) (w : World) : Calls Try.prog 41 #[(.agg #[.float .f64 a, .float .f64 b]), .float .f64 v] w fun e w' => e = .returned (.bool (hasB a b v)) ∧ Below w.heap.size w w' := by
  unfold hasB
  exact has_ways a b v w _ _ _ _ rfl rfl rfl rfl

/-- Does one interval lie in another one? -/
@[irreducible] def insideB (a b c d : Nat) : Bool := noneB a b || (!noneB c d && fle c a && fle b d)

theorem inside_ways (a b c d : Nat) (w : World) (n m p q r : Bool) (hn : noneB a b = n) (hm : noneB c d = m) (hp : fle c a = p) (hq : fle b d = q) (hr : (n || (!m && p && q)) = r) :
    Calls Try.prog 40 #[(.agg #[.float .f64 a, .float .f64 b]), (.agg #[.float .f64 c, .float .f64 d])] w fun e w' => e = .returned (.bool r) ∧ Below w.heap.size w w' := by
  have N : Hid (∀ (k : Nat) (w : World), w.cell? ⟨k, 0, none⟩ = some (.float .f64 a) → w.cell? ⟨k, 1, none⟩ = some (.float .f64 b) → Calls Try.prog 53 #[.slice (some ⟨k, 0, none⟩) 1 1] w fun e w' => e = .returned (.bool n) ∧ Below w.heap.size w w') := fun k w c0 c1 => hn ▸ none1_any a b k w c0 c1
  have M : Hid (∀ (k : Nat) (w : World), w.cell? ⟨k, 0, none⟩ = some (.float .f64 c) → w.cell? ⟨k, 1, none⟩ = some (.float .f64 d) → Calls Try.prog 53 #[.slice (some ⟨k, 0, none⟩) 1 1] w fun e w' => e = .returned (.bool m) ∧ Below w.heap.size w w') := fun k w c0 c1 => hm ▸ none1_any c d k w c0 c1
  have HR := Lib.hid hr
  clear hn hm hr
  have HP := Lib.hid hp
  have HQ := Lib.hid hq
  clear hp hq
  cases n with
  | true =>
    go_enter Try.func40, Try.ntmps40
    go_wp2_with fail
    refine Calls.mono (N.out _ _ (by go_simp) (by go_simp)) ?_
    rintro e w1 ⟨rfl, hb1⟩
    have hw1 : Below w.heap.size w w1 := Below.trans (by repeat (first | (with_reducible assumption) | (with_reducible exact Below.refl _ _) | ((with_reducible refine Below.alloc ?_ ?_ _); rotate_left; exact (by first | omega | (simp; done) | (simp; omega))) | ((with_reducible refine Below.setCell ?_ ?_ _); rotate_left; exact (by first | omega | (simp; done) | (simp; omega))) | (with_reducible refine Below.drew ?_))) (hb1.mono (by first | omega | (simp; done) | (simp; omega)))
    have hs1 := hb1.size
    try simp at hs1
    have hl1_0 : w.heap.size < w1.heap.size := by omega
    have k1_0_0 := below_cell hb1 (p := ⟨w.heap.size, 0, none⟩) (v := .float .f64 a) (by first | assumption | (go_simp; done))
    have k1_0_0z := below_frozen hb1 (p := ⟨w.heap.size, 0, none⟩) (v := .float .f64 a) (by first | assumption | (go_simp; done)) (by first | assumption | (go_simp; done))
    have k1_0_1 := below_cell hb1 (p := ⟨w.heap.size, 1, none⟩) (v := .float .f64 b) (by first | assumption | (go_simp; done))
    have k1_0_1z := below_frozen hb1 (p := ⟨w.heap.size, 1, none⟩) (v := .float .f64 b) (by first | assumption | (go_simp; done)) (by first | assumption | (go_simp; done))
    have hl1_1 : w.heap.size + 1 < w1.heap.size := by omega
    have k1_1_0 := below_cell hb1 (p := ⟨w.heap.size + 1, 0, none⟩) (v := .float .f64 c) (by first | assumption | (go_simp; done))
    have k1_1_0z := below_frozen hb1 (p := ⟨w.heap.size + 1, 0, none⟩) (v := .float .f64 c) (by first | assumption | (go_simp; done)) (by first | assumption | (go_simp; done))
    have k1_1_1 := below_cell hb1 (p := ⟨w.heap.size + 1, 1, none⟩) (v := .float .f64 d) (by first | assumption | (go_simp; done))
    have k1_1_1z := below_frozen hb1 (p := ⟨w.heap.size + 1, 1, none⟩) (v := .float .f64 d) (by first | assumption | (go_simp; done)) (by first | assumption | (go_simp; done))
    clear hb1
    go_wp2
    go_ret
    exact ⟨by rw [← HR.out]; rfl, (by repeat (first | (with_reducible assumption) | (with_reducible exact Below.refl _ _) | ((with_reducible refine Below.alloc ?_ ?_ _); rotate_left; exact (by first | omega | (simp; done) | (simp; omega))) | ((with_reducible refine Below.setCell ?_ ?_ _); rotate_left; exact (by first | omega | (simp; done) | (simp; omega))) | (with_reducible refine Below.drew ?_)))⟩
  | false =>
    cases m with
    | true =>
      go_enter Try.func40, Try.ntmps40
      go_wp2_with fail
      refine Calls.mono (N.out _ _ (by go_simp) (by go_simp)) ?_
      rintro e w1 ⟨rfl, hb1⟩
      have hw1 : Below w.heap.size w w1 := Below.trans (by repeat (first | (with_reducible assumption) | (with_reducible exact Below.refl _ _) | ((with_reducible refine Below.alloc ?_ ?_ _); rotate_left; exact (by first | omega | (simp; done) | (simp; omega))) | ((with_reducible refine Below.setCell ?_ ?_ _); rotate_left; exact (by first | omega | (simp; done) | (simp; omega))) | (with_reducible refine Below.drew ?_))) (hb1.mono (by first | omega | (simp; done) | (simp; omega)))
      have hs1 := hb1.size
      try simp at hs1
      have hl1_0 : w.heap.size < w1.heap.size := by omega
      have k1_0_0 := below_cell hb1 (p := ⟨w.heap.size, 0, none⟩) (v := .float .f64 a) (by first | assumption | (go_simp; done))
      have k1_0_0z := below_frozen hb1 (p := ⟨w.heap.size, 0, none⟩) (v := .float .f64 a) (by first | assumption | (go_simp; done)) (by first | assumption | (go_simp; done))
      have k1_0_1 := below_cell hb1 (p := ⟨w.heap.size, 1, none⟩) (v := .float .f64 b) (by first | assumption | (go_simp; done))
      have k1_0_1z := below_frozen hb1 (p := ⟨w.heap.size, 1, none⟩) (v := .float .f64 b) (by first | assumption | (go_simp; done)) (by first | assumption | (go_simp; done))
      have hl1_1 : w.heap.size + 1 < w1.heap.size := by omega
      have k1_1_0 := below_cell hb1 (p := ⟨w.heap.size + 1, 0, none⟩) (v := .float .f64 c) (by first | assumption | (go_simp; done))
      have k1_1_0z := below_frozen hb1 (p := ⟨w.heap.size + 1, 0, none⟩) (v := .float .f64 c) (by first | assumption | (go_simp; done)) (by first | assumption | (go_simp; done))
      have k1_1_1 := below_cell hb1 (p := ⟨w.heap.size + 1, 1, none⟩) (v := .float .f64 d) (by first | assumption | (go_simp; done))
      have k1_1_1z := below_frozen hb1 (p := ⟨w.heap.size + 1, 1, none⟩) (v := .float .f64 d) (by first | assumption | (go_simp; done)) (by first | assumption | (go_simp; done))
      clear hb1
      go_wp2_with fail
      refine Calls.mono (M.out _ _ (by go_simp) (by go_simp)) ?_
      rintro e w2 ⟨rfl, hb2⟩
      have hw2 : Below w.heap.size w w2 := Below.trans (by repeat (first | (with_reducible assumption) | (with_reducible exact Below.refl _ _) | ((with_reducible refine Below.alloc ?_ ?_ _); rotate_left; exact (by first | omega | (simp; done) | (simp; omega))) | ((with_reducible refine Below.setCell ?_ ?_ _); rotate_left; exact (by first | omega | (simp; done) | (simp; omega))) | (with_reducible refine Below.drew ?_))) (hb2.mono (by first | omega | (simp; done) | (simp; omega)))
      have hs2 := hb2.size
      try simp at hs2
      have hl2_0 : w.heap.size < w2.heap.size := by omega
      have k2_0_0 := below_cell hb2 (p := ⟨w.heap.size, 0, none⟩) (v := .float .f64 a) (by first | assumption | (go_simp; done))
      have k2_0_0z := below_frozen hb2 (p := ⟨w.heap.size, 0, none⟩) (v := .float .f64 a) (by first | assumption | (go_simp; done)) (by first | assumption | (go_simp; done))
      have k2_0_1 := below_cell hb2 (p := ⟨w.heap.size, 1, none⟩) (v := .float .f64 b) (by first | assumption | (go_simp; done))
      have k2_0_1z := below_frozen hb2 (p := ⟨w.heap.size, 1, none⟩) (v := .float .f64 b) (by first | assumption | (go_simp; done)) (by first | assumption | (go_simp; done))
      have hl2_1 : w.heap.size + 1 < w2.heap.size := by omega
      have k2_1_0 := below_cell hb2 (p := ⟨w.heap.size + 1, 0, none⟩) (v := .float .f64 c) (by first | assumption | (go_simp; done))
      have k2_1_0z := below_frozen hb2 (p := ⟨w.heap.size + 1, 0, none⟩) (v := .float .f64 c) (by first | assumption | (go_simp; done)) (by first | assumption | (go_simp; done))
      have k2_1_1 := below_cell hb2 (p := ⟨w.heap.size + 1, 1, none⟩) (v := .float .f64 d) (by first | assumption | (go_simp; done))
      have k2_1_1z := below_frozen hb2 (p := ⟨w.heap.size + 1, 1, none⟩) (v := .float .f64 d) (by first | assumption | (go_simp; done)) (by first | assumption | (go_simp; done))
      clear hb2
      go_wp2
      go_ret
      exact ⟨by rw [← HR.out]; rfl, (by repeat (first | (with_reducible assumption) | (with_reducible exact Below.refl _ _) | ((with_reducible refine Below.alloc ?_ ?_ _); rotate_left; exact (by first | omega | (simp; done) | (simp; omega))) | ((with_reducible refine Below.setCell ?_ ?_ _); rotate_left; exact (by first | omega | (simp; done) | (simp; omega))) | (with_reducible refine Below.drew ?_)))⟩
    | false =>
      cases p with
      | false =>
        have hp := HP.out
        go_enter Try.func40, Try.ntmps40
        go_wp2_with fail
        refine Calls.mono (N.out _ _ (by go_simp) (by go_simp)) ?_
        rintro e w1 ⟨rfl, hb1⟩
        have hw1 : Below w.heap.size w w1 := Below.trans (by repeat (first | (with_reducible assumption) | (with_reducible exact Below.refl _ _) | ((with_reducible refine Below.alloc ?_ ?_ _); rotate_left; exact (by first | omega | (simp; done) | (simp; omega))) | ((with_reducible refine Below.setCell ?_ ?_ _); rotate_left; exact (by first | omega | (simp; done) | (simp; omega))) | (with_reducible refine Below.drew ?_))) (hb1.mono (by first | omega | (simp; done) | (simp; omega)))
        have hs1 := hb1.size
        try simp at hs1
        have hl1_0 : w.heap.size < w1.heap.size := by omega
        have k1_0_0 := below_cell hb1 (p := ⟨w.heap.size, 0, none⟩) (v := .float .f64 a) (by first | assumption | (go_simp; done))
        have k1_0_0z := below_frozen hb1 (p := ⟨w.heap.size, 0, none⟩) (v := .float .f64 a) (by first | assumption | (go_simp; done)) (by first | assumption | (go_simp; done))
        have k1_0_1 := below_cell hb1 (p := ⟨w.heap.size, 1, none⟩) (v := .float .f64 b) (by first | assumption | (go_simp; done))
        have k1_0_1z := below_frozen hb1 (p := ⟨w.heap.size, 1, none⟩) (v := .float .f64 b) (by first | assumption | (go_simp; done)) (by first | assumption | (go_simp; done))
        have hl1_1 : w.heap.size + 1 < w1.heap.size := by omega
        have k1_1_0 := below_cell hb1 (p := ⟨w.heap.size + 1, 0, none⟩) (v := .float .f64 c) (by first | assumption | (go_simp; done))
        have k1_1_0z := below_frozen hb1 (p := ⟨w.heap.size + 1, 0, none⟩) (v := .float .f64 c) (by first | assumption | (go_simp; done)) (by first | assumption | (go_simp; done))
        have k1_1_1 := below_cell hb1 (p := ⟨w.heap.size + 1, 1, none⟩) (v := .float .f64 d) (by first | assumption | (go_simp; done))
        have k1_1_1z := below_frozen hb1 (p := ⟨w.heap.size + 1, 1, none⟩) (v := .float .f64 d) (by first | assumption | (go_simp; done)) (by first | assumption | (go_simp; done))
        clear hb1
        go_wp2_with fail
        refine Calls.mono (M.out _ _ (by go_simp) (by go_simp)) ?_
        rintro e w2 ⟨rfl, hb2⟩
        have hw2 : Below w.heap.size w w2 := Below.trans (by repeat (first | (with_reducible assumption) | (with_reducible exact Below.refl _ _) | ((with_reducible refine Below.alloc ?_ ?_ _); rotate_left; exact (by first | omega | (simp; done) | (simp; omega))) | ((with_reducible refine Below.setCell ?_ ?_ _); rotate_left; exact (by first | omega | (simp; done) | (simp; omega))) | (with_reducible refine Below.drew ?_))) (hb2.mono (by first | omega | (simp; done) | (simp; omega)))
        have hs2 := hb2.size
        try simp at hs2
        have hl2_0 : w.heap.size < w2.heap.size := by omega
        have k2_0_0 := below_cell hb2 (p := ⟨w.heap.size, 0, none⟩) (v := .float .f64 a) (by first | assumption | (go_simp; done))
        have k2_0_0z := below_frozen hb2 (p := ⟨w.heap.size, 0, none⟩) (v := .float .f64 a) (by first | assumption | (go_simp; done)) (by first | assumption | (go_simp; done))
        have k2_0_1 := below_cell hb2 (p := ⟨w.heap.size, 1, none⟩) (v := .float .f64 b) (by first | assumption | (go_simp; done))
        have k2_0_1z := below_frozen hb2 (p := ⟨w.heap.size, 1, none⟩) (v := .float .f64 b) (by first | assumption | (go_simp; done)) (by first | assumption | (go_simp; done))
        have hl2_1 : w.heap.size + 1 < w2.heap.size := by omega
        have k2_1_0 := below_cell hb2 (p := ⟨w.heap.size + 1, 0, none⟩) (v := .float .f64 c) (by first | assumption | (go_simp; done))
        have k2_1_0z := below_frozen hb2 (p := ⟨w.heap.size + 1, 0, none⟩) (v := .float .f64 c) (by first | assumption | (go_simp; done)) (by first | assumption | (go_simp; done))
        have k2_1_1 := below_cell hb2 (p := ⟨w.heap.size + 1, 1, none⟩) (v := .float .f64 d) (by first | assumption | (go_simp; done))
        have k2_1_1z := below_frozen hb2 (p := ⟨w.heap.size + 1, 1, none⟩) (v := .float .f64 d) (by first | assumption | (go_simp; done)) (by first | assumption | (go_simp; done))
        clear hb2
        go_wp2
        go_ret
        exact ⟨by rw [← HR.out]; rfl, (by repeat (first | (with_reducible assumption) | (with_reducible exact Below.refl _ _) | ((with_reducible refine Below.alloc ?_ ?_ _); rotate_left; exact (by first | omega | (simp; done) | (simp; omega))) | ((with_reducible refine Below.setCell ?_ ?_ _); rotate_left; exact (by first | omega | (simp; done) | (simp; omega))) | (with_reducible refine Below.drew ?_)))⟩
      | true =>
        have hp := HP.out
        have hq := HQ.out
        go_enter Try.func40, Try.ntmps40
        go_wp2_with fail
        refine Calls.mono (N.out _ _ (by go_simp) (by go_simp)) ?_
        rintro e w1 ⟨rfl, hb1⟩
        have hw1 : Below w.heap.size w w1 := Below.trans (by repeat (first | (with_reducible assumption) | (with_reducible exact Below.refl _ _) | ((with_reducible refine Below.alloc ?_ ?_ _); rotate_left; exact (by first | omega | (simp; done) | (simp; omega))) | ((with_reducible refine Below.setCell ?_ ?_ _); rotate_left; exact (by first | omega | (simp; done) | (simp; omega))) | (with_reducible refine Below.drew ?_))) (hb1.mono (by first | omega | (simp; done) | (simp; omega)))
        have hs1 := hb1.size
        try simp at hs1
        have hl1_0 : w.heap.size < w1.heap.size := by omega
        have k1_0_0 := below_cell hb1 (p := ⟨w.heap.size, 0, none⟩) (v := .float .f64 a) (by first | assumption | (go_simp; done))
        have k1_0_0z := below_frozen hb1 (p := ⟨w.heap.size, 0, none⟩) (v := .float .f64 a) (by first | assumption | (go_simp; done)) (by first | assumption | (go_simp; done))
        have k1_0_1 := below_cell hb1 (p := ⟨w.heap.size, 1, none⟩) (v := .float .f64 b) (by first | assumption | (go_simp; done))
        have k1_0_1z := below_frozen hb1 (p := ⟨w.heap.size, 1, none⟩) (v := .float .f64 b) (by first | assumption | (go_simp; done)) (by first | assumption | (go_simp; done))
        have hl1_1 : w.heap.size + 1 < w1.heap.size := by omega
        have k1_1_0 := below_cell hb1 (p := ⟨w.heap.size + 1, 0, none⟩) (v := .float .f64 c) (by first | assumption | (go_simp; done))
        have k1_1_0z := below_frozen hb1 (p := ⟨w.heap.size + 1, 0, none⟩) (v := .float .f64 c) (by first | assumption | (go_simp; done)) (by first | assumption | (go_simp; done))
        have k1_1_1 := below_cell hb1 (p := ⟨w.heap.size + 1, 1, none⟩) (v := .float .f64 d) (by first | assumption | (go_simp; done))
        have k1_1_1z := below_frozen hb1 (p := ⟨w.heap.size + 1, 1, none⟩) (v := .float .f64 d) (by first | assumption | (go_simp; done)) (by first | assumption | (go_simp; done))
        clear hb1
        go_wp2_with fail
        refine Calls.mono (M.out _ _ (by go_simp) (by go_simp)) ?_
        rintro e w2 ⟨rfl, hb2⟩
        have hw2 : Below w.heap.size w w2 := Below.trans (by repeat (first | (with_reducible assumption) | (with_reducible exact Below.refl _ _) | ((with_reducible refine Below.alloc ?_ ?_ _); rotate_left; exact (by first | omega | (simp; done) | (simp; omega))) | ((with_reducible refine Below.setCell ?_ ?_ _); rotate_left; exact (by first | omega | (simp; done) | (simp; omega))) | (with_reducible refine Below.drew ?_))) (hb2.mono (by first | omega | (simp; done) | (simp; omega)))
        have hs2 := hb2.size
        try simp at hs2
        have hl2_0 : w.heap.size < w2.heap.size := by omega
        have k2_0_0 := below_cell hb2 (p := ⟨w.heap.size, 0, none⟩) (v := .float .f64 a) (by first | assumption | (go_simp; done))
        have k2_0_0z := below_frozen hb2 (p := ⟨w.heap.size, 0, none⟩) (v := .float .f64 a) (by first | assumption | (go_simp; done)) (by first | assumption | (go_simp; done))
        have k2_0_1 := below_cell hb2 (p := ⟨w.heap.size, 1, none⟩) (v := .float .f64 b) (by first | assumption | (go_simp; done))
        have k2_0_1z := below_frozen hb2 (p := ⟨w.heap.size, 1, none⟩) (v := .float .f64 b) (by first | assumption | (go_simp; done)) (by first | assumption | (go_simp; done))
        have hl2_1 : w.heap.size + 1 < w2.heap.size := by omega
        have k2_1_0 := below_cell hb2 (p := ⟨w.heap.size + 1, 0, none⟩) (v := .float .f64 c) (by first | assumption | (go_simp; done))
        have k2_1_0z := below_frozen hb2 (p := ⟨w.heap.size + 1, 0, none⟩) (v := .float .f64 c) (by first | assumption | (go_simp; done)) (by first | assumption | (go_simp; done))
        have k2_1_1 := below_cell hb2 (p := ⟨w.heap.size + 1, 1, none⟩) (v := .float .f64 d) (by first | assumption | (go_simp; done))
        have k2_1_1z := below_frozen hb2 (p := ⟨w.heap.size + 1, 1, none⟩) (v := .float .f64 d) (by first | assumption | (go_simp; done)) (by first | assumption | (go_simp; done))
        clear hb2
        go_wp2
        go_ret
        exact ⟨by rw [← HR.out]; rfl, (by repeat (first | (with_reducible assumption) | (with_reducible exact Below.refl _ _) | ((with_reducible refine Below.alloc ?_ ?_ _); rotate_left; exact (by first | omega | (simp; done) | (simp; omega))) | ((with_reducible refine Below.setCell ?_ ?_ _); rotate_left; exact (by first | omega | (simp; done) | (simp; omega))) | (with_reducible refine Below.drew ?_)))⟩

theorem inside_any (a b c d : Nat) (w : World) : Calls Try.prog 40 #[(.agg #[.float .f64 a, .float .f64 b]), (.agg #[.float .f64 c, .float .f64 d])] w fun e w' => e = .returned (.bool (insideB a b c d)) ∧ Below w.heap.size w w' := by
  unfold insideB
  exact inside_ways a b c d w _ _ _ _ _ rfl rfl rfl rfl rfl

end Go.Proofs.Ytonidoghcihnnaa
