/- The walks of intervals that are made, in the program and in the reference. -/
import Derived.Test.YtonidoghcihnnaaMake
import Derived.Test.YtonidoghcihnnaaPure
namespace Go.Proofs.Ytonidoghcihnnaa
open Go.RowKit
set_option maxRecDepth 100000
set_option maxHeartbeats 1000000

theorem make_any (a b : Nat) (w : World) (ha : word a) (hb : word b) (na : ¬ nan a) (nb : ¬ nan b) :
    Calls Try.prog 65 #[.float .f64 a, .float .f64 b] w fun e w' => e = .returned (.agg #[.float .f64 (makeLo (ix a) (ix b)), .float .f64 (makeHi (ix a) (ix b))]) ∧ Below w.heap.size w w' := by
  unfold makeLo makeHi
  by_cases h : rightB (wd (ix a)) (wd (ix b)) = true
  · rw [if_pos h, if_pos h]; exact make_yes a b w ha hb na nb h
  · rw [if_neg h, if_neg h]; exact make_no a b w ha hb na nb (by simpa using h)

theorem rempty_any (w : World) : Calls Try.prog 63 #[] w fun e w' => e = .returned (.agg #[.float .f64 9218868437227405312, .float .f64 18442240474082181120]) ∧ Below w.heap.size w w' := by
  go_enter Try.func63, Try.ntmps63
  go_wp2_with fail
  refine (rinf_pos _).mono ?_
  rintro e w1 ⟨rfl, rfl⟩
  go_wp2_with fail
  refine (rinf_neg _).mono ?_
  rintro e w1 ⟨rfl, rfl⟩
  go_wp2
  exact bodyPost_ret (v := (.agg #[.float .f64 9218868437227405312, .float .f64 18442240474082181120])) (by simp [results, Try.results63, go_sem]) rfl ⟨rfl, (by repeat (first | (with_reducible assumption) | (with_reducible exact Below.refl _ _) | ((with_reducible refine Below.alloc ?_ ?_ _); rotate_left; exact (by first | omega | (simp; done) | (simp; omega))) | ((with_reducible refine Below.setCell ?_ ?_ _); rotate_left; exact (by first | omega | (simp; done) | (simp; omega))) | (with_reducible refine Below.drew ?_)))⟩
theorem rwhole_any (w : World) : Calls Try.prog 78 #[] w fun e w' => e = .returned (.agg #[.float .f64 18442240474082181120, .float .f64 9218868437227405312]) ∧ Below w.heap.size w w' := by
  go_enter Try.func78, Try.ntmps78
  go_wp2_with fail
  refine (rinf_neg _).mono ?_
  rintro e w1 ⟨rfl, rfl⟩
  go_wp2_with fail
  refine (rinf_pos _).mono ?_
  rintro e w1 ⟨rfl, rfl⟩
  go_wp2
  exact bodyPost_ret (v := (.agg #[.float .f64 18442240474082181120, .float .f64 9218868437227405312])) (by simp [results, Try.results78, go_sem]) rfl ⟨rfl, (by repeat (first | (with_reducible assumption) | (with_reducible exact Below.refl _ _) | ((with_reducible refine Below.alloc ?_ ?_ _); rotate_left; exact (by first | omega | (simp; done) | (simp; omega))) | ((with_reducible refine Below.setCell ?_ ?_ _); rotate_left; exact (by first | omega | (simp; done) | (simp; omega))) | (with_reducible refine Below.drew ?_)))⟩
theorem whole_any (w : World) : Calls Try.prog 72 #[] w fun e w' => e = .returned (.agg #[.float .f64 18442240474082181120, .float .f64 9218868437227405312]) ∧ Below w.heap.size w w' := by
  go_enter Try.func72, Try.ntmps72
  go_wp2_with fail
  refine (inf_neg _).mono ?_
  rintro e w1 ⟨rfl, rfl⟩
  go_wp2_with fail
  refine (inf_pos _).mono ?_
  rintro e w1 ⟨rfl, rfl⟩
  go_wp2
  exact bodyPost_ret (v := (.agg #[.float .f64 18442240474082181120, .float .f64 9218868437227405312])) (by simp [results, Try.results72, go_sem]) rfl ⟨rfl, (by repeat (first | (with_reducible assumption) | (with_reducible exact Below.refl _ _) | ((with_reducible refine Below.alloc ?_ ?_ _); rotate_left; exact (by first | omega | (simp; done) | (simp; omega))) | ((with_reducible refine Below.setCell ?_ ?_ _); rotate_left; exact (by first | omega | (simp; done) | (simp; omega))) | (with_reducible refine Below.drew ?_)))⟩

theorem rmake_yes (a b : Nat) (w : World) (h : rightR (cleanW a) (cleanW b) = true) :
    Calls Try.prog 66 #[.float .f64 a, .float .f64 b] w fun e w' => e = .returned (.agg #[.float .f64 (cleanW a), .float .f64 (cleanW b)]) ∧ Below w.heap.size w w' := by
  go_enter Try.func66, Try.ntmps66
  go_wp2_with fail
  refine (zero_any _ _).mono ?_
  rintro e w1 ⟨rfl, hw⟩
  subst hw
  go_wp2_with fail
  refine (zero_any _ _).mono ?_
  rintro e w1 ⟨rfl, hw⟩
  subst hw
  go_wp2_with fail
  refine (rright_any _ _ _).mono ?_
  rintro e w1 ⟨rfl, hb1⟩
  have hw1 : Below w.heap.size w w1 := Below.trans (by repeat (first | (with_reducible assumption) | (with_reducible exact Below.refl _ _) | ((with_reducible refine Below.alloc ?_ ?_ _); rotate_left; exact (by first | omega | (simp; done) | (simp; omega))) | ((with_reducible refine Below.setCell ?_ ?_ _); rotate_left; exact (by first | omega | (simp; done) | (simp; omega))) | (with_reducible refine Below.drew ?_))) (hb1.mono (by first | omega | (simp; done) | (simp; omega)))
  have hs1 := hb1.size
  simp at hs1
  have k0 := below_cell hb1 (p := ⟨w.heap.size, 0, none⟩) (v := .float .f64 0) (by first | assumption | (go_simp; done))
  have k0z := below_frozen hb1 (p := ⟨w.heap.size, 0, none⟩) (v := .float .f64 0) (by first | assumption | (go_simp; done)) (by first | assumption | (go_simp; done))
  have k1 := below_cell hb1 (p := ⟨w.heap.size, 1, none⟩) (v := .float .f64 0) (by first | assumption | (go_simp; done))
  have k1z := below_frozen hb1 (p := ⟨w.heap.size, 1, none⟩) (v := .float .f64 0) (by first | assumption | (go_simp; done)) (by first | assumption | (go_simp; done))
  have l0 := below_cell hb1 (p := ⟨w.heap.size + 1, 0, none⟩) (v := .float .f64 (cleanW a)) (by first | assumption | (go_simp; done))
  have l0z := below_frozen hb1 (p := ⟨w.heap.size + 1, 0, none⟩) (v := .float .f64 (cleanW a)) (by first | assumption | (go_simp; done)) (by first | assumption | (go_simp; done))
  have l1 := below_cell hb1 (p := ⟨w.heap.size + 1, 1, none⟩) (v := .float .f64 (cleanW b)) (by first | assumption | (go_simp; done))
  have l1z := below_frozen hb1 (p := ⟨w.heap.size + 1, 1, none⟩) (v := .float .f64 (cleanW b)) (by first | assumption | (go_simp; done)) (by first | assumption | (go_simp; done))
  go_wp2
  exact bodyPost_ret (v := (.agg #[.float .f64 (cleanW a), .float .f64 (cleanW b)])) (by simp [results, Try.results66, go_sem, *]) rfl ⟨rfl, (by repeat (first | (with_reducible assumption) | (with_reducible exact Below.refl _ _) | ((with_reducible refine Below.alloc ?_ ?_ _); rotate_left; exact (by first | omega | (simp; done) | (simp; omega))) | ((with_reducible refine Below.setCell ?_ ?_ _); rotate_left; exact (by first | omega | (simp; done) | (simp; omega))) | (with_reducible refine Below.drew ?_)))⟩
theorem rmake_no (a b : Nat) (w : World) (h : rightR (cleanW a) (cleanW b) = false) :
    Calls Try.prog 66 #[.float .f64 a, .float .f64 b] w fun e w' => e = .returned (.agg #[.float .f64 9218868437227405312, .float .f64 18442240474082181120]) ∧ Below w.heap.size w w' := by
  go_enter Try.func66, Try.ntmps66
  go_wp2_with fail
  refine (zero_any _ _).mono ?_
  rintro e w1 ⟨rfl, hw⟩
  subst hw
  go_wp2_with fail
  refine (zero_any _ _).mono ?_
  rintro e w1 ⟨rfl, hw⟩
  subst hw
  go_wp2_with fail
  refine (rright_any _ _ _).mono ?_
  rintro e w1 ⟨rfl, hb1⟩
  have hw1 : Below w.heap.size w w1 := Below.trans (by repeat (first | (with_reducible assumption) | (with_reducible exact Below.refl _ _) | ((with_reducible refine Below.alloc ?_ ?_ _); rotate_left; exact (by first | omega | (simp; done) | (simp; omega))) | ((with_reducible refine Below.setCell ?_ ?_ _); rotate_left; exact (by first | omega | (simp; done) | (simp; omega))) | (with_reducible refine Below.drew ?_))) (hb1.mono (by first | omega | (simp; done) | (simp; omega)))
  have hs1 := hb1.size
  simp at hs1
  have k0 := below_cell hb1 (p := ⟨w.heap.size, 0, none⟩) (v := .float .f64 0) (by first | assumption | (go_simp; done))
  have k0z := below_frozen hb1 (p := ⟨w.heap.size, 0, none⟩) (v := .float .f64 0) (by first | assumption | (go_simp; done)) (by first | assumption | (go_simp; done))
  have k1 := below_cell hb1 (p := ⟨w.heap.size, 1, none⟩) (v := .float .f64 0) (by first | assumption | (go_simp; done))
  have k1z := below_frozen hb1 (p := ⟨w.heap.size, 1, none⟩) (v := .float .f64 0) (by first | assumption | (go_simp; done)) (by first | assumption | (go_simp; done))
  go_wp2_with fail
  refine (rempty_any _).mono ?_
  rintro e w2 ⟨rfl, hb2⟩
  have hw2 : Below w.heap.size w w2 := Below.trans hw1 (hb2.mono (by first | omega | (simp; done) | (simp; omega)))
  have m0 := below_cell hb2 (p := ⟨w.heap.size, 0, none⟩) (v := .float .f64 0) (by first | assumption | (go_simp; done))
  have m0z := below_frozen hb2 (p := ⟨w.heap.size, 0, none⟩) (v := .float .f64 0) (by first | assumption | (go_simp; done)) (by first | assumption | (go_simp; done))
  have m1 := below_cell hb2 (p := ⟨w.heap.size, 1, none⟩) (v := .float .f64 0) (by first | assumption | (go_simp; done))
  have m1z := below_frozen hb2 (p := ⟨w.heap.size, 1, none⟩) (v := .float .f64 0) (by first | assumption | (go_simp; done)) (by first | assumption | (go_simp; done))
  go_wp2
  exact bodyPost_ret (v := (.agg #[.float .f64 9218868437227405312, .float .f64 18442240474082181120])) (by simp [results, Try.results66, go_sem, *]) rfl ⟨rfl, (by repeat (first | (with_reducible assumption) | (with_reducible exact Below.refl _ _) | ((with_reducible refine Below.alloc ?_ ?_ _); rotate_left; exact (by first | omega | (simp; done) | (simp; omega))) | ((with_reducible refine Below.setCell ?_ ?_ _); rotate_left; exact (by first | omega | (simp; done) | (simp; omega))) | (with_reducible refine Below.drew ?_)))⟩
theorem rmake_any (a b : Nat) (w : World) (ha : word a) (hb : word b) (na : ¬ nan a) (nb : ¬ nan b) :
    Calls Try.prog 66 #[.float .f64 a, .float .f64 b] w fun e w' => e = .returned (.agg #[.float .f64 (makeLo (ix a) (ix b)), .float .f64 (makeHi (ix a) (ix b))]) ∧ Below w.heap.size w w' := by
  have p := nw_wd (num_abs ha na)
  have q := nw_wd (num_abs hb nb)
  unfold makeLo makeHi
  by_cases h : rightB (wd (ix a)) (wd (ix b)) = true
  · rw [if_pos h, if_pos h]
    have h2 := rmake_yes a b w (by rw [cleanW_num ha na, cleanW_num hb nb, right_eq p.1 q.1]; exact h)
    rw [cleanW_num ha na, cleanW_num hb nb] at h2
    exact h2
  · rw [if_neg h, if_neg h]
    exact rmake_no a b w (by rw [cleanW_num ha na, cleanW_num hb nb, right_eq p.1 q.1]; simpa using h)

/-- The lesser and the greater word. -/
@[irreducible] def minw (a b : Nat) : Nat := if ix b < ix a then b else a
@[irreducible] def maxw (a b : Nat) : Nat := if ix a < ix b then b else a
theorem minw_ix (a b : Nat) : ix (minw a b) = min (ix a) (ix b) := by unfold minw; split <;> omega
theorem maxw_ix (a b : Nat) : ix (maxw a b) = max (ix a) (ix b) := by unfold maxw; split <;> omega
theorem minw_nw {a b : Nat} (ha : nw a) (hb : nw b) : nw (minw a b) := by unfold minw; split <;> assumption
theorem maxw_nw {a b : Nat} (ha : nw a) (hb : nw b) : nw (maxw a b) := by unfold maxw; split <;> assumption
theorem nw_inj {a b : Nat} (ha : nw a) (hb : nw b) (h : ix a = ix b) : a = b := by rw [← nw_ix ha, ← nw_ix hb, h]

theorem run_fmin {P : Program} (ts : Array TypeId) (t : TypeId) {a b : Nat} (ha : nw a) (hb : nw b) (w : World) : (Builtin.min_ ts t #[.float .f64 a, .float .f64 b]).run P w = .ok (.float .f64 (minw a b)) w := by
  have h := order_num ha.1 hb.1 ha.2.1 hb.2.1
  have e : FloatKind.f64.format = Ieee.double := rfl
  unfold minw
  rcases Int.lt_trichotomy (ix a) (ix b) with g | g | g
  · rw [Int.compare_eq_lt.2 g] at h
    rw [if_neg (by omega)]
    simp [Builtin.min_, Builtin.min2, e, h]
  · rw [if_neg (by omega)]
    have hab := nw_inj ha hb g
    subst hab
    rw [show compare (ix a) (ix a) = .eq by simp] at h
    simp [Builtin.min_, Builtin.min2, e, h]
  · rw [Int.compare_eq_gt.2 g] at h
    rw [if_pos g]
    simp [Builtin.min_, Builtin.min2, e, h]
theorem run_fmax {P : Program} (ts : Array TypeId) (t : TypeId) {a b : Nat} (ha : nw a) (hb : nw b) (w : World) : (Builtin.max_ ts t #[.float .f64 a, .float .f64 b]).run P w = .ok (.float .f64 (maxw a b)) w := by
  have h := order_num ha.1 hb.1 ha.2.1 hb.2.1
  have e : FloatKind.f64.format = Ieee.double := rfl
  unfold maxw
  rcases Int.lt_trichotomy (ix a) (ix b) with g | g | g
  · rw [Int.compare_eq_lt.2 g] at h
    rw [if_pos g]
    simp [Builtin.max_, Builtin.max2, e, h]
  · rw [if_neg (by omega)]
    have hab := nw_inj ha hb g
    subst hab
    rw [show compare (ix a) (ix a) = .eq by simp] at h
    simp [Builtin.max_, Builtin.max2, e, h]
  · rw [Int.compare_eq_gt.2 g] at h
    rw [if_neg (by omega)]
    simp [Builtin.max_, Builtin.max2, e, h]

theorem LM_le : LM.natAbs ≤ INF := by rw [LM_eq, INF_eq]; decide
theorem nLM_le : (-LM).natAbs ≤ INF := by rw [LM_eq, INF_eq]; decide
theorem nw_MAX : nw 9218868437227405311 := by rw [← wd_LM]; exact nw_wd LM_le
theorem nw_nMAX : nw 18442240474082181119 := by rw [← wd_nLM]; exact nw_wd nLM_le
theorem ix_MAX : ix 9218868437227405311 = LM := by rw [← wd_LM]; exact ix_of LM_le
theorem ix_nMAX : ix 18442240474082181119 = -LM := by rw [← wd_nLM]; exact ix_of nLM_le

theorem ends_any (a b : Nat) (w : World) (ha : nw a) (hb : nw b) :
    Calls Try.prog 67 #[.float .f64 a, .float .f64 b] w fun e w' => e = .returned (.agg #[.float .f64 (makeLo (min (ix a) LM) (max (ix b) (-LM))), .float .f64 (makeHi (min (ix a) LM) (max (ix b) (-LM)))]) ∧ Below w.heap.size w w' := by
  have h1 := fun w => run_fmin (P := Try.prog) #[33, 33] 33 ha nw_MAX w
  have h2 := fun w => run_fmax (P := Try.prog) #[33, 33] 33 hb nw_nMAX w
  have g1 := minw_nw ha nw_MAX
  have g2 := maxw_nw hb nw_nMAX
  have hm := fun w => make_any _ _ w g1.1 g2.1 g1.2.1 g2.2.1
  rw [minw_ix, maxw_ix, ix_MAX, ix_nMAX] at hm
  go_enter Try.func67, Try.ntmps67
  go_wp2_with fail
  refine (hm _).mono ?_
  rintro e w1 ⟨rfl, hb1⟩
  have hw1 : Below w.heap.size w w1 := Below.trans (by repeat (first | (with_reducible assumption) | (with_reducible exact Below.refl _ _) | ((with_reducible refine Below.alloc ?_ ?_ _); rotate_left; exact (by first | omega | (simp; done) | (simp; omega))) | ((with_reducible refine Below.setCell ?_ ?_ _); rotate_left; exact (by first | omega | (simp; done) | (simp; omega))) | (with_reducible refine Below.drew ?_))) (hb1.mono (by first | omega | (simp; done) | (simp; omega)))
  have hs1 := hb1.size
  simp at hs1
  have k0 := below_cell hb1 (p := ⟨w.heap.size, 0, none⟩) (v := .float .f64 0) (by first | assumption | (go_simp; done))
  have k0z := below_frozen hb1 (p := ⟨w.heap.size, 0, none⟩) (v := .float .f64 0) (by first | assumption | (go_simp; done)) (by first | assumption | (go_simp; done))
  have k1 := below_cell hb1 (p := ⟨w.heap.size, 1, none⟩) (v := .float .f64 0) (by first | assumption | (go_simp; done))
  have k1z := below_frozen hb1 (p := ⟨w.heap.size, 1, none⟩) (v := .float .f64 0) (by first | assumption | (go_simp; done)) (by first | assumption | (go_simp; done))
  clear hm h1 h2
  go_wp2
  exact bodyPost_ret (v := (.agg #[.float .f64 (makeLo (min (ix a) LM) (max (ix b) (-LM))), .float .f64 (makeHi (min (ix a) LM) (max (ix b) (-LM)))])) (by simp [results, Try.results67, go_sem, *]) rfl ⟨rfl, (by repeat (first | (with_reducible assumption) | (with_reducible exact Below.refl _ _) | ((with_reducible refine Below.alloc ?_ ?_ _); rotate_left; exact (by first | omega | (simp; done) | (simp; omega))) | ((with_reducible refine Below.setCell ?_ ?_ _); rotate_left; exact (by first | omega | (simp; done) | (simp; omega))) | (with_reducible refine Below.drew ?_)))⟩

end Go.Proofs.Ytonidoghcihnnaa
