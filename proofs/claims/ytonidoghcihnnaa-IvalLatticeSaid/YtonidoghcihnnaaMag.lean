/- The walks of ival's Mag and Mig. -/
import Derived.Test.YtonidoghcihnnaaNone2
import Derived.Test.YtonidoghcihnnaaSplit
import Derived.Test.YtonidoghcihnnaaEnds
namespace Go.Proofs.Ytonidoghcihnnaa
open Go.RowKit
set_option maxRecDepth 100000
set_option maxHeartbeats 1000000
set_option linter.unusedSimpArgs false
set_option linter.unusedVariables false

theorem mag_walk0 (a b : Nat) (w : World) (h : noneB a b = true) : Calls Try.prog 19 #[(.agg #[.float .f64 a, .float .f64 b])] w fun e w' => e = .returned (.float .f64 0) ∧ Below w.heap.size w w' := by
  go_enter Try.func19, Try.ntmps19
  go_wp2_with fail
  refine Calls.mono (none1_any a b _ _ (by go_simp) (by go_simp)) ?_
  rintro e w1 ⟨rfl, hb1⟩
  have hw1 : Below w.heap.size w w1 := Below.trans (by repeat (first | (with_reducible assumption) | (with_reducible exact Below.refl _ _) | ((with_reducible refine Below.alloc ?_ ?_ _); rotate_left; exact (by first | omega | (simp; done) | (simp; omega))) | ((with_reducible refine Below.setCell ?_ ?_ _); rotate_left; exact (by first | omega | (simp; done) | (simp; omega))) | (with_reducible refine Below.drew ?_))) (hb1.mono (by first | omega | (simp; done) | (simp; omega)))
  have hs1 := hb1.size
  try simp at hs1
  have hl1_0 : w.heap.size < w1.heap.size := by omega
  have k1_0_0 := below_cell hb1 (p := ⟨w.heap.size, 0, none⟩) (v := .float .f64 a) (by first | assumption | (go_simp; done))
  have k1_0_0z := below_frozen hb1 (p := ⟨w.heap.size, 0, none⟩) (v := .float .f64 a) (by first | assumption | (go_simp; done)) (by first | assumption | (go_simp; done))
  have k1_0_1 := below_cell hb1 (p := ⟨w.heap.size, 1, none⟩) (v := .float .f64 b) (by first | assumption | (go_simp; done))
  have k1_0_1z := below_frozen hb1 (p := ⟨w.heap.size, 1, none⟩) (v := .float .f64 b) (by first | assumption | (go_simp; done)) (by first | assumption | (go_simp; done))
  clear hb1
  go_wp2
  go_ret
  exact ⟨rfl, (by repeat (first | (with_reducible assumption) | (with_reducible exact Below.refl _ _) | ((with_reducible refine Below.alloc ?_ ?_ _); rotate_left; exact (by first | omega | (simp; done) | (simp; omega))) | ((with_reducible refine Below.setCell ?_ ?_ _); rotate_left; exact (by first | omega | (simp; done) | (simp; omega))) | (with_reducible refine Below.drew ?_)))⟩
theorem mag_walk1 (a b r : Nat) (w : World) (h : noneB a b = false) (h1 : ∀ w, (Builtin.max_ #[33, 33] 33 #[.float .f64 (absw a), .float .f64 (absw b)]).run Try.prog w = .ok (.float .f64 r) w) :
    Calls Try.prog 19 #[(.agg #[.float .f64 a, .float .f64 b])] w fun e w' => e = .returned (.float .f64 r) ∧ Below w.heap.size w w' := by
  go_enter Try.func19, Try.ntmps19
  go_wp2_with fail
  refine Calls.mono (none1_any a b _ _ (by go_simp) (by go_simp)) ?_
  rintro e w1 ⟨rfl, hb1⟩
  have hw1 : Below w.heap.size w w1 := Below.trans (by repeat (first | (with_reducible assumption) | (with_reducible exact Below.refl _ _) | ((with_reducible refine Below.alloc ?_ ?_ _); rotate_left; exact (by first | omega | (simp; done) | (simp; omega))) | ((with_reducible refine Below.setCell ?_ ?_ _); rotate_left; exact (by first | omega | (simp; done) | (simp; omega))) | (with_reducible refine Below.drew ?_))) (hb1.mono (by first | omega | (simp; done) | (simp; omega)))
  have hs1 := hb1.size
  try simp at hs1
  have hl1_0 : w.heap.size < w1.heap.size := by omega
  have k1_0_0 := below_cell hb1 (p := ⟨w.heap.size, 0, none⟩) (v := .float .f64 a) (by first | assumption | (go_simp; done))
  have k1_0_0z := below_frozen hb1 (p := ⟨w.heap.size, 0, none⟩) (v := .float .f64 a) (by first | assumption | (go_simp; done)) (by first | assumption | (go_simp; done))
  have k1_0_1 := below_cell hb1 (p := ⟨w.heap.size, 1, none⟩) (v := .float .f64 b) (by first | assumption | (go_simp; done))
  have k1_0_1z := below_frozen hb1 (p := ⟨w.heap.size, 1, none⟩) (v := .float .f64 b) (by first | assumption | (go_simp; done)) (by first | assumption | (go_simp; done))
  clear hb1
  go_wp2_with fail
  refine wp_region_grow (by kernel_rfl) (by kernel_rfl) ?_
  intro X _ N hN hup
  have d0 := grow_cell hN k1_0_0
  have d1 := grow_cell hN k1_0_1
  have hb : ∀ x, Below w.heap.size w (N x) := fun x => hw1.trans ((hN x).mono hw1.size)
  clear hN
  repeat (go_big_quiet_step ((go_at_call 59; exact grow_same (abs_any _ _))))
  refine wpQuiet_nil ?_
  rintro _ ⟨x, rfl⟩
  go_wp2
  go_ret
  exact ⟨rfl, hb x⟩

theorem nw_absw {a : Nat} (h : nw a) : nw (absw a) := by
  have hS : 0 < SGN := by unfold SGN; decide
  have hr := Nat.mod_lt a hS
  have hn := h.2.1
  rw [absw_word h.1]
  refine ⟨by unfold word; omega, ?_, by omega⟩
  unfold nan at hn ⊢
  rw [Nat.mod_eq_of_lt hr]
  exact hn

/-- The greatest amount. -/
@[irreducible] def magW (a b : Nat) : Nat := if noneB a b = true then 0 else maxw (absw a) (absw b)
theorem mag_any (a b : Nat) (w : World) (ha : word a) (hb : word b) : Calls Try.prog 19 #[(.agg #[.float .f64 a, .float .f64 b])] w fun e w' => e = .returned (.float .f64 (magW a b)) ∧ Below w.heap.size w w' := by
  unfold magW
  cases h : noneB a b
  · rw [if_neg (by decide)]
    obtain ⟨i, j, g⟩ := good_of ha hb h
    have na : nw a := by rw [g.lo]; exact nw_wd g.iabs
    have nb : nw b := by rw [g.hi]; exact nw_wd g.jabs
    exact mag_walk1 a b _ w h (run_fmax _ _ (nw_absw na) (nw_absw nb))
  · rw [if_pos rfl]
    exact mag_walk0 a b w h

theorem mig_walk0 (a b : Nat) (w : World) (h : noneB a b = true) : Calls Try.prog 21 #[(.agg #[.float .f64 a, .float .f64 b])] w fun e w' => e = .returned (.float .f64 0) ∧ Below w.heap.size w w' := by
  go_enter Try.func21, Try.ntmps21
  go_wp2_with fail
  refine Calls.mono (none1_any a b _ _ (by go_simp) (by go_simp)) ?_
  rintro e w1 ⟨rfl, hb1⟩
  have hw1 : Below w.heap.size w w1 := Below.trans (by repeat (first | (with_reducible assumption) | (with_reducible exact Below.refl _ _) | ((with_reducible refine Below.alloc ?_ ?_ _); rotate_left; exact (by first | omega | (simp; done) | (simp; omega))) | ((with_reducible refine Below.setCell ?_ ?_ _); rotate_left; exact (by first | omega | (simp; done) | (simp; omega))) | (with_reducible refine Below.drew ?_))) (hb1.mono (by first | omega | (simp; done) | (simp; omega)))
  have hs1 := hb1.size
  try simp at hs1
  have hl1_0 : w.heap.size < w1.heap.size := by omega
  have k1_0_0 := below_cell hb1 (p := ⟨w.heap.size, 0, none⟩) (v := .float .f64 a) (by first | assumption | (go_simp; done))
  have k1_0_0z := below_frozen hb1 (p := ⟨w.heap.size, 0, none⟩) (v := .float .f64 a) (by first | assumption | (go_simp; done)) (by first | assumption | (go_simp; done))
  have k1_0_1 := below_cell hb1 (p := ⟨w.heap.size, 1, none⟩) (v := .float .f64 b) (by first | assumption | (go_simp; done))
  have k1_0_1z := below_frozen hb1 (p := ⟨w.heap.size, 1, none⟩) (v := .float .f64 b) (by first | assumption | (go_simp; done)) (by first | assumption | (go_simp; done))
  clear hb1
  go_wp2
  go_ret
  exact ⟨rfl, (by repeat (first | (with_reducible assumption) | (with_reducible exact Below.refl _ _) | ((with_reducible refine Below.alloc ?_ ?_ _); rotate_left; exact (by first | omega | (simp; done) | (simp; omega))) | ((with_reducible refine Below.setCell ?_ ?_ _); rotate_left; exact (by first | omega | (simp; done) | (simp; omega))) | (with_reducible refine Below.drew ?_)))⟩
theorem mig_walk1 (a b : Nat) (w : World) (h : noneB a b = false) (f1 : fle a 0 = true) (f2 : fle 0 b = true) : Calls Try.prog 21 #[(.agg #[.float .f64 a, .float .f64 b])] w fun e w' => e = .returned (.float .f64 0) ∧ Below w.heap.size w w' := by
  go_enter Try.func21, Try.ntmps21
  go_wp2_with fail
  refine Calls.mono (none1_any a b _ _ (by go_simp) (by go_simp)) ?_
  rintro e w1 ⟨rfl, hb1⟩
  have hw1 : Below w.heap.size w w1 := Below.trans (by repeat (first | (with_reducible assumption) | (with_reducible exact Below.refl _ _) | ((with_reducible refine Below.alloc ?_ ?_ _); rotate_left; exact (by first | omega | (simp; done) | (simp; omega))) | ((with_reducible refine Below.setCell ?_ ?_ _); rotate_left; exact (by first | omega | (simp; done) | (simp; omega))) | (with_reducible refine Below.drew ?_))) (hb1.mono (by first | omega | (simp; done) | (simp; omega)))
  have hs1 := hb1.size
  try simp at hs1
  have hl1_0 : w.heap.size < w1.heap.size := by omega
  have k1_0_0 := below_cell hb1 (p := ⟨w.heap.size, 0, none⟩) (v := .float .f64 a) (by first | assumption | (go_simp; done))
  have k1_0_0z := below_frozen hb1 (p := ⟨w.heap.size, 0, none⟩) (v := .float .f64 a) (by first | assumption | (go_simp; done)) (by first | assumption | (go_simp; done))
  have k1_0_1 := below_cell hb1 (p := ⟨w.heap.size, 1, none⟩) (v := .float .f64 b) (by first | assumption | (go_simp; done))
  have k1_0_1z := below_frozen hb1 (p := ⟨w.heap.size, 1, none⟩) (v := .float .f64 b) (by first | assumption | (go_simp; done)) (by first | assumption | (go_simp; done))
  clear hb1
  go_wp2
  go_ret
  exact ⟨rfl, (by repeat (first | (with_reducible assumption) | (with_reducible exact Below.refl _ _) | ((with_reducible refine Below.alloc ?_ ?_ _); rotate_left; exact (by first | omega | (simp; done) | (simp; omega))) | ((with_reducible refine Below.setCell ?_ ?_ _); rotate_left; exact (by first | omega | (simp; done) | (simp; omega))) | (with_reducible refine Below.drew ?_)))⟩
theorem mig_walk2 (a b r : Nat) (w : World) (h : noneB a b = false) (f1 : fle a 0 = false) (h1 : ∀ w, (Builtin.min_ #[33, 33] 33 #[.float .f64 (absw a), .float .f64 (absw b)]).run Try.prog w = .ok (.float .f64 r) w) :
    Calls Try.prog 21 #[(.agg #[.float .f64 a, .float .f64 b])] w fun e w' => e = .returned (.float .f64 r) ∧ Below w.heap.size w w' := by
  go_enter Try.func21, Try.ntmps21
  go_wp2_with fail
  refine Calls.mono (none1_any a b _ _ (by go_simp) (by go_simp)) ?_
  rintro e w1 ⟨rfl, hb1⟩
  have hw1 : Below w.heap.size w w1 := Below.trans (by repeat (first | (with_reducible assumption) | (with_reducible exact Below.refl _ _) | ((with_reducible refine Below.alloc ?_ ?_ _); rotate_left; exact (by first | omega | (simp; done) | (simp; omega))) | ((with_reducible refine Below.setCell ?_ ?_ _); rotate_left; exact (by first | omega | (simp; done) | (simp; omega))) | (with_reducible refine Below.drew ?_))) (hb1.mono (by first | omega | (simp; done) | (simp; omega)))
  have hs1 := hb1.size
  try simp at hs1
  have hl1_0 : w.heap.size < w1.heap.size := by omega
  have k1_0_0 := below_cell hb1 (p := ⟨w.heap.size, 0, none⟩) (v := .float .f64 a) (by first | assumption | (go_simp; done))
  have k1_0_0z := below_frozen hb1 (p := ⟨w.heap.size, 0, none⟩) (v := .float .f64 a) (by first | assumption | (go_simp; done)) (by first | assumption | (go_simp; done))
  have k1_0_1 := below_cell hb1 (p := ⟨w.heap.size, 1, none⟩) (v := .float .f64 b) (by first | assumption | (go_simp; done))
  have k1_0_1z := below_frozen hb1 (p := ⟨w.heap.size, 1, none⟩) (v := .float .f64 b) (by first | assumption | (go_simp; done)) (by first | assumption | (go_simp; done))
  clear hb1
  go_wp2_with fail
  refine wp_region_grow (by kernel_rfl) (by kernel_rfl) ?_
  intro X _ N hN hup
  have d0 := grow_cell hN k1_0_0
  have d1 := grow_cell hN k1_0_1
  have hb : ∀ x, Below w.heap.size w (N x) := fun x => hw1.trans ((hN x).mono hw1.size)
  clear hN
  repeat (go_big_quiet_step ((go_at_call 59; exact grow_same (abs_any _ _))))
  refine wpQuiet_nil ?_
  rintro _ ⟨x, rfl⟩
  go_wp2
  go_ret
  exact ⟨rfl, hb x⟩
theorem mig_walk3 (a b r : Nat) (w : World) (h : noneB a b = false) (f1 : fle a 0 = true) (f2 : fle 0 b = false) (h1 : ∀ w, (Builtin.min_ #[33, 33] 33 #[.float .f64 (absw a), .float .f64 (absw b)]).run Try.prog w = .ok (.float .f64 r) w) :
    Calls Try.prog 21 #[(.agg #[.float .f64 a, .float .f64 b])] w fun e w' => e = .returned (.float .f64 r) ∧ Below w.heap.size w w' := by
  go_enter Try.func21, Try.ntmps21
  go_wp2_with fail
  refine Calls.mono (none1_any a b _ _ (by go_simp) (by go_simp)) ?_
  rintro e w1 ⟨rfl, hb1⟩
  have hw1 : Below w.heap.size w w1 := Below.trans (by repeat (first | (with_reducible assumption) | (with_reducible exact Below.refl _ _) | ((with_reducible refine Below.alloc ?_ ?_ _); rotate_left; exact (by first | omega | (simp; done) | (simp; omega))) | ((with_reducible refine Below.setCell ?_ ?_ _); rotate_left; exact (by first | omega | (simp; done) | (simp; omega))) | (with_reducible refine Below.drew ?_))) (hb1.mono (by first | omega | (simp; done) | (simp; omega)))
  have hs1 := hb1.size
  try simp at hs1
  have hl1_0 : w.heap.size < w1.heap.size := by omega
  have k1_0_0 := below_cell hb1 (p := ⟨w.heap.size, 0, none⟩) (v := .float .f64 a) (by first | assumption | (go_simp; done))
  have k1_0_0z := below_frozen hb1 (p := ⟨w.heap.size, 0, none⟩) (v := .float .f64 a) (by first | assumption | (go_simp; done)) (by first | assumption | (go_simp; done))
  have k1_0_1 := below_cell hb1 (p := ⟨w.heap.size, 1, none⟩) (v := .float .f64 b) (by first | assumption | (go_simp; done))
  have k1_0_1z := below_frozen hb1 (p := ⟨w.heap.size, 1, none⟩) (v := .float .f64 b) (by first | assumption | (go_simp; done)) (by first | assumption | (go_simp; done))
  clear hb1
  go_wp2_with fail
  refine wp_region_grow (by kernel_rfl) (by kernel_rfl) ?_
  intro X _ N hN hup
  have d0 := grow_cell hN k1_0_0
  have d1 := grow_cell hN k1_0_1
  have hb : ∀ x, Below w.heap.size w (N x) := fun x => hw1.trans ((hN x).mono hw1.size)
  clear hN
  repeat (go_big_quiet_step ((go_at_call 59; exact grow_same (abs_any _ _))))
  refine wpQuiet_nil ?_
  rintro _ ⟨x, rfl⟩
  go_wp2
  go_ret
  exact ⟨rfl, hb x⟩

/-- The least amount. -/
@[irreducible] def migW (a b : Nat) : Nat := if noneB a b = true ∨ (fle a 0 = true ∧ fle 0 b = true) then 0 else minw (absw a) (absw b)
theorem mig_any (a b : Nat) (w : World) (ha : word a) (hb : word b) : Calls Try.prog 21 #[(.agg #[.float .f64 a, .float .f64 b])] w fun e w' => e = .returned (.float .f64 (migW a b)) ∧ Below w.heap.size w w' := by
  unfold migW
  by_cases h0 : noneB a b = true
  · rw [if_pos (Or.inl h0)]; exact mig_walk0 a b w h0
  have h : noneB a b = false := by simpa using h0
  obtain ⟨i, j, g⟩ := good_of ha hb h
  have na : nw a := by rw [g.lo]; exact nw_wd g.iabs
  have nb : nw b := by rw [g.hi]; exact nw_wd g.jabs
  have hr := fun w => run_fmin (P := Try.prog) #[33, 33] 33 (nw_absw na) (nw_absw nb) w
  by_cases f1 : fle a 0 = true
  · by_cases f2 : fle 0 b = true
    · rw [if_pos (Or.inr ⟨f1, f2⟩)]; exact mig_walk1 a b w h f1 f2
    · rw [if_neg (fun x => x.elim h0 (fun y => f2 y.2))]
      exact mig_walk3 a b _ w h f1 (by simpa using f2) hr
  · rw [if_neg (fun x => x.elim h0 (fun y => f1 y.1))]
    exact mig_walk2 a b _ w h (by simpa using f1) hr

end Go.Proofs.Ytonidoghcihnnaa
