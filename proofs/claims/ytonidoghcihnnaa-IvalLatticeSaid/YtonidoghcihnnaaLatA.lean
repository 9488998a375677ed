/- The walk of the law IvalLattice. -/
import Derived.Test.YtonidoghcihnnaaIvDivL
import Derived.Test.YtonidoghcihnnaaLatLaw
import Derived.Test.YtonidoghcihnnaaSpec2
namespace Go.Proofs.Ytonidoghcihnnaa
open Go.RowKit
set_option maxRecDepth 100000
set_option maxHeartbeats 2000000
set_option linter.unusedSimpArgs false
set_option linter.unusedVariables false

theorem hullLaw_walk (a b c d lo hi : Nat) (w : World) (hm : ∀ w, Calls Try.prog 62 #[(.agg #[.float .f64 a, .float .f64 b]), (.agg #[.float .f64 c, .float .f64 d])] w fun e w' => e = .returned (.agg #[.float .f64 lo, .float .f64 hi]) ∧ Below w.heap.size w w') :
    Calls Try.prog 24 #[(.agg #[.float .f64 a, .float .f64 b]), (.agg #[.float .f64 c, .float .f64 d])] w fun e w' => e = .returned (.agg #[.float .f64 lo, .float .f64 hi]) ∧ Below w.heap.size w w' := by
  have Hm := Lib.hid hm
  clear hm
  go_enter Try.func24, Try.ntmps24
  go_wp2_with fail
  refine Calls.mono (Hm.out _) ?_
  rintro e w1 ⟨rfl, hb1⟩
  have hw1 : Below w.heap.size w w1 := Below.trans (by repeat (first | (with_reducible assumption) | (with_reducible exact Below.refl _ _) | ((with_reducible refine Below.alloc ?_ ?_ _); rotate_left; exact (by first | omega | (simp; done) | (simp; omega))) | ((with_reducible refine Below.setCell ?_ ?_ _); rotate_left; exact (by first | omega | (simp; done) | (simp; omega))) | (with_reducible refine Below.drew ?_))) (hb1.mono (by first | omega | (simp; done) | (simp; omega)))
  have hs1 := hb1.size
  try simp at hs1
  have hl1_0 : w.heap.size + 2 < w1.heap.size := by omega
  have k1_0_0 := below_cell hb1 (p := ⟨w.heap.size + 2, 0, none⟩) (v := .float .f64 0) (by first | assumption | (go_simp; done))
  have k1_0_0z := below_frozen hb1 (p := ⟨w.heap.size + 2, 0, none⟩) (v := .float .f64 0) (by first | assumption | (go_simp; done)) (by first | assumption | (go_simp; done))
  have k1_0_1 := below_cell hb1 (p := ⟨w.heap.size + 2, 1, none⟩) (v := .float .f64 0) (by first | assumption | (go_simp; done))
  have k1_0_1z := below_frozen hb1 (p := ⟨w.heap.size + 2, 1, none⟩) (v := .float .f64 0) (by first | assumption | (go_simp; done)) (by first | assumption | (go_simp; done))
  clear hb1
  go_wp2
  exact bodyPost_ret (v := (.agg #[.float .f64 lo, .float .f64 hi])) (by simp [results, Try.results24, go_sem, *]) rfl ⟨rfl, (by repeat (first | (with_reducible assumption) | (with_reducible exact Below.refl _ _) | ((with_reducible refine Below.alloc ?_ ?_ _); rotate_left; exact (by first | omega | (simp; done) | (simp; omega))) | ((with_reducible refine Below.setCell ?_ ?_ _); rotate_left; exact (by first | omega | (simp; done) | (simp; omega))) | (with_reducible refine Below.drew ?_)))⟩

theorem mul_walk0 (a b c d : Nat) (w : World) (h : (noneB a b || noneB c d) = true) :
    Calls Try.prog 36 #[(.agg #[.float .f64 a, .float .f64 b]), (.agg #[.float .f64 c, .float .f64 d])] w fun e w' => e = .returned (.agg #[.float .f64 9218868437227405312, .float .f64 18442240474082181120]) ∧ Below w.heap.size w w' := by
  have N : Hid (∀ (k : Nat) (w : World), w.cell? ⟨k, 0, none⟩ = some (.float .f64 a) → w.cell? ⟨k, 1, none⟩ = some (.float .f64 b) → w.cell? ⟨k, 2, none⟩ = some (.float .f64 c) → w.cell? ⟨k, 3, none⟩ = some (.float .f64 d) → Calls Try.prog 53 #[.slice (some ⟨k, 0, none⟩) 2 2] w fun e w' => e = .returned (.bool true) ∧ Below w.heap.size w w') := fun k w c0 c1 c2 c3 => h ▸ none2_any a b c d k w c0 c1 c2 c3
  clear h
  go_enter Try.func36, Try.ntmps36
  go_wp2_with fail
  refine Calls.mono (N.out _ _ (by go_simp) (by go_simp) (by go_simp) (by go_simp)) ?_
  rintro e w1 ⟨rfl, hb1⟩
  have hw1 : Below w.heap.size w w1 := Below.trans (by repeat (first | (with_reducible assumption) | (with_reducible exact Below.refl _ _) | ((with_reducible refine Below.alloc ?_ ?_ _); rotate_left; exact (by first | omega | (simp; done) | (simp; omega))) | ((with_reducible refine Below.setCell ?_ ?_ _); rotate_left; exact (by first | omega | (simp; done) | (simp; omega))) | (with_reducible refine Below.drew ?_))) (hb1.mono (by first | omega | (simp; done) | (simp; omega)))
  have hs1 := hb1.size
  try simp at hs1
  have hl1_0 : w.heap.size < w1.heap.size := by omega
  have k1_0_0 := below_cell hb1 (p := ⟨w.heap.size, 0, none⟩) (v := .float .f64 a) (by first | assumption | (go_simp; done))
  have k1_0_0z := below_frozen hb1 (p := ⟨w.heap.size, 0, none⟩) (v := .float .f64 a) (by first | assumption | (go_simp; done)) (by first | assumption | (go_simp; done))
  have k1_0_1 := below_cell hb1 (p := ⟨w.heap.size, 1, none⟩) (v := .float .f64 b) (by first | assumption | (go_simp; done))
  have k1_0_1z := below_frozen hb1 (p := ⟨w.heap.size, 1, none⟩) (v := .float .f64 b) (by first | assumption | (go_simp; done)) (by first | assumption | (go_simp; done))
  have hl1_1 : w.heap.size + 1 < w1.heap.size := by omega
  have k1_1_0 := below_cell hb1 (p := ⟨w.heap.size + 1, 0, none⟩) (v := .float .f64 c) (by first | assumption | (go_simp; done))
  have k1_1_0z := below_frozen hb1 (p := ⟨w.heap.size + 1, 0, none⟩) (v := .float .f64 c) (by first | assumption | (go_simp; done)) (by first | assumption | (go_simp; done))
  have k1_1_1 := below_cell hb1 (p := ⟨w.heap.size + 1, 1, none⟩) (v := .float .f64 d) (by first | assumption | (go_simp; done))
  have k1_1_1z := below_frozen hb1 (p := ⟨w.heap.size + 1, 1, none⟩) (v := .float .f64 d) (by first | assumption | (go_simp; done)) (by first | assumption | (go_simp; done))
  have hl1_2 : w.heap.size + 2 < w1.heap.size := by omega
  have k1_2_0 := below_cell hb1 (p := ⟨w.heap.size + 2, 0, none⟩) (v := .float .f64 0) (by first | assumption | (go_simp; done))
  have k1_2_0z := below_frozen hb1 (p := ⟨w.heap.size + 2, 0, none⟩) (v := .float .f64 0) (by first | assumption | (go_simp; done)) (by first | assumption | (go_simp; done))
  have k1_2_1 := below_cell hb1 (p := ⟨w.heap.size + 2, 1, none⟩) (v := .float .f64 0) (by first | assumption | (go_simp; done))
  have k1_2_1z := below_frozen hb1 (p := ⟨w.heap.size + 2, 1, none⟩) (v := .float .f64 0) (by first | assumption | (go_simp; done)) (by first | assumption | (go_simp; done))
  clear hb1
  go_wp2_with fail
  refine Calls.mono (empty_any _) ?_
  rintro e w2 ⟨rfl, hb2⟩
  have hw2 : Below w.heap.size w w2 := Below.trans (by repeat (first | (with_reducible assumption) | (with_reducible exact Below.refl _ _) | ((with_reducible refine Below.alloc ?_ ?_ _); rotate_left; exact (by first | omega | (simp; done) | (simp; omega))) | ((with_reducible refine Below.setCell ?_ ?_ _); rotate_left; exact (by first | omega | (simp; done) | (simp; omega))) | (with_reducible refine Below.drew ?_))) (hb2.mono (by first | omega | (simp; done) | (simp; omega)))
  have hs2 := hb2.size
  try simp at hs2
  have hl2_0 : w.heap.size < w2.heap.size := by omega
  have k2_0_0 := below_cell hb2 (p := ⟨w.heap.size, 0, none⟩) (v := .float .f64 a) (by first | assumption | (go_simp; done))
  have k2_0_0z := below_frozen hb2 (p := ⟨w.heap.size, 0, none⟩) (v := .float .f64 a) (by first | assumption | (go_simp; done)) (by first | assumption | (go_simp; done))
  have k2_0_1 := below_cell hb2 (p := ⟨w.heap.size, 1, none⟩) (v := .float .f64 b) (by first | assumption | (go_simp; done))
  have k2_0_1z := below_frozen hb2 (p := ⟨w.heap.size, 1, none⟩) (v := .float .f64 b) (by first | assumption | (go_simp; done)) (by first | assumption | (go_simp; done))
  have hl2_1 : w.heap.size + 1 < w2.heap.size := by omega
  have k2_1_0 := below_cell hb2 (p := ⟨w.heap.size + 1, 0, none⟩) (v := .float .f64 c) (by first | assumption | (go_simp; done))
  have k2_1_0z := below_frozen hb2 (p := ⟨w.heap.size + 1, 0, none⟩) (v := .float .f64 c) (by first | assumption | (go_simp; done)) (by first | assumption | (go_simp; done))
  have k2_1_1 := below_cell hb2 (p := ⟨w.heap.size + 1, 1, none⟩) (v := .float .f64 d) (by first | assumption | (go_simp; done))
  have k2_1_1z := below_frozen hb2 (p := ⟨w.heap.size + 1, 1, none⟩) (v := .float .f64 d) (by first | assumption | (go_simp; done)) (by first | assumption | (go_simp; done))
  have hl2_2 : w.heap.size + 2 < w2.heap.size := by omega
  have k2_2_0 := below_cell hb2 (p := ⟨w.heap.size + 2, 0, none⟩) (v := .float .f64 0) (by first | assumption | (go_simp; done))
  have k2_2_0z := below_frozen hb2 (p := ⟨w.heap.size + 2, 0, none⟩) (v := .float .f64 0) (by first | assumption | (go_simp; done)) (by first | assumption | (go_simp; done))
  have k2_2_1 := below_cell hb2 (p := ⟨w.heap.size + 2, 1, none⟩) (v := .float .f64 0) (by first | assumption | (go_simp; done))
  have k2_2_1z := below_frozen hb2 (p := ⟨w.heap.size + 2, 1, none⟩) (v := .float .f64 0) (by first | assumption | (go_simp; done)) (by first | assumption | (go_simp; done))
  clear hb2
  go_wp2
  exact bodyPost_ret (v := (.agg #[.float .f64 9218868437227405312, .float .f64 18442240474082181120])) (by simp [results, Try.results36, go_sem, *]) rfl ⟨rfl, (by repeat (first | (with_reducible assumption) | (with_reducible exact Below.refl _ _) | ((with_reducible refine Below.alloc ?_ ?_ _); rotate_left; exact (by first | omega | (simp; done) | (simp; omega))) | ((with_reducible refine Below.setCell ?_ ?_ _); rotate_left; exact (by first | omega | (simp; done) | (simp; omega))) | (with_reducible refine Below.drew ?_)))⟩

/-- Two new blocks, of two floats each, apart from one another. -/
def newAt (w w1 : World) (o : Option Value) : Prop := ∀ v, o = some v → ∃ b, v = .pointer (some ⟨b, 0, none⟩) ∧ w.heap.size ≤ b ∧ b < w1.heap.size ∧ w1.cell? ⟨b, 0, none⟩ = some (.float .f64 0) ∧ w1.cell? ⟨b, 1, none⟩ = some (.float .f64 0) ∧ w1.frozen? ⟨b, 0, none⟩ = false ∧ w1.frozen? ⟨b, 1, none⟩ = false
def twoNew (w : World) (vs : Nat → Option Value) (w1 : World) : Prop := newAt w w1 (vs 6) ∧ newAt w w1 (vs 7) ∧ ∀ v, vs 6 = some v → vs 7 ≠ some v
theorem newAt_up {w w1 w2 : World} {o : Option Value} (h : newAt w w1 o) (hb : Below w1.heap.size w1 w2) : newAt w w2 o := fun v hv => by
  obtain ⟨b, e, h1, h2, h3, h4, h5, h6⟩ := h v hv
  exact ⟨b, e, h1, Nat.lt_of_lt_of_le h2 hb.size, below_cell hb h3, below_cell hb h4, below_frozen hb h3 h5, below_frozen hb h4 h6⟩
theorem twoNew_none (w w1 : World) : twoNew w (fun _ => none) w1 := ⟨fun v hv => (by cases hv), fun v hv => (by cases hv), fun v hv => (by cases hv)⟩
theorem twoNew_up (w : World) (vs : Nat → Option Value) (w1 w2 : World) (_ : Below w.heap.size w w1) (h : twoNew w vs w1) (hb : Below w1.heap.size w1 w2) : twoNew w vs w2 := ⟨newAt_up h.1 hb, newAt_up h.2.1 hb, h.2.2⟩

theorem run_allocIval (ρ : Operand → Value) (dst : Option Tmp) (ty : TypeId) (pos : String) (after : Array Edge) (g : Option (Nat × Bool)) (w : World) :
    (execOp ρ ⟨dst, .alloc 35, ty, pos, after, g⟩).run Try.prog w = .ok (.value (.pointer (some ⟨w.heap.size, 0, none⟩))) (w.alloc (.cells #[.float .f64 0, .float .f64 0] 35)) := by
  simp only [execOp]
  go_simp
theorem specAt_alloc {ops : Array Oper} {o : Oper} {a : Act} {w : World} {K : Value → World → Prop} (h : o.op = .alloc 35) (g : o.guard = none) (hk : K (.pointer (some ⟨w.heap.size, 0, none⟩)) (w.alloc (.cells #[.float .f64 0, .float .f64 0] 35))) : SpecAt Try.prog ops o a w K := by
  obtain ⟨dst, op, type, pos, after, guard⟩ := o
  simp only at h g
  subst h g
  refine ⟨rfl, ?_⟩
  rw [run_allocIval]
  exact hk
theorem twoNew_alloc (w : World) (s : Nat) (hs : s = 6 ∨ s = 7) (vs : Nat → Option Value) (w1 : World) (hb : Below w.heap.size w w1) (h : twoNew w vs w1) (hn : vs s = none) :
    Below w1.heap.size w1 (w1.alloc (.cells #[.float .f64 0, .float .f64 0] 35)) ∧ twoNew w (fun j => if j = s then some (.pointer (some ⟨w1.heap.size, 0, none⟩)) else vs j) (w1.alloc (.cells #[.float .f64 0, .float .f64 0] 35)) := by
  have hg : Below w1.heap.size w1 (w1.alloc (.cells #[.float .f64 0, .float .f64 0] 35)) := (Below.refl _ _).alloc (Nat.le_refl _) _
  have hnew : newAt w (w1.alloc (.cells #[.float .f64 0, .float .f64 0] 35)) (some (.pointer (some ⟨w1.heap.size, 0, none⟩))) := fun v hv => by
    cases hv
    exact ⟨w1.heap.size, rfl, hb.size, by simp, by simp, by simp, by go_simp, by go_simp⟩
  have old : ∀ o v, newAt w w1 o → o = some v → v ≠ .pointer (some ⟨w1.heap.size, 0, none⟩) := fun o v ho hv e => by
    obtain ⟨b, e2, _, h2, _⟩ := ho v hv
    rw [e] at e2
    cases e2
    omega
  refine ⟨hg, ?_⟩
  rcases hs with rfl | rfl
  · refine ⟨by simpa using hnew, by simpa using newAt_up h.2.1 hg, fun v hv => ?_⟩
    simp only [if_true, Option.some.injEq] at hv
    subst hv
    intro e
    simp only [Nat.reduceEqDiff, if_false] at e
    exact old _ _ h.2.1 e rfl
  · refine ⟨by simpa using newAt_up h.1 hg, by simpa using hnew, fun v hv => ?_⟩
    simp only [Nat.reduceEqDiff, if_false] at hv
    intro e
    simp only [if_true, Option.some.injEq] at e
    exact old _ _ h.1 hv e.symm

theorem lat_none (a b c d v hl hh ml mh : Nat) (q : Bool) (w : World)
    (h1 : ∀ w, Calls Try.prog 24 #[(.agg #[.float .f64 a, .float .f64 b]), (.agg #[.float .f64 c, .float .f64 d])] w fun e w' => e = .returned (.agg #[.float .f64 hl, .float .f64 hh]) ∧ Below w.heap.size w w')
    (h2 : ∀ w, Calls Try.prog 26 #[(.agg #[.float .f64 a, .float .f64 b]), (.agg #[.float .f64 c, .float .f64 d])] w fun e w' => e = .returned (.agg #[.float .f64 ml, .float .f64 mh]) ∧ Below w.heap.size w w')
    (i1 : ∀ w, Calls Try.prog 40 #[(.agg #[.float .f64 a, .float .f64 b]), (.agg #[.float .f64 hl, .float .f64 hh])] w fun e w' => e = .returned (.bool true) ∧ Below w.heap.size w w')
    (i2 : ∀ w, Calls Try.prog 40 #[(.agg #[.float .f64 c, .float .f64 d]), (.agg #[.float .f64 hl, .float .f64 hh])] w fun e w' => e = .returned (.bool true) ∧ Below w.heap.size w w')
    (i3 : ∀ w, Calls Try.prog 40 #[(.agg #[.float .f64 ml, .float .f64 mh]), (.agg #[.float .f64 a, .float .f64 b])] w fun e w' => e = .returned (.bool true) ∧ Below w.heap.size w w')
    (i4 : ∀ w, Calls Try.prog 40 #[(.agg #[.float .f64 ml, .float .f64 mh]), (.agg #[.float .f64 c, .float .f64 d])] w fun e w' => e = .returned (.bool true) ∧ Below w.heap.size w w')
    (a1 : ∀ w, Calls Try.prog 41 #[(.agg #[.float .f64 ml, .float .f64 mh]), .float .f64 v] w fun e w' => e = .returned (.bool false) ∧ Below w.heap.size w w')
    (a2 : ∀ w, Calls Try.prog 41 #[(.agg #[.float .f64 a, .float .f64 b]), .float .f64 v] w fun e w' => e = .returned (.bool false) ∧ Below w.heap.size w w')
    (a3 : ∀ w, Calls Try.prog 41 #[(.agg #[.float .f64 c, .float .f64 d]), .float .f64 v] w fun e w' => e = .returned (.bool q) ∧ Below w.heap.size w w')
    (n1 : ∀ w, Calls Try.prog 42 #[(.agg #[.float .f64 a, .float .f64 b])] w fun e w' => e = .returned (.bool true) ∧ Below w.heap.size w w')
    (m1 : ∀ w, Calls Try.prog 19 #[(.agg #[.float .f64 a, .float .f64 b])] w fun e w' => e = .returned (.float .f64 0) ∧ Below w.heap.size w w') (f00 : feq 0 0 = true)
    (m2 : ∀ w, Calls Try.prog 30 #[(.agg #[.float .f64 a, .float .f64 b]), (.agg #[.float .f64 c, .float .f64 d])] w fun e w' => e = .returned (.agg #[.float .f64 9218868437227405312, .float .f64 18442240474082181120]) ∧ Below w.heap.size w w')
    (m3 : ∀ w, Calls Try.prog 36 #[(.agg #[.float .f64 c, .float .f64 d]), (.agg #[.float .f64 a, .float .f64 b])] w fun e w' => e = .returned (.agg #[.float .f64 9218868437227405312, .float .f64 18442240474082181120]) ∧ Below w.heap.size w w')
    (m4 : ∀ w, Calls Try.prog 42 #[(.agg #[.float .f64 9218868437227405312, .float .f64 18442240474082181120])] w fun e w' => e = .returned (.bool true) ∧ Below w.heap.size w w') :
    Calls Try.prog 9 #[(.agg #[.float .f64 a, .float .f64 b]), (.agg #[.float .f64 c, .float .f64 d]), .float .f64 v] w fun e w' => e = .returned (.bool true) ∧ Below w.heap.size w w' := by
  have H1 := Lib.hid h1
  have H2 := Lib.hid h2
  have I1 := Lib.hid i1
  have I2 := Lib.hid i2
  have I3 := Lib.hid i3
  have I4 := Lib.hid i4
  have A1 := Lib.hid a1
  have A2 := Lib.hid a2
  have A3 := Lib.hid a3
  have N1 := Lib.hid n1
  clear h1 h2 i1 i2 i3 i4 a1 a2 a3 n1
  have M1 := Lib.hid m1
  have M2 := Lib.hid m2
  have M3 := Lib.hid m3
  have M4 := Lib.hid m4
  clear m1 m2 m3 m4
  go_enter Try.func9, Try.ntmps9
  go_wp2_with fail
  refine wp_region_spec' 8 6 2 [6, 7] (by kernel_rfl) (by kernel_rfl) (by kernel_rfl) (by kernel_rfl) (twoNew ((w.alloc (.cells #[.float .f64 a, .float .f64 b] 35)).alloc (.cells #[.float .f64 c, .float .f64 d] 35))) ?hI ?hup ?h
  case hI => exact twoNew_none _ _
  case hup => exact twoNew_up _
  case h =>
    simp only [List.take_succ_cons, List.take_zero, List.drop_succ_cons, List.drop_zero, Nat.reduceAdd, Nat.reduceSub, List.append_nil]
    intro X _ M hM hup
    have d0 := grow_cell hM (p := ⟨w.heap.size, 0, none⟩) (v := .float .f64 a) (by go_simp)
    have d1 := grow_cell hM (p := ⟨w.heap.size, 1, none⟩) (v := .float .f64 b) (by go_simp)
    have d2 := grow_cell hM (p := ⟨w.heap.size + 1, 0, none⟩) (v := .float .f64 c) (by go_simp)
    have d3 := grow_cell hM (p := ⟨w.heap.size + 1, 1, none⟩) (v := .float .f64 d) (by go_simp)
    repeat (go_big_quiet_step (first | (go_at_call 24; exact grow_of (hup _) (H1.out _)) | (go_at_call 26; exact grow_of (hup _) (H2.out _))))
    refine wpQuiet_nil ?_
    clear hup hM d0 d1 d2 d3
    refine ⟨?_, ?_⟩
    · intro s hs o ho vs w1 hb hI hn _
      have hs' : s = 6 ∨ s = 7 := by simpa using hs
      have key := twoNew_alloc _ s hs' vs w1 hb hI hn
      rcases hs' with rfl | rfl
      · cases ho
        exact specAt_alloc rfl rfl key
      · cases ho
        exact specAt_alloc rfl rfl key
    · intro vs w1 hb hI hsome
      obtain ⟨v6, hv6⟩ := Option.isSome_iff_exists.1 (hsome 6 (by simp))
      obtain ⟨v7, hv7⟩ := Option.isSome_iff_exists.1 (hsome 7 (by simp))
      obtain ⟨b6, rfl, p1, p2, p3, p4, p5, p6⟩ := hI.1 v6 hv6
      obtain ⟨b7, rfl, q1, q2, q3, q4, q5, q6⟩ := hI.2.1 v7 hv7
      have hne : b6 ≠ b7 := fun e => hI.2.2 _ hv6 (e ▸ hv7)
      simp only [putsp, hv6, hv7, slotOf, List.getElem?_toArray, List.getElem?_cons_succ, List.getElem?_cons_zero, Option.bind_some]
      have hbx : Below w.heap.size w w1 := Below.trans (by repeat (first | (with_reducible assumption) | (with_reducible exact Below.refl _ _) | ((with_reducible refine Below.alloc ?_ ?_ _); rotate_left; exact (by first | omega | (simp; done) | (simp; omega))) | ((with_reducible refine Below.setCell ?_ ?_ _); rotate_left; exact (by first | omega | (simp; done) | (simp; omega))) | (with_reducible refine Below.drew ?_))) (hb.mono (by simp; omega))
      have s6 : w.heap.size < b6 := by simp at p1; omega
      have s7 : w.heap.size < b7 := by simp at q1; omega
      have t6 : w.heap.size + 1 < b6 := by simp at p1; omega
      have t7 : w.heap.size + 1 < b7 := by simp at q1; omega
      have g0 : w.heap.size ≤ b6 := Nat.le_of_lt s6
      have g1 : w.heap.size ≤ b7 := Nat.le_of_lt s7
      have c0 := below_cell hb (p := ⟨w.heap.size, 0, none⟩) (v := .float .f64 a) (by go_simp)
      have c0z := below_frozen hb (p := ⟨w.heap.size, 0, none⟩) (v := .float .f64 a) (by go_simp) (by go_simp)
      have c1 := below_cell hb (p := ⟨w.heap.size, 1, none⟩) (v := .float .f64 b) (by go_simp)
      have c1z := below_frozen hb (p := ⟨w.heap.size, 1, none⟩) (v := .float .f64 b) (by go_simp) (by go_simp)
      have c2 := below_cell hb (p := ⟨w.heap.size + 1, 0, none⟩) (v := .float .f64 c) (by go_simp)
      have c2z := below_frozen hb (p := ⟨w.heap.size + 1, 0, none⟩) (v := .float .f64 c) (by go_simp) (by go_simp)
      have c3 := below_cell hb (p := ⟨w.heap.size + 1, 1, none⟩) (v := .float .f64 d) (by go_simp)
      have c3z := below_frozen hb (p := ⟨w.heap.size + 1, 1, none⟩) (v := .float .f64 d) (by go_simp) (by go_simp)
      clear hI hsome hv6 hv7 hb p1 q1
      have hne' : b7 ≠ b6 := fun e => hne e.symm
      go_wp2_with fail
      refine wp_region_grow (by kernel_rfl) (by kernel_rfl) ?_
      intro X _ N hN hup
      have e0 := grow_cell hN (p := ⟨w.heap.size, 0, none⟩) (v := .float .f64 a) (by go_simp)
      have e0z := fun x => below_frozen (hN x) (p := ⟨w.heap.size, 0, none⟩) (v := .float .f64 a) (by go_simp) (by go_simp)
      have e1 := grow_cell hN (p := ⟨w.heap.size, 1, none⟩) (v := .float .f64 b) (by go_simp)
      have e1z := fun x => below_frozen (hN x) (p := ⟨w.heap.size, 1, none⟩) (v := .float .f64 b) (by go_simp) (by go_simp)
      have e2 := grow_cell hN (p := ⟨w.heap.size + 1, 0, none⟩) (v := .float .f64 c) (by go_simp)
      have e2z := fun x => below_frozen (hN x) (p := ⟨w.heap.size + 1, 0, none⟩) (v := .float .f64 c) (by go_simp) (by go_simp)
      have e3 := grow_cell hN (p := ⟨w.heap.size + 1, 1, none⟩) (v := .float .f64 d) (by go_simp)
      have e3z := fun x => below_frozen (hN x) (p := ⟨w.heap.size + 1, 1, none⟩) (v := .float .f64 d) (by go_simp) (by go_simp)
      have e4 := grow_cell hN (p := ⟨b6, 0, none⟩) (v := .float .f64 hl) (by go_simp)
      have e5 := grow_cell hN (p := ⟨b6, 1, none⟩) (v := .float .f64 hh) (by go_simp)
      have e6 := grow_cell hN (p := ⟨b7, 0, none⟩) (v := .float .f64 ml) (by go_simp)
      have e7 := grow_cell hN (p := ⟨b7, 1, none⟩) (v := .float .f64 mh) (by go_simp)
      have hbm : ∀ x, Below w.heap.size w (N x) := fun x => Below.trans ((((hbx.setCell g0 _).setCell g0 _).setCell g1 _).setCell g1 _) ((hN x).mono (by simp; omega))
      have hsz : ∀ x, w.heap.size + 2 ≤ (N x).heap.size := fun x => by
        have h1 := (hN x).size
        simp at h1; omega
      clear hN c0 c1 c2 c3 c0z c1z c2z c3z p2 p3 p4 p5 p6 q2 q3 q4 q5 q6 hne hne' s6 s7 t6 t7 g0 g1
      repeat (go_big_quiet_step (first | (go_at_call 40; first | with_reducible exact grow_of (hup _) (I1.out _) | with_reducible exact grow_of (hup _) (I2.out _) | with_reducible exact grow_of (hup _) (I3.out _) | with_reducible exact grow_of (hup _) (I4.out _)) | (go_at_call 41; first | with_reducible exact grow_of (hup _) (A1.out _) | with_reducible exact grow_of (hup _) (A2.out _) | with_reducible exact grow_of (hup _) (A3.out _))))
      refine wpQuiet_nil ?_
      rintro _ ⟨x, rfl⟩
      have hbx' := hbm x
      have hsx := hsz x
      have f0 := e0 x
      have f0z := e0z x
      have f1 := e1 x
      have f1z := e1z x
      have f2 := e2 x
      have f2z := e2z x
      have f3 := e3 x
      have f3z := e3z x
      clear hbm hsz e0 e1 e2 e3 e0z e1z e2z e3z e4 e5 e6 e7 hup hbx
      go_wp2_with fail
      refine Calls.mono (N1.out _) ?_
      rintro e w2 ⟨rfl, hb2⟩
      have hw2 : Below w.heap.size w w2 := Below.trans (by repeat (first | (with_reducible assumption) | (with_reducible exact Below.refl _ _) | ((with_reducible refine Below.alloc ?_ ?_ _); rotate_left; exact (by first | omega | (simp; done) | (simp; omega))) | ((with_reducible refine Below.setCell ?_ ?_ _); rotate_left; exact (by first | omega | (simp; done) | (simp; omega))) | (with_reducible refine Below.drew ?_))) (hb2.mono (by first | omega | (simp; done) | (simp; omega)))
      have hs2 := hb2.size
      try simp at hs2
      have hl2_0 : w.heap.size < w2.heap.size := by omega
      have k2_0_0 := below_cell hb2 (p := ⟨w.heap.size, 0, none⟩) (v := .float .f64 a) (by first | assumption | (go_simp; done))
      have k2_0_0z := below_frozen hb2 (p := ⟨w.heap.size, 0, none⟩) (v := .float .f64 a) (by first | assumption | (go_simp; done)) (by first | assumption | (go_simp; done))
      have k2_0_1 := below_cell hb2 (p := ⟨w.heap.size, 1, none⟩) (v := .float .f64 b) (by first | assumption | (go_simp; done))
      have k2_0_1z := below_frozen hb2 (p := ⟨w.heap.size, 1, none⟩) (v := .float .f64 b) (by first | assumption | (go_simp; done)) (by first | assumption | (go_simp; done))
      have hl2_1 : w.heap.size + 1 < w2.heap.size := by omega
      have k2_1_0 := below_cell hb2 (p := ⟨w.heap.size + 1, 0, none⟩) (v := .float .f64 c) (by first | assumption | (go_simp; done))
      have k2_1_0z := below_frozen hb2 (p := ⟨w.heap.size + 1, 0, none⟩) (v := .float .f64 c) (by first | assumption | (go_simp; done)) (by first | assumption | (go_simp; done))
      have k2_1_1 := below_cell hb2 (p := ⟨w.heap.size + 1, 1, none⟩) (v := .float .f64 d) (by first | assumption | (go_simp; done))
      have k2_1_1z := below_frozen hb2 (p := ⟨w.heap.size + 1, 1, none⟩) (v := .float .f64 d) (by first | assumption | (go_simp; done)) (by first | assumption | (go_simp; done))
      clear hb2
      go_wp2_with fail
      refine Calls.mono (M1.out _) ?_
      rintro e w3 ⟨rfl, hb3⟩
      have hw3 : Below w.heap.size w w3 := Below.trans (by repeat (first | (with_reducible assumption) | (with_reducible exact Below.refl _ _) | ((with_reducible refine Below.alloc ?_ ?_ _); rotate_left; exact (by first | omega | (simp; done) | (simp; omega))) | ((with_reducible refine Below.setCell ?_ ?_ _); rotate_left; exact (by first | omega | (simp; done) | (simp; omega))) | (with_reducible refine Below.drew ?_))) (hb3.mono (by first | omega | (simp; done) | (simp; omega)))
      have hs3 := hb3.size
      try simp at hs3
      have hl3_0 : w.heap.size < w3.heap.size := by omega
      have k3_0_0 := below_cell hb3 (p := ⟨w.heap.size, 0, none⟩) (v := .float .f64 a) (by first | assumption | (go_simp; done))
      have k3_0_0z := below_frozen hb3 (p := ⟨w.heap.size, 0, none⟩) (v := .float .f64 a) (by first | assumption | (go_simp; done)) (by first | assumption | (go_simp; done))
      have k3_0_1 := below_cell hb3 (p := ⟨w.heap.size, 1, none⟩) (v := .float .f64 b) (by first | assumption | (go_simp; done))
      have k3_0_1z := below_frozen hb3 (p := ⟨w.heap.size, 1, none⟩) (v := .float .f64 b) (by first | assumption | (go_simp; done)) (by first | assumption | (go_simp; done))
      have hl3_1 : w.heap.size + 1 < w3.heap.size := by omega
      have k3_1_0 := below_cell hb3 (p := ⟨w.heap.size + 1, 0, none⟩) (v := .float .f64 c) (by first | assumption | (go_simp; done))
      have k3_1_0z := below_frozen hb3 (p := ⟨w.heap.size + 1, 0, none⟩) (v := .float .f64 c) (by first | assumption | (go_simp; done)) (by first | assumption | (go_simp; done))
      have k3_1_1 := below_cell hb3 (p := ⟨w.heap.size + 1, 1, none⟩) (v := .float .f64 d) (by first | assumption | (go_simp; done))
      have k3_1_1z := below_frozen hb3 (p := ⟨w.heap.size + 1, 1, none⟩) (v := .float .f64 d) (by first | assumption | (go_simp; done)) (by first | assumption | (go_simp; done))
      clear hb3
      go_wp2_with fail
      refine Calls.mono (M2.out _) ?_
      rintro e w4 ⟨rfl, hb4⟩
      have hw4 : Below w.heap.size w w4 := Below.trans (by repeat (first | (with_reducible assumption) | (with_reducible exact Below.refl _ _) | ((with_reducible refine Below.alloc ?_ ?_ _); rotate_left; exact (by first | omega | (simp; done) | (simp; omega))) | ((with_reducible refine Below.setCell ?_ ?_ _); rotate_left; exact (by first | omega | (simp; done) | (simp; omega))) | (with_reducible refine Below.drew ?_))) (hb4.mono (by first | omega | (simp; done) | (simp; omega)))
      have hs4 := hb4.size
      try simp at hs4
      have hl4_0 : w.heap.size < w4.heap.size := by omega
      have k4_0_0 := below_cell hb4 (p := ⟨w.heap.size, 0, none⟩) (v := .float .f64 a) (by first | assumption | (go_simp; done))
      have k4_0_0z := below_frozen hb4 (p := ⟨w.heap.size, 0, none⟩) (v := .float .f64 a) (by first | assumption | (go_simp; done)) (by first | assumption | (go_simp; done))
      have k4_0_1 := below_cell hb4 (p := ⟨w.heap.size, 1, none⟩) (v := .float .f64 b) (by first | assumption | (go_simp; done))
      have k4_0_1z := below_frozen hb4 (p := ⟨w.heap.size, 1, none⟩) (v := .float .f64 b) (by first | assumption | (go_simp; done)) (by first | assumption | (go_simp; done))
      have hl4_1 : w.heap.size + 1 < w4.heap.size := by omega
      have k4_1_0 := below_cell hb4 (p := ⟨w.heap.size + 1, 0, none⟩) (v := .float .f64 c) (by first | assumption | (go_simp; done))
      have k4_1_0z := below_frozen hb4 (p := ⟨w.heap.size + 1, 0, none⟩) (v := .float .f64 c) (by first | assumption | (go_simp; done)) (by first | assumption | (go_simp; done))
      have k4_1_1 := below_cell hb4 (p := ⟨w.heap.size + 1, 1, none⟩) (v := .float .f64 d) (by first | assumption | (go_simp; done))
      have k4_1_1z := below_frozen hb4 (p := ⟨w.heap.size + 1, 1, none⟩) (v := .float .f64 d) (by first | assumption | (go_simp; done)) (by first | assumption | (go_simp; done))
      clear hb4
      go_wp2_with fail
      refine Calls.mono (M4.out _) ?_
      rintro e w5 ⟨rfl, hb5⟩
      have hw5 : Below w.heap.size w w5 := Below.trans (by repeat (first | (with_reducible assumption) | (with_reducible exact Below.refl _ _) | ((with_reducible refine Below.alloc ?_ ?_ _); rotate_left; exact (by first | omega | (simp; done) | (simp; omega))) | ((with_reducible refine Below.setCell ?_ ?_ _); rotate_left; exact (by first | omega | (simp; done) | (simp; omega))) | (with_reducible refine Below.drew ?_))) (hb5.mono (by first | omega | (simp; done) | (simp; omega)))
      have hs5 := hb5.size
      try simp at hs5
      have hl5_0 : w.heap.size < w5.heap.size := by omega
      have k5_0_0 := below_cell hb5 (p := ⟨w.heap.size, 0, none⟩) (v := .float .f64 a) (by first | assumption | (go_simp; done))
      have k5_0_0z := below_frozen hb5 (p := ⟨w.heap.size, 0, none⟩) (v := .float .f64 a) (by first | assumption | (go_simp; done)) (by first | assumption | (go_simp; done))
      have k5_0_1 := below_cell hb5 (p := ⟨w.heap.size, 1, none⟩) (v := .float .f64 b) (by first | assumption | (go_simp; done))
      have k5_0_1z := below_frozen hb5 (p := ⟨w.heap.size, 1, none⟩) (v := .float .f64 b) (by first | assumption | (go_simp; done)) (by first | assumption | (go_simp; done))
      have hl5_1 : w.heap.size + 1 < w5.heap.size := by omega
      have k5_1_0 := below_cell hb5 (p := ⟨w.heap.size + 1, 0, none⟩) (v := .float .f64 c) (by first | assumption | (go_simp; done))
      have k5_1_0z := below_frozen hb5 (p := ⟨w.heap.size + 1, 0, none⟩) (v := .float .f64 c) (by first | assumption | (go_simp; done)) (by first | assumption | (go_simp; done))
      have k5_1_1 := below_cell hb5 (p := ⟨w.heap.size + 1, 1, none⟩) (v := .float .f64 d) (by first | assumption | (go_simp; done))
      have k5_1_1z := below_frozen hb5 (p := ⟨w.heap.size + 1, 1, none⟩) (v := .float .f64 d) (by first | assumption | (go_simp; done)) (by first | assumption | (go_simp; done))
      clear hb5
      go_wp2_with fail
      refine Calls.mono (M3.out _) ?_
      rintro e w6 ⟨rfl, hb6⟩
      have hw6 : Below w.heap.size w w6 := Below.trans (by repeat (first | (with_reducible assumption) | (with_reducible exact Below.refl _ _) | ((with_reducible refine Below.alloc ?_ ?_ _); rotate_left; exact (by first | omega | (simp; done) | (simp; omega))) | ((with_reducible refine Below.setCell ?_ ?_ _); rotate_left; exact (by first | omega | (simp; done) | (simp; omega))) | (with_reducible refine Below.drew ?_))) (hb6.mono (by first | omega | (simp; done) | (simp; omega)))
      have hs6 := hb6.size
      try simp at hs6
      have hl6_0 : w.heap.size < w6.heap.size := by omega
      have k6_0_0 := below_cell hb6 (p := ⟨w.heap.size, 0, none⟩) (v := .float .f64 a) (by first | assumption | (go_simp; done))
      have k6_0_0z := below_frozen hb6 (p := ⟨w.heap.size, 0, none⟩) (v := .float .f64 a) (by first | assumption | (go_simp; done)) (by first | assumption | (go_simp; done))
      have k6_0_1 := below_cell hb6 (p := ⟨w.heap.size, 1, none⟩) (v := .float .f64 b) (by first | assumption | (go_simp; done))
      have k6_0_1z := below_frozen hb6 (p := ⟨w.heap.size, 1, none⟩) (v := .float .f64 b) (by first | assumption | (go_simp; done)) (by first | assumption | (go_simp; done))
      have hl6_1 : w.heap.size + 1 < w6.heap.size := by omega
      have k6_1_0 := below_cell hb6 (p := ⟨w.heap.size + 1, 0, none⟩) (v := .float .f64 c) (by first | assumption | (go_simp; done))
      have k6_1_0z := below_frozen hb6 (p := ⟨w.heap.size + 1, 0, none⟩) (v := .float .f64 c) (by first | assumption | (go_simp; done)) (by first | assumption | (go_simp; done))
      have k6_1_1 := below_cell hb6 (p := ⟨w.heap.size + 1, 1, none⟩) (v := .float .f64 d) (by first | assumption | (go_simp; done))
      have k6_1_1z := below_frozen hb6 (p := ⟨w.heap.size + 1, 1, none⟩) (v := .float .f64 d) (by first | assumption | (go_simp; done)) (by first | assumption | (go_simp; done))
      clear hb6
      go_wp2_with fail
      refine Calls.mono (M4.out _) ?_
      rintro e w7 ⟨rfl, hb7⟩
      have hw7 : Below w.heap.size w w7 := Below.trans (by repeat (first | (with_reducible assumption) | (with_reducible exact Below.refl _ _) | ((with_reducible refine Below.alloc ?_ ?_ _); rotate_left; exact (by first | omega | (simp; done) | (simp; omega))) | ((with_reducible refine Below.setCell ?_ ?_ _); rotate_left; exact (by first | omega | (simp; done) | (simp; omega))) | (with_reducible refine Below.drew ?_))) (hb7.mono (by first | omega | (simp; done) | (simp; omega)))
      have hs7 := hb7.size
      try simp at hs7
      have hl7_0 : w.heap.size < w7.heap.size := by omega
      have k7_0_0 := below_cell hb7 (p := ⟨w.heap.size, 0, none⟩) (v := .float .f64 a) (by first | assumption | (go_simp; done))
      have k7_0_0z := below_frozen hb7 (p := ⟨w.heap.size, 0, none⟩) (v := .float .f64 a) (by first | assumption | (go_simp; done)) (by first | assumption | (go_simp; done))
      have k7_0_1 := below_cell hb7 (p := ⟨w.heap.size, 1, none⟩) (v := .float .f64 b) (by first | assumption | (go_simp; done))
      have k7_0_1z := below_frozen hb7 (p := ⟨w.heap.size, 1, none⟩) (v := .float .f64 b) (by first | assumption | (go_simp; done)) (by first | assumption | (go_simp; done))
      have hl7_1 : w.heap.size + 1 < w7.heap.size := by omega
      have k7_1_0 := below_cell hb7 (p := ⟨w.heap.size + 1, 0, none⟩) (v := .float .f64 c) (by first | assumption | (go_simp; done))
      have k7_1_0z := below_frozen hb7 (p := ⟨w.heap.size + 1, 0, none⟩) (v := .float .f64 c) (by first | assumption | (go_simp; done)) (by first | assumption | (go_simp; done))
      have k7_1_1 := below_cell hb7 (p := ⟨w.heap.size + 1, 1, none⟩) (v := .float .f64 d) (by first | assumption | (go_simp; done))
      have k7_1_1z := below_frozen hb7 (p := ⟨w.heap.size + 1, 1, none⟩) (v := .float .f64 d) (by first | assumption | (go_simp; done)) (by first | assumption | (go_simp; done))
      clear hb7
      go_wp2
      go_ret
      exact ⟨rfl, (by repeat (first | (with_reducible assumption) | (with_reducible exact Below.refl _ _) | ((with_reducible refine Below.alloc ?_ ?_ _); rotate_left; exact (by first | omega | (simp; done) | (simp; omega))) | ((with_reducible refine Below.setCell ?_ ?_ _); rotate_left; exact (by first | omega | (simp; done) | (simp; omega))) | (with_reducible refine Below.drew ?_)))⟩

end Go.Proofs.Ytonidoghcihnnaa
