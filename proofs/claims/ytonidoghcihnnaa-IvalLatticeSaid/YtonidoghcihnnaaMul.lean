/- The walk of ulp.Mul. -/
import Derived.Test.YtonidoghcihnnaaAdd
import Derived.Test.YtonidoghcihnnaaShelf
namespace Go.Proofs.Ytonidoghcihnnaa
open Go.RowKit
set_option maxRecDepth 100000
set_option maxHeartbeats 1000000
set_option linter.unusedSimpArgs false
set_option linter.unusedVariables false

/-- The product of two places, rounded. -/
noncomputable def mulI (i j dir : Int) : Int := if i = 0 ∨ j = 0 then 0 else if i.natAbs < INF ∧ j.natAbs < INF then rnd (fq i * fq j) dir else if (i < 0) ↔ (j < 0) then (INF : Int) else -(INF : Int)

theorem mul_zero1 (a b Ma Mb : Nat) (Ea Eb dir : Int) (na nb f : Bool) (w : World)
    (hb : ∀ w, Calls Try.prog 97 #[.float .f64 a, .float .f64 b] w fun e w' => e = .returned (.tuple #[.agg #[.bool na, .int .u64 (Ma : Int), .int .i64 Ea], .agg #[.bool nb, .int .u64 (Mb : Int), .int .i64 Eb], .bool f]) ∧ Below w.heap.size w w')
    (ha : feq a a = true) (hbb : feq b b = true) (z : feq a 0 = true) :
    Calls Try.prog 75 #[.float .f64 a, .float .f64 b, .int .i64 dir] w fun e w' => e = .returned (.float .f64 0) ∧ Below w.heap.size w w' := by
  have Hb := Lib.hid hb
  clear hb
  go_enter Try.func75, Try.ntmps75
  go_wp2_with fail
  refine Calls.mono (Hb.out _) ?_
  rintro e w1 ⟨rfl, hb1⟩
  have hw1 : Below w.heap.size w w1 := Below.trans (by repeat (first | (with_reducible assumption) | (with_reducible exact Below.refl _ _) | ((with_reducible refine Below.alloc ?_ ?_ _); rotate_left; exact (by first | omega | (simp; done) | (simp; omega))) | ((with_reducible refine Below.setCell ?_ ?_ _); rotate_left; exact (by first | omega | (simp; done) | (simp; omega))) | (with_reducible refine Below.drew ?_))) (hb1.mono (by first | omega | (simp; done) | (simp; omega)))
  have hs1 := hb1.size
  try simp at hs1
  clear hb1
  go_wp2_with (go_at_call 100; refine (isNaN_any _ _).mono ?_; rintro e wz ⟨rfl, hwz⟩; subst hwz)
  go_ret
  exact ⟨rfl, (by repeat (first | (with_reducible assumption) | (with_reducible exact Below.refl _ _) | ((with_reducible refine Below.alloc ?_ ?_ _); rotate_left; exact (by first | omega | (simp; done) | (simp; omega))) | ((with_reducible refine Below.setCell ?_ ?_ _); rotate_left; exact (by first | omega | (simp; done) | (simp; omega))) | (with_reducible refine Below.drew ?_)))⟩
theorem mul_zero2 (a b Ma Mb : Nat) (Ea Eb dir : Int) (na nb f : Bool) (w : World)
    (hb : ∀ w, Calls Try.prog 97 #[.float .f64 a, .float .f64 b] w fun e w' => e = .returned (.tuple #[.agg #[.bool na, .int .u64 (Ma : Int), .int .i64 Ea], .agg #[.bool nb, .int .u64 (Mb : Int), .int .i64 Eb], .bool f]) ∧ Below w.heap.size w w')
    (ha : feq a a = true) (hbb : feq b b = true) (z : feq a 0 = false) (z2 : feq b 0 = true) :
    Calls Try.prog 75 #[.float .f64 a, .float .f64 b, .int .i64 dir] w fun e w' => e = .returned (.float .f64 0) ∧ Below w.heap.size w w' := by
  have Hb := Lib.hid hb
  clear hb
  go_enter Try.func75, Try.ntmps75
  go_wp2_with fail
  refine Calls.mono (Hb.out _) ?_
  rintro e w1 ⟨rfl, hb1⟩
  have hw1 : Below w.heap.size w w1 := Below.trans (by repeat (first | (with_reducible assumption) | (with_reducible exact Below.refl _ _) | ((with_reducible refine Below.alloc ?_ ?_ _); rotate_left; exact (by first | omega | (simp; done) | (simp; omega))) | ((with_reducible refine Below.setCell ?_ ?_ _); rotate_left; exact (by first | omega | (simp; done) | (simp; omega))) | (with_reducible refine Below.drew ?_))) (hb1.mono (by first | omega | (simp; done) | (simp; omega)))
  have hs1 := hb1.size
  try simp at hs1
  clear hb1
  go_wp2_with (go_at_call 100; refine (isNaN_any _ _).mono ?_; rintro e wz ⟨rfl, hwz⟩; subst hwz)
  go_ret
  exact ⟨rfl, (by repeat (first | (with_reducible assumption) | (with_reducible exact Below.refl _ _) | ((with_reducible refine Below.alloc ?_ ?_ _); rotate_left; exact (by first | omega | (simp; done) | (simp; omega))) | ((with_reducible refine Below.setCell ?_ ?_ _); rotate_left; exact (by first | omega | (simp; done) | (simp; omega))) | (with_reducible refine Below.drew ?_)))⟩
theorem mul_out (a b Ma Mb : Nat) (Ea Eb dir : Int) (na nb : Bool) (r : Nat) (w : World)
    (hb : ∀ w, Calls Try.prog 97 #[.float .f64 a, .float .f64 b] w fun e w' => e = .returned (.tuple #[.agg #[.bool na, .int .u64 (Ma : Int), .int .i64 Ea], .agg #[.bool nb, .int .u64 (Mb : Int), .int .i64 Eb], .bool false]) ∧ Below w.heap.size w w')
    (ha : feq a a = true) (hbb : feq b b = true) (z : feq a 0 = false) (z2 : feq b 0 = false) (hr : ∀ w, (binOp .mul 33 (.float .f64 a) (.float .f64 b)).run Try.prog w = .ok (.float .f64 r) w) :
    Calls Try.prog 75 #[.float .f64 a, .float .f64 b, .int .i64 dir] w fun e w' => e = .returned (.float .f64 r) ∧ Below w.heap.size w w' := by
  have Hb := Lib.hid hb
  clear hb
  go_enter Try.func75, Try.ntmps75
  go_wp2_with fail
  refine Calls.mono (Hb.out _) ?_
  rintro e w1 ⟨rfl, hb1⟩
  have hw1 : Below w.heap.size w w1 := Below.trans (by repeat (first | (with_reducible assumption) | (with_reducible exact Below.refl _ _) | ((with_reducible refine Below.alloc ?_ ?_ _); rotate_left; exact (by first | omega | (simp; done) | (simp; omega))) | ((with_reducible refine Below.setCell ?_ ?_ _); rotate_left; exact (by first | omega | (simp; done) | (simp; omega))) | (with_reducible refine Below.drew ?_))) (hb1.mono (by first | omega | (simp; done) | (simp; omega)))
  have hs1 := hb1.size
  try simp at hs1
  clear hb1
  go_wp2_with (go_at_call 100; refine (isNaN_any _ _).mono ?_; rintro e wz ⟨rfl, hwz⟩; subst hwz)
  go_ret
  exact ⟨rfl, (by repeat (first | (with_reducible assumption) | (with_reducible exact Below.refl _ _) | ((with_reducible refine Below.alloc ?_ ?_ _); rotate_left; exact (by first | omega | (simp; done) | (simp; omega))) | ((with_reducible refine Below.setCell ?_ ?_ _); rotate_left; exact (by first | omega | (simp; done) | (simp; omega))) | (with_reducible refine Below.drew ?_)))⟩
theorem mul_go (a b Ma Mb : Nat) (Ea Eb dir : Int) (na nb neg : Bool) (hi lo r : Nat) (w : World)
    (hb : ∀ w, Calls Try.prog 97 #[.float .f64 a, .float .f64 b] w fun e w' => e = .returned (.tuple #[.agg #[.bool na, .int .u64 (Ma : Int), .int .i64 Ea], .agg #[.bool nb, .int .u64 (Mb : Int), .int .i64 Eb], .bool true]) ∧ Below w.heap.size w w')
    (ha : feq a a = true) (hbb : feq b b = true) (z : feq a 0 = false) (z2 : feq b 0 = false) (e1 : -1074 ≤ Ea) (e2 : Ea ≤ 971) (f1 : -1074 ≤ Eb) (f2 : Eb ≤ 971) (hn : (!(na == nb)) = neg)
    (hm : ∀ w, Calls Try.prog 106 #[.int .u64 (Ma : Int), .int .u64 (Mb : Int)] w fun e w' => e = .returned (.tuple #[.int .u64 (hi : Int), .int .u64 (lo : Int)]) ∧ w' = w)
    (hr : ∀ w, Calls Try.prog 99 #[.agg #[.bool neg, .int .u64 (hi : Int), .int .u64 (lo : Int), .int .i64 (Ea + Eb), .bool false], .int .i64 dir] w fun e w' => e = .returned (.float .f64 r) ∧ Below w.heap.size w w') :
    Calls Try.prog 75 #[.float .f64 a, .float .f64 b, .int .i64 dir] w fun e w' => e = .returned (.float .f64 r) ∧ Below w.heap.size w w' := by
  have Hb := Lib.hid hb
  have Hm := Lib.hid hm
  have Hr := Lib.hid hr
  clear hb hm hr
  go_enter Try.func75, Try.ntmps75
  go_wp2_with fail
  refine Calls.mono (Hb.out _) ?_
  rintro e w1 ⟨rfl, hb1⟩
  have hw1 : Below w.heap.size w w1 := Below.trans (by repeat (first | (with_reducible assumption) | (with_reducible exact Below.refl _ _) | ((with_reducible refine Below.alloc ?_ ?_ _); rotate_left; exact (by first | omega | (simp; done) | (simp; omega))) | ((with_reducible refine Below.setCell ?_ ?_ _); rotate_left; exact (by first | omega | (simp; done) | (simp; omega))) | (with_reducible refine Below.drew ?_))) (hb1.mono (by first | omega | (simp; done) | (simp; omega)))
  have hs1 := hb1.size
  try simp at hs1
  clear hb1
  go_wp2_with (first | (go_at_call 100; refine (isNaN_any _ _).mono ?_; rintro e wz ⟨rfl, hwz⟩; subst hwz) | (go_at_call 106; refine (Hm.out _).mono ?_; rintro e wz ⟨rfl, hwz⟩; subst hwz) | (go_at_call 99; with_reducible refine Calls.mono (Hr.out _) ?_; rintro e w2 ⟨rfl, hb2⟩))
  go_ret
  exact ⟨rfl, hw1.trans (Below.trans (by repeat (first | (with_reducible assumption) | (with_reducible exact Below.refl _ _) | ((with_reducible refine Below.alloc ?_ ?_ _); rotate_left; exact (by first | omega | (simp; done) | (simp; omega))) | ((with_reducible refine Below.setCell ?_ ?_ _); rotate_left; exact (by first | omega | (simp; done) | (simp; omega))) | (with_reducible refine Below.drew ?_))) (hb2.mono (by have := hw1.size; simp; omega)))⟩

theorem write_inf (s : Bool) : Ieee.double.write (.infinity s) = wd (if s = true then -(INF : Int) else INF) := by
  have hI := INF_eq
  unfold Ieee.Format.write
  dsimp only
  rw [word_double, show Ieee.double.infRung = INF from by decide]
  unfold wd
  cases s
  · simp only [Bool.false_eq_true, if_false]; rw [if_neg (by omega)]; simp
  · simp; omega

theorem sign_ix {a : Nat} (ha : word a) (z : ix a ≠ 0) : (a / SGN % 2 == 1) = decide (ix a < 0) := by
  rw [ix_sign ha] at *
  cases h : (a / SGN % 2 == 1) <;> rw [h] at z <;> simp at z ⊢ <;> omega

theorem mul_inf {a b : Nat} (ha : word a) (na : ¬ nan a) (hb : word b) (nb : ¬ nan b) (za : ix a ≠ 0) (zb : ix b ≠ 0) (h : ¬ (finw a ∧ finw b)) :
    Ieee.double.mul a b = some (wd (if (ix a < 0) ↔ (ix b < 0) then (INF : Int) else -(INF : Int))) := by
  have hI := INF_eq
  have sa := sign_ix ha za
  have sb := sign_ix hb zb
  have nz : ∀ {x : Nat}, word x → ix x ≠ 0 → x % SGN < INF → ∃ m e, Ieee.double.read x = .number (x / SGN % 2 == 1) m e ∧ m ≠ 0 := fun {x} hx hz hf => by
    obtain ⟨m, e, hr, he, hm, _⟩ := read_num hf
    refine ⟨m, _, hr, fun h0 => hz ?_⟩
    have : fi (ix x) = 0 := by
      rw [fi_sign hx, ← hm, h0, Nat.zero_mul]; simp
    exact fi_eq_zero this
  have res : ∀ s t : Bool, s = decide (ix a < 0) → t = decide (ix b < 0) → Ieee.double.write (.infinity (s ^^ t)) = wd (if (ix a < 0) ↔ (ix b < 0) then (INF : Int) else -(INF : Int)) := fun s t hs ht => by
    rw [write_inf, hs, ht]
    congr 1
    by_cases h1 : ix a < 0 <;> by_cases h2 : ix b < 0 <;> simp [h1, h2]
  unfold Ieee.Format.mul
  by_cases fa : a % SGN < INF
  · have fb : ¬ b % SGN < INF := fun fb => h ⟨⟨ha, fa⟩, hb, fb⟩
    have hb2 : b % SGN = INF := by unfold nan at nb; omega
    obtain ⟨m, e, hr, hm⟩ := nz ha za fa
    rw [hr, read_inf hb2]
    unfold Ieee.Datum.product
    dsimp only
    rw [if_neg hm, Option.map_some, Bool.xor_comm, res _ _ sa sb]
  · have ha2 : a % SGN = INF := by unfold nan at na; omega
    rw [read_inf ha2]
    by_cases fb : b % SGN < INF
    · obtain ⟨m, e, hr, hm⟩ := nz hb zb fb
      rw [hr]
      unfold Ieee.Datum.product
      dsimp only
      rw [if_neg hm, Option.map_some, res _ _ sa sb]
    · have hb2 : b % SGN = INF := by unfold nan at nb; omega
      rw [read_inf hb2]
      unfold Ieee.Datum.product
      dsimp only
      rw [Option.map_some, res _ _ sa sb]

theorem feq_self {a : Nat} (ha : word a) (na : ¬ nan a) : feq a a = true := by rw [feq_num ha ha na na]; simp
theorem feq_0 {a : Nat} (ha : word a) (na : ¬ nan a) : feq a 0 = decide (ix a = 0) := by
  have z := nw_wd zero_le'
  rw [← wd_0, feq_num ha z.1 na z.2.1, ix_of zero_le']

/-- ulp.Mul. -/
theorem ulpMul_any (a b : Nat) (dir : Int) (w : World) (ha : word a) (na : ¬ nan a) (hb : word b) (nb : ¬ nan b) (d1 : -1 ≤ dir) (d2 : dir ≤ 1) :
    Calls Try.prog 75 #[.float .f64 a, .float .f64 b, .int .i64 dir] w fun e w' => e = .returned (.float .f64 (wd (mulI (ix a) (ix b) dir))) ∧ Below w.heap.size w w' := by
  have hB := BN_eq
  have fa := feq_self ha na
  have fb := feq_self hb nb
  have za := feq_0 ha na
  have zb := feq_0 hb nb
  by_cases hf : finw a ∧ finw b
  · obtain ⟨pa, pb⟩ := hf
    have bo := fun w => both_fin pa pb w
    by_cases h1 : ix a = 0
    · rw [decide_eq_true h1] at za
      have e0 : mulI (ix a) (ix b) dir = 0 := by unfold mulI; rw [if_pos (Or.inl h1)]
      rw [e0, wd_0]
      exact mul_zero1 a b _ _ _ _ dir _ _ _ w bo fa fb za
    by_cases h2 : ix b = 0
    · rw [decide_eq_false h1] at za; rw [decide_eq_true h2] at zb
      have e0 : mulI (ix a) (ix b) dir = 0 := by unfold mulI; rw [if_pos (Or.inr h2)]
      rw [e0, wd_0]
      exact mul_zero2 a b _ _ _ _ dir _ _ _ w bo fa fb za zb
    rw [decide_eq_false h1] at za; rw [decide_eq_false h2] at zb
    have e0 : mulI (ix a) (ix b) dir = rnd (vq a * vq b) dir := by
      unfold mulI
      rw [if_neg (by omega), if_pos ⟨(fin_iff ha na).1 pa, (fin_iff hb nb).1 pb⟩]
      rfl
    rw [e0]
    obtain ⟨m1, l1, u1, _⟩ := spl_bound pa
    obtain ⟨m2, l2, u2, _⟩ := spl_bound pb
    have hX : splM a * splM b < W64 * W64 := by
      have : splM a * splM b ≤ (2 * BN) * (2 * BN) := Nat.mul_le_mul (Nat.le_of_lt m1) (Nat.le_of_lt m2)
      rw [W64_eq]; rw [hB] at this; omega
    have hW : 0 < W64 := by rw [W64_eq]; omega
    have hdm := Nat.div_add_mod (splM a * splM b) W64
    have hhi : splM a * splM b / W64 < W64 := (Nat.div_lt_iff_lt_mul hW).2 hX
    have hy : vq a * vq b = rsign (!(splN a == splN b)) ((((splM a * splM b / W64) * W64 + splM a * splM b % W64 : Nat) : Rat) * p2 (splE a + splE b) + 0) := by
      rw [Nat.mul_comm (splM a * splM b / W64), hdm, spl_vq pa, spl_vq pb, p2_add, Rat.natCast_mul]
      unfold rsign
      cases splN a <;> cases splN b <;> simp <;> grind
    exact mul_go a b _ _ _ _ dir _ _ _ _ _ _ w bo fa fb za zb l1 u1 l2 u2 rfl
      (fun w => Try.bits_Mul64 (splM a) (splM b) (by omega) (by omega) w)
      (fun w => round_rnd hhi (Nat.mod_lt _ hW) (by omega) (by omega) Rat.le_refl (p2_pos _) (by simp) hy (fun h => by cases h) d1 d2 w)
  · obtain ⟨sa, sb, Ma, Mb, Ea, Eb, bo⟩ := both_bad ha hb hf
    by_cases h1 : ix a = 0
    · rw [decide_eq_true h1] at za
      have e0 : mulI (ix a) (ix b) dir = 0 := by unfold mulI; rw [if_pos (Or.inl h1)]
      rw [e0, wd_0]
      exact mul_zero1 a b _ _ _ _ dir _ _ _ w bo fa fb za
    by_cases h2 : ix b = 0
    · rw [decide_eq_false h1] at za; rw [decide_eq_true h2] at zb
      have e0 : mulI (ix a) (ix b) dir = 0 := by unfold mulI; rw [if_pos (Or.inr h2)]
      rw [e0, wd_0]
      exact mul_zero2 a b _ _ _ _ dir _ _ _ w bo fa fb za zb
    rw [decide_eq_false h1] at za; rw [decide_eq_false h2] at zb
    have e0 : mulI (ix a) (ix b) dir = if (ix a < 0) ↔ (ix b < 0) then (INF : Int) else -(INF : Int) := by
      unfold mulI
      rw [if_neg (by omega), if_neg (fun h => hf ⟨(fin_iff ha na).2 h.1, (fin_iff hb nb).2 h.2⟩)]
    rw [e0]
    exact mul_out a b Ma Mb Ea Eb dir sa sb _ w bo fa fb za zb (run_fmul _ (mul_inf ha na hb nb h1 h2 hf))
theorem mulI_abs (i j dir : Int) : (mulI i j dir).natAbs ≤ INF := by
  have hI := INF_eq
  unfold mulI
  split
  · omega
  · split
    · exact rnd_abs _ _
    · split <;> omega

end Go.Proofs.Ytonidoghcihnnaa
