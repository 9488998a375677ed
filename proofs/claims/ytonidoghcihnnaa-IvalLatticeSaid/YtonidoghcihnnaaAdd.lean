/- The walk of ulp.Add. -/
import Derived.Test.YtonidoghcihnnaaBoth
import Derived.Test.YtonidoghcihnnaaMake
import Derived.Test.YtonidoghcihnnaaRounds
namespace Go.Proofs.Ytonidoghcihnnaa
open Go.RowKit
set_option maxRecDepth 100000
set_option maxHeartbeats 1000000
set_option linter.unusedSimpArgs false
set_option linter.unusedVariables false

theorem add_go0 (a b Ma Mb : Nat) (Ea Eb dir : Int) (na nb : Bool) (neg more : Bool) (hi lo r : Nat) (e : Int) (w : World)
    (hb : ∀ w, Calls Try.prog 97 #[.float .f64 a, .float .f64 b] w fun e w' => e = .returned (.tuple #[.agg #[.bool na, .int .u64 (Ma : Int), .int .i64 Ea], .agg #[.bool nb, .int .u64 (Mb : Int), .int .i64 Eb], .bool true]) ∧ Below w.heap.size w w')
    (hs : ∀ w, Calls Try.prog 98 #[.agg #[.bool na, .int .u64 (Ma : Int), .int .i64 Ea], .agg #[.bool nb, .int .u64 (Mb : Int), .int .i64 Eb]] w fun e' w' => e' = .returned (.agg #[.bool neg, .int .u64 (hi : Int), .int .u64 (lo : Int), .int .i64 e, .bool more]) ∧ Below w.heap.size w w')
    (hr : ∀ w, Calls Try.prog 99 #[.agg #[.bool neg, .int .u64 (hi : Int), .int .u64 (lo : Int), .int .i64 e, .bool more], .int .i64 dir] w fun e w' => e = .returned (.float .f64 r) ∧ Below w.heap.size w w')
    (h1 : Eb < Ea) :
    Calls Try.prog 68 #[.float .f64 a, .float .f64 b, .int .i64 dir] w fun e w' => e = .returned (.float .f64 r) ∧ Below w.heap.size w w' := by
  have g1 : ¬ Ea < Eb := by omega
  have g2 : (Ea == Eb) = false := by simp; omega
  have Hb := Lib.hid hb
  have Hs := Lib.hid hs
  have Hr := Lib.hid hr
  clear hb hs hr
  go_enter Try.func68, Try.ntmps68
  go_wp2_with fail
  refine Calls.mono (Hb.out _) ?_
  rintro e w1 ⟨rfl, hb1⟩
  have hw1 : Below w.heap.size w w1 := Below.trans (by repeat (first | (with_reducible assumption) | (with_reducible exact Below.refl _ _) | ((with_reducible refine Below.alloc ?_ ?_ _); rotate_left; exact (by first | omega | (simp; done) | (simp; omega))) | ((with_reducible refine Below.setCell ?_ ?_ _); rotate_left; exact (by first | omega | (simp; done) | (simp; omega))) | (with_reducible refine Below.drew ?_))) (hb1.mono (by first | omega | (simp; done) | (simp; omega)))
  have hs1 := hb1.size
  try simp at hs1
  clear hb1
  go_wp2_with fail
  refine Calls.mono (Hs.out _) ?_
  rintro e w2 ⟨rfl, hb2⟩
  have hw2 : Below w.heap.size w w2 := Below.trans (by repeat (first | (with_reducible assumption) | (with_reducible exact Below.refl _ _) | ((with_reducible refine Below.alloc ?_ ?_ _); rotate_left; exact (by first | omega | (simp; done) | (simp; omega))) | ((with_reducible refine Below.setCell ?_ ?_ _); rotate_left; exact (by first | omega | (simp; done) | (simp; omega))) | (with_reducible refine Below.drew ?_))) (hb2.mono (by first | omega | (simp; done) | (simp; omega)))
  have hs2 := hb2.size
  try simp at hs2
  clear hb2
  go_wp2_with fail
  refine Calls.mono (Hr.out _) ?_
  rintro e w3 ⟨rfl, hb3⟩
  have hw3 : Below w.heap.size w w3 := Below.trans (by repeat (first | (with_reducible assumption) | (with_reducible exact Below.refl _ _) | ((with_reducible refine Below.alloc ?_ ?_ _); rotate_left; exact (by first | omega | (simp; done) | (simp; omega))) | ((with_reducible refine Below.setCell ?_ ?_ _); rotate_left; exact (by first | omega | (simp; done) | (simp; omega))) | (with_reducible refine Below.drew ?_))) (hb3.mono (by first | omega | (simp; done) | (simp; omega)))
  have hs3 := hb3.size
  try simp at hs3
  clear hb3
  go_wp2
  go_ret
  exact ⟨rfl, (by repeat (first | (with_reducible assumption) | (with_reducible exact Below.refl _ _) | ((with_reducible refine Below.alloc ?_ ?_ _); rotate_left; exact (by first | omega | (simp; done) | (simp; omega))) | ((with_reducible refine Below.setCell ?_ ?_ _); rotate_left; exact (by first | omega | (simp; done) | (simp; omega))) | (with_reducible refine Below.drew ?_)))⟩

theorem add_go1 (a b Ma Mb : Nat) (Ea Eb dir : Int) (na nb : Bool) (neg more : Bool) (hi lo r : Nat) (e : Int) (w : World)
    (hb : ∀ w, Calls Try.prog 97 #[.float .f64 a, .float .f64 b] w fun e w' => e = .returned (.tuple #[.agg #[.bool na, .int .u64 (Ma : Int), .int .i64 Ea], .agg #[.bool nb, .int .u64 (Mb : Int), .int .i64 Eb], .bool true]) ∧ Below w.heap.size w w')
    (hs : ∀ w, Calls Try.prog 98 #[.agg #[.bool nb, .int .u64 (Mb : Int), .int .i64 Eb], .agg #[.bool na, .int .u64 (Ma : Int), .int .i64 Ea]] w fun e' w' => e' = .returned (.agg #[.bool neg, .int .u64 (hi : Int), .int .u64 (lo : Int), .int .i64 e, .bool more]) ∧ Below w.heap.size w w')
    (hr : ∀ w, Calls Try.prog 99 #[.agg #[.bool neg, .int .u64 (hi : Int), .int .u64 (lo : Int), .int .i64 e, .bool more], .int .i64 dir] w fun e w' => e = .returned (.float .f64 r) ∧ Below w.heap.size w w')
    (h1 : Ea < Eb) :
    Calls Try.prog 68 #[.float .f64 a, .float .f64 b, .int .i64 dir] w fun e w' => e = .returned (.float .f64 r) ∧ Below w.heap.size w w' := by
  have Hb := Lib.hid hb
  have Hs := Lib.hid hs
  have Hr := Lib.hid hr
  clear hb hs hr
  go_enter Try.func68, Try.ntmps68
  go_wp2_with fail
  refine Calls.mono (Hb.out _) ?_
  rintro e w1 ⟨rfl, hb1⟩
  have hw1 : Below w.heap.size w w1 := Below.trans (by repeat (first | (with_reducible assumption) | (with_reducible exact Below.refl _ _) | ((with_reducible refine Below.alloc ?_ ?_ _); rotate_left; exact (by first | omega | (simp; done) | (simp; omega))) | ((with_reducible refine Below.setCell ?_ ?_ _); rotate_left; exact (by first | omega | (simp; done) | (simp; omega))) | (with_reducible refine Below.drew ?_))) (hb1.mono (by first | omega | (simp; done) | (simp; omega)))
  have hs1 := hb1.size
  try simp at hs1
  clear hb1
  go_wp2_with fail
  refine Calls.mono (Hs.out _) ?_
  rintro e w2 ⟨rfl, hb2⟩
  have hw2 : Below w.heap.size w w2 := Below.trans (by repeat (first | (with_reducible assumption) | (with_reducible exact Below.refl _ _) | ((with_reducible refine Below.alloc ?_ ?_ _); rotate_left; exact (by first | omega | (simp; done) | (simp; omega))) | ((with_reducible refine Below.setCell ?_ ?_ _); rotate_left; exact (by first | omega | (simp; done) | (simp; omega))) | (with_reducible refine Below.drew ?_))) (hb2.mono (by first | omega | (simp; done) | (simp; omega)))
  have hs2 := hb2.size
  try simp at hs2
  clear hb2
  go_wp2_with fail
  refine Calls.mono (Hr.out _) ?_
  rintro e w3 ⟨rfl, hb3⟩
  have hw3 : Below w.heap.size w w3 := Below.trans (by repeat (first | (with_reducible assumption) | (with_reducible exact Below.refl _ _) | ((with_reducible refine Below.alloc ?_ ?_ _); rotate_left; exact (by first | omega | (simp; done) | (simp; omega))) | ((with_reducible refine Below.setCell ?_ ?_ _); rotate_left; exact (by first | omega | (simp; done) | (simp; omega))) | (with_reducible refine Below.drew ?_))) (hb3.mono (by first | omega | (simp; done) | (simp; omega)))
  have hs3 := hb3.size
  try simp at hs3
  clear hb3
  go_wp2
  go_ret
  exact ⟨rfl, (by repeat (first | (with_reducible assumption) | (with_reducible exact Below.refl _ _) | ((with_reducible refine Below.alloc ?_ ?_ _); rotate_left; exact (by first | omega | (simp; done) | (simp; omega))) | ((with_reducible refine Below.setCell ?_ ?_ _); rotate_left; exact (by first | omega | (simp; done) | (simp; omega))) | (with_reducible refine Below.drew ?_)))⟩

theorem add_go2 (a b Ma Mb : Nat) (Ea Eb dir : Int) (na nb : Bool) (neg more : Bool) (hi lo r : Nat) (e : Int) (w : World)
    (hb : ∀ w, Calls Try.prog 97 #[.float .f64 a, .float .f64 b] w fun e w' => e = .returned (.tuple #[.agg #[.bool na, .int .u64 (Ma : Int), .int .i64 Ea], .agg #[.bool nb, .int .u64 (Mb : Int), .int .i64 Eb], .bool true]) ∧ Below w.heap.size w w')
    (hs : ∀ w, Calls Try.prog 98 #[.agg #[.bool nb, .int .u64 (Mb : Int), .int .i64 Eb], .agg #[.bool na, .int .u64 (Ma : Int), .int .i64 Ea]] w fun e' w' => e' = .returned (.agg #[.bool neg, .int .u64 (hi : Int), .int .u64 (lo : Int), .int .i64 e, .bool more]) ∧ Below w.heap.size w w')
    (hr : ∀ w, Calls Try.prog 99 #[.agg #[.bool neg, .int .u64 (hi : Int), .int .u64 (lo : Int), .int .i64 e, .bool more], .int .i64 dir] w fun e w' => e = .returned (.float .f64 r) ∧ Below w.heap.size w w')
    (h1 : Ea = Eb ∧ Ma < Mb) :
    Calls Try.prog 68 #[.float .f64 a, .float .f64 b, .int .i64 dir] w fun e w' => e = .returned (.float .f64 r) ∧ Below w.heap.size w w' := by
  obtain ⟨rfl, h2⟩ := h1
  have g3 : (Ma : Int) < (Mb : Int) := by omega
  have Hb := Lib.hid hb
  have Hs := Lib.hid hs
  have Hr := Lib.hid hr
  clear hb hs hr
  go_enter Try.func68, Try.ntmps68
  go_wp2_with fail
  refine Calls.mono (Hb.out _) ?_
  rintro e w1 ⟨rfl, hb1⟩
  have hw1 : Below w.heap.size w w1 := Below.trans (by repeat (first | (with_reducible assumption) | (with_reducible exact Below.refl _ _) | ((with_reducible refine Below.alloc ?_ ?_ _); rotate_left; exact (by first | omega | (simp; done) | (simp; omega))) | ((with_reducible refine Below.setCell ?_ ?_ _); rotate_left; exact (by first | omega | (simp; done) | (simp; omega))) | (with_reducible refine Below.drew ?_))) (hb1.mono (by first | omega | (simp; done) | (simp; omega)))
  have hs1 := hb1.size
  try simp at hs1
  clear hb1
  go_wp2_with fail
  refine Calls.mono (Hs.out _) ?_
  rintro e w2 ⟨rfl, hb2⟩
  have hw2 : Below w.heap.size w w2 := Below.trans (by repeat (first | (with_reducible assumption) | (with_reducible exact Below.refl _ _) | ((with_reducible refine Below.alloc ?_ ?_ _); rotate_left; exact (by first | omega | (simp; done) | (simp; omega))) | ((with_reducible refine Below.setCell ?_ ?_ _); rotate_left; exact (by first | omega | (simp; done) | (simp; omega))) | (with_reducible refine Below.drew ?_))) (hb2.mono (by first | omega | (simp; done) | (simp; omega)))
  have hs2 := hb2.size
  try simp at hs2
  clear hb2
  go_wp2_with fail
  refine Calls.mono (Hr.out _) ?_
  rintro e w3 ⟨rfl, hb3⟩
  have hw3 : Below w.heap.size w w3 := Below.trans (by repeat (first | (with_reducible assumption) | (with_reducible exact Below.refl _ _) | ((with_reducible refine Below.alloc ?_ ?_ _); rotate_left; exact (by first | omega | (simp; done) | (simp; omega))) | ((with_reducible refine Below.setCell ?_ ?_ _); rotate_left; exact (by first | omega | (simp; done) | (simp; omega))) | (with_reducible refine Below.drew ?_))) (hb3.mono (by first | omega | (simp; done) | (simp; omega)))
  have hs3 := hb3.size
  try simp at hs3
  clear hb3
  go_wp2
  go_ret
  exact ⟨rfl, (by repeat (first | (with_reducible assumption) | (with_reducible exact Below.refl _ _) | ((with_reducible refine Below.alloc ?_ ?_ _); rotate_left; exact (by first | omega | (simp; done) | (simp; omega))) | ((with_reducible refine Below.setCell ?_ ?_ _); rotate_left; exact (by first | omega | (simp; done) | (simp; omega))) | (with_reducible refine Below.drew ?_)))⟩

theorem add_go3 (a b Ma Mb : Nat) (Ea Eb dir : Int) (na nb : Bool) (neg more : Bool) (hi lo r : Nat) (e : Int) (w : World)
    (hb : ∀ w, Calls Try.prog 97 #[.float .f64 a, .float .f64 b] w fun e w' => e = .returned (.tuple #[.agg #[.bool na, .int .u64 (Ma : Int), .int .i64 Ea], .agg #[.bool nb, .int .u64 (Mb : Int), .int .i64 Eb], .bool true]) ∧ Below w.heap.size w w')
    (hs : ∀ w, Calls Try.prog 98 #[.agg #[.bool na, .int .u64 (Ma : Int), .int .i64 Ea], .agg #[.bool nb, .int .u64 (Mb : Int), .int .i64 Eb]] w fun e' w' => e' = .returned (.agg #[.bool neg, .int .u64 (hi : Int), .int .u64 (lo : Int), .int .i64 e, .bool more]) ∧ Below w.heap.size w w')
    (hr : ∀ w, Calls Try.prog 99 #[.agg #[.bool neg, .int .u64 (hi : Int), .int .u64 (lo : Int), .int .i64 e, .bool more], .int .i64 dir] w fun e w' => e = .returned (.float .f64 r) ∧ Below w.heap.size w w')
    (h1 : Ea = Eb ∧ ¬ Ma < Mb) :
    Calls Try.prog 68 #[.float .f64 a, .float .f64 b, .int .i64 dir] w fun e w' => e = .returned (.float .f64 r) ∧ Below w.heap.size w w' := by
  obtain ⟨rfl, h2⟩ := h1
  have g3 : ¬ (Ma : Int) < (Mb : Int) := by omega
  have Hb := Lib.hid hb
  have Hs := Lib.hid hs
  have Hr := Lib.hid hr
  clear hb hs hr
  go_enter Try.func68, Try.ntmps68
  go_wp2_with fail
  refine Calls.mono (Hb.out _) ?_
  rintro e w1 ⟨rfl, hb1⟩
  have hw1 : Below w.heap.size w w1 := Below.trans (by repeat (first | (with_reducible assumption) | (with_reducible exact Below.refl _ _) | ((with_reducible refine Below.alloc ?_ ?_ _); rotate_left; exact (by first | omega | (simp; done) | (simp; omega))) | ((with_reducible refine Below.setCell ?_ ?_ _); rotate_left; exact (by first | omega | (simp; done) | (simp; omega))) | (with_reducible refine Below.drew ?_))) (hb1.mono (by first | omega | (simp; done) | (simp; omega)))
  have hs1 := hb1.size
  try simp at hs1
  clear hb1
  go_wp2_with fail
  refine Calls.mono (Hs.out _) ?_
  rintro e w2 ⟨rfl, hb2⟩
  have hw2 : Below w.heap.size w w2 := Below.trans (by repeat (first | (with_reducible assumption) | (with_reducible exact Below.refl _ _) | ((with_reducible refine Below.alloc ?_ ?_ _); rotate_left; exact (by first | omega | (simp; done) | (simp; omega))) | ((with_reducible refine Below.setCell ?_ ?_ _); rotate_left; exact (by first | omega | (simp; done) | (simp; omega))) | (with_reducible refine Below.drew ?_))) (hb2.mono (by first | omega | (simp; done) | (simp; omega)))
  have hs2 := hb2.size
  try simp at hs2
  clear hb2
  go_wp2_with fail
  refine Calls.mono (Hr.out _) ?_
  rintro e w3 ⟨rfl, hb3⟩
  have hw3 : Below w.heap.size w w3 := Below.trans (by repeat (first | (with_reducible assumption) | (with_reducible exact Below.refl _ _) | ((with_reducible refine Below.alloc ?_ ?_ _); rotate_left; exact (by first | omega | (simp; done) | (simp; omega))) | ((with_reducible refine Below.setCell ?_ ?_ _); rotate_left; exact (by first | omega | (simp; done) | (simp; omega))) | (with_reducible refine Below.drew ?_))) (hb3.mono (by first | omega | (simp; done) | (simp; omega)))
  have hs3 := hb3.size
  try simp at hs3
  clear hb3
  go_wp2
  go_ret
  exact ⟨rfl, (by repeat (first | (with_reducible assumption) | (with_reducible exact Below.refl _ _) | ((with_reducible refine Below.alloc ?_ ?_ _); rotate_left; exact (by first | omega | (simp; done) | (simp; omega))) | ((with_reducible refine Below.setCell ?_ ?_ _); rotate_left; exact (by first | omega | (simp; done) | (simp; omega))) | (with_reducible refine Below.drew ?_)))⟩

theorem add_out (a b Ma Mb : Nat) (Ea Eb dir : Int) (na nb : Bool) (r : Nat) (w : World)
    (hb : ∀ w, Calls Try.prog 97 #[.float .f64 a, .float .f64 b] w fun e w' => e = .returned (.tuple #[.agg #[.bool na, .int .u64 (Ma : Int), .int .i64 Ea], .agg #[.bool nb, .int .u64 (Mb : Int), .int .i64 Eb], .bool false]) ∧ Below w.heap.size w w')
    (hr : ∀ w, (binOp .add 33 (.float .f64 a) (.float .f64 b)).run Try.prog w = .ok (.float .f64 r) w) :
    Calls Try.prog 68 #[.float .f64 a, .float .f64 b, .int .i64 dir] w fun e w' => e = .returned (.float .f64 r) ∧ Below w.heap.size w w' := by
  have Hb := Lib.hid hb
  clear hb
  go_enter Try.func68, Try.ntmps68
  go_wp2_with fail
  refine Calls.mono (Hb.out _) ?_
  rintro e w1 ⟨rfl, hb1⟩
  have hw1 : Below w.heap.size w w1 := Below.trans (by repeat (first | (with_reducible assumption) | (with_reducible exact Below.refl _ _) | ((with_reducible refine Below.alloc ?_ ?_ _); rotate_left; exact (by first | omega | (simp; done) | (simp; omega))) | ((with_reducible refine Below.setCell ?_ ?_ _); rotate_left; exact (by first | omega | (simp; done) | (simp; omega))) | (with_reducible refine Below.drew ?_))) (hb1.mono (by first | omega | (simp; done) | (simp; omega)))
  have hs1 := hb1.size
  try simp at hs1
  clear hb1
  go_wp2
  go_ret
  exact ⟨rfl, (by repeat (first | (with_reducible assumption) | (with_reducible exact Below.refl _ _) | ((with_reducible refine Below.alloc ?_ ?_ _); rotate_left; exact (by first | omega | (simp; done) | (simp; omega))) | ((with_reducible refine Below.setCell ?_ ?_ _); rotate_left; exact (by first | omega | (simp; done) | (simp; omega))) | (with_reducible refine Below.drew ?_)))⟩

/-- The sum of two places, rounded; of an infinite one that one. -/
noncomputable def addI (i j dir : Int) : Int := if i.natAbs < INF ∧ j.natAbs < INF then rnd (fq i + fq j) dir else if i.natAbs < INF then j else i

theorem fin_iff {a : Nat} (ha : word a) (na : ¬ nan a) : finw a ↔ (ix a).natAbs < INF := by
  have hI := INF_eq
  constructor
  · intro h; have := finw_ix h; omega
  · intro h
    refine ⟨ha, ?_⟩
    rw [ix_sign ha] at h
    unfold nan at na
    split at h <;> omega

theorem add_inf {a b : Nat} (ha : word a) (na : ¬ nan a) (hb : word b) (nb : ¬ nan b) (h : (ix a).natAbs = INF) (ho : ix b ≠ - ix a) : Ieee.double.add a b = some (wd (ix a)) := by
  have hI := INF_eq
  have ha2 : a % SGN = INF := by
    rw [ix_sign ha] at h
    split at h <;> omega
  have wa : wd (ix a) = a := wd_ix (fun e => by rw [e] at ha2; unfold SGN at ha2; omega)
  unfold Ieee.Format.add
  rw [read_inf ha2]
  have fin : ∀ s, (Ieee.double.write (.infinity s)) = if s then SGN + INF else INF := fun s => by
    unfold Ieee.Format.write
    dsimp only
    rw [word_double, show Ieee.double.infRung = INF from by decide]
  have wa2 : wd (ix a) = if (a / SGN % 2 == 1) = true then SGN + INF else INF := by
    rw [ix_sign ha, ha2]
    unfold wd
    cases (a / SGN % 2 == 1)
    · simp only [Bool.false_eq_true, if_false]; rw [if_neg (by omega)]; simp
    · simp; omega
  by_cases hbf : b % SGN < INF
  · obtain ⟨m, e, hr, _⟩ := read_num hbf
    rw [hr]
    unfold Ieee.Datum.sum
    dsimp only
    rw [Option.map_some, fin, wa2]
  · have hb2 : b % SGN = INF := by unfold nan at nb; omega
    rw [read_inf hb2]
    have hs : (b / SGN % 2 == 1) = (a / SGN % 2 == 1) := by
      rw [ix_sign ha, ix_sign hb, ha2, hb2] at ho
      cases h1 : (b / SGN % 2 == 1) <;> cases h2 : (a / SGN % 2 == 1) <;> rw [h1, h2] at ho <;> simp at ho <;> first | rfl | omega
    rw [hs]
    unfold Ieee.Datum.sum
    dsimp only
    rw [if_pos (by simp), Option.map_some, fin, wa2]

/-- ulp.Add. -/
theorem ulpAdd_any (a b : Nat) (dir : Int) (w : World) (ha : word a) (na : ¬ nan a) (hb : word b) (nb : ¬ nan b) (d1 : -1 ≤ dir) (d2 : dir ≤ 1) (ho : (ix a).natAbs = INF → ix b ≠ - ix a) :
    Calls Try.prog 68 #[.float .f64 a, .float .f64 b, .int .i64 dir] w fun e w' => e = .returned (.float .f64 (wd (addI (ix a) (ix b) dir))) ∧ Below w.heap.size w w' := by
  have ia := ix_abs na ha
  have ib := ix_abs nb hb
  by_cases hf : finw a ∧ finw b
  · obtain ⟨fa, fb⟩ := hf
    have e0 : addI (ix a) (ix b) dir = rnd (vq a + vq b) dir := by
      unfold addI
      rw [if_pos ⟨(fin_iff ha na).1 fa, (fin_iff hb nb).1 fb⟩]
      rfl
    rw [e0, spl_vq fa, spl_vq fb]
    obtain ⟨m1, l1, u1, _⟩ := spl_bound fa
    obtain ⟨m2, l2, u2, _⟩ := spl_bound fb
    have main : ∀ (sw : Prop), (sw → splE b ≤ splE a) → (¬ sw → splE a ≤ splE b) → (sw → ∀ r neg more hi lo e, (∀ w, Calls Try.prog 98 #[.agg #[.bool (splN a), .int .u64 (splM a : Nat), .int .i64 (splE a)], .agg #[.bool (splN b), .int .u64 (splM b : Nat), .int .i64 (splE b)]] w fun e' w' => e' = .returned (.agg #[.bool neg, .int .u64 ((hi : Nat) : Int), .int .u64 ((lo : Nat) : Int), .int .i64 e, .bool more]) ∧ Below w.heap.size w w') →
        (∀ w, Calls Try.prog 99 #[.agg #[.bool neg, .int .u64 (hi : Int), .int .u64 (lo : Int), .int .i64 e, .bool more], .int .i64 dir] w fun e w' => e = .returned (.float .f64 r) ∧ Below w.heap.size w w') → Calls Try.prog 68 #[.float .f64 a, .float .f64 b, .int .i64 dir] w fun e w' => e = .returned (.float .f64 r) ∧ Below w.heap.size w w') →
        (¬ sw → ∀ r neg more hi lo e, (∀ w, Calls Try.prog 98 #[.agg #[.bool (splN b), .int .u64 (splM b : Nat), .int .i64 (splE b)], .agg #[.bool (splN a), .int .u64 (splM a : Nat), .int .i64 (splE a)]] w fun e' w' => e' = .returned (.agg #[.bool neg, .int .u64 ((hi : Nat) : Int), .int .u64 ((lo : Nat) : Int), .int .i64 e, .bool more]) ∧ Below w.heap.size w w') →
        (∀ w, Calls Try.prog 99 #[.agg #[.bool neg, .int .u64 (hi : Int), .int .u64 (lo : Int), .int .i64 e, .bool more], .int .i64 dir] w fun e w' => e = .returned (.float .f64 r) ∧ Below w.heap.size w w') → Calls Try.prog 68 #[.float .f64 a, .float .f64 b, .int .i64 dir] w fun e w' => e = .returned (.float .f64 r) ∧ Below w.heap.size w w') →
        Calls Try.prog 68 #[.float .f64 a, .float .f64 b, .int .i64 dir] w fun e w' => e = .returned (.float .f64 (wd (rnd (rsign (splN a) ((splM a : Rat) * p2 (splE a)) + rsign (splN b) ((splM b : Rat) * p2 (splE b))) dir))) ∧ Below w.heap.size w w' := by
      intro sw s1 s2 k1 k2
      by_cases hsw : sw
      · obtain ⟨neg, more, hi, lo, e, t, hh, hl, b1, b2, t0, t1, tm, hy, hx, hc⟩ := sum_any (splN a) (splN b) (splM a) (splM b) (splE a) (splE b) m1 m2 l1 u1 l2 u2 (s1 hsw)
        exact k1 hsw _ neg more hi lo e hc (fun w => round_rnd hh hl (by omega) (by omega) t0 t1 tm hy hx d1 d2 w)
      · obtain ⟨neg, more, hi, lo, e, t, hh, hl, b1, b2, t0, t1, tm, hy, hx, hc⟩ := sum_any (splN b) (splN a) (splM b) (splM a) (splE b) (splE a) m2 m1 l2 u2 l1 u1 (s2 hsw)
        rw [Rat.add_comm] at hy
        exact k2 hsw _ neg more hi lo e hc (fun w => round_rnd hh hl (by omega) (by omega) t0 t1 tm hy hx d1 d2 w)
    refine main (splE b < splE a ∨ (splE a = splE b ∧ ¬ splM a < splM b)) (fun h => by omega) (fun h => by omega) ?_ ?_
    · rintro h r neg more hi lo e hs hr
      rcases h with h | h
      · exact add_go0 a b _ _ _ _ dir _ _ neg more hi lo r e w (fun w => both_fin fa fb w) hs hr h
      · exact add_go3 a b _ _ _ _ dir _ _ neg more hi lo r e w (fun w => both_fin fa fb w) hs hr h
    · rintro h r neg more hi lo e hs hr
      by_cases h2 : splE a < splE b
      · exact add_go1 a b _ _ _ _ dir _ _ neg more hi lo r e w (fun w => both_fin fa fb w) hs hr h2
      · exact add_go2 a b _ _ _ _ dir _ _ neg more hi lo r e w (fun w => both_fin fa fb w) hs hr (by omega)
  · obtain ⟨na', nb', Ma, Mb, Ea, Eb, hc⟩ := both_bad ha hb hf
    refine add_out a b Ma Mb Ea Eb dir na' nb' _ w hc (fun w => run_fadd _ ?_ w)
    by_cases fa : (ix a).natAbs < INF
    · have fb : ¬ (ix b).natAbs < INF := fun fb => hf ⟨(fin_iff ha na).2 fa, (fin_iff hb nb).2 fb⟩
      unfold addI
      rw [if_neg (fun h => fb h.2), if_pos fa, add_comm']
      exact add_inf hb nb ha na (by omega) (by omega)
    · unfold addI
      rw [if_neg (fun h => fa h.1), if_neg fa]
      exact add_inf ha na hb nb (by omega) (ho (by omega))

theorem addI_abs {i j : Int} (dir : Int) (hi : i.natAbs ≤ INF) (hj : j.natAbs ≤ INF) : (addI i j dir).natAbs ≤ INF := by
  unfold addI
  split
  · exact rnd_abs _ _
  · split <;> assumption

/-- ulp.Sub. -/
theorem ulpSub_any (a b : Nat) (dir : Int) (w : World) (ha : word a) (na : ¬ nan a) (hb : word b) (nb : ¬ nan b) (d1 : -1 ≤ dir) (d2 : dir ≤ 1) (ho : (ix a).natAbs = INF → ix b ≠ ix a) :
    Calls Try.prog 57 #[.float .f64 a, .float .f64 b, .int .i64 dir] w fun e w' => e = .returned (.float .f64 (wd (addI (ix a) (- ix b) dir))) ∧ Below w.heap.size w w' := by
  have hn : ∀ w, (Op.unary .neg (.float .f64 b)).run Try.prog w = .ok (.float .f64 (negW b)) w := run_fneg hb
  have h := fun w => ulpAdd_any a (negW b) dir w ha na (negW_word hb) (by rw [negW_nan hb]; exact nb) d1 d2 (by rw [negW_ix hb]; intro h; have := ho h; omega)
  rw [negW_ix hb] at h
  have H := Lib.hid h
  clear h ho
  generalize wd (addI (ix a) (-ix b) dir) = r at *
  go_enter Try.func57, Try.ntmps57
  go_wp2_with fail
  refine Calls.mono (H.out _) ?_
  rintro e w1 ⟨rfl, hb1⟩
  have hw1 : Below w.heap.size w w1 := Below.trans (by repeat (first | (with_reducible assumption) | (with_reducible exact Below.refl _ _) | ((with_reducible refine Below.alloc ?_ ?_ _); rotate_left; exact (by first | omega | (simp; done) | (simp; omega))) | ((with_reducible refine Below.setCell ?_ ?_ _); rotate_left; exact (by first | omega | (simp; done) | (simp; omega))) | (with_reducible refine Below.drew ?_))) (hb1.mono (by first | omega | (simp; done) | (simp; omega)))
  have hs1 := hb1.size
  try simp at hs1
  clear hb1
  go_wp2
  go_ret
  exact ⟨rfl, (by repeat (first | (with_reducible assumption) | (with_reducible exact Below.refl _ _) | ((with_reducible refine Below.alloc ?_ ?_ _); rotate_left; exact (by first | omega | (simp; done) | (simp; omega))) | ((with_reducible refine Below.setCell ?_ ?_ _); rotate_left; exact (by first | omega | (simp; done) | (simp; omega))) | (with_reducible refine Below.drew ?_)))⟩

end Go.Proofs.Ytonidoghcihnnaa
