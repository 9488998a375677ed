/- The walk of ulp.sum. -/
import Derived.Test.YtonidoghcihnnaaCarry
import Derived.Test.YtonidoghcihnnaaGrow
import Derived.Lib.Hide
namespace Go.Proofs.Ytonidoghcihnnaa
open Go.RowKit
set_option maxRecDepth 100000
set_option maxHeartbeats 1000000
set_option linter.unusedSimpArgs false
set_option linter.unusedVariables false

theorem sum_q0 (np nq : Bool) (Mp : Nat) (Ep Eq : Int) (w : World) :
    Calls Try.prog 98 #[.agg #[.bool np, .int .u64 (Mp : Int), .int .i64 Ep], .agg #[.bool nq, .int .u64 0, .int .i64 Eq]] w fun e w' => e = .returned (.agg #[.bool np, .int .u64 0, .int .u64 (Mp : Int), .int .i64 Ep, .bool false]) ∧ Below w.heap.size w w' := by
  go_enter Try.func98, Try.ntmps98
  go_wp2
  exact bodyPost_ret (v := .agg #[.bool np, .int .u64 0, .int .u64 (Mp : Int), .int .i64 Ep, .bool false]) (by simp [results, Try.results98, go_sem, *]) rfl ⟨rfl, (by repeat (first | (with_reducible assumption) | (with_reducible exact Below.refl _ _) | ((with_reducible refine Below.alloc ?_ ?_ _); rotate_left; exact (by first | omega | (simp; done) | (simp; omega))) | ((with_reducible refine Below.setCell ?_ ?_ _); rotate_left; exact (by first | omega | (simp; done) | (simp; omega))) | (with_reducible refine Below.drew ?_)))⟩
theorem sum_p0 (np nq : Bool) (Mq : Nat) (Ep Eq : Int) (w : World) (h : ((Mq : Int) == 0) = false) :
    Calls Try.prog 98 #[.agg #[.bool np, .int .u64 0, .int .i64 Ep], .agg #[.bool nq, .int .u64 (Mq : Int), .int .i64 Eq]] w fun e w' => e = .returned (.agg #[.bool nq, .int .u64 0, .int .u64 (Mq : Int), .int .i64 Eq, .bool false]) ∧ Below w.heap.size w w' := by
  go_enter Try.func98, Try.ntmps98
  go_wp2
  exact bodyPost_ret (v := .agg #[.bool nq, .int .u64 0, .int .u64 (Mq : Int), .int .i64 Eq, .bool false]) (by simp [results, Try.results98, go_sem, *]) rfl ⟨rfl, (by repeat (first | (with_reducible assumption) | (with_reducible exact Below.refl _ _) | ((with_reducible refine Below.alloc ?_ ?_ _); rotate_left; exact (by first | omega | (simp; done) | (simp; omega))) | ((with_reducible refine Below.setCell ?_ ?_ _); rotate_left; exact (by first | omega | (simp; done) | (simp; omega))) | (with_reducible refine Below.drew ?_)))⟩

theorem sum_near_same (nn : Bool) (Mp Mq hi lo m m1 z l2 c h2 l3 c3 h3 c4 : Nat) (Ep Eq D S : Int) (w : World) (hp : ((Mp : Int) == 0) = false) (hq : ((Mq : Int) == 0) = false) (e1 : -1074 ≤ Ep) (e2 : Ep ≤ 971) (f1 : -1074 ≤ Eq) (f2 : Eq ≤ 971)
    (hD : Ep - Eq = D) (d0 : 0 ≤ D) (d1 : D < 64) (hm : min D 70 = D) (x1 : (Mp : Int) / 2 ^ (64 - D).toNat = (hi : Int)) (x2 : IntKind.u64.wrap ((Mp : Int) * 2 ^ D.toNat) = (lo : Int))
    (ha : ∀ w, (callFunc 123 #[.int .u64 lo, .int .u64 Mq, .int .u64 0]).run Try.prog w = .ok (.value (.tuple #[.int .u64 l2, .int .u64 c])) w) (hh : IntKind.u64.wrap ((hi : Int) + c) = (h2 : Int)) :
    Calls Try.prog 98 #[.agg #[.bool nn, .int .u64 (Mp : Int), .int .i64 Ep], .agg #[.bool nn, .int .u64 (Mq : Int), .int .i64 Eq]] w fun e w' => e = .returned (.agg #[.bool nn, .int .u64 h2, .int .u64 l2, .int .i64 (Ep - D), .bool false]) ∧ Below w.heap.size w w' := by
  go_enter Try.func98, Try.ntmps98
  go_wp2_with fail
  go_region
  go_wp2
  exact bodyPost_ret (v := .agg #[.bool nn, .int .u64 h2, .int .u64 l2, .int .i64 (Ep - D), .bool false]) (by simp [results, Try.results98, go_sem, *]) rfl ⟨rfl, (by repeat (first | (with_reducible assumption) | (with_reducible exact Below.refl _ _) | ((with_reducible refine Below.alloc ?_ ?_ _); rotate_left; exact (by first | omega | (simp; done) | (simp; omega))) | ((with_reducible refine Below.setCell ?_ ?_ _); rotate_left; exact (by first | omega | (simp; done) | (simp; omega))) | (with_reducible refine Below.drew ?_)))⟩

theorem sum_near_diff (np nq : Bool) (Mp Mq hi lo m m1 z l2 c h2 l3 c3 h3 c4 : Nat) (Ep Eq D S : Int) (w : World) (hp : ((Mp : Int) == 0) = false) (hq : ((Mq : Int) == 0) = false) (e1 : -1074 ≤ Ep) (e2 : Ep ≤ 971) (f1 : -1074 ≤ Eq) (f2 : Eq ≤ 971)
    (hD : Ep - Eq = D) (d0 : 0 ≤ D) (d1 : D < 64) (hm : min D 70 = D) (x1 : (Mp : Int) / 2 ^ (64 - D).toNat = (hi : Int)) (x2 : IntKind.u64.wrap ((Mp : Int) * 2 ^ D.toNat) = (lo : Int))
    (hne : (np == nq) = false) (ha : ∀ w, (callFunc 124 #[.int .u64 lo, .int .u64 Mq, .int .u64 0]).run Try.prog w = .ok (.value (.tuple #[.int .u64 l2, .int .u64 c])) w) (hb : ∀ w, (callFunc 124 #[.int .u64 hi, .int .u64 0, .int .u64 c]).run Try.prog w = .ok (.value (.tuple #[.int .u64 h2, .int .u64 0])) w) :
    Calls Try.prog 98 #[.agg #[.bool np, .int .u64 (Mp : Int), .int .i64 Ep], .agg #[.bool nq, .int .u64 (Mq : Int), .int .i64 Eq]] w fun e w' => e = .returned (.agg #[.bool np, .int .u64 h2, .int .u64 l2, .int .i64 (Ep - D), .bool false]) ∧ Below w.heap.size w w' := by
  go_enter Try.func98, Try.ntmps98
  go_wp2_with fail
  go_region
  go_wp2
  exact bodyPost_ret (v := .agg #[.bool np, .int .u64 h2, .int .u64 l2, .int .i64 (Ep - D), .bool false]) (by simp [results, Try.results98, go_sem, *]) rfl ⟨rfl, (by repeat (first | (with_reducible assumption) | (with_reducible exact Below.refl _ _) | ((with_reducible refine Below.alloc ?_ ?_ _); rotate_left; exact (by first | omega | (simp; done) | (simp; omega))) | ((with_reducible refine Below.setCell ?_ ?_ _); rotate_left; exact (by first | omega | (simp; done) | (simp; omega))) | (with_reducible refine Below.drew ?_)))⟩

theorem sum_near_turn (np nq : Bool) (Mp Mq hi lo m m1 z l2 c h2 l3 c3 h3 c4 : Nat) (Ep Eq D S : Int) (w : World) (hp : ((Mp : Int) == 0) = false) (hq : ((Mq : Int) == 0) = false) (e1 : -1074 ≤ Ep) (e2 : Ep ≤ 971) (f1 : -1074 ≤ Eq) (f2 : Eq ≤ 971)
    (hD : Ep - Eq = D) (d0 : 0 ≤ D) (d1 : D < 64) (hm : min D 70 = D) (x1 : (Mp : Int) / 2 ^ (64 - D).toNat = (hi : Int)) (x2 : IntKind.u64.wrap ((Mp : Int) * 2 ^ D.toNat) = (lo : Int))
    (hne : (np == nq) = false) (ha : ∀ w, (callFunc 124 #[.int .u64 lo, .int .u64 Mq, .int .u64 0]).run Try.prog w = .ok (.value (.tuple #[.int .u64 l2, .int .u64 c])) w) (hb : ∀ w, (callFunc 124 #[.int .u64 hi, .int .u64 0, .int .u64 c]).run Try.prog w = .ok (.value (.tuple #[.int .u64 h2, .int .u64 1])) w) (hc : ∀ w, (callFunc 124 #[.int .u64 0, .int .u64 l2, .int .u64 0]).run Try.prog w = .ok (.value (.tuple #[.int .u64 l3, .int .u64 c3])) w) (hd : ∀ w, (callFunc 124 #[.int .u64 0, .int .u64 h2, .int .u64 c3]).run Try.prog w = .ok (.value (.tuple #[.int .u64 h3, .int .u64 c4])) w) :
    Calls Try.prog 98 #[.agg #[.bool np, .int .u64 (Mp : Int), .int .i64 Ep], .agg #[.bool nq, .int .u64 (Mq : Int), .int .i64 Eq]] w fun e w' => e = .returned (.agg #[.bool (!np), .int .u64 h3, .int .u64 l3, .int .i64 (Ep - D), .bool false]) ∧ Below w.heap.size w w' := by
  go_enter Try.func98, Try.ntmps98
  go_wp2_with fail
  go_region
  go_wp2
  exact bodyPost_ret (v := .agg #[.bool (!np), .int .u64 h3, .int .u64 l3, .int .i64 (Ep - D), .bool false]) (by simp [results, Try.results98, go_sem, *]) rfl ⟨rfl, (by repeat (first | (with_reducible assumption) | (with_reducible exact Below.refl _ _) | ((with_reducible refine Below.alloc ?_ ?_ _); rotate_left; exact (by first | omega | (simp; done) | (simp; omega))) | ((with_reducible refine Below.setCell ?_ ?_ _); rotate_left; exact (by first | omega | (simp; done) | (simp; omega))) | (with_reducible refine Below.drew ?_)))⟩

theorem sum_mid_same (nn : Bool) (Mp Mq hi lo m m1 z l2 c h2 l3 c3 h3 c4 : Nat) (Ep Eq D S : Int) (w : World) (hp : ((Mp : Int) == 0) = false) (hq : ((Mq : Int) == 0) = false) (e1 : -1074 ≤ Ep) (e2 : Ep ≤ 971) (f1 : -1074 ≤ Eq) (f2 : Eq ≤ 971)
    (hD : Ep - Eq = D) (d0 : 64 ≤ D) (d1 : D ≤ 70) (hm : min D 70 = D) (x1 : IntKind.u64.wrap ((Mp : Int) * 2 ^ (D - 64).toNat) = (hi : Int))
    (ha : ∀ w, (callFunc 123 #[.int .u64 0, .int .u64 Mq, .int .u64 0]).run Try.prog w = .ok (.value (.tuple #[.int .u64 l2, .int .u64 c])) w) (hh : IntKind.u64.wrap ((hi : Int) + c) = (h2 : Int)) :
    Calls Try.prog 98 #[.agg #[.bool nn, .int .u64 (Mp : Int), .int .i64 Ep], .agg #[.bool nn, .int .u64 (Mq : Int), .int .i64 Eq]] w fun e w' => e = .returned (.agg #[.bool nn, .int .u64 h2, .int .u64 l2, .int .i64 (Ep - D), .bool false]) ∧ Below w.heap.size w w' := by
  go_enter Try.func98, Try.ntmps98
  go_wp2_with fail
  exact bodyPost_ret (v := .agg #[.bool nn, .int .u64 h2, .int .u64 l2, .int .i64 (Ep - D), .bool false]) (by simp [results, Try.results98, go_sem, *]) rfl ⟨rfl, (by repeat (first | (with_reducible assumption) | (with_reducible exact Below.refl _ _) | ((with_reducible refine Below.alloc ?_ ?_ _); rotate_left; exact (by first | omega | (simp; done) | (simp; omega))) | ((with_reducible refine Below.setCell ?_ ?_ _); rotate_left; exact (by first | omega | (simp; done) | (simp; omega))) | (with_reducible refine Below.drew ?_)))⟩

theorem sum_mid_diff (np nq : Bool) (Mp Mq hi lo m m1 z l2 c h2 l3 c3 h3 c4 : Nat) (Ep Eq D S : Int) (w : World) (hp : ((Mp : Int) == 0) = false) (hq : ((Mq : Int) == 0) = false) (e1 : -1074 ≤ Ep) (e2 : Ep ≤ 971) (f1 : -1074 ≤ Eq) (f2 : Eq ≤ 971)
    (hD : Ep - Eq = D) (d0 : 64 ≤ D) (d1 : D ≤ 70) (hm : min D 70 = D) (x1 : IntKind.u64.wrap ((Mp : Int) * 2 ^ (D - 64).toNat) = (hi : Int))
    (hne : (np == nq) = false) (ha : ∀ w, (callFunc 124 #[.int .u64 0, .int .u64 Mq, .int .u64 0]).run Try.prog w = .ok (.value (.tuple #[.int .u64 l2, .int .u64 c])) w) (hb : ∀ w, (callFunc 124 #[.int .u64 hi, .int .u64 0, .int .u64 c]).run Try.prog w = .ok (.value (.tuple #[.int .u64 h2, .int .u64 0])) w) :
    Calls Try.prog 98 #[.agg #[.bool np, .int .u64 (Mp : Int), .int .i64 Ep], .agg #[.bool nq, .int .u64 (Mq : Int), .int .i64 Eq]] w fun e w' => e = .returned (.agg #[.bool np, .int .u64 h2, .int .u64 l2, .int .i64 (Ep - D), .bool false]) ∧ Below w.heap.size w w' := by
  go_enter Try.func98, Try.ntmps98
  go_wp2_with fail
  exact bodyPost_ret (v := .agg #[.bool np, .int .u64 h2, .int .u64 l2, .int .i64 (Ep - D), .bool false]) (by simp [results, Try.results98, go_sem, *]) rfl ⟨rfl, (by repeat (first | (with_reducible assumption) | (with_reducible exact Below.refl _ _) | ((with_reducible refine Below.alloc ?_ ?_ _); rotate_left; exact (by first | omega | (simp; done) | (simp; omega))) | ((with_reducible refine Below.setCell ?_ ?_ _); rotate_left; exact (by first | omega | (simp; done) | (simp; omega))) | (with_reducible refine Below.drew ?_)))⟩

theorem sum_far_same (nn : Bool) (Mp Mq hi lo m m1 z l2 c h2 l3 c3 h3 c4 : Nat) (Ep Eq D S : Int) (w : World) (hp : ((Mp : Int) == 0) = false) (hq : ((Mq : Int) == 0) = false) (e1 : -1074 ≤ Ep) (e2 : Ep ≤ 971) (f1 : -1074 ≤ Eq) (f2 : Eq ≤ 971)
    (hD : Ep - Eq = D) (d0 : 70 < D) (d1 : D ≤ 2045) (hm : min D 70 = 70) (x1 : IntKind.u64.wrap ((Mp : Int) * 64) = (hi : Int)) (hS : min (D - 70) 63 = S) (s0 : 0 < S) (s1 : S ≤ 63) (x3 : (Mq : Int) / 2 ^ S.toNat = (m : Int)) (x4 : IntKind.u64.wrap ((m : Int) * 2 ^ S.toNat) = (z : Int)) (x5 : ((Mq : Int) != (z : Int)) = true)
    (ha : ∀ w, (callFunc 123 #[.int .u64 0, .int .u64 m, .int .u64 0]).run Try.prog w = .ok (.value (.tuple #[.int .u64 l2, .int .u64 c])) w) (hh : IntKind.u64.wrap ((hi : Int) + c) = (h2 : Int)) :
    Calls Try.prog 98 #[.agg #[.bool nn, .int .u64 (Mp : Int), .int .i64 Ep], .agg #[.bool nn, .int .u64 (Mq : Int), .int .i64 Eq]] w fun e w' => e = .returned (.agg #[.bool nn, .int .u64 h2, .int .u64 l2, .int .i64 (Ep - 70), .bool true]) ∧ Below w.heap.size w w' := by
  go_enter Try.func98, Try.ntmps98
  go_wp2_with fail
  go_region
  go_wp2
  exact bodyPost_ret (v := .agg #[.bool nn, .int .u64 h2, .int .u64 l2, .int .i64 (Ep - 70), .bool true]) (by simp [results, Try.results98, go_sem, *]) rfl ⟨rfl, (by repeat (first | (with_reducible assumption) | (with_reducible exact Below.refl _ _) | ((with_reducible refine Below.alloc ?_ ?_ _); rotate_left; exact (by first | omega | (simp; done) | (simp; omega))) | ((with_reducible refine Below.setCell ?_ ?_ _); rotate_left; exact (by first | omega | (simp; done) | (simp; omega))) | (with_reducible refine Below.drew ?_)))⟩

theorem sum_far_diff (np nq : Bool) (Mp Mq hi lo m m1 z l2 c h2 l3 c3 h3 c4 : Nat) (Ep Eq D S : Int) (w : World) (hp : ((Mp : Int) == 0) = false) (hq : ((Mq : Int) == 0) = false) (e1 : -1074 ≤ Ep) (e2 : Ep ≤ 971) (f1 : -1074 ≤ Eq) (f2 : Eq ≤ 971)
    (hD : Ep - Eq = D) (d0 : 70 < D) (d1 : D ≤ 2045) (hm : min D 70 = 70) (x1 : IntKind.u64.wrap ((Mp : Int) * 64) = (hi : Int)) (hS : min (D - 70) 63 = S) (s0 : 0 < S) (s1 : S ≤ 63) (x3 : (Mq : Int) / 2 ^ S.toNat = (m : Int)) (x4 : IntKind.u64.wrap ((m : Int) * 2 ^ S.toNat) = (z : Int)) (x5 : ((Mq : Int) != (z : Int)) = true)
    (hne : (np == nq) = false) (hmm : IntKind.u64.wrap ((m : Int) + 1) = (m1 : Int)) (ha : ∀ w, (callFunc 124 #[.int .u64 0, .int .u64 m1, .int .u64 0]).run Try.prog w = .ok (.value (.tuple #[.int .u64 l2, .int .u64 c])) w) (hb : ∀ w, (callFunc 124 #[.int .u64 hi, .int .u64 0, .int .u64 c]).run Try.prog w = .ok (.value (.tuple #[.int .u64 h2, .int .u64 0])) w) :
    Calls Try.prog 98 #[.agg #[.bool np, .int .u64 (Mp : Int), .int .i64 Ep], .agg #[.bool nq, .int .u64 (Mq : Int), .int .i64 Eq]] w fun e w' => e = .returned (.agg #[.bool np, .int .u64 h2, .int .u64 l2, .int .i64 (Ep - 70), .bool true]) ∧ Below w.heap.size w w' := by
  go_enter Try.func98, Try.ntmps98
  go_wp2_with fail
  go_region
  go_wp2
  exact bodyPost_ret (v := .agg #[.bool np, .int .u64 h2, .int .u64 l2, .int .i64 (Ep - 70), .bool true]) (by simp [results, Try.results98, go_sem, *]) rfl ⟨rfl, (by repeat (first | (with_reducible assumption) | (with_reducible exact Below.refl _ _) | ((with_reducible refine Below.alloc ?_ ?_ _); rotate_left; exact (by first | omega | (simp; done) | (simp; omega))) | ((with_reducible refine Below.setCell ?_ ?_ _); rotate_left; exact (by first | omega | (simp; done) | (simp; omega))) | (with_reducible refine Below.drew ?_)))⟩

theorem sum_fit_same (nn : Bool) (Mp Mq hi lo m m1 z l2 c h2 l3 c3 h3 c4 : Nat) (Ep Eq D S : Int) (w : World) (hp : ((Mp : Int) == 0) = false) (hq : ((Mq : Int) == 0) = false) (e1 : -1074 ≤ Ep) (e2 : Ep ≤ 971) (f1 : -1074 ≤ Eq) (f2 : Eq ≤ 971)
    (hD : Ep - Eq = D) (d0 : 70 < D) (d1 : D ≤ 133) (hm : min D 70 = 70) (x1 : IntKind.u64.wrap ((Mp : Int) * 64) = (hi : Int)) (hS : min (D - 70) 63 = S) (s0 : 0 < S) (s1 : S ≤ 63) (x3 : (Mq : Int) / 2 ^ S.toNat = (m : Int)) (x4 : IntKind.u64.wrap ((m : Int) * 2 ^ S.toNat) = (z : Int)) (x5 : ((Mq : Int) != (z : Int)) = false) (x6 : ¬ 63 < D - 70)
    (ha : ∀ w, (callFunc 123 #[.int .u64 0, .int .u64 m, .int .u64 0]).run Try.prog w = .ok (.value (.tuple #[.int .u64 l2, .int .u64 c])) w) (hh : IntKind.u64.wrap ((hi : Int) + c) = (h2 : Int)) :
    Calls Try.prog 98 #[.agg #[.bool nn, .int .u64 (Mp : Int), .int .i64 Ep], .agg #[.bool nn, .int .u64 (Mq : Int), .int .i64 Eq]] w fun e w' => e = .returned (.agg #[.bool nn, .int .u64 h2, .int .u64 l2, .int .i64 (Ep - 70), .bool false]) ∧ Below w.heap.size w w' := by
  go_enter Try.func98, Try.ntmps98
  go_wp2_with fail
  go_region
  go_wp2
  exact bodyPost_ret (v := .agg #[.bool nn, .int .u64 h2, .int .u64 l2, .int .i64 (Ep - 70), .bool false]) (by simp [results, Try.results98, go_sem, *]) rfl ⟨rfl, (by repeat (first | (with_reducible assumption) | (with_reducible exact Below.refl _ _) | ((with_reducible refine Below.alloc ?_ ?_ _); rotate_left; exact (by first | omega | (simp; done) | (simp; omega))) | ((with_reducible refine Below.setCell ?_ ?_ _); rotate_left; exact (by first | omega | (simp; done) | (simp; omega))) | (with_reducible refine Below.drew ?_)))⟩

theorem sum_fit_diff (np nq : Bool) (Mp Mq hi lo m m1 z l2 c h2 l3 c3 h3 c4 : Nat) (Ep Eq D S : Int) (w : World) (hp : ((Mp : Int) == 0) = false) (hq : ((Mq : Int) == 0) = false) (e1 : -1074 ≤ Ep) (e2 : Ep ≤ 971) (f1 : -1074 ≤ Eq) (f2 : Eq ≤ 971)
    (hD : Ep - Eq = D) (d0 : 70 < D) (d1 : D ≤ 133) (hm : min D 70 = 70) (x1 : IntKind.u64.wrap ((Mp : Int) * 64) = (hi : Int)) (hS : min (D - 70) 63 = S) (s0 : 0 < S) (s1 : S ≤ 63) (x3 : (Mq : Int) / 2 ^ S.toNat = (m : Int)) (x4 : IntKind.u64.wrap ((m : Int) * 2 ^ S.toNat) = (z : Int)) (x5 : ((Mq : Int) != (z : Int)) = false) (x6 : ¬ 63 < D - 70)
    (hne : (np == nq) = false) (ha : ∀ w, (callFunc 124 #[.int .u64 0, .int .u64 m, .int .u64 0]).run Try.prog w = .ok (.value (.tuple #[.int .u64 l2, .int .u64 c])) w) (hb : ∀ w, (callFunc 124 #[.int .u64 hi, .int .u64 0, .int .u64 c]).run Try.prog w = .ok (.value (.tuple #[.int .u64 h2, .int .u64 0])) w) :
    Calls Try.prog 98 #[.agg #[.bool np, .int .u64 (Mp : Int), .int .i64 Ep], .agg #[.bool nq, .int .u64 (Mq : Int), .int .i64 Eq]] w fun e w' => e = .returned (.agg #[.bool np, .int .u64 h2, .int .u64 l2, .int .i64 (Ep - 70), .bool false]) ∧ Below w.heap.size w w' := by
  go_enter Try.func98, Try.ntmps98
  go_wp2_with fail
  go_region
  go_wp2
  exact bodyPost_ret (v := .agg #[.bool np, .int .u64 h2, .int .u64 l2, .int .i64 (Ep - 70), .bool false]) (by simp [results, Try.results98, go_sem, *]) rfl ⟨rfl, (by repeat (first | (with_reducible assumption) | (with_reducible exact Below.refl _ _) | ((with_reducible refine Below.alloc ?_ ?_ _); rotate_left; exact (by first | omega | (simp; done) | (simp; omega))) | ((with_reducible refine Below.setCell ?_ ?_ _); rotate_left; exact (by first | omega | (simp; done) | (simp; omega))) | (with_reducible refine Below.drew ?_)))⟩

end Go.Proofs.Ytonidoghcihnnaa
