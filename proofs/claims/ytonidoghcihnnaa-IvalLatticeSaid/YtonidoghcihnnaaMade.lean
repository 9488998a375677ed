/- The walk of ulp.value's made: a number that has room, or is too large. -/
import Derived.Test.YtonidoghcihnnaaLdexp
import Derived.Test.YtonidoghcihnnaaShelf
namespace Go.Proofs.Ytonidoghcihnnaa
open Go.RowKit
set_option maxRecDepth 100000
set_option maxHeartbeats 1000000
set_option linter.unusedSimpArgs false
set_option linter.unusedVariables false

/-- A whole number of at most 54 bits as a float. -/
theorem int_rung {q : Nat} (h0 : 0 < q) (h1 : q ≤ 2 * BN) : ∃ f : Nat, BN ≤ f ∧ f < INF ∧ fq (f : Int) = (q : Rat) := by
  have hB := BN_eq; have hI := INF_eq
  have h52 : BN = 2 ^ 52 := by rw [hB]
  by_cases e : q = 2 * BN
  · refine ⟨(1075 + 1) * BN + 0, by rw [hB]; omega, by rw [hB, hI]; omega, ?_⟩
    rw [fq_normal (by rw [hB]; decide), e, Nat.add_zero, Rat.natCast_mul, show ((1075 : Nat) : Int) - 1074 = 1 by omega, p2_one, Rat.mul_comm]
    rfl
  · have hl := Nat.log2_self_le (show q ≠ 0 by omega)
    have hl2 := @Nat.lt_log2_self q
    have hle : q.log2 ≤ 52 := by
      rcases Nat.lt_or_ge 52 q.log2 with g | g
      · have : 2 ^ 53 ≤ 2 ^ q.log2 := Nat.pow_le_pow_right (by omega) g
        have : (2 : Nat) ^ 53 = 2 * BN := by rw [h52]
        omega
      · exact g
    obtain ⟨s, hs⟩ : ∃ s, q.log2 + s = 52 := ⟨52 - q.log2, by omega⟩
    have k1 : BN ≤ q * 2 ^ s := by
      rw [h52, ← hs, Nat.pow_add]; exact Nat.mul_le_mul_right _ hl
    have k2 : q * 2 ^ s < 2 * BN := by
      have : q * 2 ^ s < 2 ^ (q.log2 + 1) * 2 ^ s := Nat.mul_lt_mul_of_pos_right hl2 (Nat.two_pow_pos s)
      rw [← Nat.pow_add, show q.log2 + 1 + s = 53 by omega] at this
      have : (2 : Nat) ^ 53 = 2 * BN := by rw [h52]
      omega
    refine ⟨(1074 - s) * BN + q * 2 ^ s, by omega, by rw [hB, hI] at *; omega, ?_⟩
    rw [fq_scaled (by omega) (Or.inr k1), Rat.natCast_mul, ← p2_nat, Rat.mul_assoc, ← p2_add, show (s : Int) + (((1074 - s : Nat) : Int) - 1074) = 0 by omega, p2_zero]
    exact Rat.mul_one _

theorem write_int {q f : Nat} (h0 : 0 < q) (h1 : f < INF) (h2 : 0 < f) (h : fq (f : Int) = (q : Rat)) : Ieee.double.write (.number false q 0) = f := by
  have hw := write_rnd false q 0
  have hv : rsign false ((q : Rat) * p2 0) = fq (f : Int) := by
    unfold rsign; rw [p2_zero, h]; simp
  rw [hv] at hw
  have hx := rnd_self (by omega) hw.2.2
  generalize Ieee.double.write (.number false q 0) = x at *
  have hS : x ≠ SGN := fun e => by
    subst e
    have : ix SGN = 0 := by unfold ix SGN; rfl
    omega
  rw [← wd_ix hS, hx]
  unfold wd; rw [if_neg (by omega)]; omega

theorem run_u64_float (n : Nat) (w : World) : (convert 85 33 (.int .u64 n)).run Try.prog w = .ok (.float .f64 (Ieee.double.write (.number false n 0))) w := by
  simp [convert, run_underlying Try.underlying85, run_underlying Try.underlying33, Conv.intToFloat, FloatKind.nearest, FloatKind.encode]
  rw [decide_eq_false (by omega)]
  rfl

/-- The rung that made tells. -/
def madeR (q L : Nat) (dir : Int) : Nat := if L * BN + q < INF then L * BN + q else if dir < 0 then INF - 1 else INF

theorem rungOf_made (q L lost : Nat) (dir : Int) : rungOf q L lost dir = madeR (q + if upward q lost dir then 1 else 0) L dir := by
  unfold rungOf madeR
  have hI := INF_eq
  by_cases big : INF ≤ L * BN + q
  · generalize (if upward q lost dir then 1 else 0) = u
    have hn : ¬ L * BN + (q + u) < INF := by omega
    rw [if_pos big, if_neg hn]
  · rw [if_neg big]
    by_cases u : upward q lost dir
    · rw [if_pos u, if_pos u]
      have : ¬ dir < 0 := by unfold upward at u; omega
      rw [if_neg this]
      split <;> omega
    · rw [if_neg u, if_neg u, if_pos (by omega)]; omega

theorem word_max : word 9218868437227405311 := by unfold word SGN; decide
theorem finw_inf : word 9218868437227405312 := by unfold word SGN; decide

theorem made_true_true_x (more : Bool) (hi lo q f r : Nat) (e e2 dir : Int) (w : World) (hq : ((q : Int) == 0) = false)
    (he1 : -5000 ≤ e) (he2 : e ≤ 5000) (hb64 : (blen q : Int) ≤ 64)
    (hl : (blen q : Int) + e ≤ 1024)
    (hc : ∀ w, Calls Try.prog 128 #[.int .u64 (q : Int)] w fun e w' => e = .returned (.int .i64 (blen q : Nat)) ∧ w' = w)
    (hf : Ieee.double.write (.number false q 0) = f) (hld : ∀ w, Calls Try.prog 140 #[.float .f64 f, .int .i64 e] w fun e w' => e = .returned (.float .f64 r) ∧ w' = w) (hrw : word r)
    : Calls Try.prog 127 #[.agg #[.bool true, .int .u64 hi, .int .u64 lo, .int .i64 e2, .bool more], .int .u64 (q : Int), .int .i64 e, .int .i64 dir] w fun e w' => e = .returned (.float .f64 (negW r)) ∧ Below w.heap.size w w' := by
  have hcv := run_u64_float q
  rw [hf] at hcv
  have hng := fun w => run_fneg (P := Try.prog) hrw w
  go_enter Try.func127, Try.ntmps127
  go_wp2_with fail
  refine (hc _).mono ?_
  rintro e w1 ⟨rfl, hw⟩
  subst hw
  go_wp2_with fail
  refine (hld _).mono ?_
  rintro e w1 ⟨rfl, hw⟩
  subst hw
  clear hc hld
  go_wp2
  go_ret
  exact ⟨rfl, (by repeat (first | (with_reducible assumption) | (with_reducible exact Below.refl _ _) | ((with_reducible refine Below.alloc ?_ ?_ _); rotate_left; exact (by first | omega | (simp; done) | (simp; omega))) | ((with_reducible refine Below.setCell ?_ ?_ _); rotate_left; exact (by first | omega | (simp; done) | (simp; omega))) | (with_reducible refine Below.drew ?_)))⟩

theorem made_true_false_x (more : Bool) (hi lo q f r : Nat) (e e2 dir : Int) (w : World) (hq : ((q : Int) == 0) = false)
    (he1 : -5000 ≤ e) (he2 : e ≤ 5000) (hb64 : (blen q : Int) ≤ 64)
    (hl : (blen q : Int) + e ≤ 1024)
    (hc : ∀ w, Calls Try.prog 128 #[.int .u64 (q : Int)] w fun e w' => e = .returned (.int .i64 (blen q : Nat)) ∧ w' = w)
    (hf : Ieee.double.write (.number false q 0) = f) (hld : ∀ w, Calls Try.prog 140 #[.float .f64 f, .int .i64 e] w fun e w' => e = .returned (.float .f64 r) ∧ w' = w) (hrw : word r)
    : Calls Try.prog 127 #[.agg #[.bool false, .int .u64 hi, .int .u64 lo, .int .i64 e2, .bool more], .int .u64 (q : Int), .int .i64 e, .int .i64 dir] w fun e w' => e = .returned (.float .f64 (r)) ∧ Below w.heap.size w w' := by
  have hcv := run_u64_float q
  rw [hf] at hcv
  go_enter Try.func127, Try.ntmps127
  go_wp2_with fail
  refine (hc _).mono ?_
  rintro e w1 ⟨rfl, hw⟩
  subst hw
  go_wp2_with fail
  refine (hld _).mono ?_
  rintro e w1 ⟨rfl, hw⟩
  subst hw
  clear hc hld
  go_wp2
  go_ret
  exact ⟨rfl, (by repeat (first | (with_reducible assumption) | (with_reducible exact Below.refl _ _) | ((with_reducible refine Below.alloc ?_ ?_ _); rotate_left; exact (by first | omega | (simp; done) | (simp; omega))) | ((with_reducible refine Below.setCell ?_ ?_ _); rotate_left; exact (by first | omega | (simp; done) | (simp; omega))) | (with_reducible refine Below.drew ?_)))⟩

theorem made_false_true_lt (more : Bool) (hi lo q f r : Nat) (e e2 dir : Int) (w : World) (hq : ((q : Int) == 0) = false)
    (he1 : -5000 ≤ e) (he2 : e ≤ 5000) (hb64 : (blen q : Int) ≤ 64)
    (hl : ¬ (blen q : Int) + e ≤ 1024)
    (hc : ∀ w, Calls Try.prog 128 #[.int .u64 (q : Int)] w fun e w' => e = .returned (.int .i64 (blen q : Nat)) ∧ w' = w)
    (hd : dir < 0)
    : Calls Try.prog 127 #[.agg #[.bool true, .int .u64 hi, .int .u64 lo, .int .i64 e2, .bool more], .int .u64 (q : Int), .int .i64 e, .int .i64 dir] w fun e w' => e = .returned (.float .f64 (negW 9218868437227405311)) ∧ Below w.heap.size w w' := by
  have hng := fun w => run_fneg (P := Try.prog) word_max w
  go_enter Try.func127, Try.ntmps127
  go_wp2_with fail
  refine (hc _).mono ?_
  rintro e w1 ⟨rfl, hw⟩
  subst hw
  go_wp2_with fail
  clear hc
  go_wp2
  go_ret
  exact ⟨rfl, (by repeat (first | (with_reducible assumption) | (with_reducible exact Below.refl _ _) | ((with_reducible refine Below.alloc ?_ ?_ _); rotate_left; exact (by first | omega | (simp; done) | (simp; omega))) | ((with_reducible refine Below.setCell ?_ ?_ _); rotate_left; exact (by first | omega | (simp; done) | (simp; omega))) | (with_reducible refine Below.drew ?_)))⟩

theorem made_false_true_ge (more : Bool) (hi lo q f r : Nat) (e e2 dir : Int) (w : World) (hq : ((q : Int) == 0) = false)
    (he1 : -5000 ≤ e) (he2 : e ≤ 5000) (hb64 : (blen q : Int) ≤ 64)
    (hl : ¬ (blen q : Int) + e ≤ 1024)
    (hc : ∀ w, Calls Try.prog 128 #[.int .u64 (q : Int)] w fun e w' => e = .returned (.int .i64 (blen q : Nat)) ∧ w' = w)
    (hd : 0 ≤ dir)
    : Calls Try.prog 127 #[.agg #[.bool true, .int .u64 hi, .int .u64 lo, .int .i64 e2, .bool more], .int .u64 (q : Int), .int .i64 e, .int .i64 dir] w fun e w' => e = .returned (.float .f64 (negW 9218868437227405312)) ∧ Below w.heap.size w w' := by
  have hng := fun w => run_fneg (P := Try.prog) (finw_inf) w
  go_enter Try.func127, Try.ntmps127
  go_wp2_with fail
  refine (hc _).mono ?_
  rintro e w1 ⟨rfl, hw⟩
  subst hw
  go_wp2_with fail
  refine (inf_pos _).mono ?_
  rintro e w1 ⟨rfl, hw⟩
  subst hw
  clear hc
  go_wp2
  go_ret
  exact ⟨rfl, (by repeat (first | (with_reducible assumption) | (with_reducible exact Below.refl _ _) | ((with_reducible refine Below.alloc ?_ ?_ _); rotate_left; exact (by first | omega | (simp; done) | (simp; omega))) | ((with_reducible refine Below.setCell ?_ ?_ _); rotate_left; exact (by first | omega | (simp; done) | (simp; omega))) | (with_reducible refine Below.drew ?_)))⟩

theorem made_false_false_lt (more : Bool) (hi lo q f r : Nat) (e e2 dir : Int) (w : World) (hq : ((q : Int) == 0) = false)
    (he1 : -5000 ≤ e) (he2 : e ≤ 5000) (hb64 : (blen q : Int) ≤ 64)
    (hl : ¬ (blen q : Int) + e ≤ 1024)
    (hc : ∀ w, Calls Try.prog 128 #[.int .u64 (q : Int)] w fun e w' => e = .returned (.int .i64 (blen q : Nat)) ∧ w' = w)
    (hd : dir < 0)
    : Calls Try.prog 127 #[.agg #[.bool false, .int .u64 hi, .int .u64 lo, .int .i64 e2, .bool more], .int .u64 (q : Int), .int .i64 e, .int .i64 dir] w fun e w' => e = .returned (.float .f64 (9218868437227405311)) ∧ Below w.heap.size w w' := by
  go_enter Try.func127, Try.ntmps127
  go_wp2_with fail
  refine (hc _).mono ?_
  rintro e w1 ⟨rfl, hw⟩
  subst hw
  go_wp2_with fail
  clear hc
  go_wp2
  go_ret
  exact ⟨rfl, (by repeat (first | (with_reducible assumption) | (with_reducible exact Below.refl _ _) | ((with_reducible refine Below.alloc ?_ ?_ _); rotate_left; exact (by first | omega | (simp; done) | (simp; omega))) | ((with_reducible refine Below.setCell ?_ ?_ _); rotate_left; exact (by first | omega | (simp; done) | (simp; omega))) | (with_reducible refine Below.drew ?_)))⟩

theorem made_false_false_ge (more : Bool) (hi lo q f r : Nat) (e e2 dir : Int) (w : World) (hq : ((q : Int) == 0) = false)
    (he1 : -5000 ≤ e) (he2 : e ≤ 5000) (hb64 : (blen q : Int) ≤ 64)
    (hl : ¬ (blen q : Int) + e ≤ 1024)
    (hc : ∀ w, Calls Try.prog 128 #[.int .u64 (q : Int)] w fun e w' => e = .returned (.int .i64 (blen q : Nat)) ∧ w' = w)
    (hd : 0 ≤ dir)
    : Calls Try.prog 127 #[.agg #[.bool false, .int .u64 hi, .int .u64 lo, .int .i64 e2, .bool more], .int .u64 (q : Int), .int .i64 e, .int .i64 dir] w fun e w' => e = .returned (.float .f64 (9218868437227405312)) ∧ Below w.heap.size w w' := by
  go_enter Try.func127, Try.ntmps127
  go_wp2_with fail
  refine (hc _).mono ?_
  rintro e w1 ⟨rfl, hw⟩
  subst hw
  go_wp2_with fail
  refine (inf_pos _).mono ?_
  rintro e w1 ⟨rfl, hw⟩
  subst hw
  clear hc
  go_wp2
  go_ret
  exact ⟨rfl, (by repeat (first | (with_reducible assumption) | (with_reducible exact Below.refl _ _) | ((with_reducible refine Below.alloc ?_ ?_ _); rotate_left; exact (by first | omega | (simp; done) | (simp; omega))) | ((with_reducible refine Below.setCell ?_ ?_ _); rotate_left; exact (by first | omega | (simp; done) | (simp; omega))) | (with_reducible refine Below.drew ?_)))⟩

theorem made_zero (neg more : Bool) (hi lo : Nat) (e e2 dir : Int) (w : World) :
    Calls Try.prog 127 #[.agg #[.bool neg, .int .u64 hi, .int .u64 lo, .int .i64 e2, .bool more], .int .u64 0, .int .i64 e, .int .i64 dir] w fun e w' => e = .returned (.float .f64 0) ∧ Below w.heap.size w w' := by
  go_enter Try.func127, Try.ntmps127
  go_wp2
  go_ret
  exact ⟨rfl, (by repeat (first | (with_reducible assumption) | (with_reducible exact Below.refl _ _) | ((with_reducible refine Below.alloc ?_ ?_ _); rotate_left; exact (by first | omega | (simp; done) | (simp; omega))) | ((with_reducible refine Below.setCell ?_ ?_ _); rotate_left; exact (by first | omega | (simp; done) | (simp; omega))) | (with_reducible refine Below.drew ?_)))⟩

theorem blen_fit {q L : Nat} (h0 : 0 < q) (h1 : q ≤ 2 * BN) (hL : L = 0 ∨ BN ≤ q) : ((blen q : Int) + ((L : Int) - 1074) ≤ 1024) ↔ L * BN + q < INF := by
  have hB := BN_eq; have hI := INF_eq
  have h52 : BN = 2 ^ 52 := by rw [hB]
  have b53 : (2 : Nat) ^ 53 = 2 * BN := by rw [h52]
  have b54 : (2 : Nat) ^ 54 = 4 * BN := by rw [h52]
  by_cases e : q = 2 * BN
  · rw [blen_unique (x := q) (k := 53) (by omega) (by omega)]
    rw [e, hB, hI]; omega
  · by_cases g : BN ≤ q
    · rw [blen_unique (x := q) (k := 52) (by omega) (by omega)]
      rw [hB] at h1 g e ⊢; rw [hI]; omega
    · have : blen q ≤ 52 := blen_of_lt (by omega)
      have hz : L = 0 := by omega
      subst hz
      have hq : q < 4503599627370496 := by rw [← hB]; omega
      rw [hI]; omega

/-- What made tells. -/
theorem made_any (neg more : Bool) (hi lo q L : Nat) (e2 dir : Int) (w : World) (h1 : q ≤ 2 * BN) (hL : L = 0 ∨ BN ≤ q) (hL2 : L ≤ 6000) :
    Calls Try.prog 127 #[.agg #[.bool neg, .int .u64 hi, .int .u64 lo, .int .i64 e2, .bool more], .int .u64 (q : Int), .int .i64 ((L : Int) - 1074), .int .i64 dir] w fun e w' => e = .returned (.float .f64 (wd (if neg = true then -(madeR q L dir : Int) else (madeR q L dir : Int)))) ∧ Below w.heap.size w w' := by
  have hB := BN_eq; have hI := INF_eq
  by_cases h0 : q = 0
  · subst h0
    have hL0 : L = 0 := by omega
    subst hL0
    have : madeR 0 0 dir = 0 := by unfold madeR; rw [if_pos (by omega)]; omega
    rw [this, show wd (if neg = true then -((0 : Nat) : Int) else ((0 : Nat) : Int)) = 0 by cases neg <;> rfl]
    exact made_zero neg more hi lo _ e2 dir w
  · have hfit := blen_fit (by omega) h1 hL
    have hq0 : ((q : Int) == 0) = false := by simp; omega
    have hqW : q < W64 := by rw [W64_eq]; omega
    have hb64 : blen q ≤ 64 := blen_of_lt hqW
    have hc : ∀ w, Calls Try.prog 128 #[.int .u64 (q : Int)] w fun e w' => e = .returned (.int .i64 (blen q : Nat)) ∧ w' = w := fun w => by
      have h := Try.bits_Len64 (q : Int) w (by omega) (by rw [W64_eq] at hqW; omega)
      rw [Int.toNat_natCast, bitLen_eq hqW] at h
      exact h
    have wdpos : ∀ r : Nat, wd (if false = true then -(r : Int) else (r : Int)) = r := fun r => by
      simp only [Bool.false_eq_true, if_false]; unfold wd; rw [if_neg (by omega)]; omega
    have wdneg : ∀ r : Nat, 0 < r → r < SGN → wd (if true = true then -(r : Int) else (r : Int)) = negW r := fun r g g2 => by
      simp only [if_true]; unfold wd negW; rw [if_pos (by omega), if_pos g2]; omega
    unfold madeR
    by_cases hf : L * BN + q < INF
    · rw [if_pos hf]
      obtain ⟨f, f1, f2, f3⟩ := int_rung (by omega) h1
      have hwf := write_int (by omega) f2 (by omega) f3
      have hr : fq ((L * BN + q : Nat) : Int) = fq (f : Int) * p2 ((L : Int) - 1074) := by rw [f3, fq_scaled h1 hL]
      have hL3 : L ≤ 2046 := by
        rcases Nat.lt_or_ge 2046 L with g | g
        · have : 2047 * BN ≤ L * BN := Nat.mul_le_mul_right _ g
          omega
        · exact g
      have hld := fun w => Ldexp_exact f (L * BN + q) ((L : Int) - 1074) w f1 f2 (by omega) hf (by omega) (by omega) hr
      have hrw : word (L * BN + q) := by unfold word SGN; omega
      cases neg
      · rw [wdpos]
        exact made_true_false_x more hi lo q f _ _ e2 dir w hq0 (by omega) (by omega) (by omega) (hfit.2 hf) hc hwf hld hrw
      · rw [wdneg _ (by omega) (by unfold SGN; omega)]
        exact made_true_true_x more hi lo q f _ _ e2 dir w hq0 (by omega) (by omega) (by omega) (hfit.2 hf) hc hwf hld hrw
    · rw [if_neg hf]
      have hnf : ¬ ((blen q : Int) + ((L : Int) - 1074) ≤ 1024) := fun g => hf (hfit.1 g)
      by_cases hd : dir < 0
      · rw [if_pos hd]
        cases neg
        · rw [wdpos, show INF - 1 = 9218868437227405311 from rfl]
          exact made_false_false_lt more hi lo q 0 0 _ e2 dir w hq0 (by omega) (by omega) (by omega) hnf hc hd
        · rw [wdneg _ (by omega) (by unfold SGN; omega), show INF - 1 = 9218868437227405311 from rfl]
          exact made_false_true_lt more hi lo q 0 0 _ e2 dir w hq0 (by omega) (by omega) (by omega) hnf hc hd
      · rw [if_neg hd]
        cases neg
        · rw [wdpos, show INF = 9218868437227405312 from rfl]
          exact made_false_false_ge more hi lo q 0 0 _ e2 dir w hq0 (by omega) (by omega) (by omega) hnf hc (by omega)
        · rw [wdneg _ (by omega) (by unfold SGN; omega), show INF = 9218868437227405312 from rfl]
          exact made_false_true_ge more hi lo q 0 0 _ e2 dir w hq0 (by omega) (by omega) (by omega) hnf hc (by omega)

end Go.Proofs.Ytonidoghcihnnaa
