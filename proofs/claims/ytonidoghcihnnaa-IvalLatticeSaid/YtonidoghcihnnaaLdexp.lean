/- Numbers times powers of two: math.Ldexp where nothing is lost. -/
import Derived.Test.YtonidoghcihnnaaNeg
import Derived.Test.YtonidoghcihnnaaScale
namespace Go.Proofs.Ytonidoghcihnnaa
open Go.RowKit
set_option maxRecDepth 100000
set_option maxHeartbeats 1000000
set_option linter.unusedSimpArgs false
set_option linter.unusedVariables false

theorem normalize_any (a : Nat) (w : World) (h : flt (absw a) 4503599627370496 = false) :
    Calls Try.prog 146 #[.float .f64 a] w fun e w' => e = .returned (.tuple #[.float .f64 a, .int .i64 0]) ∧ w' = w := by
  go_enter Try.func146, Try.ntmps146
  go_wp2_with fail
  refine (abs_any _ _).mono ?_
  rintro e w1 ⟨rfl, hw⟩
  subst hw
  go_wp2
  go_ret2
  exact ⟨rfl, rfl⟩

theorem absw_nat {a : Nat} (h : a < SGN) : absw a = a := by
  unfold absw
  have hS : SGN = 2 ^ 63 := rfl
  rw [hS] at h
  unfold Go.bits
  dsimp only
  rw [wrap_u64, show (9223372036854775808 : Int) = ((9223372036854775808 : Nat) : Int) from rfl, BitVec.ofInt_natCast, BitVec.ofInt_natCast, BitVec.toNat_and, BitVec.toNat_not, BitVec.toNat_ofNat, BitVec.toNat_ofNat]
  rw [show IntKind.u64.bits = 64 from rfl, Nat.mod_eq_of_lt (show a < 2 ^ 64 by rw [show (2 : Nat) ^ 64 = 2 * 2 ^ 63 by rw [Nat.pow_succ, Nat.mul_comm]]; omega)]
  rw [show (2 : Nat) ^ 64 - 1 - 9223372036854775808 % 2 ^ 64 = 2 ^ 63 - 1 by decide, Nat.and_two_pow_sub_one_eq_mod, Nat.mod_eq_of_lt h]
  have h63 : (2 : Nat) ^ 63 = 9223372036854775808 := rfl
  omega

theorem ldexp_norm (a E t x r : Nat) (n m : Int) (w : World) (h0 : feq a 0 = false) (h1 : flt 9218868437227405311 (absw a) = false) (h2 : feq a a = true) (h3 : flt (absw a) 4503599627370496 = false)
    (hd : (a : Int) / 4503599627370496 = E) (hE : (E : Int) ≤ 2046) (hE1 : (1 : Int) ≤ E) (ha : Go.bits .and .i64 (E : Int) 2047 = E) (hn : Go.bits .andNot .u64 (a : Int) 9218868437227405312 = t)
    (n1 : -5000 ≤ n) (n2 : n ≤ 5000) (hm : n + ((E : Int) - 1023) = m) (m1 : -1022 ≤ m) (m2 : m ≤ 1023)
    (hx : Go.bits .or .u64 (t : Int) ((m + 1023) * 4503599627370496) = x) (hmul : ∀ w, (binOp .mul 33 (.float .f64 4607182418800017408) (.float .f64 x)).run Try.prog w = .ok (.float .f64 r) w) :
    Calls Try.prog 144 #[.float .f64 a, .int .i64 n] w fun e w' => e = .returned (.float .f64 r) ∧ w' = w := by
  have hb := run_tobits
  have hb2 := run_frombits
  go_enter Try.func144, Try.ntmps144
  go_wp2_with (first | (go_at_call 81; refine (isInf_any _ _).mono ?_; rintro e w1 ⟨rfl, hw⟩; subst hw) | (go_at_call 100; refine (isNaN_any _ _).mono ?_; rintro e w1 ⟨rfl, hw⟩; subst hw) | (go_at_call 146; refine (normalize_any _ _ h3).mono ?_; rintro e w1 ⟨rfl, hw⟩; subst hw))
  go_ret
  exact ⟨rfl, rfl⟩

theorem ldexp_sub (a E t x r : Nat) (n m : Int) (w : World) (h0 : feq a 0 = false) (h1 : flt 9218868437227405311 (absw a) = false) (h2 : feq a a = true) (h3 : flt (absw a) 4503599627370496 = false)
    (hd : (a : Int) / 4503599627370496 = E) (hE : (E : Int) ≤ 2046) (hE1 : (1 : Int) ≤ E) (ha : Go.bits .and .i64 (E : Int) 2047 = E) (hn : Go.bits .andNot .u64 (a : Int) 9218868437227405312 = t)
    (n1 : -5000 ≤ n) (n2 : n ≤ 5000) (hm : n + ((E : Int) - 1023) = m) (m1 : -1075 ≤ m) (m2 : m < -1022)
    (hx : Go.bits .or .u64 (t : Int) ((m + 53 + 1023) * 4503599627370496) = x) (hmul : ∀ w, (binOp .mul 33 (.float .f64 4368491638549381120) (.float .f64 x)).run Try.prog w = .ok (.float .f64 r) w) :
    Calls Try.prog 144 #[.float .f64 a, .int .i64 n] w fun e w' => e = .returned (.float .f64 r) ∧ w' = w := by
  have hb := run_tobits
  have hb2 := run_frombits
  go_enter Try.func144, Try.ntmps144
  go_wp2_with (first | (go_at_call 81; refine (isInf_any _ _).mono ?_; rintro e w1 ⟨rfl, hw⟩; subst hw) | (go_at_call 100; refine (isNaN_any _ _).mono ?_; rintro e w1 ⟨rfl, hw⟩; subst hw) | (go_at_call 146; refine (normalize_any _ _ h3).mono ?_; rintro e w1 ⟨rfl, hw⟩; subst hw))
  go_ret
  exact ⟨rfl, rfl⟩

theorem Ldexp_of (a r : Nat) (n : Int) (w : World) (h : Calls Try.prog 144 #[.float .f64 a, .int .i64 n] w fun e w' => e = .returned (.float .f64 r) ∧ w' = w) :
    Calls Try.prog 140 #[.float .f64 a, .int .i64 n] w fun e w' => e = .returned (.float .f64 r) ∧ w' = w := by
  go_enter Try.func140, Try.ntmps140
  go_wp2_with (go_at_call 144; refine h.mono ?_; rintro e w1 ⟨rfl, hw⟩; subst hw)
  go_ret
  exact ⟨rfl, rfl⟩

/-- A normal float times 2^n, where that is a float. -/
theorem Ldexp_exact (a r : Nat) (n : Int) (w : World) (g1 : BN ≤ a) (g2 : a < INF) (r1 : 0 < r) (r2 : r < INF) (n1 : -5000 ≤ n) (n2 : n ≤ 5000) (hr : fq (r : Int) = fq (a : Int) * p2 n) :
    Calls Try.prog 140 #[.float .f64 a, .int .i64 n] w fun e w' => e = .returned (.float .f64 r) ∧ w' = w := by
  have hI := INF_eq; have hB := BN_eq
  refine Ldexp_of a r n w ?_
  obtain ⟨E, t, rfl, ht, hE⟩ := normal_form g1 g2
  generalize ha : (E + 1) * BN + t = a at *
  have fa := finw_nat g2
  have na : nw a := ⟨fa.1, fa.num, by unfold SGN; omega⟩
  have z := nw_wd zero_le'
  have e0 : feq a 0 = false := by rw [← wd_0, feq_num fa.1 z.1 fa.num z.2.1, ix_of zero_le', ix_nat (by omega)]; simp; omega
  have e1 : flt 9218868437227405311 (absw a) = false := by
    rw [absw_nat (by unfold SGN; omega), ← wd_LM, flt_num (nw_wd (by rw [LM_eq, INF_eq]; decide)).1 fa.1 (nw_wd (by rw [LM_eq, INF_eq]; decide)).2.1 fa.num, ix_of (by rw [LM_eq, INF_eq]; decide), ix_nat (by omega), LM_eq]
    simp; omega
  have e2 : feq a a = true := by rw [feq_num fa.1 fa.1 fa.num fa.num]; simp
  have e3 : flt (absw a) 4503599627370496 = false := by
    have fb := finw_nat (r := 4503599627370496) (by omega)
    rw [absw_nat (by unfold SGN; omega), flt_num fa.1 fb.1 fa.num fb.num, ix_nat (by omega), ix_nat (by omega)]
    simp; omega
  have hd : (a : Int) / 4503599627370496 = ((E + 1 : Nat) : Int) := by rw [← ha, hB]; omega
  have hand := and_2047 (E := E + 1) (by omega)
  have hnot := andNot_exp (E := E + 1) (t := t) (by omega) ht
  rw [ha] at hnot
  have hv := fq_normal (E := E) ht
  rw [ha] at hv
  -- how great it is
  obtain ⟨m, hm⟩ : ∃ m : Int, m = n + (((E + 1 : Nat) : Int) - 1023) := ⟨_, rfl⟩
  have hv2 : fq (r : Int) = ((BN + t : Nat) : Rat) * p2 (m - 52) := by
    rw [hr, hv, Rat.mul_assoc, ← p2_add]; congr 2; omega
  have hlo : -1074 ≤ m := by
    have q1 : fq 1 ≤ fq (r : Int) := fq_le_iff.2 (by omega)
    have q2 : fq 1 = p2 (-1074) := by
      have := fq_scaled (k := 1) (L := 0) (by rw [BN_eq]; decide) (Or.inl rfl)
      rw [show ((0 * BN + 1 : Nat) : Int) = 1 by omega] at this
      rw [this]; simp
    have q3 : ((BN + t : Nat) : Rat) < p2 53 := by
      rw [show (53 : Int) = ((53 : Nat) : Int) from rfl, p2_nat]
      exact Rat.natCast_lt_natCast.2 (by rw [hB] at *; have : (2 : Nat) ^ 53 = 9007199254740992 := rfl; omega)
    have q4 := Rat.mul_lt_mul_of_pos_right q3 (p2_pos (m - 52))
    rw [← hv2, ← p2_add] at q4
    have q5 : p2 (-1074) < p2 (53 + (m - 52)) := by rw [← q2]; grind
    have := p2_lt_iff.1 q5
    omega
  have hhi : m ≤ 1023 := by
    have q1 : fq (r : Int) < fq (INF : Int) := fq_lt (by omega)
    have q2 : fq (INF : Int) = p2 1024 := by
      have := fq_normal (E := 2046) (t := 0) (by rw [BN_eq]; decide)
      rw [show ((2046 + 1) * BN + 0 : Nat) = INF by rw [BN_eq, INF_eq]] at this
      rw [this, Nat.add_zero, p2_BN, ← p2_add]; congr 1
    have q3 : p2 52 ≤ ((BN + t : Nat) : Rat) := by
      rw [← p2_BN]; exact Rat.natCast_le_natCast.2 (by omega)
    have q4 := Rat.mul_le_mul_of_nonneg_right q3 (Rat.le_of_lt (p2_pos (m - 52)))
    rw [← hv2, ← p2_add] at q4
    have q5 : p2 (52 + (m - 52)) < p2 1024 := by rw [← q2]; grind
    have := p2_lt_iff.1 q5
    omega
  by_cases hc : -1022 ≤ m
  · obtain ⟨j, hj⟩ : ∃ j : Nat, m + 1023 = ((j + 1 : Nat) : Int) := ⟨(m + 1022).toNat, by omega⟩
    have hx := or_exp (t := t) (m + 1023) ht (by omega) (by omega)
    rw [hj, Int.toNat_natCast, ← hj] at hx
    have hxv := fq_normal (E := j) ht
    have hxr : fq (((j + 1) * BN + t : Nat) : Int) = fq (r : Int) := by
      rw [hxv, hv2]; congr 2; omega
    have hxe : (j + 1) * BN + t = r := by have := fq_inj hxr; omega
    rw [hxe] at hx
    have hmul : Ieee.double.mul 4607182418800017408 r = some r :=
      mul_exact (finw_nat (by rw [hI]; decide)) (finw_nat r2) r1 r2 (by rw [vq_one, vq_nat (by omega)]; grind)
    exact ldexp_norm a (E + 1) t r r n m w e0 e1 e2 e3 hd (by omega) (by omega) hand hnot n1 n2 hm.symm hc hhi hx (run_fmul _ hmul)
  · obtain ⟨j, hj⟩ : ∃ j : Nat, m + 53 + 1023 = ((j + 1 : Nat) : Int) := ⟨(m + 1075).toNat, by omega⟩
    have hx := or_exp (t := t) (m + 53 + 1023) ht (by omega) (by omega)
    rw [hj, Int.toNat_natCast, ← hj] at hx
    have hxv := fq_normal (E := j) ht
    have hjlt : (j + 1) * BN + t < INF := by rw [hB, hI] at *; omega
    have hmul : Ieee.double.mul 4368491638549381120 ((j + 1) * BN + t) = some r :=
      mul_exact (finw_nat (by rw [hI]; decide)) (finw_nat hjlt) r1 r2 (by
        rw [vq_m53, vq_nat (by omega), hxv, hv2, Rat.mul_comm, Rat.mul_assoc, ← p2_add]; congr 2; omega)
    exact ldexp_sub a (E + 1) t ((j + 1) * BN + t) r n m w e0 e1 e2 e3 hd (by omega) (by omega) hand hnot n1 n2 hm.symm (by omega) (by omega) hx (run_fmul _ hmul)

end Go.Proofs.Ytonidoghcihnnaa
