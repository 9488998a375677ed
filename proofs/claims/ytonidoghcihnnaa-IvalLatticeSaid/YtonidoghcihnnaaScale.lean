/- Floats times powers of two. -/
import Derived.Test.YtonidoghcihnnaaBits
import Derived.Test.YtonidoghcihnnaaNeg
namespace Go.Proofs.Ytonidoghcihnnaa
open Go.RowKit

theorem p2_BN : (BN : Rat) = p2 52 := by rw [show BN = 2 ^ 52 by rw [BN_eq], ← p2_nat]; rfl
theorem p2_lt {a b : Int} (h : a < b) : p2 a < p2 b := by
  obtain ⟨k, rfl⟩ : ∃ k : Nat, b = a + ((k + 1 : Nat) : Int) := ⟨(b - a - 1).toNat, by omega⟩
  rw [p2_add, p2_nat]
  have h1 := p2_pos a
  have h2 : (1 : Rat) < ((2 ^ (k + 1) : Nat) : Rat) := by
    rw [show (1 : Rat) = ((1 : Nat) : Rat) from rfl]
    exact Rat.natCast_lt_natCast.2 (Nat.one_lt_two_pow (by omega))
  have h3 := Rat.mul_lt_mul_of_pos_left h2 h1
  grind
theorem p2_le {a b : Int} (h : a ≤ b) : p2 a ≤ p2 b := by
  rcases Int.lt_or_eq_of_le h with h | h
  · exact Rat.le_of_lt (p2_lt h)
  · rw [h]; exact Rat.le_refl
theorem p2_lt_iff {a b : Int} : p2 a < p2 b ↔ a < b := by
  refine ⟨fun h => ?_, p2_lt⟩
  rcases Int.lt_or_le a b with g | g
  · exact g
  · have := p2_le g; grind

/-- A normal rung's value. -/
theorem fq_normal {E t : Nat} (ht : t < BN) : fq (((E + 1) * BN + t : Nat) : Int) = ((BN + t : Nat) : Rat) * p2 ((E : Int) - 1074) := by
  rw [show (E + 1) * BN + t = E * BN + (BN + t) by rw [Nat.add_mul]; omega]
  exact fq_scaled (by omega) (Or.inr (by omega))

theorem ix_nat {r : Nat} (h : r ≤ INF) : ix r = r := by
  unfold ix; unfold SGN; have := INF_eq; rw [if_pos (by omega)]
theorem finw_nat {r : Nat} (h : r < INF) : finw r := by
  unfold finw word; unfold SGN; have := INF_eq; rw [Nat.mod_eq_of_lt (by omega)]; exact ⟨by omega, by omega⟩
theorem vq_nat {r : Nat} (h : r ≤ INF) : vq r = fq (r : Int) := by unfold vq; rw [ix_nat h]

theorem vq_one : vq 4607182418800017408 = 1 := by
  rw [vq_nat (by rw [INF_eq]; decide)]
  have h := fq_normal (E := 1022) (t := 0) (by rw [BN_eq]; decide)
  rw [show (((1022 + 1) * BN + 0 : Nat) : Int) = ((4607182418800017408 : Nat) : Int) by rw [BN_eq]] at h
  rw [h, Nat.add_zero, p2_BN, ← p2_add, show (52 : Int) + (((1022 : Nat) : Int) - 1074) = 0 by omega, p2_zero]
theorem vq_m53 : vq 4368491638549381120 = p2 (-53) := by
  rw [vq_nat (by rw [INF_eq]; decide)]
  have h := fq_normal (E := 969) (t := 0) (by rw [BN_eq]; decide)
  rw [show (((969 + 1) * BN + 0 : Nat) : Int) = ((4368491638549381120 : Nat) : Int) by rw [BN_eq]] at h
  rw [h, Nat.add_zero, p2_BN, ← p2_add]; congr 1

/-- A product that is a float is that float. -/
theorem mul_exact {a b r : Nat} (ha : finw a) (hb : finw b) (h0 : 0 < r) (hr : r < INF) (h : vq a * vq b = fq (r : Int)) : Ieee.double.mul a b = some r := by
  obtain ⟨x, h1, h2, h3, h4⟩ := mul_fin ha hb
  rw [h] at h4
  have hx := rnd_self (by omega) h4
  rw [h1]
  congr 1
  have hS : x ≠ SGN := fun e => by
    subst e
    have : ix SGN = 0 := by unfold ix SGN; rfl
    omega
  rw [← wd_ix hS, hx]
  unfold wd; rw [if_neg (by omega)]; omega

/-- The pieces of a normal float. -/
theorem normal_form {a : Nat} (h1 : BN ≤ a) (h2 : a < INF) : ∃ E t, a = (E + 1) * BN + t ∧ t < BN ∧ E + 1 ≤ 2046 := by
  have hB := BN_eq; have hI := INF_eq
  refine ⟨a / BN - 1, a % BN, ?_, Nat.mod_lt _ (by omega), by rw [hB]; omega⟩
  have hd := Nat.div_add_mod a BN
  have : 1 ≤ a / BN := (Nat.one_le_div_iff (by omega)).2 h1
  rw [Nat.sub_add_cancel this, Nat.mul_comm]; omega

theorem and_mask {a : Nat} (h : a < 2 ^ 63) : a &&& (2 ^ 63 + (2 ^ 52 - 1)) = a % 2 ^ 52 := by
  apply Nat.eq_of_testBit_eq
  intro i
  rw [Nat.testBit_and, Nat.testBit_mod_two_pow]
  by_cases g : i < 63
  · rw [Nat.testBit_two_pow_add_gt g, Nat.testBit_two_pow_sub_one, Bool.and_comm]
  · have : a < 2 ^ i := Nat.lt_of_lt_of_le h (Nat.pow_le_pow_right (by omega) (by omega))
    rw [Nat.testBit_lt_two_pow this]; simp
theorem andNot_exp {E t : Nat} (hE : E < 2048) (ht : t < BN) : Go.bits .andNot .u64 ((E * BN + t : Nat) : Int) 9218868437227405312 = t := by
  have hB := BN_eq
  have h1 : E * BN + t < 2 ^ 63 := by rw [hB, show (2 : Nat) ^ 63 = 9223372036854775808 from rfl]; omega
  unfold Go.bits
  dsimp only
  rw [wrap_u64, show (9218868437227405312 : Int) = ((9218868437227405312 : Nat) : Int) from rfl, BitVec.ofInt_natCast, BitVec.ofInt_natCast, BitVec.toNat_and, BitVec.toNat_not, BitVec.toNat_ofNat, BitVec.toNat_ofNat]
  rw [show IntKind.u64.bits = 64 from rfl, Nat.mod_eq_of_lt (show E * BN + t < 2 ^ 64 by rw [show (2 : Nat) ^ 64 = 2 * 2 ^ 63 by rw [Nat.pow_succ, Nat.mul_comm]]; omega)]
  rw [show (2 : Nat) ^ 64 - 1 - 9218868437227405312 % 2 ^ 64 = 2 ^ 63 + (2 ^ 52 - 1) by decide, and_mask h1]
  have h52 : (2 : Nat) ^ 52 = BN := by rw [hB]
  rw [h52, Nat.mul_comm, Nat.mul_add_mod, Nat.mod_eq_of_lt ht]
  omega
theorem and_2047 {E : Nat} (hE : E < 2048) : Go.bits .and .i64 (E : Int) 2047 = E := by
  have h := Go.bits_mask .i64 63 (by decide) (fun n h0 h1 => by rw [IntKind.wrap_i64]; have : (2 : Int) ^ 63 = 9223372036854775808 := rfl; omega) 11 (by decide) (E : Int) (by omega) (by have : (2 : Int) ^ 63 = 9223372036854775808 := rfl; omega)
  rw [show (2 : Int) ^ 11 - 1 = 2047 from rfl, show (2 : Int) ^ 11 = 2048 from rfl] at h
  rw [h]; omega
theorem or_exp {t : Nat} (e : Int) (ht : t < BN) (h0 : 0 ≤ e) (h1 : e < 2048) : Go.bits .or .u64 (t : Int) (e * 4503599627370496) = ((e.toNat * BN + t : Nat) : Int) := by
  obtain ⟨E, rfl⟩ : ∃ E : Nat, e = E := ⟨e.toNat, by omega⟩
  have hB := BN_eq
  rw [show (E : Int) * 4503599627370496 = ((E * 4503599627370496 : Nat) : Int) by omega, Go.u64_or_nat _ _ (by omega) (by omega), Int.toNat_natCast]
  congr 1
  have h52 : (4503599627370496 : Nat) = 2 ^ 52 := rfl
  rw [Nat.mul_comm, h52, or_add (by rw [← h52]; omega), hB, Nat.mul_comm E, ← h52]; omega

end Go.Proofs.Ytonidoghcihnnaa
