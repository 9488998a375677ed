/- Shifts of numbers of 128 bits, in two words. -/
import Derived.Test.YtonidoghcihnnaaNear
import Derived.WalkKit
import Derived.Lib.BitFns
import Derived.Laws.BitsAllLaws
import Derived.Laws.Bits64b
namespace Go.Proofs.Ytonidoghcihnnaa
open Go.RowKit
set_option linter.unusedVariables false

def W64 : Nat := 18446744073709551616
theorem W64_eq : W64 = 18446744073709551616 := rfl
theorem W64_pow : W64 = 2 ^ 64 := rfl

/-- How many bits. -/
@[irreducible] def blen (x : Nat) : Nat := if x = 0 then 0 else x.log2 + 1
theorem blen_zero : blen 0 = 0 := by unfold blen; rfl
theorem blen_lt (x : Nat) : x < 2 ^ blen x := by
  unfold blen; split
  · rename_i h; subst h; decide
  · exact Nat.lt_log2_self
theorem blen_le {x : Nat} (h : x ≠ 0) : 2 ^ (blen x - 1) ≤ x ∧ 1 ≤ blen x := by
  unfold blen; rw [if_neg h, Nat.add_sub_cancel]
  exact ⟨Nat.log2_self_le h, by omega⟩
theorem blen_unique {x k : Nat} (h1 : 2 ^ k ≤ x) (h2 : x < 2 ^ (k + 1)) : blen x = k + 1 := by
  have hx : x ≠ 0 := by have := Nat.two_pow_pos k; omega
  have ⟨a, a1⟩ := blen_le hx
  have b := blen_lt x
  rcases Nat.lt_trichotomy (blen x) (k + 1) with h | h | h
  · have : 2 ^ blen x ≤ 2 ^ k := Nat.pow_le_pow_right (by omega) (by omega)
    omega
  · exact h
  · have : 2 ^ (k + 1) ≤ 2 ^ (blen x - 1) := Nat.pow_le_pow_right (by omega) (by omega)
    omega
theorem blen_mono {x y : Nat} (h : x ≤ y) : blen x ≤ blen y := by
  by_cases hx : x = 0
  · subst hx; rw [blen_zero]; omega
  · have ⟨a, a1⟩ := blen_le hx
    have b := blen_lt y
    rcases Nat.lt_or_ge (blen y) (blen x) with g | g
    · have : 2 ^ blen y ≤ 2 ^ (blen x - 1) := Nat.pow_le_pow_right (by omega) (by omega)
      omega
    · exact g
theorem blen_of_lt {x k : Nat} (h : x < 2 ^ k) : blen x ≤ k := by
  by_cases hx : x = 0
  · subst hx; rw [blen_zero]; omega
  · have ⟨a, a1⟩ := blen_le hx
    rcases Nat.lt_or_ge k (blen x) with g | g
    · have : 2 ^ k ≤ 2 ^ (blen x - 1) := Nat.pow_le_pow_right (by omega) (by omega)
      omega
    · exact g
theorem blen_lib (f : Nat) : ∀ x : Nat, x < 2 ^ f → Lib.bitLenAux f x = blen x := by
  induction f with
  | zero => intro x h; have : x = 0 := by simpa using h
            subst this; rw [blen_zero]; rfl
  | succ f ih =>
    intro x h
    unfold Lib.bitLenAux
    by_cases hx : x = 0
    · subst hx; rw [if_pos rfl, blen_zero]
    · rw [if_neg hx, ih (x / 2) (by rw [Nat.pow_succ] at h; omega)]
      by_cases h1 : x / 2 = 0
      · have : x = 1 := by omega
        subst this
        rw [show 1 / 2 = 0 from rfl, blen_zero, blen_unique (k := 0) (by omega) (by omega)]
      · have ⟨a, a1⟩ := blen_le h1
        have b := blen_lt (x / 2)
        have e : blen (x / 2) - 1 + 1 = blen (x / 2) := by omega
        have p1 : 2 ^ blen (x / 2) = 2 * 2 ^ (blen (x / 2) - 1) := by rw [← e, Nat.pow_succ]; simp [Nat.mul_comm]
        have p2 : 2 ^ (blen (x / 2) + 1) = 2 * 2 ^ blen (x / 2) := by rw [Nat.pow_succ]; omega
        rw [blen_unique (x := x) (k := blen (x / 2)) (by omega) (by omega)]; omega
theorem bitLen_eq {x : Nat} (h : x < W64) : Lib.bitLen x = blen x := blen_lib 64 x h
theorem blen_two {hi lo : Nat} (hl : lo < W64) : blen (hi * W64 + lo) = if hi = 0 then blen lo else 64 + blen hi := by
  by_cases h : hi = 0
  · subst h; rw [if_pos rfl, Nat.zero_mul, Nat.zero_add]
  · rw [if_neg h]
    have ⟨a, a1⟩ := blen_le h
    have b := blen_lt hi
    have e : 64 + blen hi = (blen hi - 1 + 64) + 1 := by omega
    have h1 : 2 ^ (blen hi - 1) * W64 ≤ hi * W64 := Nat.mul_le_mul_right _ a
    have h2 : (hi + 1) * W64 ≤ 2 ^ blen hi * W64 := Nat.mul_le_mul_right _ b
    rw [W64_pow, ← Nat.pow_add] at h1 h2
    rw [← W64_pow] at h1 h2
    rw [Nat.add_mul] at h2
    rw [e]
    exact blen_unique (by omega) (by rw [show blen hi - 1 + 64 + 1 = blen hi + 64 by omega]; omega)

/-- (hi 2^64 + lo) / 2^k, its lowest 64 bits. -/
def rightN (hi lo k : Nat) : Nat := (hi * W64 + lo) / 2 ^ k % W64

theorem right_zero {hi lo : Nat} (hl : lo < W64) : rightN hi lo 0 = lo := by
  unfold rightN; rw [Nat.pow_zero, Nat.div_one, Nat.mul_add_mod_of_lt hl]
theorem right_hi {hi lo j : Nat} (hh : hi < W64) (hl : lo < W64) : rightN hi lo (64 + j) = hi / 2 ^ j := by
  unfold rightN
  have hw : 0 < W64 := by rw [W64_eq]; decide
  rw [Nat.pow_add, ← W64_pow, ← Nat.div_div_eq_div_mul, Nat.mul_comm hi, Nat.mul_add_div hw, Nat.div_eq_of_lt hl, Nat.add_zero]
  exact Nat.mod_eq_of_lt (Nat.lt_of_le_of_lt (Nat.div_le_self _ _) hh)
theorem right_big0 {hi lo k : Nat} (hh : hi < W64) (hl : lo < W64) (hk : 128 ≤ k) : rightN hi lo k = 0 := by
  obtain ⟨j, rfl⟩ : ∃ j, k = 64 + j := ⟨k - 64, by omega⟩
  rw [right_hi hh hl]
  have : W64 ≤ 2 ^ j := by rw [W64_pow]; exact Nat.pow_le_pow_right (by omega) (by omega)
  exact Nat.div_eq_of_lt (by omega)
theorem or_add {a b i : Nat} (ha : a < 2 ^ i) : a ||| (2 ^ i * b) = a + 2 ^ i * b := by
  rw [Nat.or_comm, ← Nat.two_pow_add_eq_or_of_lt ha, Nat.add_comm]
theorem wrap_u64 (n : Int) : IntKind.u64.wrap n = n % 18446744073709551616 := by simp [IntKind.wrap, IntKind.bits, IntKind.signed]
theorem wrap_u64_nat (n : Nat) : IntKind.u64.wrap (n : Int) = ((n % W64 : Nat) : Int) := by rw [wrap_u64, W64_eq]; omega
theorem right_mid {hi lo k : Nat} (hh : hi < W64) (hl : lo < W64) (h0 : 0 < k) (hk : k < 64) :
    Go.bits .or .u64 ((lo : Int) / 2 ^ k) (IntKind.u64.wrap ((hi : Int) * 2 ^ (64 - k))) = ((rightN hi lo k : Nat) : Int) := by
  have hw : W64 = 2 ^ k * 2 ^ (64 - k) := by rw [← Nat.pow_add, W64_pow]; congr 1; omega
  have hp := Nat.two_pow_pos k
  have hp2 := Nat.two_pow_pos (64 - k)
  have e1 : ((lo : Int) / 2 ^ k) = ((lo / 2 ^ k : Nat) : Int) := by simp
  have e2 : ((hi : Int) * 2 ^ (64 - k)) = ((hi * 2 ^ (64 - k) : Nat) : Int) := by simp
  have hlt : lo / 2 ^ k < 2 ^ (64 - k) := by rw [Nat.div_lt_iff_lt_mul hp, Nat.mul_comm, ← hw]; exact hl
  have e3 : hi * 2 ^ (64 - k) % W64 = 2 ^ (64 - k) * (hi % 2 ^ k) := by
    rw [hw, Nat.mul_comm (2 ^ k), Nat.mul_comm hi, Nat.mul_mod_mul_left]
  rw [e1, e2, wrap_u64_nat, Go.u64_or_nat _ _ (by rw [← W64_eq]; exact Nat.lt_of_le_of_lt (Nat.div_le_self _ _) hl) (by rw [← W64_eq]; exact Nat.mod_lt _ (by rw [W64_eq]; decide)), e3, or_add hlt]
  congr 1
  unfold rightN
  have e4 : (hi * W64 + lo) / 2 ^ k = hi * 2 ^ (64 - k) + lo / 2 ^ k := by
    rw [hw, ← Nat.mul_assoc, Nat.mul_right_comm, Nat.mul_comm (hi * 2 ^ (64 - k)), Nat.mul_add_div hp]
  rw [e4, Nat.add_mod, e3, Nat.mod_eq_of_lt (show lo / 2 ^ k < W64 from Nat.lt_of_le_of_lt (Nat.div_le_self _ _) hl)]
  have hm := Nat.mod_lt hi hp
  have h5 : 2 ^ (64 - k) * (hi % 2 ^ k) + lo / 2 ^ k < W64 := by
    have : 2 ^ (64 - k) * (hi % 2 ^ k + 1) ≤ 2 ^ (64 - k) * 2 ^ k := Nat.mul_le_mul_left _ hm
    rw [Nat.mul_add, Nat.mul_comm _ (2 ^ k), ← hw] at this
    omega
  rw [Nat.mod_eq_of_lt h5]; omega

/-- Are the last k bits 0? -/
theorem even_low {hi lo k : Nat} (hl : lo < W64) (hk : k < 64) : (IntKind.u64.wrap ((lo : Int) * 2 ^ (64 - k)) == 0) = decide ((hi * W64 + lo) % 2 ^ k = 0) := by
  have hw : W64 = 2 ^ k * 2 ^ (64 - k) := by rw [← Nat.pow_add, W64_pow]; congr 1; omega
  have e2 : ((lo : Int) * 2 ^ (64 - k)) = ((lo * 2 ^ (64 - k) : Nat) : Int) := by simp
  have e3 : lo * 2 ^ (64 - k) % W64 = 2 ^ (64 - k) * (lo % 2 ^ k) := by
    rw [hw, Nat.mul_comm (2 ^ k), Nat.mul_comm lo, Nat.mul_mod_mul_left]
  have e4 : (hi * W64 + lo) % 2 ^ k = lo % 2 ^ k := by
    rw [hw, ← Nat.mul_assoc, Nat.mul_right_comm, Nat.mul_comm (hi * 2 ^ (64 - k)), Nat.mul_add_mod]
  have hp2 := Nat.two_pow_pos (64 - k)
  rw [e2, wrap_u64_nat, e3, e4, Bool.eq_iff_iff]
  simp only [beq_iff_eq, decide_eq_true_eq]
  rw [show (0 : Int) = ((0 : Nat) : Int) from rfl, Int.natCast_inj, Nat.mul_eq_zero]
  omega
theorem even_high {hi lo j : Nat} (hh : hi < W64) (hl : lo < W64) (hj : j ≤ 64) : decide ((hi * W64 + lo) % 2 ^ (64 + j) = 0) = (decide (lo = 0) && (IntKind.u64.wrap ((hi : Int) * 2 ^ (64 - j)) == 0)) := by
  have e1 : (hi * W64 + lo) % 2 ^ (64 + j) = W64 * (hi % 2 ^ j) + lo := by
    rw [Nat.pow_add, ← W64_pow, Nat.mod_mul, Nat.mul_comm hi, Nat.mul_add_mod, Nat.mod_eq_of_lt hl, Nat.mul_add_div (by rw [W64_eq]; decide), Nat.div_eq_of_lt hl, Nat.add_zero, Nat.add_comm]
  have hw : W64 = 2 ^ j * 2 ^ (64 - j) := by rw [← Nat.pow_add, W64_pow]; congr 1; omega
  have e2 : ((hi : Int) * 2 ^ (64 - j)) = ((hi * 2 ^ (64 - j) : Nat) : Int) := by simp
  have e3 : hi * 2 ^ (64 - j) % W64 = 2 ^ (64 - j) * (hi % 2 ^ j) := by
    rw [hw, Nat.mul_comm (2 ^ j), Nat.mul_comm hi, Nat.mul_mod_mul_left]
  have hp2 := Nat.two_pow_pos (64 - j)
  rw [e1, e2, wrap_u64_nat, e3, Bool.eq_iff_iff]
  simp only [beq_iff_eq, decide_eq_true_eq, Bool.and_eq_true]
  rw [show (0 : Int) = ((0 : Nat) : Int) from rfl, Int.natCast_inj, Nat.add_eq_zero_iff, Nat.mul_eq_zero, Nat.mul_eq_zero, W64_eq]
  omega

end Go.Proofs.Ytonidoghcihnnaa
