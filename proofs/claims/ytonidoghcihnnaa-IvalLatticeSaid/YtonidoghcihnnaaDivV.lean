/- A quotient of two floats by long division: what it is worth. -/
import Derived.Test.YtonidoghcihnnaaDivLaw
import Derived.Test.YtonidoghcihnnaaSplit
import Derived.Test.YtonidoghcihnnaaAdd
namespace Go.Proofs.Ytonidoghcihnnaa

/-- A number of 64 bits, moved up until its first bit is the highest. -/
def upN (m : Nat) : Nat := m * 2 ^ (64 - blen m)
theorem upN_bound {m : Nat} (h0 : m ≠ 0) (h : m < W64) : 9223372036854775808 ≤ upN m ∧ upN m < W64 := by
  have ⟨a, a1⟩ := blen_le h0
  have b := blen_lt m
  have hb : blen m ≤ 64 := blen_of_lt (by rw [← W64_pow]; exact h)
  unfold upN
  constructor
  · have h1 := Nat.mul_le_mul_right (2 ^ (64 - blen m)) a
    rw [← Nat.pow_add, show blen m - 1 + (64 - blen m) = 63 by omega] at h1
    exact h1
  · have h1 := Nat.mul_lt_mul_of_pos_right b (Nat.two_pow_pos (64 - blen m))
    rw [← Nat.pow_add, show blen m + (64 - blen m) = 64 by omega] at h1
    exact h1
theorem upN_rat (m : Nat) (h : m < W64) (E : Int) : (m : Rat) * p2 E = (upN m : Rat) * p2 (E - (64 - (blen m : Int))) := by
  have hb : blen m ≤ 64 := blen_of_lt (by rw [← W64_pow]; exact h)
  unfold upN
  rw [Rat.natCast_mul, ← p2_nat, Rat.mul_assoc, ← p2_add]
  congr 2; omega

/-- The quotient, and what is left. -/
theorem quo_bound {X Y : Nat} (x1 : 9223372036854775808 ≤ X) (x2 : X < W64) (y1 : 9223372036854775808 ≤ Y) (y2 : Y < W64) :
    2 ^ 53 ≤ X * 9223372036854775808 / Y ∧ X * 9223372036854775808 / Y < W64 := by
  rw [W64_eq] at *
  have hY : 0 < Y := by omega
  constructor
  · rw [Nat.le_div_iff_mul_le hY]; omega
  · rw [Nat.div_lt_iff_lt_mul hY]
    have := Nat.mul_le_mul_left 18446744073709551616 y1
    omega

theorem quo_rat {X Y : Nat} (hY : 0 < Y) (e : Int) :
    ((X : Rat) / (Y : Rat)) * p2 (e + 63) = ((X * 9223372036854775808 / Y : Nat) : Rat) * p2 e + (((X * 9223372036854775808 % Y : Nat) : Rat) / (Y : Rat)) * p2 e ∧
    0 ≤ (((X * 9223372036854775808 % Y : Nat) : Rat) / (Y : Rat)) * p2 e ∧ (((X * 9223372036854775808 % Y : Nat) : Rat) / (Y : Rat)) * p2 e < p2 e ∧
    ((((X * 9223372036854775808 % Y : Nat) : Rat) / (Y : Rat)) * p2 e = 0 ↔ decide (0 < X * 9223372036854775808 % Y) = false) := by
  have hd := Nat.div_add_mod (X * 9223372036854775808) Y
  have hm := Nat.mod_lt (X * 9223372036854775808) hY
  generalize X * 9223372036854775808 / Y = q at *
  generalize X * 9223372036854775808 % Y = r at *
  have hr : (Y : Rat) * (q : Rat) + (r : Rat) = (X : Rat) * 9223372036854775808 := by
    have := congrArg (fun n : Nat => (n : Rat)) hd
    simp only [Rat.natCast_add, Rat.natCast_mul] at this
    exact this
  have hY2 : (0 : Rat) < (Y : Rat) := Rat.natCast_pos.2 hY
  have h63 : p2 63 = 9223372036854775808 := by rw [show (63 : Int) = ((63 : Nat) : Int) from rfl, p2_nat]; rfl
  have hp := p2_pos e
  have hrY : (r : Rat) < (Y : Rat) := Rat.natCast_lt_natCast.2 hm
  have hr0 : (0 : Rat) ≤ (r : Rat) := Rat.natCast_nonneg
  have hi : 0 < (Y : Rat)⁻¹ := Rat.inv_pos.2 hY2
  have hYi : (Y : Rat) * (Y : Rat)⁻¹ = 1 := Rat.mul_inv_cancel _ (by grind)
  have e0 : ((r : Rat) / (Y : Rat)) * p2 e = (r : Rat) * ((Y : Rat)⁻¹ * p2 e) := by rw [Rat.div_def, Rat.mul_assoc]
  have hip : 0 < (Y : Rat)⁻¹ * p2 e := Rat.mul_pos hi hp
  rw [e0]
  refine ⟨?_, Rat.mul_nonneg hr0 (Rat.le_of_lt hip), ?_, ?_⟩
  · rw [p2_add, h63, Rat.div_def]; grind
  · have h := Rat.mul_lt_mul_of_pos_right hrY hip
    rw [← Rat.mul_assoc (Y : Rat), hYi, Rat.one_mul] at h
    exact h
  · rw [decide_eq_false_iff_not]
    constructor
    · intro h
      rcases Rat.mul_eq_zero.1 h with h | h
      · have := Rat.natCast_eq_zero_iff.1 h; omega
      · grind
    · intro h
      have : r = 0 := by omega
      subst this; simp

/-- The sign of a quotient. -/
theorem quo_sign (s t : Bool) (A B : Rat) (hB : B ≠ 0) : rsign s A / rsign t B = rsign (!(s == t)) (A / B) := by
  unfold rsign
  cases s <;> cases t <;> simp [Rat.div_def] <;> grind

theorem quo_pow (A B : Rat) (hB : B ≠ 0) (a b : Int) : (A * p2 a) / (B * p2 b) = (A / B) * p2 (a - b) := by
  have h := p2_neg b
  have h2 : p2 (a - b) = p2 a * p2 (-b) := by rw [← p2_add]; rfl
  have hp := p2_pos b
  rw [h2]
  have : (B * p2 b) ≠ 0 := by
    intro h
    rcases Rat.mul_eq_zero.1 h with h | h
    · exact hB h
    · grind
  rw [Rat.div_def, Rat.div_def]
  grind

/-- The quotient of two floats: its digits. -/
theorem div_worth {a b : Nat} (ha : finw a) (hb : finw b) (a0 : splM a ≠ 0) (b0 : splM b ≠ 0) :
    vq a / vq b = rsign (!(splN a == splN b)) ((((0 * W64 + upN (splM a) * 9223372036854775808 / upN (splM b) : Nat)) : Rat) * p2 ((splE a - (64 - (blen (splM a) : Int))) - (splE b - (64 - (blen (splM b) : Int))) - 63)
      + (((upN (splM a) * 9223372036854775808 % upN (splM b) : Nat) : Rat) / (upN (splM b) : Rat)) * p2 ((splE a - (64 - (blen (splM a) : Int))) - (splE b - (64 - (blen (splM b) : Int))) - 63)) := by
  have hB := BN_eq
  obtain ⟨m1, _⟩ := spl_bound ha
  obtain ⟨m2, _⟩ := spl_bound hb
  have w1 : splM a < W64 := by rw [W64_eq]; omega
  have w2 : splM b < W64 := by rw [W64_eq]; omega
  have u1 := upN_bound a0 w1
  have u2 := upN_bound b0 w2
  have hY : 0 < upN (splM b) := by omega
  have hY2 : (upN (splM b) : Rat) ≠ 0 := by
    intro h; have := Rat.natCast_eq_zero_iff.1 h; omega
  rw [spl_vq ha, spl_vq hb, upN_rat _ w1, upN_rat _ w2, quo_sign, quo_pow _ _ hY2]
  · congr 1
    have h := (quo_rat (X := upN (splM a)) hY (splE a - (64 - (blen (splM a) : Int)) - (splE b - (64 - (blen (splM b) : Int))) - 63)).1
    rw [Int.sub_add_cancel] at h
    rw [h, Nat.zero_mul, Nat.zero_add]
  · intro h
    have hp := p2_pos (splE b - (64 - (blen (splM b) : Int)))
    rcases Rat.mul_eq_zero.1 h with h | h
    · exact hY2 h
    · grind

end Go.Proofs.Ytonidoghcihnnaa
