/- Long division by words: the plain law of math/bits.Div64 at a divisor of 64 bits. -/
import Derived.Test.YtonidoghcihnnaaRounds
namespace Go.Proofs.Ytonidoghcihnnaa

/-- A digit of a quotient that is still too great, or right: what is kept while it is tried. -/
structure Trial (hi un y Q q r : Nat) : Prop where
  eq : q * (y / 4294967296) + r = hi
  ge : Q ≤ q

/-- The quotient's digit, and its bounds. -/
structure Digit (hi un y Q : Nat) : Prop where
  y1 : 9223372036854775808 ≤ y
  y2 : y < 18446744073709551616
  h : hi < y
  u : un < 4294967296
  lo : Q * y ≤ hi * 4294967296 + un
  up : hi * 4294967296 + un < (Q + 1) * y

theorem Digit.of {hi un y : Nat} (y1 : 9223372036854775808 ≤ y) (y2 : y < 18446744073709551616) (h : hi < y) (u : un < 4294967296) : Digit hi un y ((hi * 4294967296 + un) / y) :=
  ⟨y1, y2, h, u, Nat.div_mul_le_self _ _, by
    have h := Nat.lt_mul_div_succ (hi * 4294967296 + un) (show 0 < y by omega)
    rw [Nat.mul_comm y] at h; exact h⟩

theorem y_split (y : Nat) : y = y / 4294967296 * 4294967296 + y % 4294967296 := by omega
theorem mul_split (q y : Nat) : q * y = q * (y / 4294967296) * 4294967296 + q * (y % 4294967296) := by
  have h := y_split y
  have h2 : q * y = q * (y / 4294967296 * 4294967296 + y % 4294967296) := by rw [← h]
  rw [h2, Nat.mul_add, Nat.mul_assoc]

theorem Digit.lt {hi un y Q : Nat} (d : Digit hi un y Q) : Q < 4294967296 := by
  rcases Nat.lt_or_ge Q 4294967296 with h | h
  · exact h
  · have h1 := d.lo; have h2 := d.h; have h3 := d.u
    have := Nat.mul_le_mul_right y h
    omega
theorem Digit.rest {hi un y Q : Nat} (d : Digit hi un y Q) : hi * 4294967296 + un - Q * y < y ∧ Q * y ≤ hi * 4294967296 + un := by
  have h1 := d.lo; have h2 := d.up
  rw [Nat.add_mul, Nat.one_mul] at h2
  omega

theorem Trial.start {hi un y Q : Nat} (d : Digit hi un y Q) : Trial hi un y Q (hi / (y / 4294967296)) (hi % (y / 4294967296)) ∧ hi % (y / 4294967296) < 4294967296 := by
  have h1 := d.y1; have h2 := d.y2
  have hp : 0 < y / 4294967296 := by omega
  refine ⟨⟨by rw [Nat.mul_comm]; exact Nat.div_add_mod _ _, ?_⟩, ?_⟩
  · rw [Nat.le_div_iff_mul_le hp]
    have h3 := d.lo; have h4 := d.u
    rw [mul_split] at h3
    omega
  · have := Nat.mod_lt hi hp
    omega

theorem Trial.small {hi un y Q q r : Nat} (d : Digit hi un y Q) (t : Trial hi un y Q q r) : q < 12884901888 := by
  have h1 := d.y1; have h2 := d.y2; have h3 := d.h; have h4 := t.eq
  rcases Nat.lt_or_ge q 12884901888 with h | h
  · exact h
  · have := Nat.mul_le_mul h (show 2147483648 ≤ y / 4294967296 by omega)
    omega

/-- The trial goes on. -/
theorem Trial.next {hi un y Q q r : Nat} (d : Digit hi un y Q) (t : Trial hi un y Q q r) (g : 4294967296 ≤ q ∨ 4294967296 * r + un < q * (y % 4294967296)) : 1 ≤ q ∧ Trial hi un y Q (q - 1) (r + y / 4294967296) := by
  have hl := d.lt
  have hq : Q < q := by
    rcases g with g | g
    · omega
    · rcases Nat.lt_or_ge Q q with h | h
      · exact h
      · have h1 := d.lo; have h4 := t.eq
        have h5 := Nat.mul_le_mul_right y h
        have h6 := mul_split q y
        omega
  refine ⟨by omega, ?_, by omega⟩
  have h4 := t.eq
  obtain ⟨p, rfl⟩ : ∃ p, q = p + 1 := ⟨q - 1, by omega⟩
  rw [Nat.add_mul] at h4
  rw [Nat.add_sub_cancel]; omega

/-- The trial ends. -/
theorem Trial.stop {hi un y Q q r : Nat} (d : Digit hi un y Q) (t : Trial hi un y Q q r) (g : q * (y % 4294967296) ≤ 4294967296 * r + un) : q = Q := by
  have h1 := d.up; have h4 := t.eq; have h5 := t.ge
  have h6 := mul_split q y
  rcases Nat.lt_or_ge Q q with h | h
  · have := Nat.mul_le_mul_right y (show Q + 1 ≤ q from h)
    omega
  · omega
theorem Trial.stop2 {hi un y Q q r : Nat} (d : Digit hi un y Q) (t : Trial hi un y Q q r) (g : 4294967296 ≤ r) : q = Q := by
  have h1 := d.y1; have h2 := d.y2; have h3 := d.h; have h4 := t.eq
  have hq : q < 4294967296 := by
    rcases Nat.lt_or_ge q 4294967296 with h | h
    · exact h
    · have := Nat.mul_le_mul_right (y / 4294967296) h
      omega
  refine t.stop d ?_
  have h5 := Nat.mul_le_mul (Nat.le_of_lt hq) (show y % 4294967296 ≤ 4294967296 by omega)
  have h6 := Nat.mul_le_mul_left 4294967296 g
  omega

/-- Both digits together. -/
theorem digits {hi lo y Q1 Q0 : Nat} (d1 : Digit hi (lo / 4294967296) y Q1) (d0 : Digit (hi * 4294967296 + lo / 4294967296 - Q1 * y) (lo % 4294967296) y Q0) :
    hi * 18446744073709551616 + lo = (Q1 * 4294967296 + Q0) * y + ((hi * 4294967296 + lo / 4294967296 - Q1 * y) * 4294967296 + lo % 4294967296 - Q0 * y) ∧
    (hi * 4294967296 + lo / 4294967296 - Q1 * y) * 4294967296 + lo % 4294967296 - Q0 * y < y ∧ Q1 * 4294967296 + Q0 < 18446744073709551616 := by
  have a1 := d1.rest; have a0 := d0.rest; have l1 := d1.lt; have l0 := d0.lt
  rw [Nat.add_mul, Nat.mul_right_comm]
  omega

end Go.Proofs.Ytonidoghcihnnaa
