/- Negatives of floats. -/
import Derived.Test.YtonidoghcihnnaaPure
namespace Go.Proofs.Ytonidoghcihnnaa
open Go.RowKit

/-- The sign turned. -/
@[irreducible] def negW (b : Nat) : Nat := if b < SGN then b + SGN else b - SGN

theorem negW_word {b : Nat} (h : word b) : word (negW b) := by unfold negW word at *; split <;> omega
theorem negW_rung {b : Nat} (h : word b) : negW b % SGN = b % SGN := by
  unfold negW word at *; unfold SGN at *; split <;> omega
theorem negW_nan {b : Nat} (h : word b) : nan (negW b) ↔ nan b := by unfold nan; rw [negW_rung h]
theorem negW_fin {b : Nat} (h : finw b) : finw (negW b) := ⟨negW_word h.1, by rw [negW_rung h.1]; exact h.2⟩
theorem negW_sign {b : Nat} (h : word b) : (negW b / SGN % 2 == 1) = !(b / SGN % 2 == 1) := by
  unfold negW word at *; unfold SGN at *
  split
  · have h1 : b / 9223372036854775808 % 2 = 0 := by omega
    have h2 : (b + 9223372036854775808) / 9223372036854775808 % 2 = 1 := by omega
    rw [h1, h2]; rfl
  · have h1 : b / 9223372036854775808 % 2 = 1 := by omega
    have h2 : (b - 9223372036854775808) / 9223372036854775808 % 2 = 0 := by omega
    rw [h1, h2]; rfl
theorem negW_ix {b : Nat} (h : word b) : ix (negW b) = - ix b := by
  rw [ix_sign (negW_word h), ix_sign h, negW_rung h, negW_sign h]
  cases (b / SGN % 2 == 1) <;> simp
theorem negW_vq {b : Nat} (h : word b) : vq (negW b) = - vq b := by unfold vq; rw [negW_ix h, fq_neg]

theorem read_neg {b : Nat} (h : word b) : Ieee.double.read (negW b) = (Ieee.double.read b).opposite := by
  unfold Ieee.Format.read
  rw [show Ieee.double.signWeight = SGN from rfl]
  dsimp only
  rw [negW_rung h, negW_sign h]
  split
  · rfl
  · split
    · rfl
    · split <;> rfl
theorem sum_comm (x y : Ieee.Datum) : x.sum y = y.sum x := by
  cases x <;> cases y <;> simp only [Ieee.Datum.sum]
  · rename_i s m i t n j
    rw [Int.min_comm i j, Int.add_comm, Bool.and_comm]
  · rename_i s t
    cases s <;> cases t <;> rfl
theorem add_comm' (a b : Nat) : Ieee.double.add a b = Ieee.double.add b a := by unfold Ieee.Format.add; rw [sum_comm]
theorem sub_add (a : Nat) {b : Nat} (h : word b) : Ieee.double.sub a b = Ieee.double.add a (negW b) := by
  unfold Ieee.Format.sub Ieee.Format.add; rw [read_neg h]
/-- 0 less a number. -/
theorem zero_sub {b : Nat} (h : word b) (hn : ¬ nan b) : Ieee.double.sub 0 b = some (wd (-ix b)) := by
  rw [sub_add 0 h, add_comm', add_zero (negW_word h) (by rw [negW_nan h]; exact hn), negW_ix h]

theorem xor_top {b : Nat} (h : b < SGN) : b ^^^ 2 ^ 63 = b + SGN := by
  have hS : SGN = 2 ^ 63 := rfl
  rw [hS] at h ⊢
  rw [Nat.add_comm]
  apply Nat.eq_of_testBit_eq
  intro j
  rw [Nat.testBit_xor, Nat.testBit_two_pow]
  rcases Nat.lt_trichotomy j 63 with g | g | g
  · rw [Nat.testBit_two_pow_add_gt g, decide_eq_false (by omega), Bool.xor_false]
  · subst g
    rw [Nat.testBit_two_pow_add_eq, decide_eq_true rfl, Bool.xor_true]
  · rw [decide_eq_false (by omega), Bool.xor_false]
    have h1 : (2 : Nat) ^ 64 ≤ 2 ^ j := Nat.pow_le_pow_right (by omega) g
    have h2 : (2 : Nat) ^ 64 = 2 * 2 ^ 63 := by rw [show 64 = 63 + 1 from rfl, Nat.pow_succ, Nat.mul_comm]
    rw [Nat.testBit_lt_two_pow (by omega), Nat.testBit_lt_two_pow (by omega)]
theorem negFloat_word {b : Nat} (h : word b) : Op.negFloat .f64 b = negW b := by
  unfold Op.negFloat
  rw [show (FloatKind.f64.format.exponentBits + FloatKind.f64.format.fractionBits) = 63 from rfl]
  unfold negW
  by_cases hb : b < SGN
  · rw [if_pos hb, xor_top hb]
  · rw [if_neg hb]
    unfold word at h
    have := xor_top (b := b - SGN) (by omega)
    rw [Nat.sub_add_cancel (by omega)] at this
    have e : b ^^^ 2 ^ 63 = ((b - SGN) ^^^ 2 ^ 63) ^^^ 2 ^ 63 := by rw [this]
    rw [e, Nat.xor_assoc, Nat.xor_self, Nat.xor_zero]
theorem run_fneg {P : Program} {b : Nat} (h : word b) (w : World) : (Op.unary .neg (.float .f64 b)).run P w = .ok (.float .f64 (negW b)) w := by
  simp [Op.unary, negFloat_word h]
theorem run_fsub {P : Program} (t : TypeId) {a b r : Nat} (h : Ieee.double.sub a b = some r) (w : World) : (binOp .sub t (.float .f64 a) (.float .f64 b)).run P w = .ok (.float .f64 r) w := by
  simp [binOp, Op.floatArith, show FloatKind.f64.format = Ieee.double from rfl, h]
theorem run_fmul {P : Program} (t : TypeId) {a b r : Nat} (h : Ieee.double.mul a b = some r) (w : World) : (binOp .mul t (.float .f64 a) (.float .f64 b)).run P w = .ok (.float .f64 r) w := by
  simp [binOp, Op.floatArith, show FloatKind.f64.format = Ieee.double from rfl, h]
theorem run_fquo {P : Program} (t : TypeId) {a b r : Nat} (h : Ieee.double.div a b = some r) (w : World) : (binOp .quo t (.float .f64 a) (.float .f64 b)).run P w = .ok (.float .f64 r) w := by
  simp [binOp, Op.floatArith, show FloatKind.f64.format = Ieee.double from rfl, h]

end Go.Proofs.Ytonidoghcihnnaa
