/- What ulp.value's round tells. -/
import Derived.Test.YtonidoghcihnnaaRoundAP
import Derived.Test.YtonidoghcihnnaaRoundAN
import Derived.Test.YtonidoghcihnnaaRoundBP
import Derived.Test.YtonidoghcihnnaaRoundBN
namespace Go.Proofs.Ytonidoghcihnnaa
open Go.RowKit
set_option maxRecDepth 100000
set_option maxHeartbeats 1000000
set_option linter.unusedVariables false

/-- shifted, also of more than all digits. -/
theorem shifted_big (neg more : Bool) (hi lo : Nat) (e n : Int) (w : World) (h0 : 128 < n) :
    Calls Try.prog 126 #[.agg #[.bool neg, .int .u64 hi, .int .u64 lo, .int .i64 e, .bool more], .int .i64 n] w fun e w' => e = .returned (.tuple #[.int .u64 0, .int .i64 1]) ∧ Below w.heap.size w w' := by
  go_enter Try.func126, Try.ntmps126
  go_wp2
  go_ret2
  exact ⟨rfl, (by repeat (first | (with_reducible assumption) | (with_reducible exact Below.refl _ _) | ((with_reducible refine Below.alloc ?_ ?_ _); rotate_left; exact (by first | omega | (simp; done) | (simp; omega))) | ((with_reducible refine Below.setCell ?_ ?_ _); rotate_left; exact (by first | omega | (simp; done) | (simp; omega))) | (with_reducible refine Below.drew ?_)))⟩

theorem shifted_all (neg more : Bool) (hi lo : Nat) (e n : Int) (w : World) (hh : hi < W64) (hl : lo < W64) (h0 : 0 < n) (hx : hi * W64 + lo ≠ 0) (hq : (hi * W64 + lo) / 2 ^ n.toNat < W64) :
    Calls Try.prog 126 #[.agg #[.bool neg, .int .u64 hi, .int .u64 lo, .int .i64 e, .bool more], .int .i64 n] w fun e w' => e = .returned (.tuple #[.int .u64 (((hi * W64 + lo) / 2 ^ n.toNat : Nat) : Int), .int .i64 (lostOf (hi * W64 + lo) n.toNat more : Nat)]) ∧ Below w.heap.size w w' := by
  by_cases g : n ≤ 128
  · have h := shifted_any' neg more hi lo e n w hh hl h0 g
    rw [show rightN hi lo n.toNat = (hi * W64 + lo) / 2 ^ n.toNat from Nat.mod_eq_of_lt hq] at h
    exact h
  · have hX : hi * W64 + lo < 2 ^ 128 := by
      have h1 : hi * W64 + lo < W64 * W64 := by
        have : hi * W64 + W64 ≤ W64 * W64 := by rw [← Nat.succ_mul]; exact Nat.mul_le_mul_right _ hh
        omega
      rw [show (2 : Nat) ^ 128 = W64 * W64 by rw [W64_pow, ← Nat.pow_add]]; exact h1
    obtain ⟨t, ht⟩ : ∃ t, n.toNat = t + 1 := ⟨n.toNat - 1, by omega⟩
    have hp : (2 : Nat) ^ 128 ≤ 2 ^ t := Nat.pow_le_pow_right (by omega) (by omega)
    have hp2 : (2 : Nat) ^ t ≤ 2 ^ (t + 1) := Nat.pow_le_pow_right (by omega) (by omega)
    have e1 : (hi * W64 + lo) / 2 ^ n.toNat = 0 := by rw [ht]; exact Nat.div_eq_of_lt (by omega)
    have e2 : lostOf (hi * W64 + lo) n.toNat more = 1 := by
      rw [ht]
      unfold lostOf
      rw [Nat.add_sub_cancel, Nat.mod_eq_of_lt (by omega), if_neg (by omega), if_pos (by omega)]
    rw [e1, e2]
    exact shifted_big neg more hi lo e n w (by omega)

theorem way_of (q lost : Nat) (d : Int) (hq : q < W64) (hl : lost ≤ 3) (d1 : -1 ≤ d) (d2 : d ≤ 1) :
    (0 < d ∧ 0 < (lost : Int) ∧ upward q lost d) ∨ (0 < d ∧ lost = 0 ∧ ¬ upward q lost d) ∨ (d < 0 ∧ ¬ upward q lost d) ∨ (d = 0 ∧ lost = 3 ∧ upward q lost d) ∨
    (d = 0 ∧ lost = 2 ∧ (Go.bits .and .u64 (q : Int) 1 == 1) = true ∧ upward q lost d) ∨ (d = 0 ∧ lost = 2 ∧ (Go.bits .and .u64 (q : Int) 1 == 1) = false ∧ ¬ upward q lost d) ∨
    (d = 0 ∧ ((lost : Int) == 3) = false ∧ ((lost : Int) == 2) = false ∧ ¬ upward q lost d) := by
  have hb : (Go.bits .and .u64 (q : Int) 1 == 1) = decide (q % 2 = 1) := by
    rw [and_one hq, Bool.eq_iff_iff]; simp only [beq_iff_eq, decide_eq_true_eq]; omega
  rw [hb]
  unfold upward
  simp only [decide_eq_true_eq, decide_eq_false_iff_not, beq_eq_false_iff_ne]
  omega

/-- Where the last digit is, and what is kept. -/
def cutAt (X : Nat) (e : Int) : Int := max ((blen X : Int) - 53) (-1074 - e)

theorem cutAt_spec {X : Nat} (h0 : X ≠ 0) (e : Int) (hs : 0 < cutAt X e) : X / 2 ^ (cutAt X e).toNat < 2 * BN ∧ ((e + cutAt X e + 1074).toNat = 0 ∨ BN ≤ X / 2 ^ (cutAt X e).toNat) := by
  have ⟨a, a1⟩ := blen_le h0
  have b := blen_lt X
  have h52 : BN = 2 ^ 52 := by rw [BN_eq]
  have h53 : 2 * BN = 2 ^ 53 := by rw [h52]
  obtain ⟨s, hs2⟩ : ∃ s : Nat, cutAt X e = s := ⟨(cutAt X e).toNat, by omega⟩
  have hdef : max ((blen X : Int) - 53) (-1074 - e) = s := by rw [← hs2]; rfl
  rw [hs2, Int.toNat_natCast]
  refine ⟨?_, ?_⟩
  · rw [h53, Nat.div_lt_iff_lt_mul (Nat.two_pow_pos _), ← Nat.pow_add]
    exact Nat.lt_of_lt_of_le b (Nat.pow_le_pow_right (by omega) (by omega))
  · by_cases g : (e + (s : Int) + 1074).toNat = 0
    · exact Or.inl g
    · right
      rw [h52, Nat.le_div_iff_mul_le (Nat.two_pow_pos _), ← Nat.pow_add]
      exact Nat.le_trans (Nat.pow_le_pow_right (by omega) (by omega)) a

/-- The rung of what is cut. -/
def roundR (X : Nat) (e d : Int) (more : Bool) : Nat :=
  if 0 < cutAt X e then rungOf (X / 2 ^ (cutAt X e).toNat) (e + cutAt X e + 1074).toNat (lostOf X (cutAt X e).toNat more) d
  else rungOf (X * 2 ^ (-cutAt X e).toNat) (e + cutAt X e + 1074).toNat 0 d

def sgnd (neg : Bool) (r : Nat) : Int := if neg = true then -(r : Int) else (r : Int)

theorem round_cut (neg more : Bool) (hi lo : Nat) (e d : Int) (w : World) (hh : hi < W64) (hl : lo < W64) (hx : hi * W64 + lo ≠ 0) (e1 : -3000 ≤ e) (e2 : e ≤ 3000) (d1 : -1 ≤ d) (d2 : d ≤ 1) (hs : 0 < cutAt (hi * W64 + lo) e) :
    Calls Try.prog 99 #[.agg #[.bool neg, .int .u64 hi, .int .u64 lo, .int .i64 e, .bool more], .int .i64 (if neg = true then -d else d)] w fun e' w' => e' = .returned (.float .f64 (wd (sgnd neg (roundR (hi * W64 + lo) e d more)))) ∧ Below w.heap.size w w' := by
  have hlen := fun w => len_any' neg more hi lo e w hh hl
  obtain ⟨c1, c2⟩ := cutAt_spec hx e hs
  have hB := BN_eq
  have hsh := fun w => shifted_all neg more hi lo e (cutAt (hi * W64 + lo) e) w hh hl hs hx (Nat.lt_of_lt_of_le c1 (by rw [W64_eq, hB]; decide))

  have hb128 : blen (hi * W64 + lo) ≤ 128 := by
    refine blen_of_lt ?_
    rw [show (2 : Nat) ^ 128 = W64 * W64 by rw [W64_pow, ← Nat.pow_add]]
    have : hi * W64 + W64 ≤ W64 * W64 := by rw [← Nat.succ_mul]; exact Nat.mul_le_mul_right _ hh
    omega
  have hmx : max ((blen (hi * W64 + lo) : Int) - 53) (-1074 - e) = cutAt (hi * W64 + lo) e := rfl
  have hRR : roundR (hi * W64 + lo) e d more = rungOf ((hi * W64 + lo) / 2 ^ (cutAt (hi * W64 + lo) e).toNat) (e + cutAt (hi * W64 + lo) e + 1074).toNat (lostOf (hi * W64 + lo) (cutAt (hi * W64 + lo) e).toNat more) d := by
    unfold roundR; rw [if_pos hs]
  have hLL : e + cutAt (hi * W64 + lo) e = (((e + cutAt (hi * W64 + lo) e + 1074).toNat : Nat) : Int) - 1074 := by omega
  have hL6 : (e + cutAt (hi * W64 + lo) e + 1074).toNat ≤ 6000 := by omega
  have hlost := lostOf_le (hi * W64 + lo) (cutAt (hi * W64 + lo) e).toNat more
  have hcu : cutAt (hi * W64 + lo) e ≤ 6000 := by omega
  have hz : ((hi : Int) == 0) = false ∨ (((hi : Int) == 0) = true ∧ ((lo : Int) == 0) = false) := by
    by_cases g : hi = 0
    · right; subst g; simp; omega
    · left; simp; omega
  rw [hRR, rungOf_made]
  generalize (hi * W64 + lo) / 2 ^ (cutAt (hi * W64 + lo) e).toNat = q at *
  generalize lostOf (hi * W64 + lo) (cutAt (hi * W64 + lo) e).toNat more = lost at *
  generalize blen (hi * W64 + lo) = n at *
  generalize cutAt (hi * W64 + lo) e = s at *
  generalize hLe : (e + s + 1074).toNat = L at *
  have hmade : ∀ w, Calls Try.prog 127 #[.agg #[.bool neg, .int .u64 hi, .int .u64 lo, .int .i64 e, .bool more], .int .u64 ((q + (if upward q lost d then 1 else 0) : Nat) : Int), .int .i64 (e + s), .int .i64 d] w fun e' w' => e' = .returned (.float .f64 (wd (sgnd neg (madeR (q + if upward q lost d then 1 else 0) L d)))) ∧ Below w.heap.size w w' := fun w => by
    rw [hLL]
    exact made_any neg more hi lo _ L e d w (by split <;> omega) (by rcases c2 with c2 | c2 <;> omega) hL6
  rcases way_of q lost d (by rw [W64_eq]; omega) hlost d1 d2 with ⟨g1, g2, u⟩ | ⟨g1, g2, u⟩ | ⟨g1, u⟩ | ⟨g1, g2, u⟩ | ⟨g1, g2, g3, u⟩ | ⟨g1, g2, g3, u⟩ | ⟨g1, g2, g3, u⟩
  · rw [if_pos u] at hmade ⊢
    generalize wd (sgnd neg (madeR (q + 1) L d)) = x at *
    rw [Int.natCast_add] at hmade
    cases neg
    · rcases hz with z | ⟨z, z2⟩
      · exact round_A_false_hi_up more hi lo e d s lost q x n w d1 d2 (by omega) (by omega) z g1 g2 (by omega) (by omega) (by omega) hmx hcu hlen (by omega) (by omega) hs hsh hmade
      · exact round_A_false_lo_up more hi lo e d s lost q x n w d1 d2 (by omega) (by omega) z z2 g1 g2 (by omega) (by omega) (by omega) hmx hcu hlen (by omega) (by omega) hs hsh hmade
    · rcases hz with z | ⟨z, z2⟩
      · exact round_A_true_hi_up more hi lo e d s lost q x n w d1 d2 (by omega) (by omega) z g1 g2 (by omega) (by omega) (by omega) hmx hcu hlen (by omega) (by omega) hs hsh hmade
      · exact round_A_true_lo_up more hi lo e d s lost q x n w d1 d2 (by omega) (by omega) z z2 g1 g2 (by omega) (by omega) (by omega) hmx hcu hlen (by omega) (by omega) hs hsh hmade
  · rw [if_neg u] at hmade ⊢
    subst g2
    generalize wd (sgnd neg (madeR (q + 0) L d)) = x at *
    rw [Nat.add_zero] at hmade
    cases neg
    · rcases hz with z | ⟨z, z2⟩
      · exact round_A_false_hi_upExact more hi lo e d s 0 q x n w d1 d2 (by omega) (by omega) z g1 (by omega) (by omega) (by omega) hmx hcu hlen (by omega) (by omega) hs hsh hmade
      · exact round_A_false_lo_upExact more hi lo e d s 0 q x n w d1 d2 (by omega) (by omega) z z2 g1 (by omega) (by omega) (by omega) hmx hcu hlen (by omega) (by omega) hs hsh hmade
    · rcases hz with z | ⟨z, z2⟩
      · exact round_A_true_hi_upExact more hi lo e d s 0 q x n w d1 d2 (by omega) (by omega) z g1 (by omega) (by omega) (by omega) hmx hcu hlen (by omega) (by omega) hs hsh hmade
      · exact round_A_true_lo_upExact more hi lo e d s 0 q x n w d1 d2 (by omega) (by omega) z z2 g1 (by omega) (by omega) (by omega) hmx hcu hlen (by omega) (by omega) hs hsh hmade
  · rw [if_neg u] at hmade ⊢
    generalize wd (sgnd neg (madeR (q + 0) L d)) = x at *
    rw [Nat.add_zero] at hmade
    cases neg
    · rcases hz with z | ⟨z, z2⟩
      · exact round_A_false_hi_down more hi lo e d s lost q x n w d1 d2 (by omega) (by omega) z g1 (by omega) (by omega) (by omega) hmx hcu hlen (by omega) (by omega) hs hsh hmade
      · exact round_A_false_lo_down more hi lo e d s lost q x n w d1 d2 (by omega) (by omega) z z2 g1 (by omega) (by omega) (by omega) hmx hcu hlen (by omega) (by omega) hs hsh hmade
    · rcases hz with z | ⟨z, z2⟩
      · exact round_A_true_hi_down more hi lo e d s lost q x n w d1 d2 (by omega) (by omega) z g1 (by omega) (by omega) (by omega) hmx hcu hlen (by omega) (by omega) hs hsh hmade
      · exact round_A_true_lo_down more hi lo e d s lost q x n w d1 d2 (by omega) (by omega) z z2 g1 (by omega) (by omega) (by omega) hmx hcu hlen (by omega) (by omega) hs hsh hmade
  · rw [if_pos u] at hmade ⊢
    subst g2
    subst g1
    generalize wd (sgnd neg (madeR (q + 1) L 0)) = x at *
    rw [Int.natCast_add] at hmade
    cases neg
    · rcases hz with z | ⟨z, z2⟩
      · exact round_A_false_hi_more more hi lo e 0 s 0 q x n w z  (by omega) (by omega) (by omega) hmx hcu hlen (by omega) (by omega) hs hsh hmade
      · exact round_A_false_lo_more more hi lo e 0 s 0 q x n w z z2  (by omega) (by omega) (by omega) hmx hcu hlen (by omega) (by omega) hs hsh hmade
    · rcases hz with z | ⟨z, z2⟩
      · exact round_A_true_hi_more more hi lo e 0 s 0 q x n w z  (by omega) (by omega) (by omega) hmx hcu hlen (by omega) (by omega) hs hsh hmade
      · exact round_A_true_lo_more more hi lo e 0 s 0 q x n w z z2  (by omega) (by omega) (by omega) hmx hcu hlen (by omega) (by omega) hs hsh hmade
  · rw [if_pos u] at hmade ⊢
    subst g2
    subst g1
    generalize wd (sgnd neg (madeR (q + 1) L 0)) = x at *
    rw [Int.natCast_add] at hmade
    cases neg
    · rcases hz with z | ⟨z, z2⟩
      · exact round_A_false_hi_odd more hi lo e 0 s 0 q x n w z g3 (by omega) (by omega) (by omega) hmx hcu hlen (by omega) (by omega) hs hsh hmade
      · exact round_A_false_lo_odd more hi lo e 0 s 0 q x n w z z2 g3 (by omega) (by omega) (by omega) hmx hcu hlen (by omega) (by omega) hs hsh hmade
    · rcases hz with z | ⟨z, z2⟩
      · exact round_A_true_hi_odd more hi lo e 0 s 0 q x n w z g3 (by omega) (by omega) (by omega) hmx hcu hlen (by omega) (by omega) hs hsh hmade
      · exact round_A_true_lo_odd more hi lo e 0 s 0 q x n w z z2 g3 (by omega) (by omega) (by omega) hmx hcu hlen (by omega) (by omega) hs hsh hmade
  · rw [if_neg u] at hmade ⊢
    subst g2
    subst g1
    generalize wd (sgnd neg (madeR (q + 0) L 0)) = x at *
    rw [Nat.add_zero] at hmade
    cases neg
    · rcases hz with z | ⟨z, z2⟩
      · exact round_A_false_hi_even more hi lo e 0 s 0 q x n w z g3 (by omega) (by omega) (by omega) hmx hcu hlen (by omega) (by omega) hs hsh hmade
      · exact round_A_false_lo_even more hi lo e 0 s 0 q x n w z z2 g3 (by omega) (by omega) (by omega) hmx hcu hlen (by omega) (by omega) hs hsh hmade
    · rcases hz with z | ⟨z, z2⟩
      · exact round_A_true_hi_even more hi lo e 0 s 0 q x n w z g3 (by omega) (by omega) (by omega) hmx hcu hlen (by omega) (by omega) hs hsh hmade
      · exact round_A_true_lo_even more hi lo e 0 s 0 q x n w z z2 g3 (by omega) (by omega) (by omega) hmx hcu hlen (by omega) (by omega) hs hsh hmade
  · rw [if_neg u] at hmade ⊢
    subst g1
    generalize wd (sgnd neg (madeR (q + 0) L 0)) = x at *
    rw [Nat.add_zero] at hmade
    cases neg
    · rcases hz with z | ⟨z, z2⟩
      · exact round_A_false_hi_less more hi lo e 0 s lost q x n w z g2 g3 (by omega) (by omega) (by omega) hmx hcu hlen (by omega) (by omega) hs hsh hmade
      · exact round_A_false_lo_less more hi lo e 0 s lost q x n w z z2 g2 g3 (by omega) (by omega) (by omega) hmx hcu hlen (by omega) (by omega) hs hsh hmade
    · rcases hz with z | ⟨z, z2⟩
      · exact round_A_true_hi_less more hi lo e 0 s lost q x n w z g2 g3 (by omega) (by omega) (by omega) hmx hcu hlen (by omega) (by omega) hs hsh hmade
      · exact round_A_true_lo_less more hi lo e 0 s lost q x n w z z2 g2 g3 (by omega) (by omega) (by omega) hmx hcu hlen (by omega) (by omega) hs hsh hmade

theorem round_fit (neg : Bool) (hi lo : Nat) (e d : Int) (w : World) (hh : hi < W64) (hl : lo < W64) (hx : hi * W64 + lo ≠ 0) (e1 : -3000 ≤ e) (e2 : e ≤ 3000) (d1 : -1 ≤ d) (d2 : d ≤ 1) (hs : ¬ 0 < cutAt (hi * W64 + lo) e) :
    Calls Try.prog 99 #[.agg #[.bool neg, .int .u64 hi, .int .u64 lo, .int .i64 e, .bool false], .int .i64 (if neg = true then -d else d)] w fun e' w' => e' = .returned (.float .f64 (wd (sgnd neg (roundR (hi * W64 + lo) e d false)))) ∧ Below w.heap.size w w' := by
  have hB := BN_eq
  have hb53 : blen (hi * W64 + lo) ≤ 53 := by unfold cutAt at hs; omega
  have hX := blen_lt (hi * W64 + lo)
  have hX2 : hi * W64 + lo < W64 := by
    rw [W64_pow]; exact Nat.lt_of_lt_of_le hX (Nat.pow_le_pow_right (by omega) (by omega))
  have hi0 : hi = 0 := by
    rcases Nat.eq_zero_or_pos hi with g | g
    · exact g
    · have : W64 ≤ hi * W64 := Nat.le_mul_of_pos_left _ g
      omega
  subst hi0
  rw [Nat.zero_mul, Nat.zero_add] at *
  have hlen := fun w => len_any' neg false 0 lo e w hh hl
  rw [Nat.zero_mul, Nat.zero_add] at hlen
  have hmx : max ((blen lo : Int) - 53) (-1074 - e) = cutAt lo e := rfl
  have ⟨a, a1⟩ := blen_le hx
  obtain ⟨t, ht⟩ : ∃ t : Nat, cutAt lo e = -(t : Int) := ⟨(-cutAt lo e).toNat, by omega⟩
  have hq1 : lo * 2 ^ t < 2 * BN := by
    have h1 : lo * 2 ^ t < 2 ^ blen lo * 2 ^ t := Nat.mul_lt_mul_of_pos_right hX (Nat.two_pow_pos t)
    rw [← Nat.pow_add] at h1
    have h2 : (2 : Nat) ^ (blen lo + t) ≤ 2 ^ 53 := Nat.pow_le_pow_right (by omega) (by omega)
    have h3 : (2 : Nat) ^ 53 = 2 * BN := by rw [hB]
    omega
  have hsh : IntKind.u64.wrap ((lo : Int) * 2 ^ (-cutAt lo e).toNat) = ((lo * 2 ^ t : Nat) : Int) := by
    rw [show (-cutAt lo e).toNat = t by omega, show (lo : Int) * 2 ^ t = ((lo * 2 ^ t : Nat) : Int) by simp, wrap_u64_nat, Nat.mod_eq_of_lt (Nat.lt_of_lt_of_le hq1 (by rw [W64_eq, hB]; decide))]
  have hnorm : (e + cutAt lo e + 1074).toNat = 0 ∨ BN ≤ lo * 2 ^ t := by
    by_cases g : (e + cutAt lo e + 1074).toNat = 0
    · exact Or.inl g
    · right
      have h1 : 2 ^ (blen lo - 1) * 2 ^ t ≤ lo * 2 ^ t := Nat.mul_le_mul_right _ a
      rw [← Nat.pow_add, show blen lo - 1 + t = 52 by omega] at h1
      have h3 : (2 : Nat) ^ 52 = BN := by rw [hB]
      omega
  have hRR : roundR lo e d false = rungOf (lo * 2 ^ t) (e + cutAt lo e + 1074).toNat 0 d := by
    unfold roundR; rw [if_neg hs, show (-cutAt lo e).toNat = t by omega]
  have hLL : e + cutAt lo e = (((e + cutAt lo e + 1074).toNat : Nat) : Int) - 1074 := by omega
  have hL6 : (e + cutAt lo e + 1074).toNat ≤ 6000 := by omega
  have hu : ¬ upward (lo * 2 ^ t) 0 d := by unfold upward; omega
  have hlow : -64 < cutAt lo e := by omega
  have hz2 : ((lo : Int) == 0) = false := by simp; omega
  have hcu : cutAt lo e ≤ 6000 := by omega
  rw [hRR, rungOf_made, if_neg hu, Nat.add_zero]
  generalize lo * 2 ^ t = q at *
  generalize blen lo = n at *
  generalize cutAt lo e = s at *
  generalize hLe : (e + s + 1074).toNat = L at *
  have hmade : ∀ w, Calls Try.prog 127 #[.agg #[.bool neg, .int .u64 0, .int .u64 lo, .int .i64 e, .bool false], .int .u64 (q : Int), .int .i64 (e + s), .int .i64 d] w fun e' w' => e' = .returned (.float .f64 (wd (sgnd neg (madeR q L d)))) ∧ Below w.heap.size w w' := fun w => by
    rw [hLL]
    exact made_any neg false 0 lo _ L e d w (by omega) hnorm hL6
  generalize wd (sgnd neg (madeR q L d)) = x at *
  rcases Int.lt_trichotomy d 0 with g | g | g
  · cases neg
    · exact round_B_false_lo_down 0 lo e d s 0 q x n w d1 d2 (by omega) (by omega) rfl hz2 g (by omega) (by omega) (by omega) hmx hcu hlen (by omega) (by omega) (by omega) hlow hsh hmade
    · exact round_B_true_lo_down 0 lo e d s 0 q x n w d1 d2 (by omega) (by omega) rfl hz2 g (by omega) (by omega) (by omega) hmx hcu hlen (by omega) (by omega) (by omega) hlow hsh hmade
  · subst g
    cases neg
    · exact round_B_false_lo_less 0 lo e 0 s 0 q x n w rfl hz2 (by omega) (by omega) (by omega) hmx hcu hlen (by omega) (by omega) (by omega) hlow hsh hmade
    · exact round_B_true_lo_less 0 lo e 0 s 0 q x n w rfl hz2 (by omega) (by omega) (by omega) hmx hcu hlen (by omega) (by omega) (by omega) hlow hsh hmade
  · cases neg
    · exact round_B_false_lo_upExact 0 lo e d s 0 q x n w d1 d2 (by omega) (by omega) rfl hz2 g (by omega) (by omega) (by omega) hmx hcu hlen (by omega) (by omega) (by omega) hlow hsh hmade
    · exact round_B_true_lo_upExact 0 lo e d s 0 q x n w d1 d2 (by omega) (by omega) rfl hz2 g (by omega) (by omega) (by omega) hmx hcu hlen (by omega) (by omega) (by omega) hlow hsh hmade

theorem round_any (neg more : Bool) (hi lo : Nat) (e d : Int) (w : World) (hh : hi < W64) (hl : lo < W64) (hx : hi * W64 + lo ≠ 0) (e1 : -3000 ≤ e) (e2 : e ≤ 3000) (d1 : -1 ≤ d) (d2 : d ≤ 1) (hm : more = true → 0 < cutAt (hi * W64 + lo) e) :
    Calls Try.prog 99 #[.agg #[.bool neg, .int .u64 hi, .int .u64 lo, .int .i64 e, .bool more], .int .i64 (if neg = true then -d else d)] w fun e' w' => e' = .returned (.float .f64 (wd (sgnd neg (roundR (hi * W64 + lo) e d more)))) ∧ Below w.heap.size w w' := by
  by_cases hs : 0 < cutAt (hi * W64 + lo) e
  · exact round_cut neg more hi lo e d w hh hl hx e1 e2 d1 d2 hs
  · have : more = false := by
      cases more
      · rfl
      · exact absurd (hm rfl) hs
    subst this
    exact round_fit neg hi lo e d w hh hl hx e1 e2 d1 d2 hs

theorem round_zero (neg : Bool) (e d : Int) (w : World) :
    Calls Try.prog 99 #[.agg #[.bool neg, .int .u64 0, .int .u64 0, .int .i64 e, .bool false], .int .i64 d] w fun e' w' => e' = .returned (.float .f64 0) ∧ Below w.heap.size w w' := by
  go_enter Try.func99, Try.ntmps99
  go_wp2
  go_ret
  exact ⟨rfl, (by repeat (first | (with_reducible assumption) | (with_reducible exact Below.refl _ _) | ((with_reducible refine Below.alloc ?_ ?_ _); rotate_left; exact (by first | omega | (simp; done) | (simp; omega))) | ((with_reducible refine Below.setCell ?_ ?_ _); rotate_left; exact (by first | omega | (simp; done) | (simp; omega))) | (with_reducible refine Below.drew ?_)))⟩

/-- The rung is what is rounded. -/
theorem roundR_rnd {le eq : Rat → Prop} (hc : Cut le eq) {X : Nat} {e d : Int} {more : Bool} (hx : X ≠ 0) (hle : ∀ j : Nat, le ((j : Rat) * p2 e) ↔ j ≤ X) (heq : ∀ j : Nat, eq ((j : Rat) * p2 e) ↔ j = X ∧ more = false)
    (hm : more = true → 0 < cutAt X e) : Rnd le eq d (roundR X e d more : Int) := by
  have hB := BN_eq
  unfold roundR
  by_cases hs : 0 < cutAt X e
  · rw [if_pos hs]
    obtain ⟨c1, c2⟩ := cutAt_spec hx e hs
    have hlow : -1074 - e ≤ cutAt X e := by unfold cutAt; omega
    exact rnd_val hc hle heq (by omega) (by omega) c1 c2
  · rw [if_neg hs]
    have hmf : more = false := by
      cases more
      · rfl
      · exact absurd (hm rfl) hs
    have ⟨a, a1⟩ := blen_le hx
    have hX := blen_lt X
    have hlow : -1074 - e ≤ cutAt X e := by unfold cutAt; omega
    have hlow2 : (blen X : Int) - 53 ≤ cutAt X e := by unfold cutAt; omega
    obtain ⟨t, ht⟩ : ∃ t : Nat, cutAt X e = -(t : Int) := ⟨(-cutAt X e).toNat, by omega⟩
    rw [show (-cutAt X e).toNat = t by omega]
    obtain ⟨L, hL⟩ : ∃ L : Nat, (e + cutAt X e + 1074).toNat = L := ⟨_, rfl⟩
    rw [hL]
    refine rnd_exact hc ?_ ?_ ?_
    · have h1 : X * 2 ^ t < 2 ^ blen X * 2 ^ t := Nat.mul_lt_mul_of_pos_right hX (Nat.two_pow_pos t)
      rw [← Nat.pow_add] at h1
      have h2 : (2 : Nat) ^ (blen X + t) ≤ 2 ^ 53 := Nat.pow_le_pow_right (by omega) (by omega)
      have h3 : (2 : Nat) ^ 53 = 2 * BN := by rw [hB]
      omega
    · by_cases g : L = 0
      · exact Or.inl g
      · right
        have hmx : cutAt X e = (blen X : Int) - 53 := by unfold cutAt at *; omega
        have h1 : 2 ^ (blen X - 1) * 2 ^ t ≤ X * 2 ^ t := Nat.mul_le_mul_right _ a
        rw [← Nat.pow_add, show blen X - 1 + t = 52 by omega] at h1
        have h3 : (2 : Nat) ^ 52 = BN := by rw [hB]
        omega
    · have h1 := p2_drop X t ((L : Int) - 1074)
      rw [show (L : Int) - 1074 + (t : Int) = e by omega] at h1
      rw [← h1]
      exact (heq X).2 ⟨rfl, hmf⟩

/-- With its sign. -/
theorem signed_rnd {y : Rat} {neg : Bool} {d : Int} {r : Nat} (h : Rnd (fun x => x ≤ y) (fun x => x = y) d (r : Int)) : Rnd (fun x => x ≤ rsign neg y) (fun x => x = rsign neg y) (if neg = true then -d else d) (sgnd neg r) := by
  unfold rsign sgnd
  cases neg
  · simpa using h
  · simpa using rnd_neg h

end Go.Proofs.Ytonidoghcihnnaa
