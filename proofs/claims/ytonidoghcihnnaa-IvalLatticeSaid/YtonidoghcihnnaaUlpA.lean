/- The walks of ulp's smaller functions. -/
import Derived.Test.YtonidoghcihnnaaNeg
import Derived.Test.YtonidoghcihnnaaBits
import Derived.Test.YtonidoghcihnnaaShelf
namespace Go.Proofs.Ytonidoghcihnnaa
open Go.RowKit
set_option maxRecDepth 100000
set_option maxHeartbeats 1000000
set_option linter.unusedSimpArgs false
set_option linter.unusedVariables false

/-- ulp.value's right. -/
theorem right_any' (neg more : Bool) (hi lo : Nat) (e : Int) (k : Nat) (w : World) (hh : hi < W64) (hl : lo < W64) :
    Calls Try.prog 138 #[.agg #[.bool neg, .int .u64 hi, .int .u64 lo, .int .i64 e, .bool more], .int .i64 k] w fun e w' => e = .returned (.int .u64 (rightN hi lo k : Nat)) ∧ Below w.heap.size w w' := by
  by_cases h1 : 128 ≤ k
  · rw [right_big0 hh hl h1]
    clear hh hl
    go_enter Try.func138, Try.ntmps138
    go_wp2
    go_ret
    exact ⟨rfl, (by repeat (first | (with_reducible assumption) | (with_reducible exact Below.refl _ _) | ((with_reducible refine Below.alloc ?_ ?_ _); rotate_left; exact (by first | omega | (simp; done) | (simp; omega))) | ((with_reducible refine Below.setCell ?_ ?_ _); rotate_left; exact (by first | omega | (simp; done) | (simp; omega))) | (with_reducible refine Below.drew ?_)))⟩
  · by_cases h2 : 64 ≤ k
    · obtain ⟨j, rfl⟩ : ∃ j, k = 64 + j := ⟨k - 64, by omega⟩
      rw [right_hi hh hl]
      have hj : (((64 + j : Nat) : Int) - 64).toNat = j := by omega
      have e1 : (((hi / 2 ^ j : Nat) : Int)) = ((hi : Int) / 2 ^ (((64 + j : Nat) : Int) - 64).toNat) := by rw [hj]; simp
      rw [e1]
      clear hh hl h2 e1 hj
      generalize hn : ((64 + j : Nat) : Int) = n at *
      have g1 : 64 ≤ n := by omega
      have g2 : n < 128 := by omega
      clear hn h1
      go_enter Try.func138, Try.ntmps138
      go_wp2
      go_ret
      exact ⟨rfl, (by repeat (first | (with_reducible assumption) | (with_reducible exact Below.refl _ _) | ((with_reducible refine Below.alloc ?_ ?_ _); rotate_left; exact (by first | omega | (simp; done) | (simp; omega))) | ((with_reducible refine Below.setCell ?_ ?_ _); rotate_left; exact (by first | omega | (simp; done) | (simp; omega))) | (with_reducible refine Below.drew ?_)))⟩
    · by_cases h3 : k = 0
      · subst h3
        rw [right_zero hl]
        clear hh hl h1 h2
        go_enter Try.func138, Try.ntmps138
        go_wp2
        go_ret
        exact ⟨rfl, (by repeat (first | (with_reducible assumption) | (with_reducible exact Below.refl _ _) | ((with_reducible refine Below.alloc ?_ ?_ _); rotate_left; exact (by first | omega | (simp; done) | (simp; omega))) | ((with_reducible refine Below.setCell ?_ ?_ _); rotate_left; exact (by first | omega | (simp; done) | (simp; omega))) | (with_reducible refine Below.drew ?_)))⟩
      · have hk : ((k : Int)).toNat = k := by omega
        have hk2 : (64 - (k : Int)).toNat = 64 - k := by omega
        have e1 := right_mid hh hl (Nat.pos_of_ne_zero h3) (Nat.lt_of_not_le h2)
        rw [← e1]
        have e2 : Go.bits .or .u64 ((lo : Int) / 2 ^ k) (IntKind.u64.wrap ((hi : Int) * 2 ^ (64 - k))) = Go.bits .or .u64 ((lo : Int) / 2 ^ ((k : Int)).toNat) (IntKind.u64.wrap ((hi : Int) * 2 ^ (64 - (k : Int)).toNat)) := by rw [hk, hk2]
        rw [e2]
        clear e1 e2 hk hk2 hh hl
        generalize hn : ((k : Nat) : Int) = n at *
        have g1 : 0 < n := by omega
        have g2 : n < 64 := by omega
        clear hn h1 h2 h3
        go_enter Try.func138, Try.ntmps138
        go_wp2
        go_region
        go_wp2
        go_ret
        exact ⟨rfl, (by repeat (first | (with_reducible assumption) | (with_reducible exact Below.refl _ _) | ((with_reducible refine Below.alloc ?_ ?_ _); rotate_left; exact (by first | omega | (simp; done) | (simp; omega))) | ((with_reducible refine Below.setCell ?_ ?_ _); rotate_left; exact (by first | omega | (simp; done) | (simp; omega))) | (with_reducible refine Below.drew ?_)))⟩

/-- ulp.value's even. -/
theorem even_any' (neg more : Bool) (hi lo : Nat) (e : Int) (k : Nat) (w : World) (hh : hi < W64) (hl : lo < W64) (hk0 : 0 < k) (hk : k ≤ 128) :
    Calls Try.prog 139 #[.agg #[.bool neg, .int .u64 hi, .int .u64 lo, .int .i64 e, .bool more], .int .i64 k] w fun e w' => e = .returned (.bool (decide ((hi * W64 + lo) % 2 ^ k = 0))) ∧ Below w.heap.size w w' := by
  by_cases h2 : 64 ≤ k
  · obtain ⟨j, rfl⟩ : ∃ j, k = 64 + j := ⟨k - 64, by omega⟩
    rw [even_high hh hl (by omega)]
    by_cases hz : lo = 0
    · subst hz
      simp only [decide_true, Bool.true_and]
      by_cases hj0 : j = 0
      · subst hj0
        have hw0 : (IntKind.u64.wrap ((hi : Int) * 2 ^ (64 - 0)) == 0) = true := by
          rw [wrap_u64]; simp only [beq_iff_eq]; omega
        rw [hw0]
        clear hw0 hh hl hk0 hk h2
        go_enter Try.func139, Try.ntmps139
        go_wp2
        go_ret
        exact ⟨rfl, (by repeat (first | (with_reducible assumption) | (with_reducible exact Below.refl _ _) | ((with_reducible refine Below.alloc ?_ ?_ _); rotate_left; exact (by first | omega | (simp; done) | (simp; omega))) | ((with_reducible refine Below.setCell ?_ ?_ _); rotate_left; exact (by first | omega | (simp; done) | (simp; omega))) | (with_reducible refine Below.drew ?_)))⟩
      · have e1 : 64 - j = (128 - ((64 + j : Nat) : Int)).toNat := by omega
        rw [e1]
        generalize hn : ((64 + j : Nat) : Int) = n at *
        have g1 : 64 < n := by omega
        have g2 : n ≤ 128 := by omega
        have g3 : (n == 64) = false := by simp; omega
        clear hn hh hl hk0 hk h2 e1 hj0
        go_enter Try.func139, Try.ntmps139
        go_wp2
        go_ret
        exact ⟨rfl, (by repeat (first | (with_reducible assumption) | (with_reducible exact Below.refl _ _) | ((with_reducible refine Below.alloc ?_ ?_ _); rotate_left; exact (by first | omega | (simp; done) | (simp; omega))) | ((with_reducible refine Below.setCell ?_ ?_ _); rotate_left; exact (by first | omega | (simp; done) | (simp; omega))) | (with_reducible refine Below.drew ?_)))⟩
    · have hz2 : ((lo : Int) == 0) = false := by simp; omega
      rw [decide_eq_false hz, Bool.false_and]
      generalize hn : ((64 + j : Nat) : Int) = n at *
      have g1 : 64 ≤ n := by omega
      clear hn hh hl hk0 hk h2 hz
      go_enter Try.func139, Try.ntmps139
      go_wp2
      go_ret
      exact ⟨rfl, (by repeat (first | (with_reducible assumption) | (with_reducible exact Below.refl _ _) | ((with_reducible refine Below.alloc ?_ ?_ _); rotate_left; exact (by first | omega | (simp; done) | (simp; omega))) | ((with_reducible refine Below.setCell ?_ ?_ _); rotate_left; exact (by first | omega | (simp; done) | (simp; omega))) | (with_reducible refine Below.drew ?_)))⟩
  · have e0 := even_low (hi := hi) hl (Nat.lt_of_not_le h2)
    rw [← e0]
    have e1 : 64 - k = (64 - (k : Int)).toNat := by omega
    rw [e1]
    generalize hn : ((k : Nat) : Int) = n at *
    have g1 : n < 64 := by omega
    have g2 : 0 < n := by omega
    clear hn hh hl hk0 hk h2 e1 e0
    go_enter Try.func139, Try.ntmps139
    go_wp2
    go_ret
    exact ⟨rfl, (by repeat (first | (with_reducible assumption) | (with_reducible exact Below.refl _ _) | ((with_reducible refine Below.alloc ?_ ?_ _); rotate_left; exact (by first | omega | (simp; done) | (simp; omega))) | ((with_reducible refine Below.setCell ?_ ?_ _); rotate_left; exact (by first | omega | (simp; done) | (simp; omega))) | (with_reducible refine Below.drew ?_)))⟩

/-- ulp.value's len. -/
theorem len_any' (neg more : Bool) (hi lo : Nat) (e : Int) (w : World) (hh : hi < W64) (hl : lo < W64) :
    Calls Try.prog 125 #[.agg #[.bool neg, .int .u64 hi, .int .u64 lo, .int .i64 e, .bool more]] w fun e w' => e = .returned (.int .i64 (blen (hi * W64 + lo) : Nat)) ∧ Below w.heap.size w w' := by
  rw [blen_two hl]
  by_cases h : hi = 0
  · rw [if_pos h]
    subst h
    have hb := bitLen_eq hl
    have hc := fun w => Try.bits_Len64 (lo : Int) w (by omega) (by rw [W64_eq] at hl; omega)
    rw [Int.toNat_natCast, hb] at hc
    clear hb hh hl
    go_enter Try.func125, Try.ntmps125
    go_wp2_with fail
    refine (hc _).mono ?_
    rintro e w1 ⟨rfl, rfl⟩
    clear hc
    go_wp2
    go_ret
    exact ⟨rfl, (by repeat (first | (with_reducible assumption) | (with_reducible exact Below.refl _ _) | ((with_reducible refine Below.alloc ?_ ?_ _); rotate_left; exact (by first | omega | (simp; done) | (simp; omega))) | ((with_reducible refine Below.setCell ?_ ?_ _); rotate_left; exact (by first | omega | (simp; done) | (simp; omega))) | (with_reducible refine Below.drew ?_)))⟩
  · rw [if_neg h]
    have hb := bitLen_eq hh
    have hc := fun w => Try.bits_Len64 (hi : Int) w (by omega) (by rw [W64_eq] at hh; omega)
    rw [Int.toNat_natCast, hb] at hc
    have hle : blen hi ≤ 64 := blen_of_lt hh
    have hpos : (0 : Int) < hi := by omega
    clear hb hh hl h
    rw [Int.natCast_add]
    go_enter Try.func125, Try.ntmps125
    go_wp2_with fail
    refine (hc _).mono ?_
    rintro e w1 ⟨rfl, rfl⟩
    clear hc
    go_wp2
    go_ret
    exact ⟨rfl, (by repeat (first | (with_reducible assumption) | (with_reducible exact Below.refl _ _) | ((with_reducible refine Below.alloc ?_ ?_ _); rotate_left; exact (by first | omega | (simp; done) | (simp; omega))) | ((with_reducible refine Below.setCell ?_ ?_ _); rotate_left; exact (by first | omega | (simp; done) | (simp; omega))) | (with_reducible refine Below.drew ?_)))⟩

/-- What shifted tells. -/
theorem and_one {x : Nat} (h : x < W64) : Go.bits .and .u64 (x : Int) 1 = ((x % 2 : Nat) : Int) := by
  rw [show (1 : Int) = ((1 : Nat) : Int) from rfl, Go.u64_and_nat _ _ (by rw [← W64_eq]; exact h) (by decide), Nat.and_one_is_mod]

theorem right_int (neg more : Bool) (hi lo : Nat) (e n : Int) (w : World) (hh : hi < W64) (hl : lo < W64) (h0 : 0 ≤ n) :
    Calls Try.prog 138 #[.agg #[.bool neg, .int .u64 hi, .int .u64 lo, .int .i64 e, .bool more], .int .i64 n] w fun e w' => e = .returned (.int .u64 (rightN hi lo n.toNat : Nat)) ∧ Below w.heap.size w w' := by
  have h := right_any' neg more hi lo e n.toNat w hh hl
  rw [Int.toNat_of_nonneg h0] at h
  exact h
theorem even_int (neg more : Bool) (hi lo : Nat) (e n : Int) (w : World) (hh : hi < W64) (hl : lo < W64) (h0 : 0 < n) (h1 : n ≤ 128) :
    Calls Try.prog 139 #[.agg #[.bool neg, .int .u64 hi, .int .u64 lo, .int .i64 e, .bool more], .int .i64 n] w fun e w' => e = .returned (.bool (decide ((hi * W64 + lo) % 2 ^ n.toNat = 0))) ∧ Below w.heap.size w w' := by
  have h := even_any' neg more hi lo e n.toNat w hh hl (by omega) (by omega)
  rw [Int.toNat_of_nonneg (by omega)] at h
  exact h

theorem lost_code (X t : Nat) (more : Bool) : lostOf X (t + 1) more = if X / 2 ^ t % 2 = 1 then (if (more || !decide (X % 2 ^ t = 0)) = true then 3 else 2) else (if (more || !decide (X % 2 ^ t = 0)) = true then 1 else 0) := by
  have hp := Nat.two_pow_pos t
  have h1 : X % 2 ^ (t + 1) = X % 2 ^ t + 2 ^ t * (X / 2 ^ t % 2) := by rw [Nat.pow_succ, Nat.mod_mul]
  have h2 := Nat.mod_lt X hp
  have h3 : X / 2 ^ t % 2 = 0 ∨ X / 2 ^ t % 2 = 1 := by omega
  unfold lostOf
  rw [h1, Nat.add_sub_cancel]
  generalize X % 2 ^ t = r at *
  generalize X / 2 ^ t % 2 = b at *
  generalize 2 ^ t = h at *
  clear h1
  rcases h3 with rfl | rfl
  · rw [Nat.mul_zero, Nat.add_zero, if_neg (show ¬(0 = 1) by omega)]
    cases more
    · by_cases g : r = 0
      · subst g; simp
      · simp only [g, false_and, if_false, h2, if_true, decide_false, Bool.not_false, Bool.or_true]
    · simp [h2]
  · rw [Nat.mul_one, if_pos rfl, if_neg (show ¬(r + h = 0 ∧ more = false) by omega), if_neg (show ¬(r + h < h) by omega)]
    cases more
    · by_cases g : r = 0
      · subst g; simp
      · rw [if_neg (by omega)]; simp [g]
    · simp

theorem right_bit {hi lo t : Nat} (h : t < 128) : rightN hi lo t % 2 = (hi * W64 + lo) / 2 ^ t % 2 := by
  unfold rightN
  rw [Nat.mod_mod_of_dvd _ (by rw [W64_eq]; decide)]

theorem shifted_ways (neg more : Bool) (hi lo : Nat) (e n : Int) (w : World) (hh : hi < W64) (hl : lo < W64) (h0 : 0 < n) (h1 : n ≤ 128)
    (bit ev : Bool) (hb : (Go.bits .and .u64 ((rightN hi lo (n.toNat - 1) : Nat) : Int) 1 == 1) = bit) (he : 2 ≤ n → decide ((hi * W64 + lo) % 2 ^ (n.toNat - 1) = 0) = ev) (he1 : n < 2 → ev = true) (r : Int)
    (hr : r = if bit = true then (if (more || !ev) = true then 3 else 2) else (if (more || !ev) = true then 1 else 0)) :
    Calls Try.prog 126 #[.agg #[.bool neg, .int .u64 hi, .int .u64 lo, .int .i64 e, .bool more], .int .i64 n] w fun e w' => e = .returned (.tuple #[.int .u64 (rightN hi lo n.toNat : Nat), .int .i64 r]) ∧ Below w.heap.size w w' := by
  have hR := fun w => right_int false false hi lo 0 n w hh hl (by omega)
  have hR1 := fun w => right_int false false hi lo 0 (n - 1) w hh hl (by omega)
  rw [show (n - 1).toNat = n.toNat - 1 by omega] at hR1
  have hz := Int.toNat_of_nonneg (show 0 ≤ n by omega)
  by_cases h2 : 2 ≤ n
  · have hE := fun w => even_int false false hi lo 0 (n - 1) w hh hl (by omega) (by omega)
    rw [show (n - 1).toNat = n.toNat - 1 by omega, he h2] at hE
    have hev := he h2
    clear he he1 hh hl hz
    cases bit <;> rcases Bool.eq_false_or_eq_true more with hm | hm <;> cases ev
    all_goals
      simp [hm] at hr
      subst hr
      go_enter Try.func126, Try.ntmps126
      go_wp2_with fail
      refine Calls.mono (hR _) ?_
      rintro e w1 ⟨rfl, hb1⟩
      have hw1 : Below w.heap.size w w1 := Below.trans (by repeat (first | (with_reducible assumption) | (with_reducible exact Below.refl _ _) | ((with_reducible refine Below.alloc ?_ ?_ _); rotate_left; exact (by first | omega | (simp; done) | (simp; omega))) | ((with_reducible refine Below.setCell ?_ ?_ _); rotate_left; exact (by first | omega | (simp; done) | (simp; omega))) | (with_reducible refine Below.drew ?_))) (hb1.mono (by first | omega | (simp; done) | (simp; omega)))
      have hs1 := hb1.size
      try simp at hs1
      have hl1_0 : w.heap.size < w1.heap.size := by omega
      have k1_0_0 := below_cell hb1 (p := ⟨w.heap.size, 0, none⟩) (v := .bool neg) (by first | assumption | (go_simp; done))
      have k1_0_0z := below_frozen hb1 (p := ⟨w.heap.size, 0, none⟩) (v := .bool neg) (by first | assumption | (go_simp; done)) (by first | assumption | (go_simp; done))
      have k1_0_1 := below_cell hb1 (p := ⟨w.heap.size, 1, none⟩) (v := .int .u64 hi) (by first | assumption | (go_simp; done))
      have k1_0_1z := below_frozen hb1 (p := ⟨w.heap.size, 1, none⟩) (v := .int .u64 hi) (by first | assumption | (go_simp; done)) (by first | assumption | (go_simp; done))
      have k1_0_2 := below_cell hb1 (p := ⟨w.heap.size, 2, none⟩) (v := .int .u64 lo) (by first | assumption | (go_simp; done))
      have k1_0_2z := below_frozen hb1 (p := ⟨w.heap.size, 2, none⟩) (v := .int .u64 lo) (by first | assumption | (go_simp; done)) (by first | assumption | (go_simp; done))
      have k1_0_3 := below_cell hb1 (p := ⟨w.heap.size, 3, none⟩) (v := .int .i64 e) (by first | assumption | (go_simp; done))
      have k1_0_3z := below_frozen hb1 (p := ⟨w.heap.size, 3, none⟩) (v := .int .i64 e) (by first | assumption | (go_simp; done)) (by first | assumption | (go_simp; done))
      have k1_0_4 := below_cell hb1 (p := ⟨w.heap.size, 4, none⟩) (v := .bool more) (by first | assumption | (go_simp; done))
      have k1_0_4z := below_frozen hb1 (p := ⟨w.heap.size, 4, none⟩) (v := .bool more) (by first | assumption | (go_simp; done)) (by first | assumption | (go_simp; done))
      have hl1_1 : w.heap.size + 1 < w1.heap.size := by omega
      have k1_1_0 := below_cell hb1 (p := ⟨w.heap.size + 1, 0, none⟩) (v := .bool false) (by first | assumption | (go_simp; done))
      have k1_1_0z := below_frozen hb1 (p := ⟨w.heap.size + 1, 0, none⟩) (v := .bool false) (by first | assumption | (go_simp; done)) (by first | assumption | (go_simp; done))
      have k1_1_1 := below_cell hb1 (p := ⟨w.heap.size + 1, 1, none⟩) (v := .int .u64 hi) (by first | assumption | (go_simp; done))
      have k1_1_1z := below_frozen hb1 (p := ⟨w.heap.size + 1, 1, none⟩) (v := .int .u64 hi) (by first | assumption | (go_simp; done)) (by first | assumption | (go_simp; done))
      have k1_1_2 := below_cell hb1 (p := ⟨w.heap.size + 1, 2, none⟩) (v := .int .u64 lo) (by first | assumption | (go_simp; done))
      have k1_1_2z := below_frozen hb1 (p := ⟨w.heap.size + 1, 2, none⟩) (v := .int .u64 lo) (by first | assumption | (go_simp; done)) (by first | assumption | (go_simp; done))
      have k1_1_3 := below_cell hb1 (p := ⟨w.heap.size + 1, 3, none⟩) (v := .int .i64 0) (by first | assumption | (go_simp; done))
      have k1_1_3z := below_frozen hb1 (p := ⟨w.heap.size + 1, 3, none⟩) (v := .int .i64 0) (by first | assumption | (go_simp; done)) (by first | assumption | (go_simp; done))
      have k1_1_4 := below_cell hb1 (p := ⟨w.heap.size + 1, 4, none⟩) (v := .bool false) (by first | assumption | (go_simp; done))
      have k1_1_4z := below_frozen hb1 (p := ⟨w.heap.size + 1, 4, none⟩) (v := .bool false) (by first | assumption | (go_simp; done)) (by first | assumption | (go_simp; done))
      go_wp2_with fail
      refine Calls.mono (hR1 _) ?_
      rintro e w2 ⟨rfl, hb2⟩
      have hw2 : Below w.heap.size w w2 := Below.trans (by repeat (first | (with_reducible assumption) | (with_reducible exact Below.refl _ _) | ((with_reducible refine Below.alloc ?_ ?_ _); rotate_left; exact (by first | omega | (simp; done) | (simp; omega))) | ((with_reducible refine Below.setCell ?_ ?_ _); rotate_left; exact (by first | omega | (simp; done) | (simp; omega))) | (with_reducible refine Below.drew ?_))) (hb2.mono (by first | omega | (simp; done) | (simp; omega)))
      have hs2 := hb2.size
      try simp at hs2
      have hl2_0 : w.heap.size < w2.heap.size := by omega
      have k2_0_0 := below_cell hb2 (p := ⟨w.heap.size, 0, none⟩) (v := .bool neg) (by first | assumption | (go_simp; done))
      have k2_0_0z := below_frozen hb2 (p := ⟨w.heap.size, 0, none⟩) (v := .bool neg) (by first | assumption | (go_simp; done)) (by first | assumption | (go_simp; done))
      have k2_0_1 := below_cell hb2 (p := ⟨w.heap.size, 1, none⟩) (v := .int .u64 hi) (by first | assumption | (go_simp; done))
      have k2_0_1z := below_frozen hb2 (p := ⟨w.heap.size, 1, none⟩) (v := .int .u64 hi) (by first | assumption | (go_simp; done)) (by first | assumption | (go_simp; done))
      have k2_0_2 := below_cell hb2 (p := ⟨w.heap.size, 2, none⟩) (v := .int .u64 lo) (by first | assumption | (go_simp; done))
      have k2_0_2z := below_frozen hb2 (p := ⟨w.heap.size, 2, none⟩) (v := .int .u64 lo) (by first | assumption | (go_simp; done)) (by first | assumption | (go_simp; done))
      have k2_0_3 := below_cell hb2 (p := ⟨w.heap.size, 3, none⟩) (v := .int .i64 e) (by first | assumption | (go_simp; done))
      have k2_0_3z := below_frozen hb2 (p := ⟨w.heap.size, 3, none⟩) (v := .int .i64 e) (by first | assumption | (go_simp; done)) (by first | assumption | (go_simp; done))
      have k2_0_4 := below_cell hb2 (p := ⟨w.heap.size, 4, none⟩) (v := .bool more) (by first | assumption | (go_simp; done))
      have k2_0_4z := below_frozen hb2 (p := ⟨w.heap.size, 4, none⟩) (v := .bool more) (by first | assumption | (go_simp; done)) (by first | assumption | (go_simp; done))
      have hl2_1 : w.heap.size + 1 < w2.heap.size := by omega
      have k2_1_0 := below_cell hb2 (p := ⟨w.heap.size + 1, 0, none⟩) (v := .bool false) (by first | assumption | (go_simp; done))
      have k2_1_0z := below_frozen hb2 (p := ⟨w.heap.size + 1, 0, none⟩) (v := .bool false) (by first | assumption | (go_simp; done)) (by first | assumption | (go_simp; done))
      have k2_1_1 := below_cell hb2 (p := ⟨w.heap.size + 1, 1, none⟩) (v := .int .u64 hi) (by first | assumption | (go_simp; done))
      have k2_1_1z := below_frozen hb2 (p := ⟨w.heap.size + 1, 1, none⟩) (v := .int .u64 hi) (by first | assumption | (go_simp; done)) (by first | assumption | (go_simp; done))
      have k2_1_2 := below_cell hb2 (p := ⟨w.heap.size + 1, 2, none⟩) (v := .int .u64 lo) (by first | assumption | (go_simp; done))
      have k2_1_2z := below_frozen hb2 (p := ⟨w.heap.size + 1, 2, none⟩) (v := .int .u64 lo) (by first | assumption | (go_simp; done)) (by first | assumption | (go_simp; done))
      have k2_1_3 := below_cell hb2 (p := ⟨w.heap.size + 1, 3, none⟩) (v := .int .i64 0) (by first | assumption | (go_simp; done))
      have k2_1_3z := below_frozen hb2 (p := ⟨w.heap.size + 1, 3, none⟩) (v := .int .i64 0) (by first | assumption | (go_simp; done)) (by first | assumption | (go_simp; done))
      have k2_1_4 := below_cell hb2 (p := ⟨w.heap.size + 1, 4, none⟩) (v := .bool false) (by first | assumption | (go_simp; done))
      have k2_1_4z := below_frozen hb2 (p := ⟨w.heap.size + 1, 4, none⟩) (v := .bool false) (by first | assumption | (go_simp; done)) (by first | assumption | (go_simp; done))
      try (go_wp2_with fail; refine Calls.mono (hE _) ?_; rintro e w3 ⟨rfl, hb3⟩; have hw3 : Below w.heap.size w w3 := Below.trans (by repeat (first | (with_reducible assumption) | (with_reducible exact Below.refl _ _) | ((with_reducible refine Below.alloc ?_ ?_ _); rotate_left; exact (by first | omega | (simp; done) | (simp; omega))) | ((with_reducible refine Below.setCell ?_ ?_ _); rotate_left; exact (by first | omega | (simp; done) | (simp; omega))) | (with_reducible refine Below.drew ?_))) (hb3.mono (by first | omega | (simp; done) | (simp; omega))))
      clear hR hR1 hE
      go_wp2
      go_ret2
      exact ⟨rfl, (by repeat (first | (with_reducible assumption) | (with_reducible exact Below.refl _ _) | ((with_reducible refine Below.alloc ?_ ?_ _); rotate_left; exact (by first | omega | (simp; done) | (simp; omega))) | ((with_reducible refine Below.setCell ?_ ?_ _); rotate_left; exact (by first | omega | (simp; done) | (simp; omega))) | (with_reducible refine Below.drew ?_)))⟩
  · have hev := he1 (by omega)
    subst hev
    clear he he1 hh hl hz
    cases bit <;> rcases Bool.eq_false_or_eq_true more with hm | hm
    all_goals
      simp [hm] at hr
      subst hr
      go_enter Try.func126, Try.ntmps126
      go_wp2_with fail
      refine Calls.mono (hR _) ?_
      rintro e w1 ⟨rfl, hb1⟩
      have hw1 : Below w.heap.size w w1 := Below.trans (by repeat (first | (with_reducible assumption) | (with_reducible exact Below.refl _ _) | ((with_reducible refine Below.alloc ?_ ?_ _); rotate_left; exact (by first | omega | (simp; done) | (simp; omega))) | ((with_reducible refine Below.setCell ?_ ?_ _); rotate_left; exact (by first | omega | (simp; done) | (simp; omega))) | (with_reducible refine Below.drew ?_))) (hb1.mono (by first | omega | (simp; done) | (simp; omega)))
      have hs1 := hb1.size
      try simp at hs1
      have hl1_0 : w.heap.size < w1.heap.size := by omega
      have k1_0_0 := below_cell hb1 (p := ⟨w.heap.size, 0, none⟩) (v := .bool neg) (by first | assumption | (go_simp; done))
      have k1_0_0z := below_frozen hb1 (p := ⟨w.heap.size, 0, none⟩) (v := .bool neg) (by first | assumption | (go_simp; done)) (by first | assumption | (go_simp; done))
      have k1_0_1 := below_cell hb1 (p := ⟨w.heap.size, 1, none⟩) (v := .int .u64 hi) (by first | assumption | (go_simp; done))
      have k1_0_1z := below_frozen hb1 (p := ⟨w.heap.size, 1, none⟩) (v := .int .u64 hi) (by first | assumption | (go_simp; done)) (by first | assumption | (go_simp; done))
      have k1_0_2 := below_cell hb1 (p := ⟨w.heap.size, 2, none⟩) (v := .int .u64 lo) (by first | assumption | (go_simp; done))
      have k1_0_2z := below_frozen hb1 (p := ⟨w.heap.size, 2, none⟩) (v := .int .u64 lo) (by first | assumption | (go_simp; done)) (by first | assumption | (go_simp; done))
      have k1_0_3 := below_cell hb1 (p := ⟨w.heap.size, 3, none⟩) (v := .int .i64 e) (by first | assumption | (go_simp; done))
      have k1_0_3z := below_frozen hb1 (p := ⟨w.heap.size, 3, none⟩) (v := .int .i64 e) (by first | assumption | (go_simp; done)) (by first | assumption | (go_simp; done))
      have k1_0_4 := below_cell hb1 (p := ⟨w.heap.size, 4, none⟩) (v := .bool more) (by first | assumption | (go_simp; done))
      have k1_0_4z := below_frozen hb1 (p := ⟨w.heap.size, 4, none⟩) (v := .bool more) (by first | assumption | (go_simp; done)) (by first | assumption | (go_simp; done))
      have hl1_1 : w.heap.size + 1 < w1.heap.size := by omega
      have k1_1_0 := below_cell hb1 (p := ⟨w.heap.size + 1, 0, none⟩) (v := .bool false) (by first | assumption | (go_simp; done))
      have k1_1_0z := below_frozen hb1 (p := ⟨w.heap.size + 1, 0, none⟩) (v := .bool false) (by first | assumption | (go_simp; done)) (by first | assumption | (go_simp; done))
      have k1_1_1 := below_cell hb1 (p := ⟨w.heap.size + 1, 1, none⟩) (v := .int .u64 hi) (by first | assumption | (go_simp; done))
      have k1_1_1z := below_frozen hb1 (p := ⟨w.heap.size + 1, 1, none⟩) (v := .int .u64 hi) (by first | assumption | (go_simp; done)) (by first | assumption | (go_simp; done))
      have k1_1_2 := below_cell hb1 (p := ⟨w.heap.size + 1, 2, none⟩) (v := .int .u64 lo) (by first | assumption | (go_simp; done))
      have k1_1_2z := below_frozen hb1 (p := ⟨w.heap.size + 1, 2, none⟩) (v := .int .u64 lo) (by first | assumption | (go_simp; done)) (by first | assumption | (go_simp; done))
      have k1_1_3 := below_cell hb1 (p := ⟨w.heap.size + 1, 3, none⟩) (v := .int .i64 0) (by first | assumption | (go_simp; done))
      have k1_1_3z := below_frozen hb1 (p := ⟨w.heap.size + 1, 3, none⟩) (v := .int .i64 0) (by first | assumption | (go_simp; done)) (by first | assumption | (go_simp; done))
      have k1_1_4 := below_cell hb1 (p := ⟨w.heap.size + 1, 4, none⟩) (v := .bool false) (by first | assumption | (go_simp; done))
      have k1_1_4z := below_frozen hb1 (p := ⟨w.heap.size + 1, 4, none⟩) (v := .bool false) (by first | assumption | (go_simp; done)) (by first | assumption | (go_simp; done))
      go_wp2_with fail
      refine Calls.mono (hR1 _) ?_
      rintro e w2 ⟨rfl, hb2⟩
      have hw2 : Below w.heap.size w w2 := Below.trans (by repeat (first | (with_reducible assumption) | (with_reducible exact Below.refl _ _) | ((with_reducible refine Below.alloc ?_ ?_ _); rotate_left; exact (by first | omega | (simp; done) | (simp; omega))) | ((with_reducible refine Below.setCell ?_ ?_ _); rotate_left; exact (by first | omega | (simp; done) | (simp; omega))) | (with_reducible refine Below.drew ?_))) (hb2.mono (by first | omega | (simp; done) | (simp; omega)))
      have hs2 := hb2.size
      try simp at hs2
      have hl2_0 : w.heap.size < w2.heap.size := by omega
      have k2_0_0 := below_cell hb2 (p := ⟨w.heap.size, 0, none⟩) (v := .bool neg) (by first | assumption | (go_simp; done))
      have k2_0_0z := below_frozen hb2 (p := ⟨w.heap.size, 0, none⟩) (v := .bool neg) (by first | assumption | (go_simp; done)) (by first | assumption | (go_simp; done))
      have k2_0_1 := below_cell hb2 (p := ⟨w.heap.size, 1, none⟩) (v := .int .u64 hi) (by first | assumption | (go_simp; done))
      have k2_0_1z := below_frozen hb2 (p := ⟨w.heap.size, 1, none⟩) (v := .int .u64 hi) (by first | assumption | (go_simp; done)) (by first | assumption | (go_simp; done))
      have k2_0_2 := below_cell hb2 (p := ⟨w.heap.size, 2, none⟩) (v := .int .u64 lo) (by first | assumption | (go_simp; done))
      have k2_0_2z := below_frozen hb2 (p := ⟨w.heap.size, 2, none⟩) (v := .int .u64 lo) (by first | assumption | (go_simp; done)) (by first | assumption | (go_simp; done))
      have k2_0_3 := below_cell hb2 (p := ⟨w.heap.size, 3, none⟩) (v := .int .i64 e) (by first | assumption | (go_simp; done))
      have k2_0_3z := below_frozen hb2 (p := ⟨w.heap.size, 3, none⟩) (v := .int .i64 e) (by first | assumption | (go_simp; done)) (by first | assumption | (go_simp; done))
      have k2_0_4 := below_cell hb2 (p := ⟨w.heap.size, 4, none⟩) (v := .bool more) (by first | assumption | (go_simp; done))
      have k2_0_4z := below_frozen hb2 (p := ⟨w.heap.size, 4, none⟩) (v := .bool more) (by first | assumption | (go_simp; done)) (by first | assumption | (go_simp; done))
      have hl2_1 : w.heap.size + 1 < w2.heap.size := by omega
      have k2_1_0 := below_cell hb2 (p := ⟨w.heap.size + 1, 0, none⟩) (v := .bool false) (by first | assumption | (go_simp; done))
      have k2_1_0z := below_frozen hb2 (p := ⟨w.heap.size + 1, 0, none⟩) (v := .bool false) (by first | assumption | (go_simp; done)) (by first | assumption | (go_simp; done))
      have k2_1_1 := below_cell hb2 (p := ⟨w.heap.size + 1, 1, none⟩) (v := .int .u64 hi) (by first | assumption | (go_simp; done))
      have k2_1_1z := below_frozen hb2 (p := ⟨w.heap.size + 1, 1, none⟩) (v := .int .u64 hi) (by first | assumption | (go_simp; done)) (by first | assumption | (go_simp; done))
      have k2_1_2 := below_cell hb2 (p := ⟨w.heap.size + 1, 2, none⟩) (v := .int .u64 lo) (by first | assumption | (go_simp; done))
      have k2_1_2z := below_frozen hb2 (p := ⟨w.heap.size + 1, 2, none⟩) (v := .int .u64 lo) (by first | assumption | (go_simp; done)) (by first | assumption | (go_simp; done))
      have k2_1_3 := below_cell hb2 (p := ⟨w.heap.size + 1, 3, none⟩) (v := .int .i64 0) (by first | assumption | (go_simp; done))
      have k2_1_3z := below_frozen hb2 (p := ⟨w.heap.size + 1, 3, none⟩) (v := .int .i64 0) (by first | assumption | (go_simp; done)) (by first | assumption | (go_simp; done))
      have k2_1_4 := below_cell hb2 (p := ⟨w.heap.size + 1, 4, none⟩) (v := .bool false) (by first | assumption | (go_simp; done))
      have k2_1_4z := below_frozen hb2 (p := ⟨w.heap.size + 1, 4, none⟩) (v := .bool false) (by first | assumption | (go_simp; done)) (by first | assumption | (go_simp; done))
      clear hR hR1
      go_wp2
      go_ret2
      exact ⟨rfl, (by repeat (first | (with_reducible assumption) | (with_reducible exact Below.refl _ _) | ((with_reducible refine Below.alloc ?_ ?_ _); rotate_left; exact (by first | omega | (simp; done) | (simp; omega))) | ((with_reducible refine Below.setCell ?_ ?_ _); rotate_left; exact (by first | omega | (simp; done) | (simp; omega))) | (with_reducible refine Below.drew ?_)))⟩

theorem shifted_any' (neg more : Bool) (hi lo : Nat) (e n : Int) (w : World) (hh : hi < W64) (hl : lo < W64) (h0 : 0 < n) (h1 : n ≤ 128) :
    Calls Try.prog 126 #[.agg #[.bool neg, .int .u64 hi, .int .u64 lo, .int .i64 e, .bool more], .int .i64 n] w fun e w' => e = .returned (.tuple #[.int .u64 (rightN hi lo n.toNat : Nat), .int .i64 (lostOf (hi * W64 + lo) n.toNat more : Nat)]) ∧ Below w.heap.size w w' := by
  obtain ⟨t, ht⟩ : ∃ t, n.toNat = t + 1 := ⟨n.toNat - 1, by omega⟩
  have hW : rightN hi lo (n.toNat - 1) < W64 := by unfold rightN; exact Nat.mod_lt _ (by rw [W64_eq]; decide)
  have hbit : (Go.bits .and .u64 ((rightN hi lo (n.toNat - 1) : Nat) : Int) 1 == 1) = decide ((hi * W64 + lo) / 2 ^ t % 2 = 1) := by
    rw [and_one hW, ht, Nat.add_sub_cancel, right_bit (by omega), Bool.eq_iff_iff]
    simp only [beq_iff_eq, decide_eq_true_eq]; omega
  refine shifted_ways neg more hi lo e n w hh hl h0 h1 _ (decide ((hi * W64 + lo) % 2 ^ t = 0)) hbit (fun _ => by rw [ht, Nat.add_sub_cancel]) (fun h => by
    obtain rfl : t = 0 := by omega
    rw [Nat.pow_zero, Nat.mod_one]; rfl) _ ?_
  rw [ht, lost_code]
  by_cases g : (hi * W64 + lo) / 2 ^ t % 2 = 1
  · rw [if_pos g, decide_eq_true g, if_pos rfl]
    split <;> rfl
  · rw [if_neg g, decide_eq_false g]
    simp only [Bool.false_eq_true, if_false]
    split <;> rfl

end Go.Proofs.Ytonidoghcihnnaa
