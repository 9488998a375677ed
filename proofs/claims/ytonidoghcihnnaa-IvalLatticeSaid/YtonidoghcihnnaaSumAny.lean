/- ulp.sum, whole: what it is made of is worth the sum. -/
import Derived.Test.YtonidoghcihnnaaSum
import Derived.Test.YtonidoghcihnnaaSumLaw
namespace Go.Proofs.Ytonidoghcihnnaa
open Go.RowKit
set_option maxRecDepth 100000
set_option maxHeartbeats 1000000
set_option linter.unusedSimpArgs false
set_option linter.unusedVariables false

theorem add_c0 (x y : Nat) (w : World) (s c : Nat) (hs : (x + y) % W64 = s) (hc : (x + y) / W64 = c) :
    (callFunc 123 #[.int .u64 x, .int .u64 y, .int .u64 0]).run Try.prog w = .ok (.value (.tuple #[.int .u64 s, .int .u64 c])) w := run_add x y w s c hs hc
theorem add_0 (y : Nat) (w : World) (hy : y < W64) :
    (callFunc 123 #[.int .u64 0, .int .u64 y, .int .u64 0]).run Try.prog w = .ok (.value (.tuple #[.int .u64 y, .int .u64 (0 : Nat)])) w :=
  run_add 0 y w y 0 (by rw [Nat.zero_add]; exact Nat.mod_eq_of_lt hy) (by rw [Nat.zero_add]; exact Nat.div_eq_of_lt hy)
theorem sub_c (x y : Nat) (w : World) (s c : Nat) (hs : (x + W64 - y) % W64 = s) (hc : (if x < y then 1 else 0) = c) :
    (callFunc 124 #[.int .u64 x, .int .u64 y, .int .u64 0]).run Try.prog w = .ok (.value (.tuple #[.int .u64 s, .int .u64 c])) w := run_sub x y 0 w s c (by omega) (by rw [← hs]; rfl) (by rw [← hc]; rfl)
theorem sub_b (x b : Nat) (w : World) (s c : Nat) (hb : b ≤ 1) (hs : (x + W64 - b) % W64 = s) (hc : (if x < b then 1 else 0) = c) :
    (callFunc 124 #[.int .u64 x, .int .u64 0, .int .u64 b]).run Try.prog w = .ok (.value (.tuple #[.int .u64 s, .int .u64 c])) w := run_sub x 0 b w s c hb (by rw [← hs]; rfl) (by rw [← hc, Nat.zero_add])
theorem sub_0b (y b : Nat) (w : World) (s c : Nat) (hb : b ≤ 1) (hs : (0 + W64 - y - b) % W64 = s) (hc : (if 0 < y + b then 1 else 0) = c) :
    (callFunc 124 #[.int .u64 0, .int .u64 y, .int .u64 b]).run Try.prog w = .ok (.value (.tuple #[.int .u64 s, .int .u64 c])) w := run_sub 0 y b w s c hb hs hc
theorem sub_00 (y : Nat) (w : World) (s c : Nat) (hs : (0 + W64 - y) % W64 = s) (hc : (if 0 < y then 1 else 0) = c) :
    (callFunc 124 #[.int .u64 0, .int .u64 y, .int .u64 0]).run Try.prog w = .ok (.value (.tuple #[.int .u64 s, .int .u64 c])) w := run_sub 0 y 0 w s c (by omega) (by rw [← hs]; rfl) (by rw [← hc]; rfl)

/-- What ulp.sum hands back is worth the sum of both. -/
def SumIs (np nq : Bool) (Mp Mq : Nat) (Ep Eq : Int) : Prop :=
  ∃ (neg more : Bool) (hi lo : Nat) (e : Int) (t : Rat), hi < W64 ∧ lo < W64 ∧ -1144 ≤ e ∧ e ≤ 971 ∧ 0 ≤ t ∧ t < p2 e ∧ (t = 0 ↔ more = false) ∧
    rsign np ((Mp : Rat) * p2 Ep) + rsign nq ((Mq : Rat) * p2 Eq) = rsign neg (((hi * W64 + lo : Nat) : Rat) * p2 e + t) ∧ (more = true → 2 ^ 53 ≤ hi * W64 + lo) ∧
    ∀ w, Calls Try.prog 98 #[.agg #[.bool np, .int .u64 (Mp : Int), .int .i64 Ep], .agg #[.bool nq, .int .u64 (Mq : Int), .int .i64 Eq]] w fun e' w' => e' = .returned (.agg #[.bool neg, .int .u64 (hi : Int), .int .u64 (lo : Int), .int .i64 e, .bool more]) ∧ Below w.heap.size w w'

theorem sumIs_of {np nq : Bool} {Mp Mq : Nat} {Ep Eq : Int} (up E : Nat) (hE : Eq = Ep - up - E) (hu : -1144 ≤ Ep - up) (hu2 : Ep ≤ 971) (hmore : Mq % 2 ^ E ≠ 0 → Mq / 2 ^ E < Mp * 2 ^ up)
    (neg more : Bool) (hi lo : Nat) (hh : hi < W64) (hl : lo < W64) (hx : sumX np nq (Mp * 2 ^ up) (Mq / 2 ^ E) (decide (Mq % 2 ^ E ≠ 0)) = (neg, hi * W64 + lo)) (hm : decide (Mq % 2 ^ E ≠ 0) = more) (hb : more = true → 2 ^ 53 ≤ hi * W64 + lo)
    (hc : ∀ w, Calls Try.prog 98 #[.agg #[.bool np, .int .u64 (Mp : Int), .int .i64 Ep], .agg #[.bool nq, .int .u64 (Mq : Int), .int .i64 Eq]] w fun e' w' => e' = .returned (.agg #[.bool neg, .int .u64 (hi : Int), .int .u64 (lo : Int), .int .i64 (Ep - up), .bool more]) ∧ Below w.heap.size w w') :
    SumIs np nq Mp Mq Ep Eq := by
  obtain ⟨t, h0, h1, h2, h3⟩ := sum_val np nq Mp Mq up E Ep Eq hE hmore
  rw [hx] at h3
  rw [hm] at h2
  exact ⟨neg, more, hi, lo, Ep - up, t, hh, hl, hu, by omega, h0, h1, h2, h3, hb, hc⟩

section
variable (np nq : Bool) (Mp Mq : Nat) (Ep Eq : Int) (hMp : Mp < 2 * BN) (hMq : Mq < 2 * BN) (e1 : -1074 ≤ Ep) (e2 : Ep ≤ 971) (f1 : -1074 ≤ Eq) (f2 : Eq ≤ 971) (h0 : Mp ≠ 0) (g0 : Mq ≠ 0)
include hMp hMq e1 e2 f1 f2 h0 g0

theorem sum_near (d : Nat) (hd : Ep - Eq = d) (hd2 : d < 64) : SumIs np nq Mp Mq Ep Eq := by
  have hB := BN_eq; have hW := W64_eq
  have hp : ((Mp : Int) == 0) = false := by simp; omega
  have hq : ((Mq : Int) == 0) = false := by simp; omega
  have hpow : 2 ^ (64 - d) * 2 ^ d = W64 := by rw [← Nat.pow_add, W64_pow]; congr 1; omega
  have hdiv : Mp * 2 ^ d / W64 = Mp / 2 ^ (64 - d) := by rw [← hpow]; exact Nat.mul_div_mul_right _ _ (Nat.two_pow_pos d)
  have hA := Nat.div_add_mod (Mp * 2 ^ d) W64
  rw [hdiv] at hA
  have x1 : (Mp : Int) / 2 ^ (64 - (d : Int)).toNat = ((Mp / 2 ^ (64 - d) : Nat) : Int) := by
    rw [show (64 - (d : Int)).toNat = 64 - d by omega]; simp
  have x2 : IntKind.u64.wrap ((Mp : Int) * 2 ^ ((d : Int)).toNat) = ((Mp * 2 ^ d % W64 : Nat) : Int) := by
    rw [show ((d : Int)).toNat = d by omega, ← wrap_u64_nat]; simp
  have hlo := Nat.mod_lt (Mp * 2 ^ d) (show 0 < W64 by omega)
  have hhi : Mp / 2 ^ (64 - d) ≤ Mp := Nat.div_le_self _ _
  have hM1 : Mq % 2 ^ 0 = 0 := by omega
  have hM2 : Mq / 2 ^ 0 = Mq := by omega
  have hdm : decide (Mq % 2 ^ 0 ≠ 0) = false := by rw [hM1]; rfl
  generalize hA0 : Mp * 2 ^ d = A at *
  generalize hh0 : Mp / 2 ^ (64 - d) = hi at *
  generalize hl0 : A % 18446744073709551616 = lo at *
  simp only [W64_eq] at hA hlo hl0 x2
  rw [hl0] at x2
  clear hW hpow hdiv
  have hE : Eq = Ep - (d : Nat) - (0 : Nat) := by omega
  have hmn : min (d : Int) 70 = d := by omega
  by_cases hs : np = nq
  · subst hs
    refine sumIs_of d 0 hE (by omega) e2 (fun h => absurd hM1 h) np false (hi + (lo + Mq) / 18446744073709551616) ((lo + Mq) % 18446744073709551616) (by rw [W64_eq]; omega) (by rw [W64_eq]; omega) ?_ hdm (fun h => by cases h) ?_
    · rw [hdm, hM2, hA0]; unfold sumX; rw [if_pos rfl, W64_eq]; congr 1; omega
    · intro w
      exact sum_near_same np Mp Mq hi lo 0 0 0 ((lo + Mq) % 18446744073709551616) ((lo + Mq) / 18446744073709551616) (hi + (lo + Mq) / 18446744073709551616) 0 0 0 0 Ep Eq d 0 w hp hq e1 e2 f1 f2 hd (by omega) (by omega) hmn x1 x2 (fun w => add_c0 _ _ w _ _ rfl rfl) (by rw [wrap_u64]; omega)
  · have hne : (np == nq) = false := by simpa using hs
    by_cases hle : Mq ≤ A
    · refine sumIs_of d 0 hE (by omega) e2 (fun h => absurd hM1 h) np false (hi - (if lo < Mq then 1 else 0)) ((lo + 18446744073709551616 - Mq) % 18446744073709551616) (by rw [W64_eq]; omega) (by rw [W64_eq]; omega) ?_ hdm (fun h => by cases h) ?_
      · rw [hdm, hM2, hA0]; unfold sumX; rw [if_neg hs, if_neg (by decide), if_pos hle, W64_eq]; congr 1; split <;> omega
      · intro w
        refine sum_near_diff np nq Mp Mq hi lo 0 0 0 ((lo + 18446744073709551616 - Mq) % 18446744073709551616) (if lo < Mq then 1 else 0) (hi - (if lo < Mq then 1 else 0)) 0 0 0 0 Ep Eq d 0 w hp hq e1 e2 f1 f2 hd (by omega) (by omega) hmn x1 x2 hne (fun w => sub_c _ _ w _ _ rfl rfl) (fun w => sub_b _ _ w _ 0 (by split <;> omega) (by rw [W64_eq]; split <;> omega) (by split <;> (split <;> omega)))
    · have hhz : hi = 0 := by
        rcases Nat.eq_zero_or_pos hi with h | h
        · exact h
        · have : 18446744073709551616 * 1 ≤ 18446744073709551616 * hi := Nat.mul_le_mul_left _ h
          omega
      refine sumIs_of d 0 hE (by omega) e2 (fun h => absurd hM1 h) nq false 0 (Mq - lo) (by rw [W64_eq]; omega) (by rw [W64_eq]; omega) ?_ hdm (fun h => by cases h) ?_
      · rw [hdm, hM2, hA0]; unfold sumX; rw [if_neg hs, if_neg (by decide), if_neg hle, W64_eq]; congr 1; rw [hhz] at hA; omega
      · intro w
        have hnq : nq = !np := by cases np <;> cases nq <;> simp_all
        rw [hnq]
        rw [hnq] at hne
        subst hhz
        exact sum_near_turn np (!np) Mp Mq 0 lo 0 0 0 (lo + 18446744073709551616 - Mq) 1 (18446744073709551615) (Mq - lo) 1 0 1 Ep Eq d 0 w hp hq e1 e2 f1 f2 hd (by omega) (by omega) hmn x1 x2 hne (fun w => sub_c _ _ w _ _ (by rw [W64_eq]; omega) (by rw [if_pos (by omega)]))
          (fun w => sub_b 0 1 w (18446744073709551615) 1 (by omega) (by rw [W64_eq]) rfl) (fun w => sub_00 _ w _ _ (by rw [W64_eq]; omega) (by rw [if_pos (by omega)])) (fun w => sub_0b _ 1 w _ _ (by omega) (by rw [W64_eq]) (by rw [if_pos (by omega)]))

theorem sum_mid (d : Nat) (hd : Ep - Eq = d) (hd1 : 64 ≤ d) (hd2 : d ≤ 70) : SumIs np nq Mp Mq Ep Eq := by
  have hB := BN_eq
  have hp : ((Mp : Int) == 0) = false := by simp; omega
  have hq : ((Mq : Int) == 0) = false := by simp; omega
  obtain ⟨j, rfl⟩ : ∃ j, d = 64 + j := ⟨d - 64, by omega⟩
  have hj : 2 ^ j ≤ 2 ^ 6 := Nat.pow_le_pow_right (by omega) (by omega)
  have hj0 := Nat.two_pow_pos j
  have hA : Mp * 2 ^ (64 + j) = Mp * 2 ^ j * 18446744073709551616 := by rw [Nat.pow_add, Nat.mul_comm (2 ^ 64), ← Nat.mul_assoc]
  have hhi : Mp * 2 ^ j ≤ Mp * 2 ^ 6 := Nat.mul_le_mul_left _ hj
  have hhi0 : 1 ≤ Mp * 2 ^ j := Nat.mul_pos (Nat.pos_of_ne_zero h0) hj0
  have x1 : IntKind.u64.wrap ((Mp : Int) * 2 ^ (((64 + j : Nat) : Int) - 64).toNat) = ((Mp * 2 ^ j : Nat) : Int) := by
    rw [show (((64 + j : Nat) : Int) - 64).toNat = j by omega]
    have : (Mp : Int) * 2 ^ j = ((Mp * 2 ^ j : Nat) : Int) := by simp
    rw [this, wrap_u64]; omega
  have hM1 : Mq % 2 ^ 0 = 0 := by omega
  have hM2 : Mq / 2 ^ 0 = Mq := by omega
  have hdm : decide (Mq % 2 ^ 0 ≠ 0) = false := by rw [hM1]; rfl
  generalize Mp * 2 ^ j = hi at *
  have hE : Eq = Ep - ((64 + j : Nat) : Int) - (0 : Nat) := by omega
  have hmn : min ((64 + j : Nat) : Int) 70 = ((64 + j : Nat) : Int) := by omega
  by_cases hs : np = nq
  · subst hs
    refine sumIs_of (64 + j) 0 hE (by omega) e2 (fun h => absurd hM1 h) np false hi Mq (by rw [W64_eq]; omega) (by rw [W64_eq]; omega) ?_ hdm (fun h => by cases h) ?_
    · rw [hdm, hM2, hA]; unfold sumX; rw [if_pos rfl, W64_eq]
    · intro w
      exact sum_mid_same np Mp Mq hi 0 0 0 0 Mq 0 hi 0 0 0 0 Ep Eq _ 0 w hp hq e1 e2 f1 f2 hd (by omega) (by omega) hmn x1 (fun w => add_0 _ w (by rw [W64_eq]; omega)) (by rw [wrap_u64]; omega)
  · have hne : (np == nq) = false := by simpa using hs
    refine sumIs_of (64 + j) 0 hE (by omega) e2 (fun h => absurd hM1 h) np false (hi - 1) (18446744073709551616 - Mq) (by rw [W64_eq]; omega) (by rw [W64_eq]; omega) ?_ hdm (fun h => by cases h) ?_
    · rw [hdm, hM2, hA]; unfold sumX; rw [if_neg hs, if_neg (by decide), if_pos (by omega), W64_eq]; congr 1; omega
    · intro w
      exact sum_mid_diff np nq Mp Mq hi 0 0 0 0 (18446744073709551616 - Mq) 1 (hi - 1) 0 0 0 0 Ep Eq _ 0 w hp hq e1 e2 f1 f2 hd (by omega) (by omega) hmn x1 hne (fun w => sub_00 _ w _ _ (by rw [W64_eq]; omega) (by rw [if_pos (by omega)])) (fun w => sub_b _ 1 w _ 0 (by omega) (by rw [W64_eq]; omega) (by rw [if_neg (by omega)]))

theorem sum_far (d : Nat) (hd : Ep - Eq = d) (hd2 : 70 < d) : SumIs np nq Mp Mq Ep Eq := by
  have hB := BN_eq
  have hp : ((Mp : Int) == 0) = false := by simp; omega
  have hq : ((Mq : Int) == 0) = false := by simp; omega
  obtain ⟨E, rfl⟩ : ∃ E, d = 70 + E := ⟨d - 70, by omega⟩
  have hA : Mp * 2 ^ 70 = Mp * 64 * 18446744073709551616 := by omega
  have x1 : IntKind.u64.wrap ((Mp : Int) * 64) = ((Mp * 64 : Nat) : Int) := by rw [wrap_u64]; omega
  have hE : Eq = Ep - ((70 : Nat) : Int) - (E : Nat) := by omega
  have hmn : min ((70 + E : Nat) : Int) 70 = 70 := by omega
  have hpE := Nat.two_pow_pos E
  have hmle : Mq / 2 ^ E ≤ Mq := Nat.div_le_self _ _
  have hdm := Nat.div_add_mod Mq (2 ^ E)
  have hbig : Mq / 2 ^ E < Mp * 2 ^ 70 := by omega
  obtain ⟨S, hS⟩ : ∃ S, S = min E 63 := ⟨_, rfl⟩
  have hS2 : min (((70 + E : Nat) : Int) - 70) 63 = (S : Int) := by omega
  have hmS : Mq / 2 ^ S = Mq / 2 ^ E := by
    by_cases h : E ≤ 63
    · rw [show S = E by omega]
    · have h53 : 2 * BN = 2 ^ 53 := by rw [hB]
      have a1 : 2 ^ 53 ≤ 2 ^ S := Nat.pow_le_pow_right (by omega) (by omega)
      have a2 : 2 ^ 53 ≤ 2 ^ E := Nat.pow_le_pow_right (by omega) (by omega)
      rw [Nat.div_eq_of_lt (by omega), Nat.div_eq_of_lt (by omega)]
  have x3 : (Mq : Int) / 2 ^ ((S : Nat) : Int).toNat = ((Mq / 2 ^ E : Nat) : Int) := by
    rw [← hmS, show ((S : Nat) : Int).toNat = S by omega]; simp
  have hmz : Mq / 2 ^ E * 2 ^ S ≤ Mq := by rw [← hmS]; exact Nat.div_mul_le_self _ _
  have x4 : IntKind.u64.wrap (((Mq / 2 ^ E : Nat) : Int) * 2 ^ ((S : Nat) : Int).toNat) = ((Mq / 2 ^ E * 2 ^ S : Nat) : Int) := by
    rw [show ((S : Nat) : Int).toNat = S by omega]
    have : ((Mq / 2 ^ E : Nat) : Int) * 2 ^ S = ((Mq / 2 ^ E * 2 ^ S : Nat) : Int) := by simp
    rw [this, wrap_u64]; omega
  by_cases hmore : Mq % 2 ^ E = 0
  · have hE63 : E ≤ 63 := by
      rcases Nat.lt_or_ge 63 E with h | h
      · exfalso
        have h53 : 2 * BN = 2 ^ 53 := by rw [hB]
        have a2 : 2 ^ 53 ≤ 2 ^ E := Nat.pow_le_pow_right (by omega) (by omega)
        rw [Nat.mod_eq_of_lt (by omega)] at hmore
        omega
      · exact h
    have hSE : S = E := by omega
    have hz : Mq / 2 ^ E * 2 ^ S = Mq := by rw [hSE, Nat.mul_comm]; omega
    have x5 : ((Mq : Int) != ((Mq / 2 ^ E * 2 ^ S : Nat) : Int)) = false := by rw [hz]; simp
    have hdf : decide (Mq % 2 ^ E ≠ 0) = false := by rw [hmore]; rfl
    have hm0 : Mq / 2 ^ E ≠ 0 := fun h => by rw [h] at hz; omega
    clear hdm hz
    generalize Mq / 2 ^ E * 2 ^ S = z at *
    generalize hmg : Mq / 2 ^ E = m at *
    by_cases hs : np = nq
    · subst hs
      refine sumIs_of 70 E hE (by omega) e2 (fun h => absurd hmore h) np false (Mp * 64) m (by rw [W64_eq]; omega) (by rw [W64_eq]; omega) ?_ hdf (fun h => by cases h) ?_
      · rw [hdf, hmg, hA]; unfold sumX; rw [if_pos rfl, W64_eq]
      · intro w
        exact sum_fit_same np Mp Mq (Mp * 64) 0 m 0 z m 0 (Mp * 64) 0 0 0 0 Ep Eq _ S w hp hq e1 e2 f1 f2 hd (by omega) (by omega) hmn x1 hS2 (by omega) (by omega) x3 x4 x5 (by omega) (fun w => add_0 _ w (by rw [W64_eq]; omega)) (by rw [wrap_u64]; omega)
    · have hne : (np == nq) = false := by simpa using hs
      refine sumIs_of 70 E hE (by omega) e2 (fun h => absurd hmore h) np false (Mp * 64 - 1) (18446744073709551616 - m) (by rw [W64_eq]; omega) (by rw [W64_eq]; omega) ?_ hdf (fun h => by cases h) ?_
      · rw [hdf, hmg, hA]; unfold sumX; rw [if_neg hs, if_neg (by decide), if_pos (by omega), W64_eq]; congr 1; omega
      · intro w
        exact sum_fit_diff np nq Mp Mq (Mp * 64) 0 m 0 z (18446744073709551616 - m) 1 (Mp * 64 - 1) 0 0 0 0 Ep Eq _ S w hp hq e1 e2 f1 f2 hd (by omega) (by omega) hmn x1 hS2 (by omega) (by omega) x3 x4 x5 (by omega) hne (fun w => sub_00 _ w _ _ (by rw [W64_eq]; omega) (by rw [if_pos (by omega)])) (fun w => sub_b _ 1 w _ 0 (by omega) (by rw [W64_eq]; omega) (by rw [if_neg (by omega)]))
  · have hdt : decide (Mq % 2 ^ E ≠ 0) = true := by simp [hmore]
    have hzne : Mq ≠ Mq / 2 ^ E * 2 ^ S := by
      by_cases h : E ≤ 63
      · have hSE : S = E := by omega
        rw [hSE, Nat.mul_comm]; omega
      · have h53 : 2 * BN = 2 ^ 53 := by rw [hB]
        have a2 : 2 ^ 53 ≤ 2 ^ E := Nat.pow_le_pow_right (by omega) (by omega)
        rw [Nat.div_eq_of_lt (by omega)]; omega
    have x5 : ((Mq : Int) != ((Mq / 2 ^ E * 2 ^ S : Nat) : Int)) = true := by simp only [bne_iff_ne]; omega
    clear hdm
    generalize Mq / 2 ^ E * 2 ^ S = z at *
    generalize hmg : Mq / 2 ^ E = m at *
    by_cases hs : np = nq
    · subst hs
      refine sumIs_of 70 E hE (by omega) e2 (fun h => by rw [hmg]; exact hbig) np true (Mp * 64) m (by rw [W64_eq]; omega) (by rw [W64_eq]; omega) ?_ hdt (fun _ => by rw [W64_eq]; omega) ?_
      · rw [hdt, hmg, hA]; unfold sumX; rw [if_pos rfl, W64_eq]
      · intro w
        exact sum_far_same np Mp Mq (Mp * 64) 0 m 0 z m 0 (Mp * 64) 0 0 0 0 Ep Eq _ S w hp hq e1 e2 f1 f2 hd (by omega) (by omega) hmn x1 hS2 (by omega) (by omega) x3 x4 x5 (fun w => add_0 _ w (by rw [W64_eq]; omega)) (by rw [wrap_u64]; omega)
    · have hne : (np == nq) = false := by simpa using hs
      refine sumIs_of 70 E hE (by omega) e2 (fun h => by rw [hmg]; exact hbig) np true (Mp * 64 - 1) (18446744073709551616 - (m + 1)) (by rw [W64_eq]; omega) (by rw [W64_eq]; omega) ?_ hdt (fun _ => by rw [W64_eq]; omega) ?_
      · rw [hdt, hmg, hA]; unfold sumX; rw [if_neg hs, if_pos rfl, W64_eq]; congr 1; omega
      · intro w
        exact sum_far_diff np nq Mp Mq (Mp * 64) 0 m (m + 1) z (18446744073709551616 - (m + 1)) 1 (Mp * 64 - 1) 0 0 0 0 Ep Eq _ S w hp hq e1 e2 f1 f2 hd (by omega) (by omega) hmn x1 hS2 (by omega) (by omega) x3 x4 x5 hne (by rw [wrap_u64]; omega) (fun w => sub_00 _ w _ _ (by rw [W64_eq]; omega) (by rw [if_pos (by omega)])) (fun w => sub_b _ 1 w _ 0 (by omega) (by rw [W64_eq]; omega) (by rw [if_neg (by omega)]))
end

/-- ulp.sum. -/
theorem sum_any (np nq : Bool) (Mp Mq : Nat) (Ep Eq : Int) (hMp : Mp < 2 * BN) (hMq : Mq < 2 * BN) (e1 : -1074 ≤ Ep) (e2 : Ep ≤ 971) (f1 : -1074 ≤ Eq) (f2 : Eq ≤ 971) (hle : Eq ≤ Ep) : SumIs np nq Mp Mq Ep Eq := by
  have hB := BN_eq
  by_cases g0 : Mq = 0
  · subst g0
    refine ⟨np, false, 0, Mp, Ep, 0, by rw [W64_eq]; omega, by rw [W64_eq]; omega, by omega, e2, Rat.le_refl, p2_pos _, by simp, ?_, (fun h => by cases h), fun w => sum_q0 np nq Mp Ep Eq w⟩
    rw [Nat.zero_mul, Nat.zero_add]
    unfold rsign
    cases np <;> cases nq <;> simp <;> grind
  by_cases h0 : Mp = 0
  · subst h0
    refine ⟨nq, false, 0, Mq, Eq, 0, by rw [W64_eq]; omega, by rw [W64_eq]; omega, by omega, f2, Rat.le_refl, p2_pos _, by simp, ?_, (fun h => by cases h), fun w => sum_p0 np nq Mq Ep Eq w (by simp; omega)⟩
    rw [Nat.zero_mul, Nat.zero_add]
    unfold rsign
    cases np <;> cases nq <;> simp <;> grind
  obtain ⟨d, hd⟩ : ∃ d : Nat, Ep - Eq = d := ⟨(Ep - Eq).toNat, by omega⟩
  by_cases d1 : d < 64
  · exact sum_near np nq Mp Mq Ep Eq hMp hMq e1 e2 f1 f2 h0 g0 d hd d1
  by_cases d2 : d ≤ 70
  · exact sum_mid np nq Mp Mq Ep Eq hMp hMq e1 e2 f1 f2 h0 g0 d hd (by omega) d2
  · exact sum_far np nq Mp Mq Ep Eq hMp hMq e1 e2 f1 f2 h0 g0 d hd (by omega)

end Go.Proofs.Ytonidoghcihnnaa
