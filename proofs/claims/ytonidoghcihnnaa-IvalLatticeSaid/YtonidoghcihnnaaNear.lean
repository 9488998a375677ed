/- What is written to the nearest float is what is rounded so. -/
import Derived.Test.YtonidoghcihnnaaRnd
namespace Go.Proofs.Ytonidoghcihnnaa

/-- What is lost of a number whose last digits are cut off. -/
def lostOf (X drop : Nat) (more : Bool) : Nat :=
  if X % 2 ^ drop = 0 ∧ more = false then 0 else if X % 2 ^ drop < 2 ^ (drop - 1) then 1 else if X % 2 ^ drop = 2 ^ (drop - 1) ∧ more = false then 2 else 3
theorem lostOf_le (X drop : Nat) (more : Bool) : lostOf X drop more ≤ 3 := by unfold lostOf; split <;> (try split) <;> (try split) <;> omega

theorem p2_drop (j drop : Nat) (e : Int) : (j : Rat) * p2 (e + drop) = ((j * 2 ^ drop : Nat) : Rat) * p2 e := by
  rw [p2_add, p2_nat, Rat.natCast_mul]; grind

/-- Digits are cut off. -/
theorem rnd_val {le eq : Rat → Prop} (hc : Cut le eq) {X drop L : Nat} {e dir : Int} {more : Bool} (hle : ∀ j : Nat, le ((j : Rat) * p2 e) ↔ j ≤ X) (heq : ∀ j : Nat, eq ((j : Rat) * p2 e) ↔ j = X ∧ more = false)
    (hd : 1 ≤ drop) (hL : (L : Int) - 1074 = e + drop) (hq : X / 2 ^ drop < 2 * BN) (hB : L = 0 ∨ BN ≤ X / 2 ^ drop) : Rnd le eq dir (rungOf (X / 2 ^ drop) L (lostOf X drop more) dir : Int) := by
  obtain ⟨t, rfl⟩ : ∃ t, drop = t + 1 := ⟨drop - 1, by omega⟩
  have hp := Nat.two_pow_pos t
  have hp2 : 2 ^ (t + 1) = 2 * 2 ^ t := by rw [Nat.pow_succ]; omega
  have hdm := Nat.div_add_mod X (2 ^ (t + 1))
  have hml := Nat.mod_lt X (show 0 < 2 ^ (t + 1) by omega)
  have lof : lostOf X (t + 1) more = if X % 2 ^ (t + 1) = 0 ∧ more = false then 0 else if X % 2 ^ (t + 1) < 2 ^ t then 1 else if X % 2 ^ (t + 1) = 2 ^ t ∧ more = false then 2 else 3 := rfl
  refine rnd_rung hc hq hB (lostOf_le _ _ _) ?_ ?_ ?_ ?_ ?_
  · rw [hL, p2_drop, hle]; rw [Nat.mul_comm]; omega
  · rw [hL, p2_drop, hle, Nat.add_mul, Nat.mul_comm]; omega
  · rw [hL, p2_drop, heq, lof, Nat.mul_comm]
    constructor
    · rintro ⟨h1, h2⟩; rw [if_pos ⟨by omega, h2⟩]
    · intro h
      split at h
      · rename_i hh; exact ⟨by omega, hh.2⟩
      · split at h
        · omega
        · split at h <;> omega
  · rw [show (L : Int) - 1075 = e + (t : Nat) by omega, p2_drop, hle, lof]
    rw [Nat.add_mul, Nat.mul_comm 2, Nat.mul_assoc, ← hp2, Nat.mul_comm (X / 2 ^ (t + 1))]
    split
    · rename_i hh; omega
    · split
      · omega
      · split <;> omega
  · rw [show (L : Int) - 1075 = e + (t : Nat) by omega, p2_drop, heq, lof]
    rw [Nat.add_mul, Nat.mul_comm 2, Nat.mul_assoc, ← hp2, Nat.mul_comm (X / 2 ^ (t + 1))]
    split
    · rename_i hh; omega
    · split
      · omega
      · split
        · rename_i hh; simp [hh.2]; omega
        · rename_i hh
          constructor
          · rintro ⟨h1, h2⟩; exact absurd ⟨by omega, h2⟩ hh
          · omega

/-- Nothing is cut off. -/
theorem rnd_exact {le eq : Rat → Prop} (hc : Cut le eq) {q L : Nat} {dir : Int} (hq : q < 2 * BN) (hL : L = 0 ∨ BN ≤ q) (h : eq ((q : Rat) * p2 ((L : Int) - 1074))) : Rnd le eq dir (rungOf q L 0 dir : Int) := by
  have hp := p2_pos ((L : Int) - 1075)
  have e1 : p2 ((L : Int) - 1074) = 2 * p2 ((L : Int) - 1075) := by rw [← p2_succ]; congr 1; omega
  have hm : (q : Rat) * p2 ((L : Int) - 1074) < ((2 * q + 1 : Nat) : Rat) * p2 ((L : Int) - 1075) := by
    rw [e1, Rat.natCast_add, Rat.natCast_mul]; grind
  have hm2 : (q : Rat) * p2 ((L : Int) - 1074) < ((q + 1 : Nat) : Rat) * p2 ((L : Int) - 1074) := by
    rw [e1, Rat.natCast_add]; grind
  refine rnd_rung hc hq hL (by omega) (hc.of_eq _ h) (fun h2 => ?_) (by simp [h]) ?_ ?_
  · have := hc.top _ _ h h2; grind
  · constructor
    · intro h2; have := hc.top _ _ h h2; grind
    · omega
  · constructor
    · intro h2; have := hc.top _ _ h (hc.of_eq _ h2); grind
    · omega

theorem rungOf_zero (q L : Nat) : rungOf q L 0 0 = min (L * BN + q) INF := by
  unfold rungOf
  have hn : ¬ upward q 0 0 := by unfold upward; omega
  rw [if_neg hn]
  generalize INF = I
  generalize L * BN + q = r
  split
  · rw [if_neg (by omega)]; omega
  · omega

theorem rungOf_near (q L lost : Nat) : rungOf q L lost 0 = min (L * BN + (q + if lost = 3 ∨ (lost = 2 ∧ q % 2 = 1) then 1 else 0)) INF := by
  unfold rungOf
  by_cases h : lost = 3 ∨ (lost = 2 ∧ q % 2 = 1)
  · have hn : upward q lost 0 := Or.inr ⟨rfl, h⟩
    rw [if_pos hn, if_pos h]
    generalize INF = I
    rw [← Nat.add_assoc]
    generalize L * BN + q = r
    split
    · rw [if_neg (by omega)]; omega
    · omega
  · have hn : ¬ upward q lost 0 := by unfold upward; omega
    rw [if_neg hn, if_neg h]
    generalize INF = I
    rw [Nat.add_zero]
    generalize L * BN + q = r
    split
    · rw [if_neg (by omega)]; omega
    · omega

theorem word_double (neg : Bool) (r : Nat) : Ieee.double.word neg r = if neg then SGN + r else r := by
  unfold Ieee.Format.word
  rw [show Ieee.double.signWeight = SGN from rfl]

theorem natCast_mul_le {a b : Nat} {c : Rat} (hc : 0 < c) : (a : Rat) * c ≤ (b : Rat) * c ↔ a ≤ b := by
  constructor
  · intro h; exact Rat.natCast_le_natCast.1 (Rat.le_of_mul_le_mul_right h hc)
  · intro h; exact Rat.mul_le_mul_of_nonneg_right (Rat.natCast_le_natCast.2 h) (Rat.le_of_lt hc)
theorem natCast_mul_eq {a b : Nat} {c : Rat} (hc : 0 < c) : (a : Rat) * c = (b : Rat) * c ↔ a = b := by
  constructor
  · intro h
    have h1 := (natCast_mul_le (a := a) (b := b) hc).1 (h ▸ Rat.le_refl)
    have h2 := (natCast_mul_le (a := b) (b := a) hc).1 (h ▸ Rat.le_refl)
    omega
  · intro h; rw [h]

theorem lost3_iff (m t : Nat) : lostOf m (t + 1) false = 3 ↔ 2 ^ t < m % 2 ^ (t + 1) := by
  have hp := Nat.two_pow_pos t
  unfold lostOf
  rw [Nat.add_sub_cancel]
  simp only [and_true]
  split
  · omega
  · split
    · omega
    · split <;> omega
theorem lost2_iff (m t : Nat) : lostOf m (t + 1) false = 2 ↔ 2 ^ t = m % 2 ^ (t + 1) := by
  have hp := Nat.two_pow_pos t
  unfold lostOf
  rw [Nat.add_sub_cancel]
  simp only [and_true]
  split
  · omega
  · split
    · omega
    · split <;> omega

/-- Ieee's way to cut digits off. -/
theorem cut_even (neg : Bool) (m drop : Nat) : Ieee.Toward.even.cut neg m drop = m / 2 ^ drop + if lostOf m drop false = 3 ∨ (lostOf m drop false = 2 ∧ m / 2 ^ drop % 2 = 1) then 1 else 0 := by
  have key : ∀ (b : Bool) (p : Prop) [Decidable p], (b = true ↔ p) → b.toNat = if p then 1 else 0 := fun b p _ h => by
    cases b
    · rw [if_neg (fun hp => by have := h.2 hp; cases this)]; rfl
    · rw [if_pos (h.1 rfl)]; rfl
  unfold Ieee.Toward.cut
  dsimp only
  by_cases hd : drop ≤ m.log2 + 2
  · rw [show min drop (m.log2 + 2) = drop by omega, Nat.one_shiftLeft]
    congr 1
    apply key
    rcases drop with _ | t
    · simp only [Nat.pow_zero, Nat.mod_one, lostOf]; simp
    · rw [lost3_iff, lost2_iff]
      have hp2 : 2 ^ (t + 1) = 2 * 2 ^ t := by rw [Nat.pow_succ]; omega
      simp only [Bool.or_eq_true, decide_eq_true_eq, Bool.and_eq_true, beq_iff_eq]
      omega
  · have hlt := @Nat.lt_log2_self m
    rw [show min drop (m.log2 + 2) = m.log2 + 2 by omega, Nat.one_shiftLeft]
    have h1 : 2 ^ (m.log2 + 2) = 2 * 2 ^ (m.log2 + 1) := by rw [show m.log2 + 2 = (m.log2 + 1) + 1 from rfl, Nat.pow_succ]; omega
    have h2 : 2 ^ (m.log2 + 1) ≤ 2 ^ (drop - 2) := Nat.pow_le_pow_right (by omega) (by omega)
    obtain ⟨t, rfl⟩ : ∃ t, drop = t + 2 := ⟨drop - 2, by omega⟩
    rw [Nat.add_sub_cancel] at h2
    have h3 : 2 ^ (t + 2) = 2 * 2 ^ (t + 1) := by rw [show t + 2 = (t + 1) + 1 from rfl, Nat.pow_succ]; omega
    have h4 : 2 ^ (t + 1) = 2 * 2 ^ t := by rw [Nat.pow_succ]; omega
    rw [Nat.div_eq_of_lt (show m < 2 ^ (m.log2 + 2) by omega), Nat.mod_eq_of_lt (show m < 2 ^ (m.log2 + 2) by omega), Nat.div_eq_of_lt (show m < 2 ^ (t + 2) by omega)]
    congr 1
    apply key
    rw [show t + 2 = (t + 1) + 1 from rfl, lost3_iff, lost2_iff, show t + 1 + 1 = t + 2 from rfl, Nat.mod_eq_of_lt (show m < 2 ^ (t + 2) by omega)]
    simp only [Bool.or_eq_true, decide_eq_true_eq, Bool.and_eq_true, beq_iff_eq]
    omega

/-- The nearest float's rung. -/
theorem nearest_rnd (neg : Bool) {m : Nat} (hm : m ≠ 0) (place : Int) : ∃ r, Ieee.double.nearest neg m place = (if neg then SGN + r else r) ∧ r ≤ INF ∧
    Rnd (fun x => x ≤ (m : Rat) * p2 place) (fun x => x = (m : Rat) * p2 place) 0 r := by
  have hlg := Nat.log2_self_le hm
  have hlg2 := @Nat.lt_log2_self m
  have hB : BN = 2 ^ 52 := by rw [BN_eq]
  have hI := INF_eq
  unfold Ieee.Format.nearest
  rw [if_neg hm, show Ieee.double.leastPlace = -1074 from by decide, show Ieee.double.fractionBits = 52 from rfl, show Ieee.double.binade = BN from rfl, show Ieee.double.infRung = INF from by decide]
  dsimp only
  generalize hlast : max (place + (m.log2 : Int) - ((52 : Nat) : Int)) (-1074) = last
  obtain ⟨L, hL⟩ : ∃ L : Nat, last = (L : Int) - 1074 := ⟨(last + 1074).toNat, by omega⟩
  have hL2 : (last - -1074).toNat = L := by omega
  rw [hL2]
  refine ⟨_, word_double _ _, Nat.min_le_right _ _, ?_⟩
  by_cases hpl : last ≤ place
  · -- nothing is cut off
    have h0 : (last - place).toNat = 0 := by omega
    obtain ⟨s, hs⟩ : ∃ s : Nat, place = last + s := ⟨(place - last).toNat, by omega⟩
    rw [h0, show (place - last).toNat = s by omega, Nat.shiftLeft_eq]
    have hkept : Ieee.Toward.even.cut neg (m * 2 ^ s) 0 = m * 2 ^ s := by
      unfold Ieee.Toward.cut
      simp [Nat.mod_one]
    rw [hkept]
    have hlt : m * 2 ^ s < 2 * BN := by
      have : m * 2 ^ s < 2 ^ (m.log2 + 1) * 2 ^ s := Nat.mul_lt_mul_of_pos_right hlg2 (Nat.two_pow_pos s)
      rw [← Nat.pow_add] at this
      have h53 : 2 ^ (m.log2 + 1 + s) ≤ 2 ^ 53 := Nat.pow_le_pow_right (by omega) (by omega)
      have : 2 ^ 53 = 2 * BN := by rw [hB]
      omega
    have hnorm : L = 0 ∨ BN ≤ m * 2 ^ s := by
      by_cases hz : L = 0
      · exact Or.inl hz
      · right
        have : 2 ^ m.log2 * 2 ^ s ≤ m * 2 ^ s := Nat.mul_le_mul_right _ hlg
        rw [← Nat.pow_add, show m.log2 + s = 52 by omega] at this
        omega
    have hval : (m : Rat) * p2 place = ((m * 2 ^ s : Nat) : Rat) * p2 ((L : Int) - 1074) := by
      rw [hs, hL, p2_drop]
    have hr := rnd_exact (cutQ ((m : Rat) * p2 place)) (q := m * 2 ^ s) (L := L) (dir := 0) hlt hnorm hval.symm
    rw [rungOf_zero] at hr
    exact hr
  · have h0 : (place - last).toNat = 0 := by omega
    obtain ⟨drop, hdr⟩ : ∃ drop : Nat, last = place + drop := ⟨(last - place).toNat, by omega⟩
    have hd1 : 1 ≤ drop := by omega
    rw [h0, show (last - place).toNat = drop by omega, Nat.shiftLeft_zero]
    have hq : m / 2 ^ drop < 2 * BN := by
      have : 2 * BN = 2 ^ 53 := by rw [hB]
      rw [this, Nat.div_lt_iff_lt_mul (Nat.two_pow_pos _), ← Nat.pow_add]
      exact Nat.lt_of_lt_of_le hlg2 (Nat.pow_le_pow_right (by omega) (by omega))
    have hnorm : L = 0 ∨ BN ≤ m / 2 ^ drop := by
      by_cases hz : L = 0
      · exact Or.inl hz
      · right
        rw [hB, Nat.le_div_iff_mul_le (Nat.two_pow_pos _), ← Nat.pow_add]
        exact Nat.le_trans (Nat.pow_le_pow_right (by omega) (by omega)) hlg
    have hr := rnd_val (cutQ ((m : Rat) * p2 place)) (X := m) (drop := drop) (L := L) (e := place) (dir := 0) (more := false)
      (fun j => natCast_mul_le (p2_pos place)) (fun j => by rw [natCast_mul_eq (p2_pos place)]; simp) hd1 (by omega) hq hnorm
    rw [rungOf_near, ← cut_even neg] at hr
    exact hr

end Go.Proofs.Ytonidoghcihnnaa
