/- Rounding to floats, of whatever can be held against rational numbers. -/
import Derived.Test.YtonidoghcihnnaaFlo
namespace Go.Proofs.Ytonidoghcihnnaa

/-- Powers of two. -/
@[irreducible] def p2 (e : Int) : Rat := (2 : Rat) ^ e
theorem p2_add (a b : Int) : p2 (a + b) = p2 a * p2 b := by unfold p2; exact Rat.zpow_add (by decide) a b
theorem p2_pos (a : Int) : 0 < p2 a := by unfold p2; exact Rat.zpow_pos (by decide)
theorem p2_zero : p2 0 = 1 := by unfold p2; exact Rat.zpow_zero 2
theorem p2_one : p2 1 = 2 := by unfold p2; exact Rat.zpow_one 2
theorem p2_nat (n : Nat) : p2 (n : Int) = ((2 ^ n : Nat) : Rat) := by unfold p2; rw [Rat.zpow_natCast, Rat.natCast_pow]; rfl
theorem p2_succ (a : Int) : p2 (a + 1) = 2 * p2 a := by rw [p2_add, p2_one]; grind
theorem p2_neg (a : Int) : p2 a * p2 (-a) = 1 := by rw [← p2_add, Int.add_right_neg, p2_zero]
theorem p2_sub (a b : Int) : p2 a = p2 (a - b) * p2 b := by rw [← p2_add, Int.sub_add_cancel]

/-- The value of an index. -/
def fq (i : Int) : Rat := (fi i : Rat) * p2 (-1074)

theorem fq_lt {i j : Int} (h : i < j) : fq i < fq j := by
  unfold fq; exact Rat.mul_lt_mul_of_pos_right (Rat.intCast_lt_intCast.2 (fi_lt h)) (p2_pos _)
theorem fq_lt_iff {i j : Int} : fq i < fq j ↔ i < j := by
  refine ⟨fun h => ?_, fq_lt⟩
  rcases Int.lt_trichotomy i j with h1 | h1 | h1
  · exact h1
  · subst h1; exact absurd h Rat.lt_irrefl
  · have := fq_lt h1; grind
theorem fq_le_iff {i j : Int} : fq i ≤ fq j ↔ i ≤ j := by
  rw [← Rat.not_lt, fq_lt_iff]; omega
theorem fq_inj {i j : Int} (h : fq i = fq j) : i = j := by
  have h1 := @fq_le_iff i j; have h2 := @fq_le_iff j i
  have a : fq i ≤ fq j := by rw [h]; exact Rat.le_refl
  have b : fq j ≤ fq i := by rw [h]; exact Rat.le_refl
  have := h1.1 a; have := h2.1 b; omega
theorem fq_neg (i : Int) : fq (-i) = -fq i := by unfold fq; rw [fi_neg, Rat.intCast_neg, Rat.neg_mul]
theorem fq_zero : fq 0 = 0 := by unfold fq; rw [fi_zero]; simp

/-- A rung that is scaled. -/
theorem fq_scaled {k L : Nat} (hk : k ≤ 2 * BN) (h : L = 0 ∨ BN ≤ k) : fq ((L * BN + k : Nat) : Int) = (k : Rat) * p2 ((L : Int) - 1074) := by
  unfold fq fi
  rw [if_neg (by omega), Int.natAbs_natCast, mag_scaled hk h]
  rw [show ((L : Int) - 1074) = (L : Int) + (-1074) by omega, p2_add, p2_nat]
  rw [Rat.intCast_natCast, Rat.natCast_mul]
  grind

/-- The greatest index (below that of +Inf) that is not above; that of -Inf, if there is none. -/
def IsDn (le : Rat → Prop) (d : Int) : Prop := -(INF : Int) ≤ d ∧ d < INF ∧ (d = -(INF : Int) ∨ le (fq d)) ∧ ∀ j : Int, d < j → j < INF → ¬ le (fq j)
/-- The middle of an index and the next. -/
def md (d : Int) : Rat := (fq d + fq (d + 1)) / 2
/-- 'i' is the index of what is rounded so. -/
def Rnd (le eq : Rat → Prop) (dir i : Int) : Prop := ∃ d, IsDn le d ∧
  (((-(INF : Int) < d ∧ eq (fq d)) ∧ i = d) ∨
   (¬(-(INF : Int) < d ∧ eq (fq d)) ∧ dir < 0 ∧ i = d) ∨
   (¬(-(INF : Int) < d ∧ eq (fq d)) ∧ 0 < dir ∧ i = d + 1) ∨
   (¬(-(INF : Int) < d ∧ eq (fq d)) ∧ dir = 0 ∧ ((eq (md d) ∧ i = (if d % 2 = 0 then d else d + 1)) ∨ (¬ eq (md d) ∧ le (md d) ∧ i = d + 1) ∨ (¬ eq (md d) ∧ ¬ le (md d) ∧ i = d))))

theorem IsDn.unique {le : Rat → Prop} {d e : Int} (hd : IsDn le d) (he : IsDn le e) : d = e := by
  rcases Int.lt_trichotomy d e with h | h | h
  · rcases he.2.2.1 with h1 | h1
    · have := hd.1; omega
    · exact absurd h1 (hd.2.2.2 e h he.2.1)
  · exact h
  · rcases hd.2.2.1 with h1 | h1
    · have := he.1; omega
    · exact absurd h1 (he.2.2.2 d h hd.2.1)

theorem Rnd.unique {le eq : Rat → Prop} {dir i j : Int} (hi : Rnd le eq dir i) (hj : Rnd le eq dir j) : i = j := by
  obtain ⟨d, hd, hi⟩ := hi
  obtain ⟨e, he, hj⟩ := hj
  obtain rfl := hd.unique he
  rcases hi with ⟨h1, hi⟩ | ⟨h1, h2, hi⟩ | ⟨h1, h2, hi⟩ | ⟨h1, h2, hi⟩ <;> rcases hj with ⟨g1, hj⟩ | ⟨g1, g2, hj⟩ | ⟨g1, g2, hj⟩ | ⟨g1, g2, hj⟩ <;> first | omega | exact absurd h1 g1 | exact absurd g1 h1 | skip
  rcases hi with ⟨k1, hi⟩ | ⟨k1, k2, hi⟩ | ⟨k1, k2, hi⟩ <;> rcases hj with ⟨l1, hj⟩ | ⟨l1, l2, hj⟩ | ⟨l1, l2, hj⟩ <;> first | omega | exact absurd k1 l1 | exact absurd l1 k1 | exact absurd k2 l2 | exact absurd l2 k2

theorem Rnd.bound {le eq : Rat → Prop} {dir i : Int} (h : Rnd le eq dir i) : i.natAbs ≤ INF := by
  obtain ⟨d, hd, hi⟩ := h
  obtain ⟨h1, h2, _, _⟩ := hd
  have : i = d ∨ i = d + 1 := by
    rcases hi with ⟨_, hi⟩ | ⟨_, _, hi⟩ | ⟨_, _, hi⟩ | ⟨_, _, ⟨_, hi⟩ | ⟨_, _, hi⟩ | ⟨_, _, hi⟩⟩ <;> first | exact Or.inl hi | exact Or.inr hi | skip
    rw [hi]; split <;> simp
  omega

/-- What is asked of a cut. -/
structure Cut (le eq : Rat → Prop) : Prop where
  down : ∀ a b, a ≤ b → le b → le a
  of_eq : ∀ a, eq a → le a
  top : ∀ a b, eq a → le b → b ≤ a

theorem cutQ (y : Rat) : Cut (fun r => r ≤ y) (fun r => r = y) where
  down _ _ h h2 := Rat.le_trans h h2
  of_eq _ h := h ▸ Rat.le_refl
  top _ _ h h2 := h ▸ h2

/-- A rung and what is lost: 0 nothing, 1 less than half, 2 half, 3 more. -/
def upward (q lost : Nat) (dir : Int) : Prop := (0 < dir ∧ lost ≠ 0) ∨ (dir = 0 ∧ (lost = 3 ∨ (lost = 2 ∧ q % 2 = 1)))
instance (q lost : Nat) (dir : Int) : Decidable (upward q lost dir) := by unfold upward; exact inferInstance

/-- The rung of what is rounded. -/
def rungOf (q L lost : Nat) (dir : Int) : Nat :=
  if INF ≤ L * BN + q then (if dir < 0 then INF - 1 else INF) else if upward q lost dir then L * BN + q + 1 else L * BN + q

theorem rnd_rung {le eq : Rat → Prop} (hc : Cut le eq) {q L lost : Nat} {dir : Int} (hq : q < 2 * BN) (hL : L = 0 ∨ BN ≤ q) (hl : lost ≤ 3)
    (h0 : le ((q : Rat) * p2 ((L : Int) - 1074))) (h1 : ¬ le (((q + 1 : Nat) : Rat) * p2 ((L : Int) - 1074)))
    (e0 : eq ((q : Rat) * p2 ((L : Int) - 1074)) ↔ lost = 0)
    (m0 : le (((2 * q + 1 : Nat) : Rat) * p2 ((L : Int) - 1075)) ↔ 2 ≤ lost)
    (m1 : eq (((2 * q + 1 : Nat) : Rat) * p2 ((L : Int) - 1075)) ↔ lost = 2) : Rnd le eq dir (rungOf q L lost dir : Int) := by
  have s0 := fq_scaled (k := q) (L := L) (by omega) hL
  have s1 := fq_scaled (k := q + 1) (L := L) (by omega) (by omega)
  have hmid : md ((L * BN + q : Nat) : Int) = ((2 * q + 1 : Nat) : Rat) * p2 ((L : Int) - 1075) := by
    unfold md
    rw [show ((L * BN + q : Nat) : Int) + 1 = ((L * BN + (q + 1) : Nat) : Int) by omega, s0, s1]
    rw [show ((L : Int) - 1074) = ((L : Int) - 1075) + 1 by omega, p2_succ]
    rw [Rat.natCast_add, Rat.natCast_add, Rat.natCast_mul]
    grind
  have hI := INF_eq
  have hB := BN_eq
  unfold rungOf
  by_cases big : INF ≤ L * BN + q
  · rw [if_pos big]
    have hle : le (fq (INF : Int)) := hc.down _ _ (by rw [← s0]; exact fq_le_iff.2 (by omega)) h0
    have hdn : IsDn le ((INF : Int) - 1) := ⟨by omega, by omega, Or.inr (hc.down _ _ (fq_le_iff.2 (by omega)) hle), fun j h1 h2 => by omega⟩
    have hne : ¬ eq (fq ((INF : Int) - 1)) := fun h => by
      have := fq_le_iff.1 (hc.top _ _ h hle); omega
    have hmd : md ((INF : Int) - 1) < fq (INF : Int) := by
      unfold md
      have := @fq_lt ((INF : Int) - 1) INF (by omega)
      rw [Int.sub_add_cancel]; grind
    have hnm : ¬ eq (md ((INF : Int) - 1)) := fun h => by have := hc.top _ _ h hle; grind
    have hlm : le (md ((INF : Int) - 1)) := hc.down _ _ (Rat.le_of_lt hmd) hle
    refine ⟨(INF : Int) - 1, hdn, ?_⟩
    by_cases hd : dir < 0
    · rw [if_pos hd]
      exact Or.inr (Or.inl ⟨fun h => hne h.2, hd, by omega⟩)
    · rw [if_neg hd]
      by_cases hd2 : 0 < dir
      · exact Or.inr (Or.inr (Or.inl ⟨fun h => hne h.2, hd2, by omega⟩))
      · exact Or.inr (Or.inr (Or.inr ⟨fun h => hne h.2, by omega, Or.inr (Or.inl ⟨hnm, hlm, by omega⟩)⟩))
  · rw [if_neg big]
    have hdn : IsDn le ((L * BN + q : Nat) : Int) := by
      refine ⟨by omega, by omega, Or.inr (by rw [s0]; exact h0), fun j hj _ hlj => h1 ?_⟩
      refine hc.down _ _ ?_ hlj
      rw [← s1]; exact fq_le_iff.2 (by omega)
    refine ⟨_, hdn, ?_⟩
    rw [s0, hmid, e0, m0, m1]
    have par : ((L * BN + q : Nat) : Int) % 2 = 0 ↔ q % 2 = 0 := by
      have : (L * BN + q) % 2 = q % 2 := by rw [hB, show L * 4503599627370496 = 2 * (L * 2251799813685248) by omega]; omega
      omega
    have hneg : -(INF : Int) < ((L * BN + q : Nat) : Int) := by omega
    generalize hR : L * BN + q = R at *
    by_cases z : lost = 0
    · left
      refine ⟨⟨hneg, z⟩, ?_⟩
      rw [if_neg (by unfold upward; omega)]
    · right
      have nz : ¬(-(INF : Int) < (R : Int) ∧ lost = 0) := fun h => z h.2
      by_cases hd : dir < 0
      · left
        refine ⟨nz, hd, ?_⟩
        rw [if_neg (by unfold upward; omega)]
      · right
        by_cases hd2 : 0 < dir
        · left
          refine ⟨nz, hd2, ?_⟩
          rw [if_pos (by unfold upward; omega)]; omega
        · right
          refine ⟨nz, by omega, ?_⟩
          by_cases l2 : lost = 2
          · left
            refine ⟨l2, ?_⟩
            by_cases hp : q % 2 = 0
            · rw [if_pos (par.2 hp), if_neg (by unfold upward; omega)]
            · rw [if_neg (fun h => hp (par.1 h)), if_pos (by unfold upward; omega)]; omega
          · right
            by_cases l3 : lost = 3
            · left
              refine ⟨l2, by omega, ?_⟩
              rw [if_pos (by unfold upward; omega)]; omega
            · right
              refine ⟨l2, by omega, ?_⟩
              rw [if_neg (by unfold upward; omega)]

/-- The mirror. -/
theorem rnd_neg {y : Rat} {dir i : Int} (h : Rnd (fun r => r ≤ y) (fun r => r = y) dir i) : Rnd (fun r => r ≤ -y) (fun r => r = -y) (-dir) (-i) := by
  obtain ⟨d, ⟨h1, h2, h3, h4⟩, hi⟩ := h
  have hI := INF_eq
  have mneg : ∀ e : Int, md (-(e + 1)) = - md e := fun e => by
    unfold md
    rw [fq_neg, show -(e + 1) + 1 = -e by omega, fq_neg]; grind
  by_cases ex : -(INF : Int) < d ∧ fq d = y
  · obtain ⟨ex1, ex⟩ := ex
    have hid : i = d := by
      rcases hi with ⟨_, hi⟩ | ⟨n, _⟩ | ⟨n, _⟩ | ⟨n, _⟩
      · exact hi
      all_goals exact absurd ⟨ex1, ex⟩ n
    subst hid
    refine ⟨-i, ⟨by omega, by omega, Or.inr (by rw [fq_neg]; grind), fun j hj _ => ?_⟩, Or.inl ⟨⟨by omega, by rw [fq_neg, ex]⟩, rfl⟩⟩
    have := fq_lt hj
    rw [fq_neg] at this; grind
  · have hdn : IsDn (fun r => r ≤ -y) (-(d + 1)) := by
      refine ⟨by omega, by omega, ?_, fun j hj hj2 => ?_⟩
      · by_cases e : d + 1 = INF
        · left; omega
        · right
          have := h4 (d + 1) (by omega) (by omega)
          rw [fq_neg]; grind
      · intro hle
        by_cases e : d = -(INF : Int)
        · omega
        · rcases h3 with h3 | h3
          · exact e h3
          · have h5 : fq d < y := by
              rcases Rat.le_iff_lt_or_eq.1 h3 with h | h
              · exact h
              · exact absurd ⟨by omega, h⟩ ex
            have h6 : fq (-d) ≤ fq j := fq_le_iff.2 (by omega)
            rw [fq_neg] at h6
            grind
    have nex : ¬(-(INF : Int) < -(d + 1) ∧ fq (-(d + 1)) = -y) := by
      rintro ⟨g1, g2⟩
      rw [fq_neg] at g2
      refine h4 (d + 1) (by omega) (by omega) ?_
      grind
    refine ⟨-(d + 1), hdn, Or.inr ?_⟩
    rcases hi with ⟨hh, _⟩ | ⟨_, hd, hi⟩ | ⟨_, hd, hi⟩ | ⟨_, hd, hi⟩
    · exact absurd hh ex
    · right; left; exact ⟨nex, by omega, by omega⟩
    · left; exact ⟨nex, by omega, by omega⟩
    · right; right
      refine ⟨nex, by omega, ?_⟩
      rw [mneg]
      rcases hi with ⟨m, hi⟩ | ⟨m, m2, hi⟩ | ⟨m, m2, hi⟩
      · left
        refine ⟨by rw [m], ?_⟩
        rw [hi]; split <;> split <;> omega
      · right; right
        exact ⟨fun h => m (by grind), fun h => m (Rat.le_antisymm m2 (by grind)), by omega⟩
      · right; left
        exact ⟨fun h => m (by grind), by grind, by omega⟩

end Go.Proofs.Ytonidoghcihnnaa
