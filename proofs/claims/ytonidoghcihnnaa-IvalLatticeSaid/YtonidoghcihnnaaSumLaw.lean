/- What a sum's rounding is worth. -/
import Derived.Test.YtonidoghcihnnaaRoundAny
namespace Go.Proofs.Ytonidoghcihnnaa

theorem cut_part {X : Nat} {e : Int} {t : Rat} {more : Bool} (h0 : 0 ≤ t) (h1 : t < p2 e) (hm : t = 0 ↔ more = false) :
    (∀ j : Nat, (j : Rat) * p2 e ≤ (X : Rat) * p2 e + t ↔ j ≤ X) ∧ (∀ j : Nat, (j : Rat) * p2 e = (X : Rat) * p2 e + t ↔ j = X ∧ more = false) := by
  have hp := p2_pos e
  have key : ∀ j : Nat, (j : Rat) * p2 e ≤ (X : Rat) * p2 e + t ↔ j ≤ X := fun j => by
    constructor
    · intro h
      refine Nat.le_of_lt_succ ((natCast_mul_le (a := j + 1) (b := X + 1) hp).1 ?_ |> fun h => by omega)
      have : ((j + 1 : Nat) : Rat) * p2 e = (j : Rat) * p2 e + p2 e := by rw [Rat.natCast_add]; grind
      have h3 : ¬ ((X + 1 : Nat) : Rat) * p2 e < ((j + 1 : Nat) : Rat) * p2 e := fun hlt => by
        have e1 : ((X + 1 : Nat) : Rat) * p2 e = (X : Rat) * p2 e + p2 e := by rw [Rat.natCast_add]; grind
        have hj : X + 1 < j + 1 := by
          rcases Nat.lt_or_ge (X + 1) (j + 1) with h4 | h4
          · exact h4
          · have := (natCast_mul_le (a := j + 1) (b := X + 1) hp).2 h4
            grind
        have := (natCast_mul_le (a := X + 1) (b := j) hp).2 (by omega)
        grind
      exact Rat.not_lt.1 h3
    · intro h
      have := (natCast_mul_le (a := j) (b := X) hp).2 h
      grind
  refine ⟨key, fun j => ?_⟩
  constructor
  · intro h
    have h1 := (key j).1 (by rw [h]; exact Rat.le_refl)
    have h2 : X ≤ j := by
      rcases Nat.lt_or_ge j X with h4 | h4
      · have := (natCast_mul_le (a := j + 1) (b := X) hp).2 h4
        have e1 : ((j + 1 : Nat) : Rat) * p2 e = (j : Rat) * p2 e + p2 e := by rw [Rat.natCast_add]; grind
        grind
      · exact h4
    obtain rfl : j = X := by omega
    exact ⟨rfl, hm.1 (by grind)⟩
  · rintro ⟨rfl, h⟩
    rw [hm.2 h]; grind

/-- What is rounded, from what is left of it. -/
theorem part_rnd {y : Rat} {neg more : Bool} {X : Nat} {e dir : Int} {t : Rat} (hx : X ≠ 0) (h0 : 0 ≤ t) (h1 : t < p2 e) (hm : t = 0 ↔ more = false) (hy : y = rsign neg ((X : Rat) * p2 e + t)) (hc : more = true → 0 < cutAt X e) :
    Rnd (fun x => x ≤ y) (fun x => x = y) dir (sgnd neg (roundR X e (if neg = true then -dir else dir) more)) := by
  have ⟨a, b⟩ := cut_part (X := X) h0 h1 hm
  have h := signed_rnd (neg := neg) (roundR_rnd (d := if neg = true then -dir else dir) (cutQ ((X : Rat) * p2 e + t)) hx a b hc)
  rw [← hy] at h
  have e1 : (if neg = true then -(if neg = true then -dir else dir) else (if neg = true then -dir else dir)) = dir := by cases neg <;> simp
  rw [e1] at h
  exact h

/-- What a sum is made of: the sign, the digits, whether there is more. -/
def sumX (np nq : Bool) (A m0 : Nat) (more : Bool) : Bool × Nat :=
  if np = nq then (np, A + m0) else if more = true then (np, A - (m0 + 1)) else if m0 ≤ A then (np, A - m0) else (nq, m0 - A)

theorem sum_val (np nq : Bool) (Mp Mq up E : Nat) (Ep Eq : Int) (hE : Eq = Ep - up - E) (hmore : Mq % 2 ^ E ≠ 0 → Mq / 2 ^ E < Mp * 2 ^ up) :
    ∃ t, 0 ≤ t ∧ t < p2 (Ep - up) ∧ (t = 0 ↔ decide (Mq % 2 ^ E ≠ 0) = false) ∧
      rsign np ((Mp : Rat) * p2 Ep) + rsign nq ((Mq : Rat) * p2 Eq) = rsign (sumX np nq (Mp * 2 ^ up) (Mq / 2 ^ E) (decide (Mq % 2 ^ E ≠ 0))).1 (((sumX np nq (Mp * 2 ^ up) (Mq / 2 ^ E) (decide (Mq % 2 ^ E ≠ 0))).2 : Rat) * p2 (Ep - up) + t) := by
  have hpe := p2_pos (Ep - up)
  have hpq := p2_pos Eq
  have e1 : (Mp : Rat) * p2 Ep = ((Mp * 2 ^ up : Nat) : Rat) * p2 (Ep - up) := by
    rw [← p2_drop]; congr 2; omega
  have e2 : p2 (Ep - up) = ((2 ^ E : Nat) : Rat) * p2 Eq := by
    have := p2_drop 1 E Eq
    rw [Nat.one_mul] at this
    rw [← this, show Eq + (E : Int) = Ep - up by omega]; grind
  have e3 : (Mq : Rat) * p2 Eq = ((Mq / 2 ^ E : Nat) : Rat) * p2 (Ep - up) + ((Mq % 2 ^ E : Nat) : Rat) * p2 Eq := by
    have h := Nat.div_add_mod Mq (2 ^ E)
    have h2 : (Mq : Rat) = ((2 ^ E : Nat) : Rat) * ((Mq / 2 ^ E : Nat) : Rat) + ((Mq % 2 ^ E : Nat) : Rat) := by rw [← Rat.natCast_mul, ← Rat.natCast_add, h]
    rw [h2, e2]; grind
  generalize hA : Mp * 2 ^ up = A at *
  generalize hm0 : Mq / 2 ^ E = m0 at *
  have ht : ((Mq % 2 ^ E : Nat) : Rat) * p2 Eq < p2 (Ep - up) := by
    rw [e2]
    exact Rat.mul_lt_mul_of_pos_right (Rat.natCast_lt_natCast.2 (Nat.mod_lt _ (Nat.two_pow_pos E))) hpq
  have ht0 : 0 ≤ ((Mq % 2 ^ E : Nat) : Rat) * p2 Eq := Rat.mul_nonneg (Rat.natCast_nonneg) (Rat.le_of_lt hpq)
  have htz : ((Mq % 2 ^ E : Nat) : Rat) * p2 Eq = 0 ↔ Mq % 2 ^ E = 0 := by
    constructor
    · intro h
      rcases Rat.mul_eq_zero.1 h with h | h
      · exact Rat.natCast_eq_zero_iff.1 h
      · grind
    · intro h; rw [h]; simp
  generalize hr : Mq % 2 ^ E = r at *
  generalize htt : ((r : Nat) : Rat) * p2 Eq = t at *
  rw [e1, e3]
  by_cases hs : np = nq
  · subst hs
    refine ⟨t, ht0, ht, by rw [htz]; simp, ?_⟩
    unfold sumX
    rw [if_pos rfl]
    show rsign np _ + rsign np _ = rsign np (((A + m0 : Nat) : Rat) * _ + t)
    rw [Rat.natCast_add]
    unfold rsign
    cases np <;> simp <;> grind
  · have hnq : nq = !np := by cases np <;> cases nq <;> simp_all
    subst hnq
    by_cases hmr : r = 0
    · have t0 : t = 0 := htz.2 hmr
      refine ⟨0, Rat.le_refl, hpe, by rw [hmr]; simp, ?_⟩
      have hd : decide (r ≠ 0) = false := by rw [hmr]; rfl
      rw [hd, t0]
      unfold sumX
      rw [if_neg hs, if_neg (by decide)]
      by_cases hle : m0 ≤ A
      · rw [if_pos hle]
        show rsign np _ + rsign (!np) _ = rsign np (((A - m0 : Nat) : Rat) * _ + 0)
        have : (A : Rat) = ((A - m0 : Nat) : Rat) + (m0 : Rat) := by rw [← Rat.natCast_add]; congr 1; omega
        rw [this]
        unfold rsign
        cases np <;> simp <;> grind
      · rw [if_neg hle]
        show rsign np _ + rsign (!np) _ = rsign (!np) (((m0 - A : Nat) : Rat) * _ + 0)
        have : (m0 : Rat) = ((m0 - A : Nat) : Rat) + (A : Rat) := by rw [← Rat.natCast_add]; congr 1; omega
        rw [this]
        unfold rsign
        cases np <;> simp <;> grind
    · have hlt := hmore hmr
      have tp : t ≠ 0 := fun h => hmr (htz.1 h)
      have tpos : 0 < t := by grind
      refine ⟨p2 (Ep - up) - t, by grind, by grind, ?_, ?_⟩
      · constructor
        · intro h; exfalso; grind
        · intro h; simp [hmr] at h
      · have hd : decide (r ≠ 0) = true := by simp [hmr]
        rw [hd]
        unfold sumX
        rw [if_neg hs, if_pos rfl]
        show rsign np _ + rsign (!np) _ = rsign np (((A - (m0 + 1) : Nat) : Rat) * _ + (p2 (Ep - up) - t))
        have : (A : Rat) = ((A - (m0 + 1) : Nat) : Rat) + (m0 : Rat) + 1 := by
          have h1 : ((A - (m0 + 1) + (m0 + 1) : Nat) : Rat) = (A : Rat) := by congr 1; omega
          rw [Rat.natCast_add, Rat.natCast_add] at h1
          rw [← h1]; grind
        rw [this]
        unfold rsign
        cases np <;> simp <;> grind

end Go.Proofs.Ytonidoghcihnnaa
