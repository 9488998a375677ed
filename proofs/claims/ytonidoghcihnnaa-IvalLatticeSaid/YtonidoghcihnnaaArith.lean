/- The machine's own sums and products of floats are rounded to the nearest. -/
import Derived.Test.YtonidoghcihnnaaNear
namespace Go.Proofs.Ytonidoghcihnnaa

/-- The value of a word. -/
def vq (b : Nat) : Rat := fq (ix b)
/-- Neither infinite nor no number. -/
def finw (b : Nat) : Prop := word b ∧ b % SGN < INF
def rsign (s : Bool) (x : Rat) : Rat := if s then -x else x

theorem finw.num {b : Nat} (h : finw b) : ¬ nan b := by unfold nan; have := h.2; omega

theorem vq_read {b : Nat} (h : finw b) : ∃ s m e, Ieee.double.read b = .number s m e ∧ vq b = rsign s ((m : Rat) * p2 e) ∧ -1074 ≤ e ∧ m < 2 * BN ∧ (e = -1074 ∨ BN ≤ m) := by
  obtain ⟨m, e, hr, he, hm, hB, hB2⟩ := read_num h.2
  refine ⟨_, m, _, hr, ?_, by omega, hB2, by omega⟩
  unfold vq fq
  rw [fi_sign h.1, ← hm]
  obtain ⟨k, rfl⟩ : ∃ k : Nat, e = k := ⟨e.toNat, by omega⟩
  rw [Int.toNat_natCast, show ((k : Int) - 1074) = -1074 + (k : Int) by omega, p2_drop]
  unfold rsign
  cases (b / SGN % 2 == 1)
  · simp only [Bool.false_eq_true, if_false, Rat.intCast_natCast]
  · simp only [if_true, Rat.intCast_neg, Rat.intCast_natCast]; grind

theorem ix_word (s : Bool) {r : Nat} (h : r ≤ INF) : ix (if s then SGN + r else r) = if s then -(r : Int) else r := by
  have := INF_eq
  unfold ix; unfold SGN
  cases s
  · simp only [Bool.false_eq_true, if_false]; rw [if_pos (by omega)]
  · simp only [if_true]; rw [if_neg (by omega)]; omega

theorem write_rnd (s : Bool) (m : Nat) (e : Int) : word (Ieee.double.write (.number s m e)) ∧ ¬ nan (Ieee.double.write (.number s m e)) ∧
    Rnd (fun x => x ≤ rsign s ((m : Rat) * p2 e)) (fun x => x = rsign s ((m : Rat) * p2 e)) 0 (ix (Ieee.double.write (.number s m e))) := by
  have hI := INF_eq
  unfold Ieee.Format.write
  dsimp only
  have fits : ∀ r, r ≤ INF → word (if s then SGN + r else r) ∧ ¬ nan (if s then SGN + r else r) := fun r hr => by
    unfold word nan; unfold SGN; split <;> omega
  by_cases hm : m = 0
  · subst hm
    have h0 : Ieee.double.nearest s 0 e = (if s then SGN + 0 else 0) := by
      unfold Ieee.Format.nearest
      rw [if_pos rfl, word_double]
    have h00 : rungOf 0 0 0 0 = 0 := by rw [rungOf_zero]; omega
    have hr := rnd_exact (cutQ 0) (q := 0) (L := 0) (dir := 0) (by unfold BN; omega) (Or.inl rfl) (by simp)
    rw [h00] at hr
    rw [h0]
    refine ⟨(fits 0 (by omega)).1, (fits 0 (by omega)).2, ?_⟩
    rw [ix_word s (by omega)]
    have hv : rsign s (((0 : Nat) : Rat) * p2 e) = 0 := by unfold rsign; cases s <;> simp
    rw [hv]
    have hi : (if s then -((0 : Nat) : Int) else ((0 : Nat) : Int)) = ((0 : Nat) : Int) := by cases s <;> rfl
    rw [hi]
    exact hr
  · obtain ⟨r, hr, hle, hrnd⟩ := nearest_rnd s hm e
    rw [hr]
    refine ⟨(fits r hle).1, (fits r hle).2, ?_⟩
    rw [ix_word s hle]
    unfold rsign
    cases s
    · simpa using hrnd
    · simpa using rnd_neg hrnd

theorem signed_rat (s : Bool) (m k : Nat) (e : Int) : ((Ieee.signed s m k : Int) : Rat) * p2 e = rsign s ((m : Rat) * p2 (e + k)) := by
  rw [signed_shift, p2_drop]
  unfold rsign
  cases s
  · simp only [Bool.false_eq_true, if_false, Rat.intCast_natCast]
  · simp only [if_true, Rat.intCast_neg, Rat.intCast_natCast]; grind

theorem int_rsign (t : Int) (neg : Bool) (h : neg = decide (t < 0) ∨ t = 0) (e : Int) : rsign neg ((t.natAbs : Rat) * p2 e) = (t : Rat) * p2 e := by
  unfold rsign
  rcases h with h | h
  · subst h
    by_cases ht : t < 0
    · rw [decide_eq_true ht]
      obtain ⟨k, rfl⟩ : ∃ k : Nat, t = -(k : Int) := ⟨t.natAbs, by omega⟩
      rw [Int.natAbs_neg, Int.natAbs_natCast, Rat.intCast_neg, Rat.intCast_natCast]; simp only [if_true]; grind
    · rw [decide_eq_false ht]
      obtain ⟨k, rfl⟩ : ∃ k : Nat, t = (k : Int) := ⟨t.natAbs, by omega⟩
      rw [Int.natAbs_natCast, Rat.intCast_natCast]; simp
  · subst h; cases neg <;> simp

theorem add_fin {a b : Nat} (ha : finw a) (hb : finw b) : ∃ r, Ieee.double.add a b = some r ∧ word r ∧ ¬ nan r ∧ Rnd (fun x => x ≤ vq a + vq b) (fun x => x = vq a + vq b) 0 (ix r) := by
  obtain ⟨s, m, e, hr, hv, he, _⟩ := vq_read ha
  obtain ⟨t, n, f, hr2, hv2, hf, _⟩ := vq_read hb
  unfold Ieee.Format.add
  rw [hr, hr2]
  unfold Ieee.Datum.sum
  dsimp only
  rw [Option.map_some]
  refine ⟨_, rfl, ?_⟩
  generalize htot : Ieee.signed s m (e - min e f).toNat + Ieee.signed t n (f - min e f).toNat = total
  have hval : vq a + vq b = (total : Rat) * p2 (min e f) := by
    have e1 := signed_rat s m (e - min e f).toNat (min e f)
    have e2 := signed_rat t n (f - min e f).toNat (min e f)
    rw [show min e f + ((e - min e f).toNat : Int) = e by omega, ← hv] at e1
    rw [show min e f + ((f - min e f).toNat : Int) = f by omega, ← hv2] at e2
    rw [← e1, ← e2, ← htot, Rat.intCast_add]; grind
  have hw := write_rnd (if total = 0 then s && t else decide (total < 0)) total.natAbs (min e f)
  rw [int_rsign total _ (by split <;> simp_all), ← hval] at hw
  exact hw

theorem mul_fin {a b : Nat} (ha : finw a) (hb : finw b) : ∃ r, Ieee.double.mul a b = some r ∧ word r ∧ ¬ nan r ∧ Rnd (fun x => x ≤ vq a * vq b) (fun x => x = vq a * vq b) 0 (ix r) := by
  obtain ⟨s, m, e, hr, hv, he, _⟩ := vq_read ha
  obtain ⟨t, n, f, hr2, hv2, hf, _⟩ := vq_read hb
  unfold Ieee.Format.mul
  rw [hr, hr2]
  unfold Ieee.Datum.product
  dsimp only
  rw [Option.map_some]
  refine ⟨_, rfl, ?_⟩
  have hval : vq a * vq b = rsign (s ^^ t) (((m * n : Nat) : Rat) * p2 (e + f)) := by
    rw [hv, hv2, p2_add, Rat.natCast_mul]
    unfold rsign
    cases s <;> cases t <;> simp <;> grind
  have hw := write_rnd (s ^^ t) (m * n) (e + f)
  rw [← hval] at hw
  exact hw

/-- What is a float already is not rounded. -/
theorem rnd_self {dir i j : Int} (hj : j.natAbs ≤ INF - 1) (h : Rnd (fun x => x ≤ fq j) (fun x => x = fq j) dir i) : i = j := by
  have hI := INF_eq
  refine h.unique ⟨j, ⟨by omega, by omega, Or.inr Rat.le_refl, fun k hk _ => ?_⟩, Or.inl ⟨⟨by omega, rfl⟩, rfl⟩⟩
  have := fq_lt hk; grind

theorem finw_ix {b : Nat} (h : finw b) : (ix b).natAbs ≤ INF - 1 := by
  have := h.2; have := h.1; unfold ix; unfold word at *; rw [INF_eq] at *; unfold SGN at *; split <;> omega

theorem fi_eq_zero {i : Int} (h : fi i = 0) : i = 0 := by rw [← fi_zero] at h; exact fi_inj h

theorem write_zero (e : Int) : Ieee.double.write (.number false 0 e) = 0 := by
  unfold Ieee.Format.write; dsimp only
  unfold Ieee.Format.nearest
  rw [if_pos rfl, word_double]; rfl

/-- A number and 0. -/
theorem add_zero {a : Nat} (hw : word a) (hn : ¬ nan a) : Ieee.double.add a 0 = some (wd (ix a)) := by
  have hI := INF_eq
  by_cases hf : a % SGN < INF
  · have ha : finw a := ⟨hw, hf⟩
    have h0 : finw 0 := by unfold finw word; unfold SGN; rw [INF_eq]; decide
    obtain ⟨r, h1, h2, h3, h4⟩ := add_fin ha h0
    have hv0 : vq 0 = 0 := by unfold vq; rw [show ix 0 = 0 by unfold ix; unfold SGN; rfl, fq_zero]
    rw [hv0] at h4
    unfold vq at h4
    have hs : fq (ix a) + 0 = fq (ix a) := by grind
    rw [hs] at h4
    have hix := rnd_self (finw_ix ha) h4
    rw [h1]
    congr 1
    by_cases hz : ix a = 0
    · -- the sum of two noughts
      rw [hz, show wd 0 = 0 by unfold wd; rfl]
      obtain ⟨m, e, hr, he, hm, _⟩ := read_num hf
      have hfi : fi (ix a) = 0 := by rw [hz, fi_zero]
      rw [fi_sign hw, ← hm] at hfi
      have hm0 : m = 0 := by
        have h2 : m * 2 ^ e.toNat = 0 := by split at hfi <;> omega
        rcases Nat.mul_eq_zero.1 h2 with h | h
        · exact h
        · have := Nat.two_pow_pos e.toNat; omega
      subst hm0
      unfold Ieee.Format.add at h1
      rw [hr, show Ieee.double.read 0 = .number false 0 (-1074) from by decide] at h1
      unfold Ieee.Datum.sum at h1
      dsimp only at h1
      rw [signed_shift, signed_shift, Option.map_some] at h1
      simp only [Nat.zero_mul, Int.natCast_zero, Int.neg_zero, ite_self, Int.add_zero, if_true, Bool.and_false, Int.natAbs_zero] at h1
      rw [write_zero] at h1
      simpa using h1.symm
    · rw [← hix, wd_ix]
      intro hS
      rw [hS] at hix
      apply hz
      rw [← hix]; unfold ix SGN; rfl
  · have hinf : a % SGN = INF := by unfold nan at hn; omega
    unfold Ieee.Format.add
    rw [read_inf hinf, show Ieee.double.read 0 = .number false 0 (-1074) from by decide]
    unfold Ieee.Datum.sum
    dsimp only
    rw [Option.map_some]
    unfold Ieee.Format.write
    dsimp only
    rw [word_double, show Ieee.double.infRung = INF from by decide, ix_sign hw, hinf]
    unfold wd
    cases (a / SGN % 2 == 1)
    · simp only [Bool.false_eq_true, if_false]; rw [if_neg (by omega)]; simp
    · simp; omega

end Go.Proofs.Ytonidoghcihnnaa
