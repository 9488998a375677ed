/- ulp.value's round: what is made of a value is its rounding. -/
import Derived.Test.YtonidoghcihnnaaSumAny
namespace Go.Proofs.Ytonidoghcihnnaa
open Go.RowKit

/-- The place of a number, rounded. -/
noncomputable def rnd (y : Rat) (dir : Int) : Int := Classical.epsilon fun i => Rnd (fun x => x ≤ y) (fun x => x = y) dir i
theorem rnd_of {y : Rat} {dir i : Int} (h : Rnd (fun x => x ≤ y) (fun x => x = y) dir i) : rnd y dir = i :=
  (Classical.epsilon_spec (p := fun i => Rnd (fun x => x ≤ y) (fun x => x = y) dir i) ⟨i, h⟩).unique h
theorem rnd_refl {dir j : Int} (hj : j.natAbs ≤ INF - 1) : Rnd (fun x => x ≤ fq j) (fun x => x = fq j) dir j := by
  have hI := INF_eq
  exact ⟨j, ⟨by omega, by omega, Or.inr Rat.le_refl, fun k hk _ => by have := fq_lt hk; grind⟩, Or.inl ⟨⟨by omega, rfl⟩, rfl⟩⟩
theorem rnd_0 (dir : Int) : rnd 0 dir = 0 := by
  have := rnd_refl (dir := dir) (j := 0) (by omega)
  rw [fq_zero] at this
  exact rnd_of this

theorem last_of (P : Nat → Prop) (h0 : P 0) : ∀ n, ∃ m, m ≤ n ∧ P m ∧ ∀ k, m < k → k ≤ n → ¬ P k
  | 0 => ⟨0, Nat.le_refl _, h0, fun k h1 h2 => by omega⟩
  | n + 1 => by
    by_cases h : P (n + 1)
    · exact ⟨n + 1, Nat.le_refl _, h, fun k h1 h2 => by omega⟩
    · obtain ⟨m, h1, h2, h3⟩ := last_of P h0 n
      exact ⟨m, by omega, h2, fun k g1 g2 => by
        by_cases hk : k = n + 1
        · rw [hk]; exact h
        · exact h3 k g1 (by omega)⟩
theorem dn_ex (le : Rat → Prop) : ∃ d, IsDn le d := by
  have hI := INF_eq
  obtain ⟨m, h1, h2, h3⟩ := last_of (fun n => n = 0 ∨ le (fq ((n : Int) - INF))) (Or.inl rfl) (2 * INF - 1)
  refine ⟨(m : Int) - INF, by omega, by omega, ?_, fun j hj hj2 hle => ?_⟩
  · rcases h2 with h | h
    · left; omega
    · exact Or.inr h
  · refine h3 (j + INF).toNat (by omega) (by omega) (Or.inr ?_)
    rw [show (((j + INF).toNat : Nat) : Int) - INF = j by omega]
    exact hle
theorem rnd_ex (le eq : Rat → Prop) (dir : Int) : ∃ i, Rnd le eq dir i := by
  obtain ⟨d, hd⟩ := dn_ex le
  by_cases h : -(INF : Int) < d ∧ eq (fq d)
  · exact ⟨d, d, hd, Or.inl ⟨h, rfl⟩⟩
  · rcases Int.lt_trichotomy dir 0 with g | g | g
    · exact ⟨d, d, hd, Or.inr (Or.inl ⟨h, g, rfl⟩)⟩
    · by_cases k : eq (md d)
      · exact ⟨_, d, hd, Or.inr (Or.inr (Or.inr ⟨h, g, Or.inl ⟨k, rfl⟩⟩))⟩
      · by_cases k2 : le (md d)
        · exact ⟨_, d, hd, Or.inr (Or.inr (Or.inr ⟨h, g, Or.inr (Or.inl ⟨k, k2, rfl⟩)⟩))⟩
        · exact ⟨_, d, hd, Or.inr (Or.inr (Or.inr ⟨h, g, Or.inr (Or.inr ⟨k, k2, rfl⟩)⟩))⟩
    · exact ⟨d + 1, d, hd, Or.inr (Or.inr (Or.inl ⟨h, g, rfl⟩))⟩
theorem rnd_spec (y : Rat) (dir : Int) : Rnd (fun x => x ≤ y) (fun x => x = y) dir (rnd y dir) := by
  obtain ⟨i, hi⟩ := rnd_ex (fun x => x ≤ y) (fun x => x = y) dir
  rw [rnd_of hi]; exact hi
theorem rnd_abs (y : Rat) (dir : Int) : (rnd y dir).natAbs ≤ INF := (rnd_spec y dir).bound

theorem more_cut {X : Nat} {e : Int} (h : 2 ^ 53 ≤ X) : 0 < cutAt X e := by
  have h1 := blen_lt X
  have : 53 < blen X := by
    rcases Nat.lt_or_ge 53 (blen X) with h2 | h2
    · exact h2
    · have := Nat.pow_le_pow_right (show 0 < 2 by omega) h2
      omega
  unfold cutAt
  omega

theorem round_rnd {y : Rat} {neg more : Bool} {hi lo : Nat} {e dir : Int} {t : Rat} (hh : hi < W64) (hl : lo < W64) (e1 : -3000 ≤ e) (e2 : e ≤ 3000) (h0 : 0 ≤ t) (h1 : t < p2 e) (hm : t = 0 ↔ more = false)
    (hy : y = rsign neg (((hi * W64 + lo : Nat) : Rat) * p2 e + t)) (hx : more = true → 2 ^ 53 ≤ hi * W64 + lo) (d1 : -1 ≤ dir) (d2 : dir ≤ 1) (w : World) :
    Calls Try.prog 99 #[.agg #[.bool neg, .int .u64 (hi : Int), .int .u64 (lo : Int), .int .i64 e, .bool more], .int .i64 dir] w fun e w' => e = .returned (.float .f64 (wd (rnd y dir))) ∧ Below w.heap.size w w' := by
  by_cases hX : hi * W64 + lo = 0
  · have hm0 : more = false := by
      cases more
      · rfl
      · have := hx rfl; omega
    have hW := W64_eq
    have hlo : lo = 0 := by omega
    have hhi : hi = 0 := by
      rcases Nat.eq_zero_or_pos hi with h | h
      · exact h
      · have : 1 * W64 ≤ hi * W64 := Nat.mul_le_mul_right _ h
        omega
    have ht := hm.2 hm0
    have hy0 : y = 0 := by
      rw [hy, ht, hX]; unfold rsign; cases neg <;> simp <;> grind
    rw [hy0, rnd_0, wd_0]
    subst hm0 hlo hhi
    exact round_zero neg e dir w
  · have h := part_rnd (dir := dir) hX h0 h1 hm hy (fun h => more_cut (hx h))
    rw [rnd_of h]
    have key := round_any neg more hi lo e (if neg = true then -dir else dir) w hh hl hX e1 e2 (by split <;> omega) (by split <;> omega) (fun h => more_cut (hx h))
    have e3 : (if neg = true then -(if neg = true then -dir else dir) else (if neg = true then -dir else dir)) = dir := by cases neg <;> simp
    rw [e3] at key
    exact key

end Go.Proofs.Ytonidoghcihnnaa
