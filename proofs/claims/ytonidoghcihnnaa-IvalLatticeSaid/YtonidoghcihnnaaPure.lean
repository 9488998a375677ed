/- Intervals by the indices of their ends. -/
import Derived.Test.YtonidoghcihnnaaNone
import Derived.Test.YtonidoghcihnnaaArith
namespace Go.Proofs.Ytonidoghcihnnaa
open Go.RowKit

/-- A number that is not -0. -/
def nw (b : Nat) : Prop := word b ∧ ¬ nan b ∧ b ≠ SGN
/-- The index of +Inf, and of MAX. -/
def IM : Int := 9218868437227405312
def LM : Int := 9218868437227405311
theorem IM_eq : IM = 9218868437227405312 := rfl
theorem LM_eq : LM = 9218868437227405311 := rfl
theorem INF_IM : (INF : Int) = IM := rfl

theorem nw_wd {i : Int} (h : i.natAbs ≤ INF) : nw (wd i) := by
  have hI := INF_eq
  refine ⟨word_wd (by unfold SGN; omega), nan_wd h, ?_⟩
  unfold wd; unfold SGN; split <;> omega
theorem nw_ix {b : Nat} (h : nw b) : wd (ix b) = b := wd_ix h.2.2
theorem nw_abs {b : Nat} (h : nw b) : (ix b).natAbs ≤ INF := ix_abs h.2.1 h.1
theorem ix_of {i : Int} (h : i.natAbs ≤ INF) : ix (wd i) = i := ix_wd (by have := INF_eq; unfold SGN; omega)
theorem num_abs {b : Nat} (hw : word b) (hn : ¬ nan b) : (ix b).natAbs ≤ INF := ix_abs hn hw

theorem wd_IM : wd IM = 9218868437227405312 := by unfold wd; rw [if_neg (by rw [IM_eq]; decide)]; rfl
theorem wd_nIM : wd (-IM) = 18442240474082181120 := by unfold wd; rw [if_pos (by rw [IM_eq]; decide)]; rfl
theorem wd_LM : wd LM = 9218868437227405311 := by unfold wd; rw [if_neg (by rw [LM_eq]; decide)]; rfl
theorem wd_nLM : wd (-LM) = 18442240474082181119 := by unfold wd; rw [if_pos (by rw [LM_eq]; decide)]; rfl
theorem wd_0 : wd 0 = 0 := rfl

theorem feq_wd {i j : Int} (hi : i.natAbs ≤ INF) (hj : j.natAbs ≤ INF) : feq (wd i) (wd j) = decide (i = j) := by
  have a := nw_wd hi; have b := nw_wd hj
  rw [feq_num a.1 b.1 a.2.1 b.2.1, ix_of hi, ix_of hj]
theorem flt_wd {i j : Int} (hi : i.natAbs ≤ INF) (hj : j.natAbs ≤ INF) : flt (wd i) (wd j) = decide (i < j) := by
  have a := nw_wd hi; have b := nw_wd hj
  rw [flt_num a.1 b.1 a.2.1 b.2.1, ix_of hi, ix_of hj]
theorem fle_wd {i j : Int} (hi : i.natAbs ≤ INF) (hj : j.natAbs ≤ INF) : fle (wd i) (wd j) = decide (i ≤ j) := by
  have a := nw_wd hi; have b := nw_wd hj
  rw [fle_num a.1 b.1 a.2.1 b.2.1, ix_of hi, ix_of hj]

theorem IM_le : IM.natAbs ≤ INF := by rw [IM_eq, INF_eq]; decide
theorem nIM_le : (-IM).natAbs ≤ INF := by rw [IM_eq, INF_eq]; decide
theorem zero_le' : (0 : Int).natAbs ≤ INF := by rw [INF_eq]; decide

/-- The sign of what may stand at an end. -/
theorem plus_num {a : Nat} (hw : word a) (hn : ¬ nan a) : (!feq a 0 || !sgb a) = decide (a ≠ SGN) := by
  have z := nw_wd zero_le'
  rw [← wd_0, feq_num hw z.1 hn z.2.1, ix_of zero_le', sgb_word hw]
  unfold ix
  have : word a := hw
  unfold word at this; unfold SGN at *
  rw [Bool.eq_iff_iff]
  simp only [Bool.or_eq_true, Bool.not_eq_true', decide_eq_false_iff_not, decide_eq_true_eq]
  split <;> omega
theorem minus0_num {a : Nat} (hw : word a) (hn : ¬ nan a) : minus0B a = decide (a = SGN) := by
  have z := nw_wd zero_le'
  unfold minus0B
  rw [← wd_0, feq_num hw z.1 hn z.2.1, ix_of zero_le']
  unfold ix
  have : word a := hw
  unfold word at this; unfold SGN at *
  rw [Bool.eq_iff_iff]
  simp only [Bool.and_eq_true, Bool.not_eq_true', decide_eq_true_eq, beq_eq_false_iff_ne]
  split <;> omega

/-- What may be an interval, by indices. -/
theorem rightB_num {a b : Nat} (ha : word a) (hb : word b) (na : ¬ nan a) (nb : ¬ nan b) :
    rightB a b = decide ((ix a = IM ∧ ix b = -IM) ∨ (ix a ≤ ix b ∧ ix a < IM ∧ -IM < ix b ∧ a ≠ SGN ∧ b ≠ SGN)) := by
  have p := nw_wd IM_le; have q := nw_wd nIM_le
  unfold rightB
  rw [plus_num ha na, plus_num hb nb, ← wd_IM, ← wd_nIM, feq_num ha p.1 na p.2.1, feq_num hb q.1 nb q.2.1, fle_num ha hb na nb, flt_num ha p.1 na p.2.1, flt_num q.1 hb q.2.1 nb, ix_of IM_le, ix_of nIM_le]
  rw [Bool.eq_iff_iff]
  simp only [Bool.or_eq_true, Bool.and_eq_true, decide_eq_true_eq]
  omega
theorem rightR_num {a b : Nat} (ha : word a) (hb : word b) (na : ¬ nan a) (nb : ¬ nan b) :
    rightR a b = decide ((ix a = IM ∧ ix b = -IM) ∨ (ix a ≤ ix b ∧ ix a < IM ∧ -IM < ix b ∧ a ≠ SGN ∧ b ≠ SGN)) := by
  have p := nw_wd IM_le; have q := nw_wd nIM_le
  have h1 := num_abs ha na; have h2 := num_abs hb nb; have hI := INF_IM
  unfold rightR
  rw [minus0_num ha na, minus0_num hb nb, ← wd_IM, ← wd_nIM, feq_num ha p.1 na p.2.1, feq_num hb q.1 nb q.2.1, fle_num ha hb na nb, ix_of IM_le, ix_of nIM_le]
  rw [Bool.eq_iff_iff]
  simp only [Bool.or_eq_true, Bool.and_eq_true, decide_eq_true_eq, Bool.not_eq_true', decide_eq_false_iff_not]
  omega
theorem rightB_nan {a b : Nat} (h : nan a ∨ nan b) : rightB a b = false := by
  have p := nw_wd IM_le; have q := nw_wd nIM_le
  unfold rightB
  rw [fle_nan h]
  rcases h with h | h
  · rw [feq_nan (Or.inl h)]; rfl
  · rw [feq_nan (a := b) (Or.inl h)]; simp
theorem rightR_nan {a b : Nat} (h : nan a ∨ nan b) : rightR a b = false := by
  unfold rightR
  rw [fle_nan h]
  rcases h with h | h
  · rw [feq_nan (Or.inl h)]; rfl
  · rw [feq_nan (a := b) (Or.inl h)]; simp
theorem right_eq {a b : Nat} (ha : word a) (hb : word b) : rightR a b = rightB a b := by
  by_cases na : nan a
  · rw [rightB_nan (Or.inl na), rightR_nan (Or.inl na)]
  · by_cases nb : nan b
    · rw [rightB_nan (Or.inr nb), rightR_nan (Or.inr nb)]
    · rw [rightB_num ha hb na nb, rightR_num ha hb na nb]

/-- An interval that holds something. -/
structure Good (a b : Nat) (i j : Int) : Prop where
  lo : a = wd i
  hi : b = wd j
  le : i ≤ j
  below : i < IM
  above : -IM < j
  fst : -IM ≤ i
  lst : j ≤ IM

theorem Good.iabs {a b : Nat} {i j : Int} (h : Good a b i j) : i.natAbs ≤ INF := by have := h.below; have := h.fst; have := INF_IM; omega
theorem Good.jabs {a b : Nat} {i j : Int} (h : Good a b i j) : j.natAbs ≤ INF := by have := h.above; have := h.lst; have := INF_IM; omega

theorem noneB_good {a b : Nat} {i j : Int} (h : Good a b i j) : noneB a b = false := by
  have hi := nw_wd h.iabs; have hj := nw_wd h.jabs
  have := h.le; have := h.below; have := h.above
  rw [h.lo, h.hi]
  unfold noneB
  rw [rightB_num hi.1 hj.1 hi.2.1 hj.2.1, ix_of h.iabs, ix_of h.jabs, decide_eq_true (Or.inr ⟨h.le, h.below, h.above, hi.2.2, hj.2.2⟩), ← wd_IM, ← wd_nIM, feq_wd h.iabs IM_le, feq_wd h.jabs nIM_le]
  simp; omega
theorem good_of {a b : Nat} (ha : word a) (hb : word b) (h : noneB a b = false) : ∃ i j, Good a b i j := by
  unfold noneB at h
  by_cases na : nan a
  · rw [rightB_nan (Or.inl na)] at h; cases h
  · by_cases nb : nan b
    · rw [rightB_nan (Or.inr nb)] at h; cases h
    · have p := nw_wd IM_le; have q := nw_wd nIM_le
      have h1 := num_abs ha na; have h2 := num_abs hb nb; have hI := INF_IM
      rw [rightB_num ha hb na nb, ← wd_IM, ← wd_nIM, feq_num ha p.1 na p.2.1, feq_num hb q.1 nb q.2.1, ix_of IM_le, ix_of nIM_le] at h
      simp only [Bool.or_eq_false_iff, Bool.not_eq_false', decide_eq_true_eq, Bool.and_eq_false_imp, decide_eq_false_iff_not] at h
      refine ⟨ix a, ix b, (wd_ix ?_).symm, (wd_ix ?_).symm, ?_, ?_, ?_, ?_, ?_⟩ <;> rcases h.1 with ⟨g1, g2⟩ | g <;> first | exact absurd g2 (h.2 g1) | exact g.2.2.2.1 | exact g.2.2.2.2 | omega
theorem none_eq {a b : Nat} (ha : word a) (hb : word b) : noneR a b = noneB a b := by
  cases h : noneB a b
  · obtain ⟨i, j, g⟩ := good_of ha hb h
    have g1 := nw_wd g.iabs; have g2 := nw_wd g.jabs
    have h0 := h
    unfold noneB at h0
    unfold noneR
    rw [right_eq ha hb]
    have : rightB a b = true := by
      cases hr : rightB a b
      · rw [hr] at h0; cases h0
      · rfl
    rw [this, g.lo, g.hi, flt_wd g.jabs g.iabs]
    have := g.le
    simp; omega
  · unfold noneR
    rw [right_eq ha hb]
    unfold noneB at h
    cases hr : rightB a b
    · rfl
    · rw [hr] at h
      simp only [Bool.not_true, Bool.false_or, Bool.and_eq_true] at h ⊢
      by_cases na : nan a
      · rw [rightB_nan (Or.inl na)] at hr; cases hr
      · by_cases nb : nan b
        · rw [rightB_nan (Or.inr nb)] at hr; cases hr
        · have p := nw_wd IM_le; have q := nw_wd nIM_le
          rw [← wd_IM, ← wd_nIM, feq_num ha p.1 na p.2.1, feq_num hb q.1 nb q.2.1, ix_of IM_le, ix_of nIM_le] at h
          simp only [decide_eq_true_eq] at h
          rw [flt_num hb ha nb na, h.1, h.2, decide_eq_true]
          rw [IM_eq]; decide

/-- -0 made 0. -/
theorem cleanW_num {a : Nat} (hw : word a) (hn : ¬ nan a) : cleanW a = wd (ix a) := by
  have z := nw_wd zero_le'
  unfold cleanW
  rw [← wd_0, feq_num hw z.1 hn z.2.1, ix_of zero_le']
  by_cases h : ix a = 0
  · rw [decide_eq_true h, if_pos rfl, h]
  · rw [decide_eq_false h, if_neg (by simp), wd_ix]
    intro hS; apply h; rw [hS]; unfold ix SGN; rfl

/-- The ends of what is made of two ends. -/
@[irreducible] def makeLo (i j : Int) : Nat := if rightB (wd i) (wd j) = true then wd i else 9218868437227405312
@[irreducible] def makeHi (i j : Int) : Nat := if rightB (wd i) (wd j) = true then wd j else 18442240474082181120

theorem make_good {i j : Int} (hi : i.natAbs ≤ INF) (hj : j.natAbs ≤ INF) (h1 : i ≤ j) (h2 : i < IM) (h3 : -IM < j) : makeLo i j = wd i ∧ makeHi i j = wd j := by
  have a := nw_wd hi; have b := nw_wd hj
  unfold makeLo makeHi
  rw [rightB_num a.1 b.1 a.2.1 b.2.1, ix_of hi, ix_of hj, decide_eq_true (Or.inr ⟨h1, h2, h3, a.2.2, b.2.2⟩)]
  exact ⟨if_pos rfl, if_pos rfl⟩
theorem make_bad {i j : Int} (hi : i.natAbs ≤ INF) (hj : j.natAbs ≤ INF) (h : ¬(i ≤ j ∧ i < IM ∧ -IM < j)) : makeLo i j = 9218868437227405312 ∧ makeHi i j = 18442240474082181120 := by
  have a := nw_wd hi; have b := nw_wd hj
  unfold makeLo makeHi
  rw [rightB_num a.1 b.1 a.2.1 b.2.1, ix_of hi, ix_of hj]
  by_cases e : i = IM ∧ j = -IM
  · rw [decide_eq_true (Or.inl e), if_pos rfl, if_pos rfl, e.1, e.2, wd_IM, wd_nIM]; exact ⟨rfl, rfl⟩
  · rw [decide_eq_false (by omega)]
    exact ⟨if_neg (by simp), if_neg (by simp)⟩

end Go.Proofs.Ytonidoghcihnnaa
