/- For every two intervals and every number, orrerylaw02.IvalLattice returns true and what came in reads behind the call as before: the statement Rows.IvalLatticeSaid. No condition. -/
import Derived.Test.YtonidoghcihnnaaRows
import Derived.Test.YtonidoghcihnnaaLatF
import Derived.Test.YtonidoghcihnnaaLatT
import Derived.Test.YtonidoghcihnnaaOpenI
import Derived.ProofKit
namespace Go.Proofs.Ytonidoghcihnnaa
open Go.ChangeShapes Go.WideShapes Go.ChangeAt Go.RowKit Go.Deep Go.Joins
set_option linter.unusedVariables false
set_option linter.unusedSimpArgs false
set_option maxRecDepth 100000
set_option maxHeartbeats 1000000

theorem addLo_none {a b c d : Nat} (h : noneB a b = true) : addLo a b c d = 9218868437227405312 ∧ addHi a b c d = 18442240474082181120 := by
  unfold addLo addHi
  rw [if_pos (Or.inl h), if_pos (Or.inl h)]; exact ⟨rfl, rfl⟩
theorem wordE : word 9218868437227405312 ∧ word 18442240474082181120 := by unfold word SGN; exact ⟨by decide, by decide⟩

/-- The law is true. -/
theorem lattice_true (a b c d v : Nat) (w : World) (ha : word a) (hb : word b) (hc : word c) (hd : word d) (hv : word v) :
    Calls Try.prog 9 #[(.agg #[.float .f64 a, .float .f64 b]), (.agg #[.float .f64 c, .float .f64 d]), .float .f64 v] w fun e w' => e = .returned (.bool true) ∧ Below w.heap.size w w' := by
  have e1 := inside_hull ha hb hc hd
  have e2 := inside_meet ha hb hc hd
  have e3 := has_meet ha hb hc hd hv
  have h1 := fun w => hullLaw_walk a b c d _ _ w (fun w => hull_any a b c d w ha hb hc hd)
  have h2 := fun w => meet_any a b c d w ha hb hc hd
  have i1 := fun w => inside_any a b (hullLo a b c d) (hullHi a b c d) w
  have i2 := fun w => inside_any c d (hullLo a b c d) (hullHi a b c d) w
  have i3 := fun w => inside_any (meetLo a b c d) (meetHi a b c d) a b w
  have i4 := fun w => inside_any (meetLo a b c d) (meetHi a b c d) c d w
  have a1 := fun w => has_any (meetLo a b c d) (meetHi a b c d) v w
  have a2 := fun w => has_any a b v w
  have a3 := fun w => has_any c d v w
  rw [e1.1] at i1
  rw [e1.2] at i2
  rw [e2.1] at i3
  rw [e2.2] at i4
  rw [e3] at a1
  have n1 := fun w => rnone_any a b w
  rw [none_eq ha hb] at n1
  cases hn : noneB a b
  · rw [hn] at n1
    have m1 := fun w => div_any a b a b w ha hb ha hb
    have m2 := fun w => sub_any a b a b w ha hb ha hb
    have m3 := fun w => has_any (addLo a b (negLo a b) (negHi a b)) (addHi a b (negLo a b) (negHi a b)) 0 w
    rw [sub_self_has ha hb hn] at m3
    have m5 := fun w => neg_any a b w ha hb
    have m6 := fun w => neg_any (negLo a b) (negHi a b) w (negLo_word ha hb).1 (negLo_word ha hb).2
    have m7 := fun w => inside_any a b (negLo (negLo a b) (negHi a b)) (negHi (negLo a b) (negHi a b)) w
    rw [inside_neg ha hb] at m7
    have m8 := fun w => mig_any a b w ha hb
    have m9 := fun w => mag_any a b w ha hb
    have hle := mig_mag ha hb hn
    obtain ⟨i, j, g⟩ := good_of ha hb hn
    obtain ⟨na, nb, ea, eb⟩ := good_nw g
    have fa := feq_0 na.1 na.2.1
    have fb := feq_0 nb.1 nb.2.1
    by_cases h0 : ix a = 0 ∧ ix b = 0
    · rw [decide_eq_true h0.1] at fa
      rw [decide_eq_true h0.2] at fb
      cases hp : hasB a b v
      · rw [hp] at a1 a2
        exact lat_some_f_z a b c d v _ _ _ _ _ _ _ _ _ _ _ _ _ _ (hasB c d v) w h1 h2 i1 i2 i3 i4 a1 a2 a3 n1 m1 m2 m3 fa fb m5 m6 m7 m8 m9 hle
      · rw [hp] at a1 a2
        exact lat_some_t_z a b c d v _ _ _ _ _ _ _ _ _ _ _ _ _ _ (hasB c d v) w h1 h2 i1 i2 i3 i4 a1 a2 a3 n1 m1 m2 m3 fa fb m5 m6 m7 m8 m9 hle
    · have m4 := fun w => has_any (divLo a b a b) (divHi a b a b) 4607182418800017408 w
      rw [div_self_has ha hb hn h0] at m4
      by_cases ga : ix a = 0
      · rw [decide_eq_true ga] at fa
        rw [decide_eq_false (fun gb => h0 ⟨ga, gb⟩)] at fb
        cases hp : hasB a b v
        · rw [hp] at a1 a2
          exact lat_some_f_m a b c d v _ _ _ _ _ _ _ _ _ _ _ _ _ _ (hasB c d v) w h1 h2 i1 i2 i3 i4 a1 a2 a3 n1 m1 m2 m3 fa fb m4 m5 m6 m7 m8 m9 hle
        · rw [hp] at a1 a2
          exact lat_some_t_m a b c d v _ _ _ _ _ _ _ _ _ _ _ _ _ _ (hasB c d v) w h1 h2 i1 i2 i3 i4 a1 a2 a3 n1 m1 m2 m3 fa fb m4 m5 m6 m7 m8 m9 hle
      · rw [decide_eq_false ga] at fa
        cases hp : hasB a b v
        · rw [hp] at a1 a2
          exact lat_some_f_n a b c d v _ _ _ _ _ _ _ _ _ _ _ _ _ _ (hasB c d v) w h1 h2 i1 i2 i3 i4 a1 a2 a3 n1 m1 m2 m3 fa m4 m5 m6 m7 m8 m9 hle
        · rw [hp] at a1 a2
          exact lat_some_t_n a b c d v _ _ _ _ _ _ _ _ _ _ _ _ _ _ (hasB c d v) w h1 h2 i1 i2 i3 i4 a1 a2 a3 n1 m1 m2 m3 fa m4 m5 m6 m7 m8 m9 hle
  · rw [hn] at n1
    rw [has_none hn] at a1 a2
    have m1 := fun w => mag_any a b w ha hb
    have em : magW a b = 0 := by unfold magW; rw [if_pos hn]
    rw [em] at m1
    have m2 := fun w => add_any a b c d w ha hb hc hd
    rw [(addLo_none hn).1, (addLo_none hn).2] at m2
    have m3 := fun w => mul_walk0 c d a b w (by rw [hn]; simp)
    have m4 := fun w => rnone_any 9218868437227405312 18442240474082181120 w
    rw [none_eq wordE.1 wordE.2, none_empty] at m4
    have f00 : feq 0 0 = true := by rw [← wd_0, feq_wd zero_le' zero_le']; rfl
    exact lat_none a b c d v _ _ _ _ (hasB c d v) w h1 h2 i1 i2 i3 i4 a1 a2 a3 n1 m1 f00 m2 m3 m4

theorem lattice_lifted (os : Os) (started : os.Started) (H : Type) (enc : TypeId × Value → H) :
    ReturnsInHanded {} Try.checked os 9 .any (Rows.ivalLatticeSpec.pre6 enc Try.prog Try.f9 Rows.ivalLatticeRow.domain false) (Rows.ivalLatticeSpec.post enc Try.prog Try.f9 false true false false) := by
  refine returnsInHanded_of_change (C := Try.checked) own started (by kernel_rfl) Try.func9
    (ChangeSpec.witness6 (enc := enc) (C := Try.checked) false ⟨#[], #[.agg #[.float .f64 0, .float .f64 0], .agg #[.float .f64 0, .float .f64 0], .float .f64 0], []⟩ 8 (by kernel_rfl) (by kernel_rfl) (by kernel_rfl) (by kernel_rfl)) ?_
  intro W base args ds gs before hval0 hW hcnd _
  have hval : ∀ (j : Nat) t v, Try.f9.params[j]? = some t → args[j]? = some v → Value.okWide Try.prog W .any base t v := hval0
  have hW' := hW
  obtain ⟨p, q, hA0, hV, rfl, hfz, hnd⟩ := hW
  have hA : DataW.TrodAll enc Try.prog W 0 (fun _ => true) true Try.f9.params.toList args.toList ds p := hA0
  rw [Try.params9] at hA hval
  obtain ⟨v0, v1, v2, d0, d1, d2, q0, q1, q2, rfl, rfl, rfl, h0, h1, h2⟩ := trodAll_three hA
  obtain ⟨rfl, rfl⟩ := trodVars_none hV
  obtain ⟨a, b, e0, wa, wb⟩ := open_ival (hval 0 35 v0 rfl rfl) h0
  obtain ⟨c, d, e1, wc, wd'⟩ := open_ival (hval 1 35 v1 rfl rfl) h1
  obtain ⟨f, e2, wf⟩ := open_floatW (hval 2 33 v2 rfl rfl) h2
  have lt0 : ∀ x ∈ q0, x.block < W.heap.size := by obtain ⟨m, hm⟩ := h0; exact DataW.trod_lt m _ _ _ hm
  have lt1 : ∀ x ∈ q1, x.block < W.heap.size := by obtain ⟨m, hm⟩ := h1; exact DataW.trod_lt m _ _ _ hm
  have lt2 : ∀ x ∈ q2, x.block < W.heap.size := by obtain ⟨m, hm⟩ := h2; exact DataW.trod_lt m _ _ _ hm
  clear hA0 hval0
  have wk := lattice_true a b c d f W wa wb wc wd' wf
  rw [← e0, ← e1, ← e2] at wk
  refine wk.mono fun e W' ⟨he, bel⟩ => ?_
  subst he
  exact ⟨_, rfl, _, _, _, [], _, [], hW', trodAll_mk1 (shut_bool Try.underlying4 _),
    trodAll_mk3 (Below.trod laidOut (by kernel_rfl) (of_decide_eq_true (by kernel_rfl)) h0 bel lt0) (Below.trod laidOut (by kernel_rfl) (of_decide_eq_true (by kernel_rfl)) h1 bel lt1) (Below.trod laidOut (by kernel_rfl) (of_decide_eq_true (by kernel_rfl)) h2 bel lt2), rfl, bel.frame _, fun h => by cases h⟩

theorem lattice_holds : Rows.IvalLatticeSaid :=
  OpenClaim.holds_of_wide 9 Try.f9 rfl rfl rfl rfl rfl rfl rfl ⟨rfl, rfl, rfl, rfl, rfl⟩ rfl rfl rfl rfl rfl (by kernel_rfl) Try.func9 (by kernel_rfl)
    (of_decide_eq_true (by kernel_rfl)) (by unfold Func.isWrapper; first | (rw [if_pos (by decide +kernel)]; kernel_rfl) | (rw [if_neg (by decide +kernel)]; exact ⟨rfl, rfl⟩))
    (fun os started H enc _ => lattice_lifted os started H enc)
#print axioms lattice_holds

end Go.Proofs.Ytonidoghcihnnaa
