/- For every tape, orrerylaw05.TapeRights returns true and the tape reads behind the call as before: the statement Rows.TapeRightsSaid. No condition. -/
import Derived.Test.YtonidoghcihnnaaRows
import Derived.Test.YtonidoghcihnnaaTapeC
import Derived.Test.YtonidoghcihnnaaOpen
import Derived.ProofKit
namespace Go.Proofs.Ytonidoghcihnnaa
open Go.ChangeShapes Go.WideShapes Go.ChangeAt Go.RowKit Go.Deep Go.Joins
set_option linter.unusedVariables false
set_option linter.unusedSimpArgs false
set_option maxRecDepth 100000
set_option maxHeartbeats 1000000

/-- What both answer. -/
def tapeOk (V : Int) (len m : Nat) (K A B N : Nat → Int) (L H : Nat → Nat) (O : Nat → Int) : Bool :=
  (decide (0 ≤ V) && decide (V ≤ 64) && decide (len ≤ 4000) && decide (m ≤ 400)) && ((allB len fun i => okOp (K i) (A i) (B i) (N i) (L i) (H i) i V) && allB m fun j => okOut len (O j))

section
variable (V : Int) (oa ob : Option Addr) (b off len cap m cap2 bo offo : Nat) (K A B N : Nat → Int) (L H : Nat → Nat) (O : Nat → Int) (w : World)
  (hoa : 0 < len → oa = some ⟨b, off, none⟩) (hops : OpsAt w b off len K A B N L H) (hob : 0 < m → ob = some ⟨bo, offo, none⟩) (ho : ∀ j, j < m → w.cell? ⟨bo, offo + j, none⟩ = some (.int .i64 (O j)))
include hoa hops hob ho

theorem tright_any : Calls Try.prog 10 #[.agg #[.int .i64 V, .slice oa len cap, .slice ob m cap2]] w fun e w' => e = .returned (.int .i64 (if tapeOk V len m K A B N L H O then 0 else 50)) ∧ Below w.heap.size w w' := by
  by_cases h : V < 0 ∨ 64 < V ∨ (4000 : Int) < len ∨ (400 : Int) < m
  · have e : tapeOk V len m K A B N L H O = false := by
      unfold tapeOk
      rw [Bool.and_eq_false_iff]
      left
      simp; omega
    rw [e]
    exact tright_head V oa ob len cap m cap2 w h
  · refine tright_loop V oa ob b off len cap m cap2 bo offo K A B N L H O w (by omega) (by omega) (by omega) (by omega) hoa hops hob ho _ ?_
    have e : (decide (0 ≤ V) && decide (V ≤ 64) && decide (len ≤ 4000) && decide (m ≤ 400)) = true := by simp; omega
    unfold tapeOk
    rw [e, Bool.true_and]

theorem rtright_any (hw : ∀ i, i < len → word (L i) ∧ word (H i)) : Calls Try.prog 11 #[.agg #[.int .i64 V, .slice oa len cap, .slice ob m cap2]] w fun e w' => e = .returned (.bool (tapeOk V len m K A B N L H O)) ∧ Below w.heap.size w w' := by
  by_cases h : V < 0 ∨ 64 < V ∨ (4000 : Int) < len ∨ (400 : Int) < m
  · have e : tapeOk V len m K A B N L H O = false := by
      unfold tapeOk
      rw [Bool.and_eq_false_iff]
      left
      simp; omega
    rw [e]
    exact rtright_head V oa ob len cap m cap2 w h
  · refine rtright_loop V oa ob b off len cap m cap2 bo offo K A B N L H O w (by omega) (by omega) (by omega) (by omega) hoa hops hob ho _ ?_
    have e : (decide (0 ≤ V) && decide (V ≤ 64) && decide (len ≤ 4000) && decide (m ≤ 400)) = true := by simp; omega
    have e2 : (allB len fun i => okOpR (K i) (A i) (B i) (N i) (L i) (H i) i V) = allB len fun i => okOp (K i) (A i) (B i) (N i) (L i) (H i) i V := by
      rw [Bool.eq_iff_iff, allB_iff, allB_iff]
      constructor
      · intro h i hi; rw [← okOpR_eq _ _ _ _ _ _ (hw i hi).1 (hw i hi).2]; exact h i hi
      · intro h i hi; rw [okOpR_eq _ _ _ _ _ _ (hw i hi).1 (hw i hi).2]; exact h i hi
    unfold tapeOk
    rw [e, Bool.true_and, e2]
end

/-- The walk of the law, given what both answer. -/
theorem law_walk (v : Value) (r : Int) (ok : Bool) (w : World) (hr : (r == 0) = ok) (hr2 : ok = false → r = 50)
    (h1 : ∀ w', Below w.heap.size w w' → Calls Try.prog 10 #[v] w' fun e w'' => e = .returned (.int .i64 r) ∧ Below w'.heap.size w' w'')
    (h2 : ∀ w', Below w.heap.size w w' → Calls Try.prog 11 #[v] w' fun e w'' => e = .returned (.bool ok) ∧ Below w'.heap.size w' w'')
    (c0 c1 c2 : Value) (hv : v = .agg #[c0, c1, c2]) :
    Calls Try.prog 3 #[v] w fun e w' => e = .returned (.bool true) ∧ Below w.heap.size w w' := by
  cases ok with
  | false =>
    have hr3 := hr2 rfl
    subst hr3
    clear hr hr2
    have H1 := Lib.hid h1
    have H2 := Lib.hid h2
    clear h1 h2
    subst hv
    go_enter Try.func3, Try.ntmps3
    go_wp2_with fail
    refine wp_region_grow (by kernel_rfl) (by kernel_rfl) ?_
    intro X _ N hN hup
    have d0 := grow_cell hN (p := ⟨w.heap.size, 0, none⟩) (v := c0) (by simp)
    have d1 := grow_cell hN (p := ⟨w.heap.size, 1, none⟩) (v := c1) (by simp)
    have d2 := grow_cell hN (p := ⟨w.heap.size, 2, none⟩) (v := c2) (by simp)
    have hb : Hid (∀ x, Below w.heap.size w (N x)) := fun x => Below.trans (by repeat (first | exact Below.refl _ _ | assumption | refine Below.alloc ?_ (by first | omega | (simp; done) | (simp; omega)) _ | refine Below.setCell ?_ (by first | omega | (simp; done) | (simp; omega)) _ | refine Below.drew ?_)) ((hN x).mono (by simp))
    clear hN
    repeat (go_big_quiet_step ((first | (go_at_call 10; exact grow_of (hup _) (H1.out _ (hb.out _))) | (go_at_call 11; exact grow_of (hup _) (H2.out _ (hb.out _))))))
    refine wpQuiet_nil ?_
    rintro _ ⟨x, rfl⟩
    go_wp2
    go_ret
    exact ⟨rfl, hb.out x⟩
  | true =>
    have hr3 : r = 0 := by simpa using hr
    subst hr3
    clear hr hr2
    have H1 := Lib.hid h1
    have H2 := Lib.hid h2
    clear h1 h2
    subst hv
    go_enter Try.func3, Try.ntmps3
    go_wp2_with fail
    refine wp_region_grow (by kernel_rfl) (by kernel_rfl) ?_
    intro X _ N hN hup
    have d0 := grow_cell hN (p := ⟨w.heap.size, 0, none⟩) (v := c0) (by simp)
    have d1 := grow_cell hN (p := ⟨w.heap.size, 1, none⟩) (v := c1) (by simp)
    have d2 := grow_cell hN (p := ⟨w.heap.size, 2, none⟩) (v := c2) (by simp)
    have hb : Hid (∀ x, Below w.heap.size w (N x)) := fun x => Below.trans (by repeat (first | exact Below.refl _ _ | assumption | refine Below.alloc ?_ (by first | omega | (simp; done) | (simp; omega)) _ | refine Below.setCell ?_ (by first | omega | (simp; done) | (simp; omega)) _ | refine Below.drew ?_)) ((hN x).mono (by simp))
    clear hN
    repeat (go_big_quiet_step ((first | (go_at_call 10; exact grow_of (hup _) (H1.out _ (hb.out _))) | (go_at_call 11; exact grow_of (hup _) (H2.out _ (hb.out _))))))
    refine wpQuiet_nil ?_
    rintro _ ⟨x, rfl⟩
    go_wp2
    go_ret
    exact ⟨rfl, hb.out x⟩

theorem own : ownKnob Try.prog.godebug = none := by kernel_rfl
theorem laidOut : laidOutB Try.prog = true := by kernel_rfl

theorem tapeRights_lifted (os : Os) (started : os.Started) (H : Type) (enc : TypeId × Value → H) :
    ReturnsInHanded {} Try.checked os 3 .any (Rows.tapeRightsSpec.pre6 enc Try.prog Try.f3 Rows.tapeRightsRow.domain false) (Rows.tapeRightsSpec.post enc Try.prog Try.f3 false true false false) := by
  refine returnsInHanded_of_change (C := Try.checked) own started (by kernel_rfl) Try.func3
    (ChangeSpec.witness6 (enc := enc) (C := Try.checked) false ⟨#[], #[.agg #[.int .i64 0, .slice none 0 0, .slice none 0 0]], []⟩ 8 (by kernel_rfl) (by kernel_rfl) (by kernel_rfl) (by kernel_rfl)) ?_
  intro W base args ds gs before hval0 hW hcnd _
  have hval : ∀ (j : Nat) t v, Try.f3.params[j]? = some t → args[j]? = some v → Value.okWide Try.prog W .any base t v := hval0
  have hW' := hW
  obtain ⟨p, q, hA0, hV, rfl, hfz, hnd⟩ := hW
  have hA : DataW.TrodAll enc Try.prog W 0 (fun _ => true) true Try.f3.params.toList args.toList ds p := hA0
  rw [Try.params3] at hA hval
  obtain ⟨v0, d0, rfl, rfl, h0⟩ := trodAll_one hA
  obtain ⟨rfl, rfl⟩ := trodVars_none hV
  have k0 := h0
  have lt0 : ∀ x ∈ p, x.block < W.heap.size := by obtain ⟨m, hm⟩ := k0; exact DataW.trod_lt m _ _ _ hm
  obtain ⟨c0, c1, c2, y0, y1, y2, n, hv, hd, hp, t0, t1, t2⟩ := open_agg3 Try.underlying25 (by kernel_rfl) (by kernel_rfl) (hval 0 25 v0 rfl rfl) h0
  obtain ⟨V, e0, _, _⟩ := DataW.trod_int Try.underlying3 t0
  obtain ⟨oa, len, cap, b, off, K, A, B, N, L, G, e1, hl, hoa, hops, hwd⟩ := open_ops (by kernel_rfl) t1
  obtain ⟨ob, m, cap2, bo, offo, O, e2, hl2, hob, ho⟩ := open_nums (by kernel_rfl) t2
  simp at e0
  clear hA0 hval0
  have wk := law_walk v0 (if tapeOk V len m K A B N L G O then 0 else 50) (tapeOk V len m K A B N L G O) W (by cases tapeOk V len m K A B N L G O <;> rfl) (by intro h; rw [h]; rfl)
    (fun w' hb => by
      rw [hv, e0, e1, e2]
      exact tright_any V oa ob b off len cap m cap2 bo offo K A B N L G O w' hoa (hops.mono hb) hob (fun j hj => below_cell hb (ho j hj)))
    (fun w' hb => by
      rw [hv, e0, e1, e2]
      exact rtright_any V oa ob b off len cap m cap2 bo offo K A B N L G O w' hoa (hops.mono hb) hob (fun j hj => below_cell hb (ho j hj)) hwd)
    c0 c1 c2 hv
  refine wk.mono fun e W' ⟨he, bel⟩ => ?_
  subst he
  exact ⟨_, rfl, _, _, _, [], _, [], hW', trodAll_mk1 (shut_bool Try.underlying4 _), trodAll_mk1 (Below.trod laidOut (by kernel_rfl) (of_decide_eq_true (by kernel_rfl)) k0 bel lt0), rfl, bel.frame _, fun h => by cases h⟩

theorem tapeRights_holds : Rows.TapeRightsSaid :=
  OpenClaim.holds_of_wide 3 Try.f3 rfl rfl rfl rfl rfl rfl rfl ⟨rfl, rfl, rfl, rfl, rfl⟩ rfl rfl rfl rfl rfl (by kernel_rfl) Try.func3 (by kernel_rfl)
    (of_decide_eq_true (by kernel_rfl)) (by unfold Func.isWrapper; first | (rw [if_pos (by decide +kernel)]; kernel_rfl) | (rw [if_neg (by decide +kernel)]; exact ⟨rfl, rfl⟩))
    (fun os started H enc _ => tapeRights_lifted os started H enc)
#print axioms tapeRights_holds

end Go.Proofs.Ytonidoghcihnnaa
