/- No operation of a region enters an init function: by the operations' kinds. -/
import Derived.Test.YtonidoghcihnnaaSpec
namespace Go.Proofs.Ytonidoghcihnnaa
open Go.RowKit
set_option linter.unusedVariables false

theorem value_only {P : Program} {s : Sem Value} {w w' : World} {f : FuncId} {args : Array Value} (h : (do pure (Next.value (← s)) : Sem Next).run P w = .ok (.enter f args) w') : False := by
  rw [Sem.run_bind] at h
  cases hr : s.run P w with
  | ok x w1 => rw [hr] at h; simp at h
  | halt x w1 => rw [hr] at h; simp at h

def okOp (P : Program) (o : Oper) : Bool := match o.op with
  | .move _ => true | .assign _ => true | .load _ _ => true | .fieldAddr _ _ _ => true | .build _ _ => true | .alloc _ => true | .unOp _ _ _ => true | .binOp _ _ _ _ _ => true
  | .call c => match c.callee with
    | .value (.func k) => (P.inits.idxOf? k).isNone && match P.funcs[k]? with | some fn => fn.body.isSome | none => false
    | _ => false
  | _ => false

theorem noInit_of {P : Program} {o : Oper} (h : okOp P o = true) : NoInit P o := by
  intro a w w' f args hr
  unfold okOp at h
  obtain ⟨dst, op, type, pos, after, guard⟩ := o
  cases op <;> simp only at h <;> simp only [execOp] at hr
  case move x => simp at hr
  case assign x => simp at hr
  case load t x => exact (value_only hr).elim
  case fieldAddr t x i => exact (value_only hr).elim
  case build t x => exact (value_only hr).elim
  case alloc t => exact (value_only hr).elim
  case unOp u t x => exact (value_only hr).elim
  case binOp u t x y z => exact (value_only hr).elim
  case call c =>
    unfold resolve at hr
    cases hc : c.callee with
    | value x =>
      rw [hc] at h hr
      cases x <;> simp only at h
      case func k =>
        rw [Bool.and_eq_true] at h
        obtain ⟨h1, h2⟩ := h
        cases hf : P.funcs[k]? with
        | none => rw [hf] at h2; simp at h2
        | some fn =>
          rw [hf] at h2
          simp only at h2
          have hb : fn.body.isNone = false := by
            cases hbd : fn.body with
            | none => rw [hbd] at h2; cases h2
            | some y => rfl
          simp only [Act.eval, Deferred.ofValue, Sem.run_bind, Sem.run_pure] at hr
          simp [invoke, callFunc, program, Sem.run, hf] at hr
          have hb2 : ¬ fn.body = none := by
            intro e; rw [e] at h2; cases h2
          rw [if_neg hb2] at hr
          split at hr
          · cases hr
          · injection hr with e1 e2
            injection e1 with e3 e4
            rw [← e3]
            simpa using h1
      all_goals cases h
    | _ => rw [hc] at h; cases h
  all_goals cases h

theorem noInits {P : Program} {l : List Oper} (h : l.all (okOp P) = true) : ∀ o ∈ l, NoInit P o := fun o ho => noInit_of (List.all_eq_true.1 h o ho)

/-- The rule, where the special operations stand side by side: m of them, from number k on. -/
theorem wp_region_spec' {P : Program} {id : Nat} {Q : Exit → Act → World → Prop} {a : Act} {w : World} {l : List Oper} (n k m : Nat) (sp : List Nat) (hm : P.follows .mixedOrders = true) (hB : specB .any l.toArray n sp = true) (hL : plainOps l.toArray sp n 0 = l.take k ++ (l.drop (k + m)).take (n - (k + m))) (hin : (l.take k ++ (l.drop (k + m)).take (n - (k + m))).all (okOp P) = true)
    (I : (Nat → Option Value) → World → Prop) (hI : I (fun _ => none) w.drew) (hup : ∀ vs w1 w2, Below w.heap.size w w1 → I vs w1 → Below w1.heap.size w1 w2 → I vs w2)
    (h : ∀ (X : Type) (_ : Nonempty X) (N : X → World), (∀ x, Below w.heap.size w (N x)) → (∀ x w', Below (N x).heap.size (N x) w' → ∃ y, w' = N y) → wpQuiet P l.toArray (fun w' => ∃ x, w' = N x) (fun b =>
      (∀ s ∈ sp, ∀ o, l.toArray[s]? = some o → ∀ vs w1, Below w.heap.size w w1 → I vs w1 → vs s = none → (∀ j ∈ sp, Region.waitsFor .any l.toArray s j = true → (vs j).isSome = true) → SpecAt P l.toArray o (putsp l.toArray vs sp b) w1 fun v w' => Below w1.heap.size w1 w' ∧ I (fun j => if j = s then some v else vs j) w') ∧
      (∀ vs w1, Below w.heap.size w w1 → I vs w1 → (∀ s ∈ sp, (vs s).isSome = true) → wpList P l.toArray Q (l.drop n) (putsp l.toArray vs sp b) w1)) (l.take k ++ (l.drop (k + m)).take (n - (k + m))) a) : (Code.region id l.toArray true).wp P Q a w :=
  wp_region_spec n sp hm hB hL (noInits hin) I hI hup h

end Go.Proofs.Ytonidoghcihnnaa
