/- A region that draws its order, of whose operations some make what no other world makes (a block of memory, a call that hands back a slice): the others read, or call what only makes memory; one walk in the order of the text serves every order. -/
import Derived.Test.YtonidoghcihnnaaGrow
namespace Go.Proofs.Ytonidoghcihnnaa
open Go.RowKit
set_option linter.unusedVariables false

section agree
variable {P : Program}
/-- Two contracts of one call tell of one value. -/
theorem calls_agree {f : FuncId} {args : Array Value} {w : World} {v1 v2 : Value} {R1 R2 : World → Prop} (hf : P.inits.idxOf? f = none)
    (h1 : Calls P f args w fun e w' => e = .returned v1 ∧ R1 w') (h2 : Calls P f args w fun e w' => e = .returned v2 ∧ R2 w') : v1 = v2 := by
  obtain ⟨e1, w1, fr1, ⟨rfl, _⟩, c1, f1, l1⟩ := h1 []
  obtain ⟨e2, w2, fr2, ⟨rfl, _⟩, c2, f2, l2⟩ := h2 []
  obtain ⟨n1, r1⟩ := c1
  obtain ⟨n2, r2⟩ := c2
  have s1 := step_leave_done l1 (f1 ▸ hf)
  have s2 := step_leave_done l2 (f2 ▸ hf)
  rcases Nat.lt_trichotomy n1 n2 with h | h | h
  · obtain ⟨k, rfl⟩ : ∃ k, n2 = n1 + (k + 1) := ⟨n2 - n1 - 1, by omega⟩
    rw [runN_add, r1] at r2
    simp only [runN, s1] at r2
    cases r2
  · subst h
    rw [r1] at r2
    cases r2
    rw [s1] at s2
    cases s2
    rfl
  · obtain ⟨k, rfl⟩ : ∃ k, n1 = n2 + (k + 1) := ⟨n1 - n2 - 1, by omega⟩
    rw [runN_add, r2] at r1
    simp only [runN, s2] at r1
    cases r1
end agree

section
variable {P : Program} {ops : Array Oper} {md : Region.Mode}

/-- The worlds that stand above one. -/
def Up (w0 : World) : World → Prop := fun w => Below w0.heap.size w0 w

/-- A value, whatever world the operation comes up in; the call makes memory alone. -/
def Fam (P : Program) (ops : Array Oper) (w0 : World) (o : Oper) (v : Value) (a : Act) : Prop :=
  (Region.wanted o (yielded ops a.tmps) = true ∧ ∀ w, Up w0 w → o.quietAt P a (Up w) w v) ∨ (Region.wanted o (yielded ops a.tmps) = false ∧ v = undef)

/-- The walk in the order of the text, whatever the class. -/
def fam (P : Program) (ops : Array Oper) (w0 : World) (Q : Act → Prop) : List Oper → Act → Prop
  | [], a => Q a
  | o :: l, a => ∃ v, Fam P ops w0 o v a ∧ fam P ops w0 Q l (a.put o.dst v)

/-- No operation enters an init function. -/
def NoInit (P : Program) (o : Oper) : Prop := ∀ (a : Act) (w w' : World) (f : FuncId) (args : Array Value), (execOp a.eval o).run P w = .ok (.enter f args) w' → P.inits.idxOf? f = none

theorem quietAt_agree {o : Oper} (hi : NoInit P o) {a : Act} {w : World} {v1 v2 : Value} {C D : World → Prop} (h1 : o.quietAt P a C w v1) (h2 : o.quietAt P a D w v2) : v1 = v2 := by
  unfold Oper.quietAt at h1 h2
  cases hr : (execOp a.eval o).run P w with
  | ok n w' =>
    rw [hr] at h1 h2
    cases n <;> simp only [Oper.quietUpon] at h1 h2
    case value u => exact h1.2.symm.trans h2.2
    case skip => exact h1.2.trans h2.2.symm
    case enter f args =>
      exact calls_agree (hi a w w' f args hr) h1.2 h2.2
  | halt x w' => rw [hr] at h1; simp only [Oper.quietUpon] at h1

theorem fam_of {w0 : World} {Q : Act → Prop} (l : List Oper) (hin : ∀ o ∈ l, NoInit P o) : ∀ a,
    (∀ (X : Type) (_ : Nonempty X) (N : X → World), (∀ x, Up w0 (N x)) → (∀ x w', Below (N x).heap.size (N x) w' → ∃ y, w' = N y) → wpQuiet P ops (fun w' => ∃ x, w' = N x) Q l a) → fam P ops w0 Q l a := by
  induction l with
  | nil =>
    intro a h
    exact h {w // Up w0 w} ⟨⟨w0, Below.refl _ _⟩⟩ Subtype.val (fun x => x.2) (fun x w' hw' => ⟨⟨w', x.2.trans (hw'.mono x.2.size)⟩, rfl⟩)
  | cons o l ih =>
    intro a h
    by_cases hw : Region.wanted o (yielded ops a.tmps) = true
    · have h0 := h {w // Up w0 w} ⟨⟨w0, Below.refl _ _⟩⟩ Subtype.val (fun x => x.2) (fun x w' hw' => ⟨⟨w', x.2.trans (hw'.mono x.2.size)⟩, rfl⟩)
      simp only [wpQuiet, hw, if_true] at h0
      obtain ⟨v, hv, _⟩ := h0
      refine ⟨v, .inl ⟨hw, fun w hw0 => ?_⟩, ih (fun o ho => hin o (List.mem_cons_of_mem _ ho)) _ fun X hX N h1 h2 => ?_⟩
      · have h3 := h {w' // Up w w'} ⟨⟨w, Below.refl _ _⟩⟩ Subtype.val (fun x => hw0.trans (x.2.mono hw0.size)) (fun x w' hw' => ⟨⟨w', x.2.trans (hw'.mono x.2.size)⟩, rfl⟩)
        simp only [wpQuiet, hw, if_true] at h3
        obtain ⟨u, hu, _⟩ := h3
        have hu' := hu w ⟨⟨w, Below.refl _ _⟩, rfl⟩
        have e := quietAt_agree (hin o (List.mem_cons_self ..)) hu' (hv w ⟨⟨w, hw0⟩, rfl⟩)
        subst e
        unfold Oper.quietAt at hu' ⊢
        generalize (execOp a.eval o).run P w = r at *
        cases r with
        | ok n w' =>
          cases n <;> simp only [Oper.quietUpon] at hu' ⊢
          case value => exact hu'
          case skip => exact hu'
          case enter f args => exact ⟨hu'.1, hu'.2.mono fun e w'' ⟨he, x, hx⟩ => ⟨he, hx ▸ x.2⟩⟩
        | halt x w' => simp only [Oper.quietUpon] at hu'
      · have h3 := h X hX N h1 h2
        simp only [wpQuiet, hw, if_true] at h3
        obtain ⟨u, hu, hn⟩ := h3
        obtain ⟨x⟩ := hX
        have e := quietAt_agree (hin o (List.mem_cons_self ..)) (hu (N x) ⟨x, rfl⟩) (hv (N x) ⟨⟨N x, h1 x⟩, rfl⟩)
        rw [← e]; exact hn
    · refine ⟨undef, .inr ⟨by simpa using hw, rfl⟩, ih (fun o ho => hin o (List.mem_cons_of_mem _ ho)) _ fun X hX N h1 h2 => ?_⟩
      have h3 := h X hX N h1 h2
      simp only [wpQuiet, hw] at h3
      exact h3

def slotOf (ops : Array Oper) (j : Nat) : Option Tmp := (ops[j]?).bind (·.dst)

/-- What the frame holds: of the operations in S their values, else what it held. -/
structure Agr (ops : Array Oper) (n : Nat) (a0 : Act) (S : Nat → Prop) (val : Nat → Value) (a : Act) : Prop where
  defers : a.defers = a0.defers
  size : a.tmps.size = a0.tmps.size
  on : ∀ j d, j < n → S j → slotOf ops j = some d → d < a0.tmps.size → a.tmps[d]? = some (val j)
  off : ∀ t, (∀ j, j < n → S j → slotOf ops j ≠ some t) → a.tmps[t]? = a0.tmps[t]?

theorem Agr.congr {n : Nat} {a0 a : Act} {S S' : Nat → Prop} {val val' : Nat → Value} (h : Agr ops n a0 S val a) (hS : ∀ j, j < n → (S j ↔ S' j)) (hv : ∀ j, j < n → S j → val j = val' j) : Agr ops n a0 S' val' a :=
  ⟨h.defers, h.size, fun j d hj hs hd hlt => by rw [h.on j d hj ((hS j hj).2 hs) hd hlt, hv j hj ((hS j hj).2 hs)], fun t ht => h.off t fun j hj hs => ht j hj ((hS j hj).1 hs)⟩

theorem Agr.ext {n : Nat} {a0 a b : Act} {S : Nat → Prop} {val : Nat → Value} (h : Agr ops n a0 S val a) (g : Agr ops n a0 S val b) : a = b := by
  have e1 : a.defers = b.defers := h.defers.trans g.defers.symm
  have e2 : a.tmps = b.tmps := by
    apply Array.ext_getElem?
    intro t
    by_cases ht : ∃ j, j < n ∧ S j ∧ slotOf ops j = some t
    · obtain ⟨j, hj, hs, hd⟩ := ht
      by_cases hlt : t < a0.tmps.size
      · rw [h.on j t hj hs hd hlt, g.on j t hj hs hd hlt]
      · rw [Array.getElem?_eq_none (by rw [h.size]; omega), Array.getElem?_eq_none (by rw [g.size]; omega)]
    · have hn : ∀ j, j < n → S j → slotOf ops j ≠ some t := fun j hj hs hd => ht ⟨j, hj, hs, hd⟩
      rw [h.off t hn, g.off t hn]
  cases a; cases b
  simp only at e1 e2
  rw [e1, e2]

theorem Agr.put {n i : Nat} {a0 a : Act} {S : Nat → Prop} {val : Nat → Value} {d : Tmp} (hdist : ∀ i j, i < n → j < n → i ≠ j → ∀ d, slotOf ops i = some d → slotOf ops j ≠ some d) (h : Agr ops n a0 S val a) (hi : i < n) (hd : slotOf ops i = some d) (v : Value) :
    Agr ops n a0 (fun j => S j ∨ j = i) (fun j => if j = i then v else val j) (a.put (some d) v) := by
  refine ⟨h.defers, by simp [Act.put, h.size], fun j e hj hs he hlt => ?_, fun t ht => ?_⟩
  · by_cases hji : j = i
    · subst hji
      rw [hd] at he
      cases he
      rw [if_pos rfl]
      simp [Act.put, h.size, hlt]
    · rw [if_neg hji]
      have hne : d ≠ e := fun g => hdist i j hi hj (Ne.symm hji) d hd (g ▸ he)
      simp only [Act.put]
      rw [Array.getElem?_setIfInBounds_ne hne]
      exact h.on j e hj (hs.resolve_right hji) he hlt
  · have hne : d ≠ t := fun g => ht i hi (Or.inr rfl) (g ▸ hd)
    simp only [Act.put]
    rw [Array.getElem?_setIfInBounds_ne hne]
    exact h.off t fun j hj hs => ht j hj (Or.inl hs)

theorem exec_same {o : Oper} (hsel : ∀ cs b, o.op ≠ .select cs b) {a a' : Act} (h : ∀ t ∈ o.looksAt ops, a'.tmps[t]? = a.tmps[t]?) : execOp a'.eval o = execOp a.eval o := by
  refine execOp_congr o hsel fun x hx => ?_
  cases x with
  | tmp t =>
    have := h t (List.mem_append_left _ (List.mem_filterMap.2 ⟨.tmp t, by simpa using hx, rfl⟩))
    simp [Act.eval, this]
  | _ => rfl
theorem wanted_same {o : Oper} {a a' : Act} (h : ∀ t ∈ o.looksAt ops, a'.tmps[t]? = a.tmps[t]?) : Region.wanted o (yielded ops a'.tmps) = Region.wanted o (yielded ops a.tmps) := by
  unfold Region.wanted
  cases hg : o.guard with
  | none => rfl
  | some gw =>
    obtain ⟨g, want⟩ := gw
    have hy : yielded ops a'.tmps g = yielded ops a.tmps g := by
      unfold yielded
      cases ht : (ops[g]?).bind (·.dst) with
      | none => rfl
      | some t =>
        have := h t (by simp [Oper.looksAt, hg, ht])
        simp [this]
    simp only [hy]
theorem Fam.same {w0 : World} {o : Oper} {v : Value} {a a' : Act} (hsel : ∀ cs b, o.op ≠ .select cs b) (h : ∀ t ∈ o.looksAt ops, a'.tmps[t]? = a.tmps[t]?) (hf : Fam P ops w0 o v a) : Fam P ops w0 o v a' := by
  unfold Fam Oper.quietAt at *
  rw [exec_same hsel h, wanted_same h]
  exact hf

/-- The operations that are not special, from number k on. -/
def plainOps (ops : Array Oper) (sp : List Nat) : Nat → Nat → List Oper
  | 0, _ => []
  | f + 1, k => if sp.contains k then plainOps ops sp f (k + 1) else match ops[k]? with
    | some o => o :: plainOps ops sp f (k + 1)
    | none => plainOps ops sp f (k + 1)

/-- What is asked of a region: a forced tail behind number n; ahead of it each operation has a slot of its own, waits for operations ahead of it alone, and for those whose slots it looks at; a plain one looks at no special one's. -/
def specB (md : Region.Mode) (ops : Array Oper) (n : Nat) (sp : List Nat) : Bool :=
  Region.noSelect ops && decide (n < ops.size) && Region.sinkB md ops n && Region.chainB md ops n && Region.seqB md ops (ops.size - n) n ((Array.range ops.size).map fun i => decide (i < n)) &&
  sp.all (fun s => decide (s < n)) &&
  (List.range n).all fun i => match ops[i]? with
    | none => false
    | some o => o.dst.isSome && o.after.all (fun e => !Region.binds md e || decide (e.on < i)) && (List.range n).all (fun j => j == i || slotOf ops j != o.dst) &&
      (o.looksAt ops).all (fun t => (List.range n).all fun j => slotOf ops j != some t || (Region.waitsFor md ops i j && decide (j < i) && (sp.contains i || !sp.contains j)))

structure Spec (md : Region.Mode) (ops : Array Oper) (n : Nat) (sp : List Nat) : Prop where
  sel : ∀ (j : Nat) (o : Oper) cs b, ops[j]? = some o → o.op ≠ .select cs b
  lt : n < ops.size
  sink : Region.sinkB md ops n = true
  chain : Region.chainB md ops n = true
  seq : Region.seqB md ops (ops.size - n) n ((Array.range ops.size).map fun i => decide (i < n)) = true
  spl : ∀ s ∈ sp, s < n
  slot : ∀ i o, i < n → ops[i]? = some o → ∃ d, o.dst = some d ∧ slotOf ops i = some d
  ahead : ∀ i o, i < n → ops[i]? = some o → ∀ e ∈ o.after, Region.binds md e = true → e.on < i
  dist : ∀ i j, i < n → j < n → i ≠ j → ∀ d, slotOf ops i = some d → slotOf ops j ≠ some d
  look : ∀ i o, i < n → ops[i]? = some o → ∀ t ∈ o.looksAt ops, ∀ j, j < n → slotOf ops j = some t → Region.waitsFor md ops i j = true ∧ j < i ∧ (i ∈ sp ∨ j ∉ sp)

theorem Spec.of {n : Nat} {sp : List Nat} (h : specB md ops n sp = true) : Spec md ops n sp := by
  simp only [specB, Bool.and_eq_true, decide_eq_true_eq, List.all_eq_true, List.mem_range] at h
  obtain ⟨⟨⟨⟨⟨⟨h1, h2⟩, h3⟩, h4⟩, h5⟩, h6⟩, h7⟩ := h
  have key : ∀ i o, i < n → ops[i]? = some o → _ := fun i o hi ho => by
    have h := h7 i hi
    rw [ho] at h
    simp only [Bool.and_eq_true, List.all_eq_true, List.mem_range, Bool.or_eq_true, beq_iff_eq, bne_iff_ne, ne_eq, decide_eq_true_eq, Bool.not_eq_true', Array.all_eq_true_iff_forall_mem, List.contains_eq_mem, decide_eq_false_iff_not] at h
    exact h
  have sl : ∀ i o, i < n → ops[i]? = some o → ∃ d, o.dst = some d ∧ slotOf ops i = some d := fun i o hi ho => by
    have := (key i o hi ho).1.1.1
    obtain ⟨d, hd⟩ := Option.isSome_iff_exists.1 this
    exact ⟨d, hd, by unfold slotOf; rw [ho]; exact hd⟩
  refine ⟨Region.noSelect_spec h1, h2, h3, h4, h5, h6, sl, fun i o hi ho e he hb => ?_, fun i j hi hj hij d hd he => ?_, fun i o hi ho t ht j hj hs => ?_⟩
  · have := (key i o hi ho).1.1.2 e he
    rcases this with g | g
    · rw [hb] at g; cases g
    · exact g
  · have hlt : i < ops.size := by omega
    have ho := Array.getElem?_eq_getElem hlt
    rcases (key i _ hi ho).1.2 j hj with g | g
    · omega
    · apply g
      rw [he, ← hd]
      unfold slotOf; rw [ho]; rfl
  · rcases (key i o hi ho).2 t ht j hj with g | g
    · exact absurd hs g
    · exact ⟨g.1.1, g.1.2, g.2⟩

theorem fam_plain {w0 : World} {Q : Act → Prop} {n : Nat} {sp : List Nat} {a0 : Act} (H : Spec md ops n sp) : ∀ (f k : Nat) (a : Act) (val : Nat → Value), k + f = n → Agr ops n a0 (fun j => j < k ∧ j ∉ sp) val a → fam P ops w0 Q (plainOps ops sp f k) a →
    ∃ u : Nat → Value, (∀ j, j < k → u j = val j) ∧ (∀ i, k ≤ i → i < n → i ∉ sp → ∀ o, ops[i]? = some o → ∃ a', Agr ops n a0 (fun j => j < i ∧ j ∉ sp) u a' ∧ Fam P ops w0 o (u i) a') ∧ ∃ b, Agr ops n a0 (fun j => j < n ∧ j ∉ sp) u b ∧ Q b := by
  intro f
  induction f with
  | zero =>
    intro k a val hk ha h
    obtain rfl : k = n := by omega
    exact ⟨val, fun _ _ => rfl, fun i h1 h2 => by omega, a, ha, h⟩
  | succ f ih =>
    intro k a val hk ha h
    have hlt : k < ops.size := by have := H.lt; omega
    have ho := Array.getElem?_eq_getElem hlt
    by_cases hs : k ∈ sp
    · simp only [plainOps, List.contains_eq_mem, hs, decide_true, if_true] at h
      obtain ⟨u, h1, h2, h3⟩ := ih (k + 1) a val (by omega) (ha.congr (fun j hj => ⟨fun g => ⟨by omega, g.2⟩, fun g => ⟨by
        rcases Nat.lt_or_ge j k with x | x
        · exact x
        · obtain rfl : j = k := by omega
          exact absurd hs g.2, g.2⟩⟩) fun _ _ _ => rfl) h
      exact ⟨u, fun j hj => h1 j (by omega), fun i g1 g2 g3 => h2 i (by
        rcases Nat.lt_or_ge k i with x | x
        · omega
        · obtain rfl : i = k := by omega
          exact absurd hs g3) g2 g3, h3⟩
    · simp only [plainOps, List.contains_eq_mem, hs, decide_false, Bool.false_eq_true, if_false, ho] at h
      obtain ⟨v, hv, hr⟩ := h
      obtain ⟨d, hd, hsl⟩ := H.slot k _ (by omega) ho
      rw [hd] at hr
      have hp := ha.put H.dist (i := k) (by omega) hsl v
      obtain ⟨u, h1, h2, h3⟩ := ih (k + 1) _ (fun j => if j = k then v else val j) (by omega) (hp.congr (fun j hj => ⟨fun g => g.elim (fun x => ⟨by omega, x.2⟩) (fun x => by rw [x]; exact ⟨by omega, hs⟩), fun g => by
        rcases Nat.lt_or_ge j k with x | x
        · exact Or.inl ⟨x, g.2⟩
        · exact Or.inr (by omega)⟩) fun _ _ _ => rfl) hr
      refine ⟨u, fun j hj => by rw [h1 j (by omega), if_neg (by omega)], fun i g1 g2 g3 o hoo => ?_, h3⟩
      by_cases hik : i = k
      · subst hik
        rw [ho] at hoo
        cases hoo
        exact ⟨a, ha.congr (fun _ _ => Iff.rfl) (fun j hj hj2 => by rw [h1 j (by omega), if_neg (by omega)]), by rw [h1 i (by omega), if_pos rfl]; exact hv⟩
      · exact h2 i (by omega) g2 g3 o hoo

/-- The special operations' values, put in. -/
def putsp (ops : Array Oper) (vs : Nat → Option Value) : List Nat → Act → Act
  | [], a => a
  | s :: sp, a => putsp ops vs sp (match vs s with | some v => a.put (slotOf ops s) v | none => a)

theorem putsp_agr {n : Nat} {a0 : Act} {vs : Nat → Option Value} (hdist : ∀ i j, i < n → j < n → i ≠ j → ∀ d, slotOf ops i = some d → slotOf ops j ≠ some d) (hslot : ∀ i, i < n → ∃ d, slotOf ops i = some d) :
    ∀ (sp : List Nat) (a : Act) (S : Nat → Prop) (val : Nat → Value), (∀ s ∈ sp, s < n) → Agr ops n a0 S val a → Agr ops n a0 (fun j => S j ∨ (j ∈ sp ∧ (vs j).isSome = true)) (fun j => if j ∈ sp ∧ (vs j).isSome = true then (vs j).getD undef else val j) (putsp ops vs sp a) := by
  intro sp
  induction sp with
  | nil => intro a S val _ h; exact h.congr (fun j _ => by simp) (fun j _ _ => by simp)
  | cons s sp ih =>
    intro a S val hlt h
    unfold putsp
    have h2 := ih
    cases hv : vs s with
    | none =>
      refine (ih a S val (fun x hx => hlt x (List.mem_cons_of_mem _ hx)) h).congr (fun j _ => ?_) (fun j _ _ => ?_)
      · by_cases e : j = s
        · subst e; simp [hv]
        · simp [e]
      · by_cases e : j = s
        · subst e; simp [hv]
        · simp [e]
    | some v =>
      obtain ⟨d, hd⟩ := hslot s (hlt s (List.mem_cons_self ..))
      rw [hd]
      refine (ih _ _ _ (fun x hx => hlt x (List.mem_cons_of_mem _ hx)) (h.put hdist (hlt s (List.mem_cons_self ..)) hd v)).congr (fun j _ => ?_) (fun j _ _ => ?_)
      · by_cases e : j = s
        · subst e; simp [hv]
        · simp [e]
      · by_cases e : j = s
        · subst e; simp [hv]
        · simp [e]

/-- A special operation: it yields something, or calls what hands something back. -/
def SpecAt (P : Program) (ops : Array Oper) (o : Oper) (a : Act) (w : World) (K : Value → World → Prop) : Prop :=
  Region.wanted o (yielded ops a.tmps) = true ∧ match (execOp a.eval o).run P w with
    | .ok (.value v) w' => K v w'
    | .ok (.enter f args) w' => Calls P f args w' fun e w'' => ∃ v, e = .returned v ∧ K v w''
    | _ => False

theorem wpOp_of_specAt {i : Nat} {o : Oper} {a : Act} {w : World} {K : Value → World → Prop} {Q : Exit → Act → World → Prop} {K' : Act → World → Prop} (ho : ops[i]? = some o) (h : SpecAt P ops o a w K) (hK : ∀ v w', K v w' → K' (a.put o.dst v) w') : wpOp P ops Q i K' a w := by
  obtain ⟨hw, h⟩ := h
  unfold wpOp
  simp only [ho, hw, if_true]
  refine .inl ?_
  unfold Oper.wp
  generalize (execOp a.eval o).run P w = r at *
  cases r with
  | ok n w' =>
    cases n <;> simp only at h <;> simp only [Oper.upon]
    case value u => exact hK _ _ h
    case enter f args => exact h.mono fun e w'' ⟨v, he, hk⟩ => by subst he; exact hK _ _ hk
  | halt x w' => simp only at h

/-- The run in whatever order. -/
theorem spec_run {n : Nat} {sp : List Nat} {a0 b : Act} {w0 : World} {u : Nat → Value} {Q : Exit → Act → World → Prop} (H : Spec md ops n sp) (I : (Nat → Option Value) → World → Prop)
    (hup : ∀ vs w1 w2, Up w0 w1 → I vs w1 → Below w1.heap.size w1 w2 → I vs w2)
    (hF : ∀ i, i < n → i ∉ sp → ∀ o, ops[i]? = some o → ∃ a', Agr ops n a0 (fun j => j < i ∧ j ∉ sp) u a' ∧ Fam P ops w0 o (u i) a') (hb : Agr ops n a0 (fun j => j < n ∧ j ∉ sp) u b)
    (hS : ∀ s ∈ sp, ∀ o, ops[s]? = some o → ∀ vs w, Up w0 w → I vs w → vs s = none → (∀ j ∈ sp, Region.waitsFor md ops s j = true → (vs j).isSome = true) → SpecAt P ops o (putsp ops vs sp b) w fun v w' => Below w.heap.size w w' ∧ I (fun j => if j = s then some v else vs j) w')
    (hT : ∀ vs w, Up w0 w → I vs w → (∀ s ∈ sp, (vs s).isSome = true) → wpList P ops Q (ops.toList.drop n) (putsp ops vs sp b) w) :
    ∀ (f : Nat) (listed : Array Bool) (a : Act) (w : World) (vs : Nat → Option Value), HeadInv md ops n listed → Agr ops n a0 (fun j => listed.getD j false = true) (fun j => if j ∈ sp then (vs j).getD undef else u j) a → Up w0 w → I vs w →
      (∀ s ∈ sp, (listed.getD s false = true ↔ (vs s).isSome = true)) → ((List.range n).filter fun j => !listed.getD j false).length = f → wpAny P md ops Q (f + (ops.size - n)) listed a w := by
  have hslot : ∀ i, i < n → ∃ d, slotOf ops i = some d := fun i hi => by
    have hlt : i < ops.size := by have := H.lt; omega
    obtain ⟨d, _, h⟩ := H.slot i _ hi (Array.getElem?_eq_getElem hlt)
    exact ⟨d, h⟩
  have hpb := fun vs => putsp_agr (vs := vs) H.dist hslot sp b _ u H.spl hb
  intro f
  induction f with
  | zero =>
    intro listed a w vs inv ha hw hI hon hlen
    rw [Nat.zero_add]
    have hall : ∀ j, j < n → listed.getD j false = true := fun j hj => by
      cases hl : listed.getD j false with
      | true => rfl
      | false =>
        have : j ∈ (List.range n).filter fun j => !listed.getD j false := List.mem_filter.2 ⟨List.mem_range.2 hj, by rw [hl]; rfl⟩
        rw [List.length_eq_zero_iff.1 hlen] at this
        cases this
    have hl : listed = (Array.range ops.size).map fun i => decide (i < n) := by
      apply Array.ext
      · simp [inv.size]
      · intro i h1 h2
        by_cases hi : i < n
        · have := hall i hi
          simp [h1] at this
          simp [hi, this]
        · have := inv.tail i (by omega) (by rw [← inv.size]; exact h1)
          simp [h1] at this
          simp [hi, this]
    have hsome : ∀ s ∈ sp, (vs s).isSome = true := fun s hs => (hon s hs).1 (hall s (H.spl s hs))
    have e : a = putsp ops vs sp b := by
      refine (ha.congr (fun j hj => ⟨fun _ => ?_, fun _ => hall j hj⟩) (fun j hj _ => ?_)).ext (hpb vs)
      · by_cases g : j ∈ sp
        · exact Or.inr ⟨g, hsome j g⟩
        · exact Or.inl ⟨hj, g⟩
      · by_cases g : j ∈ sp
        · rw [if_pos g, if_pos ⟨g, hsome j g⟩]
        · rw [if_neg g, if_neg (fun x => g x.1)]
    have hlen2 : (ops.toList.drop n).length = ops.size - n := by simp
    rw [← hlen2]
    refine wpAny_of_seq (ops.toList.drop n) n listed a w (fun j => by simp [List.getElem?_drop]) (by rw [hlen2, hl]; exact H.seq) ?_
    rw [e]
    exact hT vs w hw hI hsome
  | succ f ih =>
    intro listed a w vs inv ha hw hI hon hlen
    have hex : ∃ i, i < n ∧ listed.getD i true = false := by
      cases hf : (List.range n).filter fun j => !listed.getD j false with
      | nil => rw [hf] at hlen; cases hlen
      | cons x xs =>
        have : x ∈ (List.range n).filter fun j => !listed.getD j false := by rw [hf]; exact List.mem_cons_self ..
        rw [List.mem_filter, List.mem_range] at this
        exact ⟨x, this.1, getD_in (by rw [inv.size]; have := H.lt; omega) (by simpa using this.2)⟩
    have hnot : ∀ j ∈ Region.ready md ops listed, j < n := fun j hj => by
      obtain ⟨i, hi, hun⟩ := hex
      rcases Nat.lt_or_ge j n with h | h
      · exact h
      · exact absurd hj (tail_waits H.sink H.chain H.lt inv _ i rfl hi hun j h)
    have hsome : Region.ready md ops listed ≠ [] := by
      obtain ⟨i, hi, hun⟩ := hex
      induction i using Nat.strongRecOn with
      | _ i ihi =>
        have hlt : i < ops.size := by have := H.lt; omega
        have ho := Array.getElem?_eq_getElem hlt
        by_cases hr : i ∈ Region.ready md ops listed
        · intro e; rw [e] at hr; cases hr
        · have : ∃ e ∈ ops[i].after, Region.binds md e = true ∧ listed.getD e.on false = false := by
            apply Classical.byContradiction
            intro hno
            apply hr
            rw [mem_ready]
            refine ⟨hun, _, ho, fun e he hb' => ?_⟩
            cases hl : listed.getD e.on false with
            | true => rfl
            | false => exact absurd ⟨e, he, hb', hl⟩ hno
          obtain ⟨e, he, hb', hl⟩ := this
          have h1 := H.ahead i _ hi ho e he hb'
          exact ihi e.on h1 (by omega) (getD_in (by rw [inv.size]; omega) hl)
    rw [Nat.succ_add]
    refine ⟨fun e => absurd e hsome, fun i hi => ?_⟩
    have hin := hnot i hi
    obtain ⟨hun, o, ho, hdep⟩ := mem_ready.1 hi
    obtain ⟨d, hd, hsl⟩ := H.slot i o hin ho
    have hwait : ∀ j, Region.waitsFor md ops i j = true → listed.getD j false = true := fun j hj => by
      obtain ⟨o', ho', e, he, hb', hon'⟩ := Region.waitsFor_spec hj
      rw [ho] at ho'
      cases ho'
      rw [← hon']; exact hdep e he hb'
    have hlisted : ∀ j, j ≠ i → (listed.setIfInBounds i true).getD j false = listed.getD j false := fun j hj => getD_set_ne false (Ne.symm hj)
    have hself : (listed.setIfInBounds i true).getD i false = true := by
      have : i < listed.size := by rw [inv.size]; have := H.lt; omega
      simp [this]
    have hcount : ((List.range n).filter fun j => !(listed.setIfInBounds i true).getD j false).length = f := by
      have e : ((List.range n).filter fun j => !(listed.setIfInBounds i true).getD j false) = ((List.range n).filter fun j => !listed.getD j false).erase i := by
        rw [List.Nodup.erase_eq_filter (List.Nodup.sublist List.filter_sublist List.nodup_range), List.filter_filter]
        refine List.filter_congr fun j _ => ?_
        by_cases hj : j = i
        · subst hj; rw [hself]; simp
        · rw [hlisted j hj]; simp [hj]
      have hm : i ∈ (List.range n).filter fun j => !listed.getD j false := List.mem_filter.2 ⟨List.mem_range.2 hin, by rw [getD_both hun]; rfl⟩
      rw [e, List.length_erase_of_mem hm, hlen]; rfl
    have inv' := inv.set hi hin
    by_cases hs : i ∈ sp
    · have hvs : vs i = none := by
        cases hv : vs i with
        | none => rfl
        | some v =>
          have := (hon i hs).2 (by rw [hv]; rfl)
          rw [getD_both hun] at this; cases this
      have hsp := hS i hs o ho vs w hw hI hvs fun j hj hwf => (hon j hj).1 (hwait j hwf)
      have same : ∀ t ∈ o.looksAt ops, (putsp ops vs sp b).tmps[t]? = a.tmps[t]? := fun t ht => by
        by_cases g : ∃ j, j < n ∧ slotOf ops j = some t
        · obtain ⟨j, hj, hjt⟩ := g
          obtain ⟨k1, k2, k3⟩ := H.look i o hin ho t ht j hj hjt
          have hl := hwait j k1
          by_cases hlt : t < a0.tmps.size
          · rw [ha.on j t hj hl hjt hlt]
            by_cases hjs : j ∈ sp
            · have hsm := (hon j hjs).1 hl
              rw [(hpb vs).on j t hj (Or.inr ⟨hjs, hsm⟩) hjt hlt, if_pos hjs, if_pos ⟨hjs, hsm⟩]
            · rw [(hpb vs).on j t hj (Or.inl ⟨hj, hjs⟩) hjt hlt, if_neg hjs, if_neg (fun x => hjs x.1)]
          · rw [Array.getElem?_eq_none (by rw [(hpb vs).size]; exact Nat.le_of_not_lt hlt), Array.getElem?_eq_none (by rw [ha.size]; exact Nat.le_of_not_lt hlt)]
        · have hn : ∀ j, j < n → slotOf ops j ≠ some t := fun j hj e => g ⟨j, hj, e⟩
          rw [(hpb vs).off t fun j hj _ => hn j hj, ha.off t fun j hj _ => hn j hj]
      have hsp' : SpecAt P ops o a w fun v w' => Below w.heap.size w w' ∧ I (fun j => if j = i then some v else vs j) w' := by
        unfold SpecAt at hsp ⊢
        rw [exec_same (fun cs b => H.sel i o cs b ho) same, wanted_same same] at hsp
        exact hsp
      refine wpOp_of_specAt ho hsp' fun v w' ⟨hbw, hI'⟩ => ?_
      rw [hd]
      refine ih _ _ w' (fun j => if j = i then some v else vs j) inv' ((ha.put H.dist hin hsl v).congr (fun j _ => ?_) (fun j _ _ => ?_)) (hw.trans (hbw.mono hw.size)) hI' (fun s hs' => ?_) hcount
      · by_cases e : j = i
        · subst e; simp only [or_true, true_iff]; exact hself
        · rw [hlisted j e]; simp [e]
      · by_cases e : j = i
        · subst e; simp [hs]
        · simp [e]
      · by_cases e : s = i
        · subst e; simp only [if_true, Option.isSome_some, iff_true]; exact hself
        · rw [hlisted s e]; simp only [if_neg e]; exact hon s hs'
    · obtain ⟨a', ha', hf⟩ := hF i hin hs o ho
      have same : ∀ t ∈ o.looksAt ops, a.tmps[t]? = a'.tmps[t]? := fun t ht => by
        by_cases g : ∃ j, j < n ∧ slotOf ops j = some t
        · obtain ⟨j, hj, hjt⟩ := g
          obtain ⟨k1, k2, k3⟩ := H.look i o hin ho t ht j hj hjt
          have hjs : j ∉ sp := k3.resolve_left hs
          by_cases hlt : t < a0.tmps.size
          · rw [ha.on j t hj (hwait j k1) hjt hlt, ha'.on j t hj ⟨k2, hjs⟩ hjt hlt, if_neg hjs]
          · rw [Array.getElem?_eq_none (by rw [ha.size]; exact Nat.le_of_not_lt hlt), Array.getElem?_eq_none (by rw [ha'.size]; exact Nat.le_of_not_lt hlt)]
        · have hn : ∀ j, j < n → slotOf ops j ≠ some t := fun j hj e => g ⟨j, hj, e⟩
          rw [ha.off t fun j hj _ => hn j hj, ha'.off t fun j hj _ => hn j hj]
      have hf' := hf.same (fun cs b => H.sel i o cs b ho) same
      have fin : ∀ w', Below w.heap.size w w' → wpAny P md ops Q (f + (ops.size - n)) (listed.setIfInBounds i true) (a.put o.dst (u i)) w' := fun w' hbw => by
        rw [hd]
        refine ih _ _ w' vs inv' ((ha.put H.dist hin hsl (u i)).congr (fun j _ => ?_) (fun j _ _ => ?_)) (hw.trans (hbw.mono hw.size)) (hup vs w w' hw hI hbw) (fun s hs' => ?_) hcount
        · by_cases e : j = i
          · subst e; simp only [or_true, true_iff]; exact hself
          · rw [hlisted j e]; simp [e]
        · by_cases e : j = i
          · subst e; simp [hs]
          · simp [e]
        · have e : s ≠ i := fun e => hs (e ▸ hs')
          rw [hlisted s e]; exact hon s hs'
      unfold wpOp
      simp only [ho]
      rcases hf' with ⟨h1, h2⟩ | ⟨h1, h2⟩
      · simp only [h1, if_true]
        refine .inl ?_
        have h3 := h2 w hw
        unfold Oper.quietAt at h3
        unfold Oper.wp
        generalize (execOp a.eval o).run P w = r at *
        cases r with
        | ok x w' =>
          cases x <;> simp only [Oper.quietUpon] at h3 <;> simp only [Oper.upon]
          case value v => rw [h3.2, h3.1]; exact fin w (Below.refl _ _)
          case skip => rw [h3.1, ← h3.2]; exact fin w (Below.refl _ _)
          case enter g args =>
            rw [h3.1]
            exact h3.2.mono fun e w'' ⟨he, hw''⟩ => by subst he; exact fin w'' hw''
        | halt x w' => simp only [Oper.quietUpon] at h3
      · simp only [h1, Bool.false_eq_true, if_false]
        rw [← h2]; exact fin w (Below.refl _ _)

/-- The region. -/
theorem wp_region_spec {id : Nat} {Q : Exit → Act → World → Prop} {a : Act} {w : World} {l L : List Oper} (n : Nat) (sp : List Nat) (hm : P.follows .mixedOrders = true) (hB : specB .any l.toArray n sp = true) (hL : plainOps l.toArray sp n 0 = L) (hin : ∀ o ∈ L, NoInit P o)
    (I : (Nat → Option Value) → World → Prop) (hI : I (fun _ => none) w.drew) (hup : ∀ vs w1 w2, Below w.heap.size w w1 → I vs w1 → Below w1.heap.size w1 w2 → I vs w2)
    (h : ∀ (X : Type) (_ : Nonempty X) (N : X → World), (∀ x, Below w.heap.size w (N x)) → (∀ x w', Below (N x).heap.size (N x) w' → ∃ y, w' = N y) → wpQuiet P l.toArray (fun w' => ∃ x, w' = N x) (fun b =>
      (∀ s ∈ sp, ∀ o, l.toArray[s]? = some o → ∀ vs w1, Below w.heap.size w w1 → I vs w1 → vs s = none → (∀ j ∈ sp, Region.waitsFor .any l.toArray s j = true → (vs j).isSome = true) → SpecAt P l.toArray o (putsp l.toArray vs sp b) w1 fun v w' => Below w1.heap.size w1 w' ∧ I (fun j => if j = s then some v else vs j) w') ∧
      (∀ vs w1, Below w.heap.size w w1 → I vs w1 → (∀ s ∈ sp, (vs s).isSome = true) → wpList P l.toArray Q (l.drop n) (putsp l.toArray vs sp b) w1)) L a) : (Code.region id l.toArray true).wp P Q a w := by
  have H := Spec.of hB
  have hu : ∀ w1, Up w.drew w1 ↔ Below w.heap.size w w1 := fun w1 => ⟨fun g => ⟨g.os, g.tape, g.output, g.size, g.block⟩, fun g => ⟨g.os, g.tape, g.output, g.size, g.block⟩⟩
  have h1 := fam_of (P := P) (ops := l.toArray) (w0 := w.drew) L hin a (fun X hX N g1 g2 => h X hX N (fun x => (hu _).1 (g1 x)) g2)
  rw [← hL] at h1
  obtain ⟨u, _, hF, b, hb, hS, hT⟩ := fam_plain (a0 := a) H n 0 a (fun _ => undef) (by omega) ⟨rfl, rfl, fun j d _ hs => absurd hs.1 (by omega), fun _ _ => rfl⟩ h1
  refine wp_region_any hm ?_
  have hsz : l.toArray.size = n + (l.toArray.size - n) := by have := H.lt; omega
  have hfalse : ∀ j : Nat, (Array.replicate l.toArray.size false).getD j false = false := getD_replicate_false _
  have key := spec_run (a0 := a) (w0 := w.drew) H I (fun vs w1 w2 g => hup vs w1 w2 ((hu _).1 g)) (fun i hi => hF i (by omega) hi) hb (fun s hs o ho vs w1 g => hS s hs o ho vs w1 ((hu _).1 g)) (fun vs w1 g g2 g3 => by
    have := hT vs w1 ((hu _).1 g) g2 g3
    simpa using this) n (Array.replicate l.toArray.size false) a w.drew (fun _ => none)
    ⟨by simp, fun j oj _ hl => (by rw [hfalse] at hl; cases hl), fun t _ ht => getD_in (by simpa using ht) (hfalse _)⟩
    ⟨rfl, rfl, fun j d _ hs => (by rw [hfalse] at hs; cases hs), fun _ _ => rfl⟩ (Below.refl _ _) hI (fun s _ => by rw [hfalse]; simp) (by
      have : ((List.range n).filter fun j => !(Array.replicate l.toArray.size false).getD j false) = List.range n := List.filter_eq_self.2 fun j _ => by rw [hfalse]; rfl
      rw [this, List.length_range])
  rw [← hsz] at key
  exact key
end
end Go.Proofs.Ytonidoghcihnnaa
