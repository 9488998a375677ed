/- A tape that comes in: what its cells hold. -/
import Derived.Test.YtonidoghcihnnaaTapeB
import Derived.ProofKit
import Derived.Deep.Slices
import Derived.Lib.SmallJoins
namespace Go.Proofs.Ytonidoghcihnnaa
open Go.ChangeShapes Go.WideShapes Go.ChangeAt Go.RowKit Go.Deep Go.Joins
set_option maxRecDepth 100000
set_option maxHeartbeats 1000000
section
variable {H : Type} {enc : TypeId × Value → H} {P : Program} {w : World} {base : Nat} {spare : Nat → Bool} {held : Bool}

/-- A float's reading. -/
theorem trod_float' {t : TypeId} {fuel : Nat} {v : Value} {x : DataW H × List MemPlace} (ht : P.underlying t = some (.float .f64)) (h : DataW.trod enc P w base spare held fuel t [v] = some x) :
    ∃ b, v = .float .f64 b ∧ x = (.lit (.float .f64 b), []) ∧ (Lit.float .f64 b).wf = true ∧ word b := by
  cases fuel with
  | zero => simp [DataW.trod] at h
  | succ n =>
    unfold DataW.trod at h
    rw [ht] at h
    cases v <;> simp at h
    obtain ⟨⟨h1, h2⟩, h3⟩ := h
    subst h1
    refine ⟨_, rfl, h3.symm, h2, ?_⟩
    simp only [Lit.wf, decide_eq_true_eq] at h2
    unfold word SGN
    omega

end

/-- The operations that a slice leads to. -/
theorem open_ops {H : Type} {enc : TypeId × Value → H} {w : World} {spare : Nat → Bool} {held : Bool} {fuel : Nat} {v : Value} {x : DataW H × List MemPlace} {T : TypeId} (hT : Try.prog.underlying T = some (.slice 45))
    (h : DataW.trod enc Try.prog w 0 spare held fuel T [v] = some x) :
    ∃ (oa : Option Addr) (len cap b off : Nat) (K A B N : Nat → Int) (L G : Nat → Nat), v = .slice oa len cap ∧ len ≤ maxLen ∧ (0 < len → oa = some ⟨b, off, none⟩) ∧ OpsAt w b off len K A B N L G ∧ ∀ i, i < len → word (L i) ∧ word (G i) := by
  rcases open_slice hT h with ⟨hcs, _⟩ | ⟨a, len, cap, m, n, D, Pl, hcs, hb, hl, hm, hmm, hx, hi⟩
  · simp at hcs
    exact ⟨none, 0, 0, 0, 0, fun _ => 0, fun _ => 0, fun _ => 0, fun _ => 0, fun _ => 0, fun _ => 0, hcs, by omega, fun h => absurd h (by omega), fun i hi => absurd hi (by omega), fun i hi => absurd hi (by omega)⟩
  · simp at hcs
    obtain ⟨b, off, spot⟩ := a
    have hC : Try.prog.cellsOf 45 = 6 := by kernel_rfl
    have hC2 : Try.prog.cellsOf 35 = 2 := by kernel_rfl
    have hC1 : Try.prog.cellsOf 3 = 1 := by kernel_rfl
    have hC0 : Try.prog.cellsOf 33 = 1 := by kernel_rfl
    rw [hC] at hi
    have hlm : len ≤ m := by rw [hmm]; split <;> omega
    have key : ∀ i, ∃ t : Int × Int × Int × Int × Nat × Nat, i < len → spot = none ∧ w.cell? ⟨b, off + i * 6, none⟩ = some (.int .i64 t.1) ∧ w.cell? ⟨b, off + i * 6 + 1, none⟩ = some (.int .i64 t.2.1) ∧ w.cell? ⟨b, off + i * 6 + 2, none⟩ = some (.int .i64 t.2.2.1) ∧
        w.cell? ⟨b, off + i * 6 + 3, none⟩ = some (.int .i64 t.2.2.2.1) ∧ w.cell? ⟨b, off + i * 6 + 4, none⟩ = some (.float .f64 t.2.2.2.2.1) ∧ w.cell? ⟨b, off + i * 6 + 5, none⟩ = some (.float .f64 t.2.2.2.2.2) ∧ word t.2.2.2.2.1 ∧ word t.2.2.2.2.2 := by
      intro i
      by_cases hil : i < len
      · obtain ⟨cs', hc, ht'⟩ := hi i (by omega)
        obtain ⟨_, hcl, hat⟩ := World.cells?_some hc
        obtain ⟨ys, n', hn', hy, hlen, hyl, hf⟩ := DataW.trod_struct Try.underlying45 ht'
        match cs', hcl with
        | [c0, c1, c2, c3, c4, c5], _ =>
          have f0 := hf 0 _ rfl
          have f1 := hf 1 _ rfl
          have f2 := hf 2 _ rfl
          have f3 := hf 3 _ rfl
          have f4 := hf 4 _ rfl
          match ys, hyl with
          | [y0, y1, y2, y3, y4], _ =>
            simp [hC1, hC2] at f0 f1 f2 f3 f4
            obtain ⟨n0, e0, _, _⟩ := DataW.trod_int Try.underlying3 f0
            obtain ⟨n1, e1, _, _⟩ := DataW.trod_int Try.underlying3 f1
            obtain ⟨n2, e2, _, _⟩ := DataW.trod_int Try.underlying3 f2
            obtain ⟨n3, e3, _, _⟩ := DataW.trod_int Try.underlying3 f3
            obtain ⟨z0, z1, _, _, _, g0, g1⟩ := trod_struct2 Try.underlying35 f4
            simp [hC0] at g0 g1
            obtain ⟨b0, e4, _, _, w0⟩ := trod_float' Try.underlying33 g0
            obtain ⟨b1, e5, _, _, w1⟩ := trod_float' Try.underlying33 g1
            simp at e0 e1 e2 e3
            subst e0 e1 e2 e3 e4 e5
            have a0 := hat 0 (by omega)
            have hs : spot = none := by
              have := hi 0 (by omega)
              obtain ⟨cs0, hc0, _⟩ := this
              obtain ⟨_, hcl0, hat0⟩ := World.cells?_some hc0
              have h0 := hat0 0 (by omega)
              match cs0, hcl0 with
              | c :: _, _ =>
                simp only [List.getElem?_cons_zero] at h0
                simpa [Addr.add] using World.cell?_spot h0
            subst hs
            have ad : ∀ j, (Addr.add (Addr.add ⟨b, off, none⟩ (i * 6)) j) = ⟨b, off + i * 6 + j, none⟩ := fun j => by
              rw [add_add]; unfold Addr.add
              by_cases hz : i * 6 + j = 0
              · simp [hz]; omega
              · first | (rw [if_neg hz, Nat.add_assoc]; done) | simp [hz, Nat.add_assoc]
            have q : ∀ j, j < 6 → w.cell? ⟨b, off + i * 6 + j, none⟩ = _ := fun j hj => (ad j) ▸ hat j hj
            exact ⟨(n0, n1, n2, n3, b0, b1), fun _ => ⟨rfl, q 0 (by omega), q 1 (by omega), q 2 (by omega), q 3 (by omega), q 4 (by omega), q 5 (by omega), w0, w1⟩⟩
      · exact ⟨(0, 0, 0, 0, 0, 0), fun h => absurd h hil⟩
    obtain ⟨f, hf⟩ := Classical.axiomOfChoice key
    exact ⟨_, len, cap, b, off, fun i => (f i).1, fun i => (f i).2.1, fun i => (f i).2.2.1, fun i => (f i).2.2.2.1, fun i => (f i).2.2.2.2.1, fun i => (f i).2.2.2.2.2, hcs, by omega, fun h => by rw [(hf 0 h).1],
      fun i hi => ⟨(hf i hi).2.1, (hf i hi).2.2.1, (hf i hi).2.2.2.1, (hf i hi).2.2.2.2.1, (hf i hi).2.2.2.2.2.1, (hf i hi).2.2.2.2.2.2.1⟩, fun i hi => (hf i hi).2.2.2.2.2.2.2⟩

/-- The numbers that a slice leads to. -/
theorem open_nums {H : Type} {enc : TypeId × Value → H} {w : World} {spare : Nat → Bool} {held : Bool} {fuel : Nat} {v : Value} {x : DataW H × List MemPlace} {T : TypeId} (hT : Try.prog.underlying T = some (.slice 3))
    (h : DataW.trod enc Try.prog w 0 spare held fuel T [v] = some x) :
    ∃ (oa : Option Addr) (len cap b off : Nat) (O : Nat → Int), v = .slice oa len cap ∧ len ≤ maxLen ∧ (0 < len → oa = some ⟨b, off, none⟩) ∧ ∀ i, i < len → w.cell? ⟨b, off + i, none⟩ = some (.int .i64 (O i)) := by
  rcases open_ints hT Try.underlying3 (by kernel_rfl) h with ⟨hcs, _⟩ | ⟨a, len, cap, zs, hcs, _, hl, hm, hz, hx, hcell, hwz⟩
  · simp at hcs
    exact ⟨none, 0, 0, 0, 0, fun _ => 0, hcs, by omega, fun h => absurd h (by omega), fun i hi => absurd hi (by omega)⟩
  · simp at hcs
    obtain ⟨b, off, spot⟩ := a
    have hle : len ≤ zs.length := by rw [hz]; split <;> omega
    have hs : 0 < len → spot = none := fun h => by
      have := hcell 0 (by omega)
      simpa [Addr.add] using World.cell?_spot this
    refine ⟨_, len, cap, b, off, fun i => zs.getD i 0, hcs, by omega, fun h => by rw [hs h], fun i hi => ?_⟩
    have e := hs (by omega)
    subst e
    have := hcell i (by omega)
    have ad : Addr.add ⟨b, off, none⟩ i = ⟨b, off + i, none⟩ := by
      unfold Addr.add
      by_cases hz : i = 0
      · simp [hz]
      · simp [hz]
    rwa [ad] at this

end Go.Proofs.Ytonidoghcihnnaa
