/- The walk of tape.Right. -/
import Derived.Test.YtonidoghcihnnaaTapeA
import Derived.Deep.LoopGhost
import Derived.Lib.SliceRun
namespace Go.Proofs.Ytonidoghcihnnaa
open Go.RowKit
set_option maxRecDepth 100000
set_option maxHeartbeats 1000000
set_option linter.unusedSimpArgs false
set_option linter.unusedVariables false

/-- All of the first n. -/
def allB (n : Nat) (f : Nat → Bool) : Bool := (List.range n).all f
theorem allB_iff (n : Nat) (f : Nat → Bool) : allB n f = true ↔ ∀ i, i < n → f i = true := by unfold allB; simp [List.all_eq_true]
theorem allB_no {n i : Nat} {f : Nat → Bool} (hi : i < n) (h : f i = false) : allB n f = false := by
  rw [← Bool.not_eq_true, allB_iff]
  intro ha
  rw [ha i hi] at h
  cases h

/-- Operations in memory. -/
def OpsAt (w : World) (b off len : Nat) (K A B N : Nat → Int) (L H : Nat → Nat) : Prop :=
  ∀ i, i < len → w.cell? ⟨b, off + i * 6, none⟩ = some (.int .i64 (K i)) ∧ w.cell? ⟨b, off + i * 6 + 1, none⟩ = some (.int .i64 (A i)) ∧ w.cell? ⟨b, off + i * 6 + 2, none⟩ = some (.int .i64 (B i)) ∧
    w.cell? ⟨b, off + i * 6 + 3, none⟩ = some (.int .i64 (N i)) ∧ w.cell? ⟨b, off + i * 6 + 4, none⟩ = some (.float .f64 (L i)) ∧ w.cell? ⟨b, off + i * 6 + 5, none⟩ = some (.float .f64 (H i))
theorem OpsAt.mono {w w' : World} {b off len : Nat} {K A B N : Nat → Int} {L H : Nat → Nat} (h : OpsAt w b off len K A B N L H) (hb : Below w.heap.size w w') : OpsAt w' b off len K A B N L H := by
  intro i hi
  obtain ⟨h0, h1, h2, h3, h4, h5⟩ := h i hi
  exact ⟨below_cell hb h0, below_cell hb h1, below_cell hb h2, below_cell hb h3, below_cell hb h4, below_cell hb h5⟩

/-- tape.Right's closure. -/
theorem outBad_yes (n : Int) (c : Nat) (w : World) (h : n < 0) :
    Calls Try.prog 45 #[.int .i64 n, .pointer (some ⟨c, 0, none⟩)] w fun e w' => e = .returned (.bool true) ∧ w' = w := by
  go_enter Try.func45, Try.ntmps45
  go_wp2
  go_ret
  exact ⟨rfl, rfl⟩
theorem outBad_no (n : Int) (c len cap : Nat) (oa : Option Addr) (w : World) (h : ¬ n < 0) (hc : w.cell? ⟨c, 1, none⟩ = some (.slice oa len cap)) :
    Calls Try.prog 45 #[.int .i64 n, .pointer (some ⟨c, 0, none⟩)] w fun e w' => e = .returned (.bool (decide ((len : Int) ≤ n))) ∧ w' = w := by
  go_enter Try.func45, Try.ntmps45
  go_wp2
  go_ret
  exact ⟨rfl, rfl⟩

/-- May a number be one of Outs? -/
def okOut (len : Nat) (n : Int) : Bool := decide (0 ≤ n) && decide (n < len)
theorem outBad_any (n : Int) (c len cap : Nat) (oa : Option Addr) (w : World) (hc : w.cell? ⟨c, 1, none⟩ = some (.slice oa len cap)) :
    Calls Try.prog 45 #[.int .i64 n, .pointer (some ⟨c, 0, none⟩)] w fun e w' => e = .returned (.bool (!okOut len n)) ∧ w' = w := by
  by_cases h : n < 0
  · rw [show (!okOut len n) = true by unfold okOut; simp; omega]
    exact outBad_yes n c w h
  · rw [show (!okOut len n) = decide ((len : Int) ≤ n) by unfold okOut; rw [Bool.eq_iff_iff]; simp; omega]
    exact outBad_no n c len cap oa w h hc

theorem indexOuts (ob : Option Addr) (b off m cap2 c len cap : Nat) (oa : Option Addr) (O : Nat → Int) (w : World) (hm : m ≤ 9223372036854775807)
    (hob : 0 < m → ob = some ⟨b, off, none⟩) (ho : ∀ j, j < m → w.cell? ⟨b, off + j, none⟩ = some (.int .i64 (O j))) (hc : w.cell? ⟨c, 1, none⟩ = some (.slice oa len cap)) :
    Calls Try.prog 84 #[.slice ob m cap2, .func (.func 45) #[] #[.pointer (some ⟨c, 0, none⟩)]] w fun e w' => (∃ r : Int, e = .returned (.int .i64 r) ∧ decide (0 ≤ r) = !allB m fun j => okOut len (O j)) ∧ w' = w := by
  have hob' := Lib.hid hob
  have ho' := Lib.hid ho
  have hc' := Lib.hid hc
  clear hob ho hc
  go_enter Try.func84, Try.ntmps84
  go_wp2_with fail
  go_loopg [8] m (fun g i wr => wr = w ∧ ∃ k : Nat, k ≤ m ∧ g = m - k ∧ i = .int .i64 k ∧ Hid (∀ j, j < k → okOut len (O j) = true))
  case atStart => exact ⟨rfl, 0, Nat.zero_le _, rfl, rfl, fun j hj => absurd hj (by omega)⟩
  case round =>
    obtain ⟨hwr, k, hk, hg, rfl, hall⟩ := hrel
    subst hwr
    by_cases hlt : k < m
    · have e := hob'.out (by omega)
      subst e
      have d := ho'.out k hlt
      have hlt' : (k : Int) < (m : Int) := by omega
      cases hd : okOut len (O k)
      · have hl := Lib.hid hd
        clear hd
        go_wp2_with (go_at_call 45; refine (outBad_any _ _ _ _ _ _ hc'.out).mono ?_; rintro e w1 ⟨rfl, hw⟩; subst hw; rw [hl.out])
        go_ret
        exact ⟨⟨_, rfl, by rw [allB_no hlt hl.out]; simp⟩, rfl⟩
      · have hl := Lib.hid hd
        clear hd
        go_wp2_with (go_at_call 45; refine (outBad_any _ _ _ _ _ _ hc'.out).mono ?_; rintro e w1 ⟨rfl, hw⟩; subst hw; rw [hl.out])
        go_roundg (m - (k + 1))
        case measure => omega
        case rel =>
          refine ⟨rfl, k + 1, by omega, rfl, by go_num, fun j hj => ?_⟩
          by_cases hjk : j = k
          · rw [hjk]; exact hl.out
          · exact hall.out j (by omega)
    · have hlt' : ¬ (k : Int) < (m : Int) := by omega
      go_wp2_with fail
      go_ret
      have hkm : k = m := by omega
      subst hkm
      exact ⟨⟨_, rfl, by rw [(allB_iff _ _).2 hall.out]; rfl⟩, rfl⟩

theorem containsOuts (ob : Option Addr) (b off m cap2 c len cap : Nat) (oa : Option Addr) (O : Nat → Int) (w : World) (hm : m ≤ 9223372036854775807)
    (hob : 0 < m → ob = some ⟨b, off, none⟩) (ho : ∀ j, j < m → w.cell? ⟨b, off + j, none⟩ = some (.int .i64 (O j))) (hc : w.cell? ⟨c, 1, none⟩ = some (.slice oa len cap)) :
    Calls Try.prog 44 #[.slice ob m cap2, .func (.func 45) #[] #[.pointer (some ⟨c, 0, none⟩)]] w fun e w' => e = .returned (.bool (!allB m fun j => okOut len (O j))) ∧ w' = w := by
  have H := Lib.hid (indexOuts ob b off m cap2 c len cap oa O w hm hob ho hc)
  clear hob ho hc
  generalize hr : (!allB m fun j => okOut len (O j)) = r at H ⊢
  clear hr
  go_enter Try.func44, Try.ntmps44
  go_wp2_with (go_at_call 84; refine H.out.mono ?_; rintro e w1 ⟨⟨n, rfl, hn⟩, hw⟩; subst hw)
  go_ret
  exact ⟨by first | rfl | simp_all, rfl⟩

theorem tright_head (V : Int) (oa ob : Option Addr) (len cap m cap2 : Nat) (w : World) (h : V < 0 ∨ 64 < V ∨ (4000 : Int) < len ∨ (400 : Int) < m) :
    Calls Try.prog 10 #[.agg #[.int .i64 V, .slice oa len cap, .slice ob m cap2]] w fun e w' => e = .returned (.int .i64 50) ∧ Below w.heap.size w w' := by
  by_cases h0 : V < 0
  · go_enter Try.func10, Try.ntmps10
    go_wp2
    go_ret
    exact ⟨rfl, (by repeat (first | exact Below.refl _ _ | assumption | refine Below.alloc ?_ (by first | omega | (simp; done) | (simp; omega)) _ | refine Below.setCell ?_ (by first | omega | (simp; done) | (simp; omega)) _ | refine Below.drew ?_))⟩
  by_cases h1 : 64 < V
  · go_enter Try.func10, Try.ntmps10
    go_wp2
    go_ret
    exact ⟨rfl, (by repeat (first | exact Below.refl _ _ | assumption | refine Below.alloc ?_ (by first | omega | (simp; done) | (simp; omega)) _ | refine Below.setCell ?_ (by first | omega | (simp; done) | (simp; omega)) _ | refine Below.drew ?_))⟩
  by_cases h2 : (4000 : Int) < len
  · go_enter Try.func10, Try.ntmps10
    go_wp2
    go_ret
    exact ⟨rfl, (by repeat (first | exact Below.refl _ _ | assumption | refine Below.alloc ?_ (by first | omega | (simp; done) | (simp; omega)) _ | refine Below.setCell ?_ (by first | omega | (simp; done) | (simp; omega)) _ | refine Below.drew ?_))⟩
  have h3 : (400 : Int) < m := by omega
  go_enter Try.func10, Try.ntmps10
  go_wp2
  go_ret
  exact ⟨rfl, (by repeat (first | exact Below.refl _ _ | assumption | refine Below.alloc ?_ (by first | omega | (simp; done) | (simp; omega)) _ | refine Below.setCell ?_ (by first | omega | (simp; done) | (simp; omega)) _ | refine Below.drew ?_))⟩

theorem tright_loop (V : Int) (oa ob : Option Addr) (b off len cap m cap2 bo offo : Nat) (K A B N : Nat → Int) (L H : Nat → Nat) (O : Nat → Int) (w : World) (h0 : ¬ V < 0) (h1 : ¬ 64 < V) (h2 : ¬ (4000 : Int) < len) (h3 : ¬ (400 : Int) < m)
    (hoa : 0 < len → oa = some ⟨b, off, none⟩) (hops : OpsAt w b off len K A B N L H) (hob : 0 < m → ob = some ⟨bo, offo, none⟩) (ho : ∀ j, j < m → w.cell? ⟨bo, offo + j, none⟩ = some (.int .i64 (O j)))
    (r : Int) (hr : (if (allB len fun i => okOp (K i) (A i) (B i) (N i) (L i) (H i) i V) && allB m fun j => okOut len (O j) then 0 else 50) = r) :
    Calls Try.prog 10 #[.agg #[.int .i64 V, .slice oa len cap, .slice ob m cap2]] w fun e w' => e = .returned (.int .i64 r) ∧ Below w.heap.size w w' := by
  have hoa' := Lib.hid hoa
  have hops' := Lib.hid hops
  have hob' := Lib.hid hob
  have ho' := Lib.hid ho
  have hr' := Lib.hid hr
  clear hoa hops hob ho hr
  go_enter Try.func10, Try.ntmps10
  go_wp2_with fail
  go_loopg [28] len (fun g i wr => ∃ k : Nat, k ≤ len ∧ g = len - k ∧ i = .int .i64 k ∧ Hid (Below w.heap.size w wr) ∧ Hid (w.heap.size < wr.heap.size) ∧ wr.cell? ⟨w.heap.size, 0, none⟩ = some (.int .i64 V) ∧ wr.cell? ⟨w.heap.size, 1, none⟩ = some (.slice oa len cap) ∧ wr.cell? ⟨w.heap.size, 2, none⟩ = some (.slice ob m cap2) ∧
    Hid (∀ j, j < k → okOp (K j) (A j) (B j) (N j) (L j) (H j) j V = true))
  case atStart => exact ⟨0, Nat.zero_le _, rfl, rfl, (by repeat (first | exact Below.refl _ _ | assumption | refine Below.alloc ?_ (by first | omega | (simp; done) | (simp; omega)) _ | refine Below.setCell ?_ (by first | omega | (simp; done) | (simp; omega)) _ | refine Below.drew ?_)), by show w.heap.size < _; simp, by simp, by simp, by simp, fun j hj => absurd hj (by omega)⟩
  case round =>
    obtain ⟨k, hk, hg, rfl, hb, hs, c0, c1, c2, hall⟩ := hrel
    by_cases hlt : k < len
    · have e := hoa'.out (by omega)
      subst e
      obtain ⟨d0, d1, d2, d3, d4, d5⟩ := (hops'.out.mono hb.out) k hlt
      have hlt' : (k : Int) < (len : Int) := by omega
      have hbw : w.heap.size ≠ wr.heap.size := by have := hs.out; omega
      have a0 : ∀ o, (wr.alloc o).cell? ⟨w.heap.size, 0, none⟩ = some (.int .i64 V) := fun o => Lib.cell?_alloc_some _ c0
      have a1 : ∀ o, (wr.alloc o).cell? ⟨w.heap.size, 1, none⟩ = some (.slice (some ⟨b, off, none⟩) len cap) := fun o => Lib.cell?_alloc_some _ c1
      have a2 : ∀ o, (wr.alloc o).cell? ⟨w.heap.size, 2, none⟩ = some (.slice ob m cap2) := fun o => Lib.cell?_alloc_some _ c2
      have hwa : Hid (∀ o, Below w.heap.size w (wr.alloc o)) := fun o => hb.out.alloc (Nat.le_of_lt hs.out) _
      have R : Hid _ := Lib.hid (opright_any (K k) (A k) (B k) (N k) k V (L k) (H k))
      clear hbw
      cases hd : okOp (K k) (A k) (B k) (N k) (L k) (H k) k V
      · have hl := Lib.hid hd
        clear hd
        go_wp2_with (go_at_call 43; refine (R.out _).mono ?_; rintro e w1 ⟨rfl, hb1⟩; rw [hl.out])
        have hw1 : Below w.heap.size w w1 := (hwa.out _).trans (hb1.mono (by have := hs.out; simp; omega))
        go_ret
        exact ⟨by rw [← hr'.out, allB_no hlt hl.out]; rfl, hw1⟩
      · have hl := Lib.hid hd
        clear hd
        go_wp2_with (go_at_call 43; refine (R.out _).mono ?_; rintro e w1 ⟨rfl, hb1⟩; rw [hl.out])
        go_roundg (len - (k + 1))
        case measure => omega
        case rel =>
          refine ⟨k + 1, by omega, rfl, by go_num, (hwa.out _).trans (hb1.mono (by have := hs.out; simp; omega)), ?_, below_cell hb1 (a0 _), below_cell hb1 (a1 _), below_cell hb1 (a2 _), fun j hj => ?_⟩
          · have h1 := hb1.size; have h2 := hs.out; simp at h1; show w.heap.size < _; omega
          · by_cases hjk : j = k
            · rw [hjk]; exact hl.out
            · exact hall.out j (by omega)
    · have hlt' : ¬ (k : Int) < (len : Int) := by omega
      have hkm : k = len := by omega
      have hk' := Lib.hid hkm
      clear hkm
      have Cc := Lib.hid (containsOuts ob bo offo m cap2 w.heap.size len cap oa O wr (by omega) hob'.out (fun j hj => below_cell hb.out (ho'.out j hj)) c1)
      have hall2 : Hid ((allB len fun i => okOp (K i) (A i) (B i) (N i) (L i) (H i) i V) = true) := (allB_iff _ _).2 (hk'.out ▸ hall.out)
      cases hd : allB m fun j => okOut len (O j)
      · have hl := Lib.hid hd
        clear hd
        go_wp2_with (go_at_call 44; refine Cc.out.mono ?_; rintro e w1 ⟨rfl, hw⟩; subst hw; rw [hl.out])
        go_ret
        exact ⟨by rw [← hr'.out, hall2.out, hl.out]; rfl, hb.out⟩
      · have hl := Lib.hid hd
        clear hd
        go_wp2_with (go_at_call 44; refine Cc.out.mono ?_; rintro e w1 ⟨rfl, hw⟩; subst hw; rw [hl.out])
        go_ret
        exact ⟨by rw [← hr'.out, hall2.out, hl.out]; rfl, hb.out⟩

end Go.Proofs.Ytonidoghcihnnaa
