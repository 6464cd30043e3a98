/- A field of a node of the forest, written. -/
import Derived.Test.YtbkpgbhdfdifoaaP
namespace Go.Proofs.Ytbkpgbhdfdifoaa
open Go.RowKit Go.Proofs.YtbkpgbhdfdifoaaW.PrintWords Go.Proofs.YtbkpgbhdfdifoaaW.PrintLast Go.Proofs.YtbkpgbhdfdifoaaW.PrintMore
set_option linter.unusedVariables false
set_option linter.unusedSimpArgs false

section
variable {B : Nat} {w : World} {p g cap : Nat} {L : List S33} {id : Int}
theorem FV.far (h : FV B w p (.slice (some ⟨g, 0, none⟩) L.length cap) L) {q : Addr} (h1 : q.block ≠ p) (h2 : ¬ B ≤ q.block ∨ w.heap.size ≤ q.block) (u : Value) : True := trivial
theorem FV.store (h : FV B w p (.slice (some ⟨g, 0, none⟩) L.length cap) L) (hid : Th L id) (j : Nat) (u : Value) (x' : S33) (hj : j < 9)
    (hM : ∀ c, c.length = 9 → Kd.FK k33 w (fun k => k ≠ p ∧ k ≠ g) (nd L id) c → Kd.FK k33 w (fun k => k ≠ p ∧ k ≠ g) x' (c.take j ++ [u] ++ c.drop (j + 1))) :
    FV B (w.setCell ⟨g, (id.toNat - 1) * 9 + j, none⟩ u) p (.slice (some ⟨g, 0, none⟩) L.length cap) (setN L id x') ∧ w.grownBy (w.setCell ⟨g, (id.toNat - 1) * 9 + j, none⟩ u) (some g) := by
  obtain ⟨h1, h2⟩ := hid
  obtain ⟨cs, hcl, hK, hcc, hfr⟩ := Kd.N_elem h.2.2 z33 (id - 1) (by omega) (by omega)
  have hP := Kd.N_seg h.2.2 (id - 1) (by omega) (by omega) (seg := [u]) (j := j) hcl hcc (show j + 1 ≤ 9 by omega) (x' := x') (okp := fun k => k ≠ p ∧ k ≠ g) (hM cs hcl hK) (fun _ hk => hk)
  have e : (id - 1).toNat = id.toNat - 1 := by omega
  rw [e] at hP
  obtain ⟨hN, hG⟩ := hP
  have hpg : p ≠ g := fun e => by
    subst e
    exact absurd rfl (h.2.2.1 p (by simp [Value.ownBlock]))
  refine ⟨⟨blk_far h.1 hpg _, h.2.1, ?_⟩, hG⟩
  have hN2 : Kd.N k33 33 (w.setCell ⟨g, (id.toNat - 1) * 9 + j, none⟩ u) B (fun k => k ≠ p) (.slice (some ⟨g, 0, none⟩) L.length cap) (L.set (id.toNat - 1) x') := hN
  exact hN2

theorem cut9 {α : Type} {a0 a1 a2 a3 a4 a5 a6 a7 a8 : α} {c : List α} (h : c = [a0, a1, a2, a3, a4, a5, a6, a7, a8]) : c = [a0, a1, a2, a3, a4, a5, a6, a7, a8] := h

theorem FV.store1 (h : FV B w p (.slice (some ⟨g, 0, none⟩) L.length cap) L) (hid : Th L id) (q : Int) :
    FV B (w.setCell ⟨g, (id.toNat - 1) * 9 + 1, none⟩ (.int .i64 q)) p (.slice (some ⟨g, 0, none⟩) L.length cap) (setN L id { nd L id with f1 := q }) ∧ w.grownBy (w.setCell ⟨g, (id.toNat - 1) * 9 + 1, none⟩ (.int .i64 q)) (some g) := by
  refine h.store hid 1 _ _ (by omega) fun c hc hK => ?_
  obtain ⟨A8, c8, rfl, l8, g8⟩ := k33_openF hK
  exact k33_mkF _ _ { nd L id with f1 := q } l8 g8
theorem FV.store2 (h : FV B w p (.slice (some ⟨g, 0, none⟩) L.length cap) L) (hid : Th L id) (q : Int) :
    FV B (w.setCell ⟨g, (id.toNat - 1) * 9 + 2, none⟩ (.int .i64 q)) p (.slice (some ⟨g, 0, none⟩) L.length cap) (setN L id { nd L id with f2 := q }) ∧ w.grownBy (w.setCell ⟨g, (id.toNat - 1) * 9 + 2, none⟩ (.int .i64 q)) (some g) := by
  refine h.store hid 2 _ _ (by omega) fun c hc hK => ?_
  obtain ⟨A8, c8, rfl, l8, g8⟩ := k33_openF hK
  exact k33_mkF _ _ { nd L id with f2 := q } l8 g8
theorem FV.store3 (h : FV B w p (.slice (some ⟨g, 0, none⟩) L.length cap) L) (hid : Th L id) (q : Int) :
    FV B (w.setCell ⟨g, (id.toNat - 1) * 9 + 3, none⟩ (.int .i64 q)) p (.slice (some ⟨g, 0, none⟩) L.length cap) (setN L id { nd L id with f3 := q }) ∧ w.grownBy (w.setCell ⟨g, (id.toNat - 1) * 9 + 3, none⟩ (.int .i64 q)) (some g) := by
  refine h.store hid 3 _ _ (by omega) fun c hc hK => ?_
  obtain ⟨A8, c8, rfl, l8, g8⟩ := k33_openF hK
  exact k33_mkF _ _ { nd L id with f3 := q } l8 g8
theorem FV.store6 (h : FV B w p (.slice (some ⟨g, 0, none⟩) L.length cap) L) (hid : Th L id) (q : ByteArray) :
    FV B (w.setCell ⟨g, (id.toNat - 1) * 9 + 6, none⟩ (.string q)) p (.slice (some ⟨g, 0, none⟩) L.length cap) (setN L id { nd L id with f6 := q }) ∧ w.grownBy (w.setCell ⟨g, (id.toNat - 1) * 9 + 6, none⟩ (.string q)) (some g) := by
  refine h.store hid 6 _ _ (by omega) fun c hc hK => ?_
  obtain ⟨A8, c8, rfl, l8, g8⟩ := k33_openF hK
  exact k33_mkF _ _ { nd L id with f6 := q } l8 g8
theorem FV.store7 (h : FV B w p (.slice (some ⟨g, 0, none⟩) L.length cap) L) (hid : Th L id) (q : ByteArray) :
    FV B (w.setCell ⟨g, (id.toNat - 1) * 9 + 7, none⟩ (.string q)) p (.slice (some ⟨g, 0, none⟩) L.length cap) (setN L id { nd L id with f7 := q }) ∧ w.grownBy (w.setCell ⟨g, (id.toNat - 1) * 9 + 7, none⟩ (.string q)) (some g) := by
  refine h.store hid 7 _ _ (by omega) fun c hc hK => ?_
  obtain ⟨A8, c8, rfl, l8, g8⟩ := k33_openF hK
  exact k33_mkF _ _ { nd L id with f7 := q } l8 g8
theorem FV.store8 (h : FV B w p (.slice (some ⟨g, 0, none⟩) L.length cap) L) (hid : Th L id) (A : Option Addr) (c : Nat) (l : List Int) (hl : l.length ≤ c) (hF : Kd.F (Kd.int .i64) w (fun k => k ≠ p ∧ k ≠ g) A l.length l) :
    FV B (w.setCell ⟨g, (id.toNat - 1) * 9 + 8, none⟩ (.slice A l.length c)) p (.slice (some ⟨g, 0, none⟩) L.length cap) (setN L id { nd L id with f8 := l }) ∧ w.grownBy (w.setCell ⟨g, (id.toNat - 1) * 9 + 8, none⟩ (.slice A l.length c)) (some g) := by
  refine h.store hid 8 _ _ (by omega) fun c' hc hK => ?_
  obtain ⟨A8, c8, rfl, l8, g8⟩ := k33_openF hK
  exact k33_mkF _ _ { nd L id with f8 := l } hl hF
end
end Go.Proofs.Ytbkpgbhdfdifoaa
