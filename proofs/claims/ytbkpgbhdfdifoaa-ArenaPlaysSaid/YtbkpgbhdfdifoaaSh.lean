/- What is told may be written over: the shape of told lists, kept through any store into them. -/
import Derived.Test.YtbkpgbhdfdifoaaOpn
namespace Go.Proofs.Ytbkpgbhdfdifoaa
open Go.RowKit Go.Proofs.YtbkpgbhdfdifoaaW.PrintWords Go.Proofs.YtbkpgbhdfdifoaaW.PrintLast Go.Proofs.YtbkpgbhdfdifoaaW.PrintMore
set_option linter.unusedVariables false
set_option linter.unusedSimpArgs false

/-- A row of m ints, from block B on, not in block x. -/
def KRow (B : Nat) (w : World) (x : Nat) (A : Option Addr) (m : Nat) : Prop := 0 < m → ∃ b ks, A = some ⟨b, 0, none⟩ ∧ B ≤ b ∧ b ≠ x ∧ w.heap[b]? = some (.cells ks 3 (0, 0)) ∧ m ≤ ks.size
theorem KRow.of_R {B : Nat} {w : World} {x : Nat} {A : Option Addr} {m c : Nat} {ok : Nat → Prop} {l : List Int} (h : Kd.R (Kd.int .i64) 3 w B ok (.slice A m c) l) (hl : l.length = m) (hok : ∀ k, ok k → k ≠ x) : KRow B w x A m := by
  intro hm
  subst hl
  obtain ⟨b, cap, he, hb, _, ks, hks⟩ := Kd.R_form h hm
  have hA : A = some ⟨b, 0, none⟩ := by injection he
  subst hA
  refine ⟨b, ks, rfl, hb, hok b (h.1 b (by simp [Value.ownBlock])), hks, ?_⟩
  obtain ⟨A', c', he', _, hC⟩ := Kd.R_reads h
  injection he' with e1 _ e2
  subst e1
  obtain ⟨ad, ea, hc⟩ := int_at hC (show l.length - 1 < l.length by omega)
  injection ea with ea
  subst ea
  rw [add_at, Nat.zero_add, blk_cell hks] at hc
  have := (Array.getElem?_eq_some_iff.1 hc).1
  omega
theorem KRow.below {B : Nat} {w w' : World} {x : Nat} {A : Option Addr} {m : Nat} (h : KRow B w x A m) (hb : Below w.heap.size w w') : KRow B w' x A m := fun hm => by
  obtain ⟨b, ks, h1, h2, h3, h4, h5⟩ := h hm
  exact ⟨b, ks, h1, h2, h3, blk_below h4 hb (blk_lt' h4), h5⟩
theorem KRow.set {B : Nat} {w : World} {x : Nat} {A : Option Addr} {m : Nat} (h : KRow B w x A m) (g o : Nat) (u : Value) : KRow B (w.setCell ⟨g, o, none⟩ u) x A m := fun hm => by
  obtain ⟨b, ks, h1, h2, h3, h4, h5⟩ := h hm
  by_cases e : b = g
  · subst e
    exact ⟨b, _, h1, h2, h3, blk_set h4 o u, by simpa using h5⟩
  · exact ⟨b, ks, h1, h2, h3, blk_far h4 (p := ⟨g, o, none⟩) e u, h5⟩
theorem KRow.mono {B B' : Nat} {w : World} {x : Nat} {A : Option Addr} {m : Nat} (h : KRow B w x A m) (hB : B' ≤ B) : KRow B' w x A m := fun hm => by
  obtain ⟨b, ks, h1, h2, h3, h4, h5⟩ := h hm
  exact ⟨b, ks, h1, Nat.le_trans hB h2, h3, h4, h5⟩

/-- Nodes that were told, in block g: each with its row of children. -/
def ShapeA (B : Nat) (w : World) (g : Nat) (L : List S33) : Prop :=
  B ≤ g ∧ ∃ cs, w.heap[g]? = some (.cells cs 33 (0, 0)) ∧ ∀ i, i < L.length → (∃ u, cs[i * 9]? = some u) ∧ ∃ A c, cs[i * 9 + 8]? = some (.slice A (nd L ((i : Int) + 1)).f8.length c) ∧ KRow B w g A (nd L ((i : Int) + 1)).f8.length
theorem ShapeA.of_R {B : Nat} {w : World} {g n c : Nat} {L : List S33} (h : Kd.R k33 33 w B (fun k => B ≤ k) (.slice (some ⟨g, 0, none⟩) n c) L) (hl : L.length = n) : ShapeA B w g L := by
  subst hl
  obtain ⟨cs, hcs⟩ := Kd.R_typed h g (by simp [Value.ownBlock])
  refine ⟨h.1 g (by simp [Value.ownBlock]), cs, hcs, fun i hi => ?_⟩
  obtain ⟨cc, hcl, hM, hcc, -⟩ := Kd.R_elem h z33 (i : Int) (by omega) (by omega)
  have e : L.getD (i : Int).toNat z33 = nd L ((i : Int) + 1) := by
    rw [nd_nat L i hi]
    simp [hi]
  rw [e] at hM
  obtain ⟨v8, rfl, h8⟩ := k33_openM hM
  obtain ⟨A8, c8, rfl, l8, _⟩ := Kd.R_reads h8
  have q0 := hcc 0 _ rfl
  have q8 := hcc 8 _ rfl
  rw [blk_cell hcs] at q0 q8
  have e9 : k33.sz = 9 := rfl
  rw [e9] at q0 q8
  simp only [Int.toNat_natCast, Nat.add_zero] at q0 q8
  exact ⟨⟨_, q0⟩, A8, c8, q8, KRow.of_R h8 rfl (fun k hk => hk.2)⟩
theorem ShapeA.below {B : Nat} {w w' : World} {g : Nat} {L : List S33} (h : ShapeA B w g L) (hb : Below w.heap.size w w') : ShapeA B w' g L := by
  obtain ⟨h1, cs, h2, h3⟩ := h
  refine ⟨h1, cs, blk_below h2 hb (blk_lt' h2), fun i hi => ?_⟩
  obtain ⟨hu, A, c, h4, h5⟩ := h3 i hi
  exact ⟨hu, A, c, h4, h5.below hb⟩
theorem ShapeA.set_kid {B : Nat} {w : World} {g : Nat} {L : List S33} (h : ShapeA B w g L) {b : Nat} (hb : b ≠ g) (o : Nat) (u : Value) : ShapeA B (w.setCell ⟨b, o, none⟩ u) g L := by
  obtain ⟨h1, cs, h2, h3⟩ := h
  refine ⟨h1, cs, blk_far h2 (p := ⟨b, o, none⟩) (Ne.symm hb) u, fun i hi => ?_⟩
  obtain ⟨hu, A, c, h4, h5⟩ := h3 i hi
  exact ⟨hu, A, c, h4, h5.set b o u⟩
theorem ShapeA.set_own {B : Nat} {w : World} {g : Nat} {L : List S33} (h : ShapeA B w g L) (j : Nat) (u : Value) : ShapeA B (w.setCell ⟨g, j * 9, none⟩ u) g L := by
  obtain ⟨h1, cs, h2, h3⟩ := h
  refine ⟨h1, _, blk_set h2 (j * 9) u, fun i hi => ?_⟩
  obtain ⟨⟨u0, hu⟩, A, c, h4, h5⟩ := h3 i hi
  refine ⟨?_, A, c, ?_, h5.set g _ u⟩
  · by_cases e : j = i
    · subst e
      exact ⟨u, by rw [Array.getElem?_setIfInBounds]; simp [(Array.getElem?_eq_some_iff.1 hu).1]⟩
    · exact ⟨u0, by rw [Array.getElem?_setIfInBounds_ne (by omega)]; exact hu⟩
  · rw [Array.getElem?_setIfInBounds_ne (by omega)]
    exact h4
end Go.Proofs.Ytbkpgbhdfdifoaa
