/- Plain facts on lists of nodes: a node by its number, changes by numbers. -/
import Derived.Test.YtbkpgbhdfdifoaaM
namespace Go.Proofs.Ytbkpgbhdfdifoaa
open Go.RowKit Go.Proofs.YtbkpgbhdfdifoaaW.PrintWords
set_option linter.unusedVariables false
set_option linter.unusedSimpArgs false

theorem nd_eq {L : List S33} {id : Int} (h : Th L id) : nd L id = L[id.toNat - 1]'(by obtain ⟨a, b⟩ := h; omega) := by
  obtain ⟨h1, h2⟩ := h
  unfold nd rd_T33
  have e : (id - 1).toNat = id.toNat - 1 := by omega
  have hl : id.toNat - 1 < L.length := by omega
  rw [e, List.getD_eq_getElem?_getD, List.getElem?_eq_getElem hl]
  rfl
theorem nd_nat (L : List S33) (i : Nat) (h : i < L.length) : nd L ((i : Int) + 1) = L[i] := by
  rw [nd_eq ⟨by omega, by omega⟩]
  congr 1

/-- The nodes, each turned by its number. -/
def mapN (L : List S33) (g : Int → S33 → S33) : List S33 := L.mapIdx fun i x => g ((i : Int) + 1) x
theorem length_mapN (L : List S33) (g : Int → S33 → S33) : (mapN L g).length = L.length := by simp [mapN]
theorem Th_mapN {L : List S33} {g : Int → S33 → S33} {id : Int} : Th (mapN L g) id ↔ Th L id := by unfold Th; rw [length_mapN]
theorem nd_mapN {L : List S33} {g : Int → S33 → S33} {id : Int} (h : Th L id) : nd (mapN L g) id = g id (nd L id) := by
  have h' : Th (mapN L g) id := Th_mapN.2 h
  rw [nd_eq h', nd_eq h]
  obtain ⟨h1, h2⟩ := h
  simp only [mapN, List.getElem_mapIdx]
  congr 1
  omega
theorem ext_nd {L L' : List S33} (hl : L.length = L'.length) (h : ∀ id, Th L id → nd L id = nd L' id) : L = L' := by
  apply List.ext_getElem hl
  intro i h1 h2
  have := h ((i : Int) + 1) ⟨by omega, by omega⟩
  rwa [nd_nat L i h1, nd_nat L' i h2] at this
theorem mapN_congr {L : List S33} {g g' : Int → S33 → S33} (h : ∀ id, Th L id → g id (nd L id) = g' id (nd L id)) : mapN L g = mapN L g' := by
  refine ext_nd (by rw [length_mapN, length_mapN]) fun id hid => ?_
  have hid' := Th_mapN.1 hid
  rw [nd_mapN hid', nd_mapN hid', h id hid']
theorem mapN_id (L : List S33) : mapN L (fun _ x => x) = L := by
  refine ext_nd (length_mapN _ _) fun id hid => ?_
  rw [nd_mapN (Th_mapN.1 hid)]
/-- One node put in the place of another. -/
def setN (L : List S33) (id : Int) (y : S33) : List S33 := L.set (id.toNat - 1) y
theorem length_setN (L : List S33) (id : Int) (y : S33) : (setN L id y).length = L.length := by simp [setN]
theorem Th_setN {L : List S33} {k id : Int} {y : S33} : Th (setN L k y) id ↔ Th L id := by unfold Th; rw [length_setN]
theorem nd_setN {L : List S33} {k id : Int} {y : S33} (hk : Th L k) (h : Th L id) : nd (setN L k y) id = if id = k then y else nd L id := by
  have h' : Th (setN L k y) id := Th_setN.2 h
  rw [nd_eq h', nd_eq h]
  simp only [setN, List.getElem_set]
  obtain ⟨h1, h2⟩ := h
  obtain ⟨k1, k2⟩ := hk
  by_cases e : id = k
  · subst e; simp
  · rw [if_neg (by omega), if_neg e]
theorem setN_mapN {L : List S33} {g : Int → S33 → S33} {k : Int} {y : S33} (hk : Th L k) : setN (mapN L g) k y = mapN L (fun j x => if j = k then y else g j x) := by
  refine ext_nd (by rw [length_setN, length_mapN, length_mapN]) fun id hid => ?_
  have hid' : Th L id := Th_mapN.1 (Th_setN.1 hid)
  rw [nd_setN (Th_mapN.2 hk) (Th_mapN.2 hid'), nd_mapN hid', nd_mapN hid']
theorem setN_eq {L : List S33} {k : Int} {y : S33} (hk : Th L k) : setN L k y = mapN L (fun j x => if j = k then y else x) := by
  have := setN_mapN (L := L) (g := fun _ x => x) (y := y) hk
  rwa [mapN_id] at this

/-! ### who is above whom, by any step up -/
inductive Anc (L : List S33) (up : S33 → Int) : Int → Int → Prop
  | refl {b : Int} : Th L b → Anc L up b b
  | step {a b : Int} : Th L b → Anc L up a (up (nd L b)) → Anc L up a b
theorem Anc.left {L : List S33} {up : S33 → Int} {a b : Int} (h : Anc L up a b) : Th L a := by
  induction h with
  | refl h => exact h
  | step _ _ ih => exact ih
theorem Anc.right {L : List S33} {up : S33 → Int} {a b : Int} (h : Anc L up a b) : Th L b := by
  cases h with
  | refl h => exact h
  | step h _ => exact h
theorem Anc.trans {L : List S33} {up : S33 → Int} {a b c : Int} (h : Anc L up a b) (k : Anc L up b c) : Anc L up a c := by
  induction k with
  | refl _ => exact h
  | step hb _ ih => exact .step hb ih
/-- Each step up ends at none, or at a node of a lower rank. -/
def Ranked (L : List S33) (up : S33 → Int) (r : Int → Nat) : Prop := ∀ id, Th L id → up (nd L id) = 0 ∨ (Th L (up (nd L id)) ∧ r (up (nd L id)) < r id)
theorem Anc.rank {L : List S33} {up : S33 → Int} {r : Int → Nat} (hr : Ranked L up r) {a b : Int} (h : Anc L up a b) : r a ≤ r b := by
  induction h with
  | refl _ => exact Nat.le_refl _
  | step hb h ih =>
    rcases hr _ hb with e | ⟨_, hlt⟩
    · have := h.right
      rw [e] at this
      exact absurd this.1 (by omega)
    · omega
/-- The parent, or else the host. -/
def upO (x : S33) : Int := if x.f1 = 0 then x.f2 else x.f1
end Go.Proofs.Ytbkpgbhdfdifoaa
