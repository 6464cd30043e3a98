/- The forest's laws: what holds of every forest; what Put, Tie, Name and Want make of one, said without the program. -/
import Derived.Test.YtbkpgbhdfdifoaaU
namespace Go.Proofs.Ytbkpgbhdfdifoaa
open Go.RowKit Go.Proofs.YtbkpgbhdfdifoaaW.PrintWords
set_option linter.unusedVariables false
set_option linter.unusedSimpArgs false

/-- What holds of every forest. -/
structure Good (L : List S33) : Prop where
  len : L.length ≤ 128
  kid : ∀ id, Th L id → ∀ k ∈ (nd L id).f8, Th L k ∧ (nd L k).f1 = id
  par : ∀ id, Th L id → (nd L id).f1 ≠ 0 → Th L (nd L id).f1 ∧ id ∈ (nd L (nd L id).f1).f8
  nodup : ∀ id, Th L id → (nd L id).f8.Nodup
  kind : ∀ id, Th L id → (nd L id).f1 ≠ 0 → rootedB (nd L id) = false
  host : ∀ id, Th L id → (nd L id).f2 ≠ 0 → (nd L id).f0 = 3 ∧ Th L (nd L id).f2 ∧ (nd L (nd L id).f2).f3 = id
  shad : ∀ id, Th L id → (nd L id).f3 ≠ 0 → (nd L id).f0 = 2 ∧ Th L (nd L id).f3 ∧ (nd L (nd L id).f3).f2 = id
  rank : ∃ r, Ranked L upO r

theorem nodup_le {n : Nat} : ∀ (l : List Int), l.Nodup → (∀ x ∈ l, 1 ≤ x ∧ x ≤ (n : Int)) → l.length ≤ n := by
  induction n with
  | zero =>
    intro l _ h
    cases l with
    | nil => simp
    | cons x l => have := h x (by simp); omega
  | succ n ih =>
    intro l hd h
    have h1 := ih (l.erase ((n : Int) + 1)) (hd.erase _) (fun x hx => by
      have hm := (hd.mem_erase_iff).1 hx
      have := h x hm.2
      have hne := hm.1
      constructor
      · omega
      · have : x ≠ (n : Int) + 1 := hne
        omega)
    by_cases hm : ((n : Int) + 1) ∈ l
    · have := List.length_erase_of_mem hm; omega
    · rw [List.erase_of_not_mem hm] at h1
      omega
theorem Good.kids_le {L : List S33} (h : Good L) {id : Int} (hid : Th L id) : (nd L id).f8.length ≤ 128 := by
  have := nodup_le (n := L.length) _ (h.nodup id hid) (fun k hk => (h.kid id hid k hk).1)
  have := h.len
  omega
theorem nodup_take {l : List Int} (h : ∀ j (hj : j < l.length), l[j] ∉ l.take j) : l.Nodup := by
  rw [List.nodup_iff_pairwise_ne, List.pairwise_iff_getElem]
  intro i j hi hj hij e
  apply h j hj
  rw [← e, List.mem_take_iff_getElem]
  exact ⟨i, by omega, rfl⟩
theorem not_nodup_take {l : List Int} {j : Nat} (hj : j < l.length) (h : l[j] ∈ l.take j) : ¬ l.Nodup := by
  intro hd
  rw [List.mem_take_iff_getElem] at h
  obtain ⟨i, hi, e⟩ := h
  rw [List.nodup_iff_pairwise_ne, List.pairwise_iff_getElem] at hd
  exact hd i j (by omega) hj (by omega) e

/-! ### Put -/
def KidsOk (L : List S33) (kids : List Int) : Prop := (∀ k ∈ kids, Th L k) ∧ kids.Nodup
def KidOk (L : List S33) (parent k : Int) : Prop := rootedB (nd L k) = false ∧ ¬ Anc L upO k parent ∧ ((nd L k).f1 = 0 ∨ (nd L k).f1 = parent)
def relink (L : List S33) (parent : Int) (kids : List Int) : List S33 :=
  mapN L fun id x => { x with f1 := if id ∈ kids then parent else if x.f1 = parent then 0 else x.f1, f8 := if id = parent then kids else x.f8 }
def PutR (L : List S33) (parent : Int) (kids : List Int) (n : Int) (L' : List S33) : Prop :=
  (¬ Th L parent ∧ n = 1 ∧ L' = L) ∨ (Th L parent ∧ ¬ KidsOk L kids ∧ n = 1 ∧ L' = L) ∨
  (Th L parent ∧ KidsOk L kids ∧ (∃ k ∈ kids, ¬ KidOk L parent k) ∧ n = 3 ∧ L' = L) ∨
  (Th L parent ∧ KidsOk L kids ∧ (∀ k ∈ kids, KidOk L parent k) ∧ n = 0 ∧ L' = relink L parent kids)
theorem PutR.unique {L : List S33} {parent : Int} {kids : List Int} {n n' : Int} {L1 L2 : List S33} (h : PutR L parent kids n L1) (h' : PutR L parent kids n' L2) : n = n' ∧ L1 = L2 := by
  rcases h with ⟨a, rfl, rfl⟩ | ⟨a, b, rfl, rfl⟩ | ⟨a, b, ⟨k, hk, hn⟩, rfl, rfl⟩ | ⟨a, b, c, rfl, rfl⟩ <;>
  rcases h' with ⟨a', rfl, rfl⟩ | ⟨a', b', rfl, rfl⟩ | ⟨a', b', ⟨k', hk', hn'⟩, rfl, rfl⟩ | ⟨a', b', c', rfl, rfl⟩ <;>
  first | exact ⟨rfl, rfl⟩ | exact absurd a' a | exact absurd a a' | exact absurd b' b | exact absurd b b' | exact absurd (c' k hk) hn | exact absurd (c k' hk') hn'
end Go.Proofs.Ytbkpgbhdfdifoaa
