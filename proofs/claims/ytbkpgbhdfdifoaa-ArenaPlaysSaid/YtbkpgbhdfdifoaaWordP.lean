/- Plain facts about words: what a word is, byte by byte; what a range over a text meets. -/
import Derived.WalkKit
import Derived.WalkSpells
import Derived.WalkLawsBesides
namespace Go.Proofs.Ytbkpgbhdfdifoaa
open Go.RowKit

def okByte (n : Nat) : Bool := (97 ≤ n && n ≤ 122) || (48 ≤ n && n ≤ 57)
def rightB (s : ByteArray) : Bool := s.size != 0 && decide (s.size ≤ 8) && s.data.toList.all fun b => okByte b.toNat

theorem rightB_false {s : ByteArray} (pos : Nat) (h : pos < s.size) (hb : okByte (s[pos]'h).toNat = false) : rightB s = false := by
  have hm : (s[pos]'h) ∈ s.data.toList := by
    rw [Array.mem_toList_iff]; exact Array.getElem_mem _
  unfold rightB
  rw [Bool.and_eq_false_iff]
  right
  rw [List.all_eq_false]
  exact ⟨_, hm, by simp [hb]⟩

theorem rightB_true {s : ByteArray} (h0 : s.size ≠ 0) (h8 : s.size ≤ 8) (h : ∀ (p : Nat) (hp : p < s.size), okByte (s[p]'hp).toNat = true) : rightB s = true := by
  unfold rightB
  rw [Bool.and_eq_true, Bool.and_eq_true]
  refine ⟨⟨by simpa using h0, by simpa using h8⟩, ?_⟩
  rw [List.all_eq_true]
  intro x hx
  obtain ⟨i, hi, rfl⟩ := List.mem_iff_getElem.1 hx
  exact h i (by simpa using hi)

theorem rightB_empty {s : ByteArray} (h0 : s.size = 0) : rightB s = false := by unfold rightB; simp [h0]
theorem rightB_long {s : ByteArray} (h8 : ¬ s.size ≤ 8) : rightB s = false := by unfold rightB; simp [h8]
theorem okByte_false {n : Nat} (h : ((n : Int) < 97 ∨ 122 < (n : Int)) ∧ ((n : Int) < 48 ∨ 57 < (n : Int))) : okByte n = false := by
  unfold okByte
  simp
  omega
theorem okByte_true {n : Nat} (h : (97 ≤ (n : Int) ∧ (n : Int) ≤ 122) ∨ (48 ≤ (n : Int) ∧ (n : Int) ≤ 57)) : okByte n = true := by
  unfold okByte
  simp
  omega

theorem decode_ok (s : ByteArray) (pos : Nat) (h : pos < s.size) : (okByte (Utf8.decode s pos).1 = true → (Utf8.decode s pos).2 = 1 ∧ okByte (s[pos]'h).toNat = true) ∧ (okByte (Utf8.decode s pos).1 = false → okByte (s[pos]'h).toNat = false) := by
  by_cases ha : (s[pos]'h).toNat < 128
  · rw [decode_ascii s pos h ha]
    exact ⟨fun hh => ⟨rfl, hh⟩, fun hh => hh⟩
  · have hd := (decode_high s pos h (by omega)).1
    have e1 : okByte (Utf8.decode s pos).1 = false := okByte_false (by omega)
    have e2 : okByte (s[pos]'h).toNat = false := okByte_false (by omega)
    rw [e1]
    exact ⟨fun hh => absurd hh (by simp), fun _ => e2⟩

theorem empty_of_size {s : ByteArray} (h : s.size = 0) : s.toList.isEmpty = true := by
  rw [← decide_eq_emptyBytes]
  exact decide_eq_true (ByteArray.ext (Array.eq_empty_of_size_eq_zero h))
theorem nonempty_of_size {s : ByteArray} (h : s.size ≠ 0) : s.toList.isEmpty = false := by
  rw [← decide_eq_emptyBytes]
  exact decide_eq_false (fun e => h (by rw [e]; rfl))
theorem size_of_isEmpty {s : ByteArray} : s.toList.isEmpty = decide (s.size = 0) := by
  by_cases h : s.size = 0
  · rw [empty_of_size h, decide_eq_true h]
  · rw [nonempty_of_size h, decide_eq_false h]
theorem below_iter (w : World) (s : ByteArray) (pos : Nat) : Below w.heap.size w (w.iter s pos) := (Below.refl _ _).alloc (Nat.le_refl _) _
end Go.Proofs.Ytbkpgbhdfdifoaa
