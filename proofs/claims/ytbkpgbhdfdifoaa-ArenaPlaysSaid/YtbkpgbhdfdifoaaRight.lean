/- word.Right tells whether a text is a word. -/
import Derived.Test.YtbkpgbhdfdifoaaProg
import Derived.Test.YtbkpgbhdfdifoaaWordP
import Derived.Lib.Hide
namespace Go.Proofs.Ytbkpgbhdfdifoaa
open Go.RowKit

set_option maxHeartbeats 400000 in
theorem right_any (s : ByteArray) (w : World) :
    Calls Try.prog 105 #[.string s] w fun e w' => e = .returned (.bool (rightB s)) ∧ Below w.heap.size w w' := by
  by_cases h0 : s.size = 0
  · rw [rightB_empty h0]
    have hs := empty_of_size h0
    clear h0
    go_enter Try.func105, Try.ntmps105
    go_wp2
    go_ret
    exact ⟨rfl, Below.refl _ _⟩
  · have hs := nonempty_of_size h0
    by_cases h8 : s.size ≤ 8
    · have h8' : ¬ (8 : Int) < (s.size : Int) := by omega
      go_enter Try.func105, Try.ntmps105
      go_wp2
      go_loopw [] (fun w' => ∃ pos : Nat, w' = w.iter s pos ∧ ∀ p (hp : p < s.size), p < pos → okByte (s[p]'hp).toNat = true) (fun w' => s.size - w'.iterPos w.heap.size)
      case atStart => exact ⟨0, rfl, fun p _ h => absurd h (by omega)⟩
      case round =>
        obtain ⟨pos, rfl, hinv⟩ := hrel
        have HI := Lib.hid hinv
        clear hinv
        by_cases hp : pos < s.size
        · have hnx : ∀ ty, (Instr.next (.pointer (some ⟨w.heap.size, 0, none⟩)) true ty).run Try.prog (w.iter s pos) = _ := fun ty => run_next_any w s pos ty hp
          have hd := Lib.hid (decode_ok s pos hp)
          go_wp2
          all_goals
            first
              | (have hok := okByte_true (n := (Utf8.decode s pos).1) (by omega)
                 obtain ⟨h1, h2⟩ := hd.out.1 hok
                 clear hd
                 rw [h1]
                 refine ⟨⟨pos + 1, rfl, fun p hp' hlt => ?_⟩, by simp; omega⟩
                 by_cases e : p = pos
                 · subst e; exact h2
                 · exact HI.out p hp' (by omega))
              | (have hno := okByte_false (n := (Utf8.decode s pos).1) (by omega)
                 go_ret
                 rw [rightB_false pos hp (hd.out.2 hno)]
                 exact ⟨rfl, below_iter _ _ _⟩)
        · have hnx : ∀ ty, (Instr.next (.pointer (some ⟨w.heap.size, 0, none⟩)) true ty).run Try.prog (w.iter s pos) = _ := fun ty => run_next_end w s pos ty hp
          go_wp2
          go_ret
          rw [rightB_true h0 h8 (fun p hp' => HI.out p hp' (by omega))]
          exact ⟨rfl, below_iter _ _ _⟩
    · rw [rightB_long h8]
      go_enter Try.func105, Try.ntmps105
      go_wp2
      go_ret
      exact ⟨rfl, Below.refl _ _⟩
end Go.Proofs.Ytbkpgbhdfdifoaa
