/- Which nodes may be made: named, right; and the document's own words for texts and lists. -/
import Derived.Test.YtbkpgbhdfdifoaaN
import Derived.Test.YtbkpgbhdfdifoaaRight
namespace Go.Proofs.Ytbkpgbhdfdifoaa
open Go.RowKit Go.Proofs.YtbkpgbhdfdifoaaW.PrintWords Go.Proofs.YtbkpgbhdfdifoaaW.PrintLast Go.Proofs.YtbkpgbhdfdifoaaW.PrintMore
set_option linter.unusedVariables false
set_option linter.unusedSimpArgs false

/-- Empty, or a word. -/
def namedB (s : ByteArray) : Bool := decide (s.size = 0) || rightB s

set_option maxHeartbeats 400000 in
theorem named_any (s : ByteArray) (w : World) : Calls Try.prog 89 #[.string s] w fun e w' => e = .returned (.bool (namedB s)) ∧ Below w.heap.size w w' := by
  by_cases h0 : s.size = 0
  · have hs := empty_of_size h0
    have hn : namedB s = true := by unfold namedB; simp [h0]
    rw [hn]
    clear h0 hn
    go_enter Try.func89, Try.ntmps89
    go_wp2
    go_ret
    exact ⟨rfl, Below.refl _ _⟩
  · have hs := nonempty_of_size h0
    have hn : namedB s = rightB s := by unfold namedB; simp [h0]
    rw [hn]
    clear h0 hn
    go_enter Try.func89, Try.ntmps89
    go_wp2_with (go_at_call 105; refine (right_any _ _).mono ?_; rintro e w' ⟨rfl, hb⟩)
    go_ret
    exact ⟨rfl, hb⟩

def okNode (k m : Int) (sl : Bool) (nm wa : ByteArray) : Bool :=
  (if k = 3 then decide (m = 1 ∨ m = 2) else decide (m = 0)) && (decide (k = 2) || (!sl && decide (wa.size = 0))) && (sl || decide (nm.size = 0)) && namedB nm && namedB wa
def resE (b : Bool) : Int := cond b 0 1
/-- The number of the error that a node's making has. -/
def rightE (k m : Int) (sl : Bool) (nm wa : ByteArray) : Int := if k < 1 ∨ 4 < k then 2 else resE (okNode k m sl nm wa)

theorem below_box (w : World) (o : Obj) (n : Nat) : Below w.heap.size w ((w.alloc o).drewN n) := pw_below_drewN ((Below.refl _ _).alloc (Nat.le_refl _) _) n

/-- The walk up to the error of the kinds and modes. -/
def RightPost (r : Int) (w : World) (e : Ending) (w' : World) : Prop := e = .returned (.int .i64 r) ∧ Below w.heap.size w w'

theorem beqF {a b : Int} (h : ¬ a = b) : (a == b) = false := by simpa using h
theorem bneT {a b : Int} (h : ¬ a = b) : (a != b) = true := by simpa using h

set_option maxHeartbeats 4000000 in
theorem right_bad (k pa ho sh m : Int) (sl : Bool) (nm wa : ByteArray) (kv : Value) (w : World)
    (h : k < 1 ∨ 4 < k ∨ (k = 3 ∧ ¬ m = 1 ∧ ¬ m = 2) ∨ (¬ k = 3 ∧ ¬ m = 0)) (hk : k < 1 ∨ 4 < k ∨ (1 ≤ k ∧ k ≤ 4)) :
    Calls Try.prog 85 #[.agg #[.int .i64 k, .int .i64 pa, .int .i64 ho, .int .i64 sh, .int .i64 m, .bool sl, .string nm, .string wa, kv]] w (RightPost (if k < 1 ∨ 4 < k then 2 else 1) w) := by
  by_cases c1 : k < 1
  · rw [if_pos (.inl c1)]
    clear h hk
    go_enter Try.func85, Try.ntmps85
    go_wp2
    go_quiet (fail)
    go_wp2
    go_ret
    exact ⟨rfl, below_box _ _ _⟩
  · by_cases c2 : 4 < k
    · rw [if_pos (.inr c2)]
      clear h hk
      go_enter Try.func85, Try.ntmps85
      go_wp2
      go_quiet (fail)
      go_wp2
      go_ret
      exact ⟨rfl, below_box _ _ _⟩
    · rw [if_neg (by omega)]
      by_cases c3 : k = 3
      · have m1 := beqF (a := m) (b := 1) (by omega)
        have m2 := beqF (a := m) (b := 2) (by omega)
        clear h hk c1 c2
        subst c3
        go_enter Try.func85, Try.ntmps85
        go_wp2
        go_quiet (fail)
        go_wp2
        go_ret
        exact ⟨rfl, below_box _ _ _⟩
      · have m0 := bneT (a := m) (b := 0) (by omega)
        have k3 := beqF c3
        clear h hk c3
        by_cases m1 : m = 1
        · subst m1
          clear m0
          go_enter Try.func85, Try.ntmps85
          go_wp2
          go_quiet (fail)
          go_wp2
          go_ret
          exact ⟨rfl, below_box _ _ _⟩
        · have b1 := beqF m1
          clear m1
          by_cases m2 : m = 2
          · subst m2
            clear m0 b1
            go_enter Try.func85, Try.ntmps85
            go_wp2
            go_quiet (fail)
            go_wp2
            go_ret
            exact ⟨rfl, below_box _ _ _⟩
          · have b2 := beqF m2
            clear m2
            go_enter Try.func85, Try.ntmps85
            go_wp2
            go_quiet (fail)
            go_wp2
            go_ret
            exact ⟨rfl, below_box _ _ _⟩

/-- The kinds and modes that fit. -/
def Fits (k m : Int) (b3 b2 : Bool) : Prop := 1 ≤ k ∧ k ≤ 4 ∧ (k == 3) = b3 ∧ (k == 2) = b2 ∧ ((b3 = true ∧ b2 = false ∧ (m = 1 ∨ m = 2)) ∨ (b3 = false ∧ m = 0))

set_option maxHeartbeats 8000000 in
theorem right_slots (k pa ho sh m : Int) (sl : Bool) (nm wa : ByteArray) (kv : Value) (w : World) (b3 b2 ew en : Bool) (hf : Fits k m b3 b2) (e1 : wa.toList.isEmpty = ew) (e2 : nm.toList.isEmpty = en)
    (hb : ((sl || !ew) && !b2) = true ∨ (((sl || !ew) && !b2) = false ∧ (!en && !sl) = true)) :
    Calls Try.prog 85 #[.agg #[.int .i64 k, .int .i64 pa, .int .i64 ho, .int .i64 sh, .int .i64 m, .bool sl, .string nm, .string wa, kv]] w (RightPost 1 w) := by
  obtain ⟨k1, k4, h3, h2, hm⟩ := hf
  rcases hm with ⟨rfl, rfl, hm⟩ | ⟨rfl, rfl⟩
  · obtain rfl : k = 3 := by simpa using h3
    clear h3 h2 k1 k4
    rcases hm with rfl | rfl <;> cases sl <;> cases ew <;> cases en <;> (first | (exfalso; revert hb; simp; done) | clear hb)
    all_goals
      go_enter Try.func85, Try.ntmps85
      go_wp2
      go_quiet (fail)
      go_wp2
      go_ret
      exact ⟨rfl, below_box _ _ _⟩
  · cases b2 <;> cases sl <;> cases ew <;> cases en <;> (first | (exfalso; revert hb; simp; done) | clear hb)
    all_goals
      go_enter Try.func85, Try.ntmps85
      go_wp2
      go_quiet (fail)
      go_wp2
      go_ret
      exact ⟨rfl, below_box _ _ _⟩

set_option maxHeartbeats 8000000 in
theorem right_names (k pa ho sh m : Int) (sl : Bool) (nm wa : ByteArray) (kv : Value) (w : World) (b3 b2 ew en n1 n2 : Bool) (hf : Fits k m b3 b2) (e1 : wa.toList.isEmpty = ew) (e2 : nm.toList.isEmpty = en)
    (hb : ((sl || !ew) && !b2) = false ∧ (!en && !sl) = false) (hn1 : namedB nm = n1) (hn2 : namedB wa = n2) :
    Calls Try.prog 85 #[.agg #[.int .i64 k, .int .i64 pa, .int .i64 ho, .int .i64 sh, .int .i64 m, .bool sl, .string nm, .string wa, kv]] w (RightPost (resE (n1 && n2)) w) := by
  obtain ⟨k1, k4, h3, h2, hm⟩ := hf
  rcases hm with ⟨rfl, rfl, hm⟩ | ⟨rfl, rfl⟩
  · obtain rfl : k = 3 := by simpa using h3
    clear h3 h2 k1 k4
    rcases hm with rfl | rfl <;> cases sl <;> cases ew <;> cases en <;> (first | (exfalso; revert hb; simp; done) | clear hb)
    all_goals
      go_enter Try.func85, Try.ntmps85
      go_wp2
      go_quiet (fail)
      go_wp2_with fail
      refine (named_any _ _).mono ?_
      rintro e w1 ⟨rfl, hb1⟩
      have hx := blk_new_after hb1
      have hc : w1.cell? ⟨w.heap.size, 7, none⟩ = some (.string wa) := by rw [blk_cell hx]; rfl
      have HB1 := Lib.hid (below_step (below_box w _ _) hb1)
      clear hx hb1
      rw [hn1]
      cases n1
      · go_wp2_with fail
        all_goals (go_ret; exact ⟨rfl, HB1.out⟩)
      · go_wp2_with fail
        refine (named_any _ _).mono ?_
        rintro e w2 ⟨rfl, hb2⟩
        have HB2 := Lib.hid (below_step HB1.out hb2)
        clear hb2
        rw [hn2]
        cases n2
        · go_wp2
          all_goals (go_ret; exact ⟨rfl, HB2.out⟩)
        · go_wp2
          all_goals (go_ret; exact ⟨rfl, HB2.out⟩)
  · cases b2 <;> cases sl <;> cases ew <;> cases en <;> (first | (exfalso; revert hb; simp; done) | clear hb)
    all_goals
      go_enter Try.func85, Try.ntmps85
      go_wp2
      go_quiet (fail)
      go_wp2_with fail
      refine (named_any _ _).mono ?_
      rintro e w1 ⟨rfl, hb1⟩
      have hx := blk_new_after hb1
      have hc : w1.cell? ⟨w.heap.size, 7, none⟩ = some (.string wa) := by rw [blk_cell hx]; rfl
      have HB1 := Lib.hid (below_step (below_box w _ _) hb1)
      clear hx hb1
      rw [hn1]
      cases n1
      · go_wp2_with fail
        all_goals (go_ret; exact ⟨rfl, HB1.out⟩)
      · go_wp2_with fail
        refine (named_any _ _).mono ?_
        rintro e w2 ⟨rfl, hb2⟩
        have HB2 := Lib.hid (below_step HB1.out hb2)
        clear hb2
        rw [hn2]
        cases n2
        · go_wp2
          all_goals (go_ret; exact ⟨rfl, HB2.out⟩)
        · go_wp2
          all_goals (go_ret; exact ⟨rfl, HB2.out⟩)

theorem right_any85 (k pa ho sh m : Int) (sl : Bool) (nm wa : ByteArray) (kv : Value) (w : World) :
    Calls Try.prog 85 #[.agg #[.int .i64 k, .int .i64 pa, .int .i64 ho, .int .i64 sh, .int .i64 m, .bool sl, .string nm, .string wa, kv]] w (RightPost (rightE k m sl nm wa) w) := by
  by_cases hk : k < 1 ∨ 4 < k
  · have h := right_bad k pa ho sh m sl nm wa kv w (by omega) (by omega)
    rw [if_pos hk] at h
    unfold rightE
    rw [if_pos hk]
    exact h
  · unfold rightE
    rw [if_neg hk]
    by_cases hm : (k = 3 ∧ ¬ m = 1 ∧ ¬ m = 2) ∨ (¬ k = 3 ∧ ¬ m = 0)
    · have h := right_bad k pa ho sh m sl nm wa kv w (by omega) (by omega)
      rw [if_neg hk] at h
      have ho : okNode k m sl nm wa = false := by
        unfold okNode
        rcases hm with ⟨rfl, a, b⟩ | ⟨a, b⟩
        · simp [a, b]
        · simp [a, b]
      rw [ho]
      exact h
    · have hf : Fits k m (k == 3) (k == 2) := by
        refine ⟨by omega, by omega, rfl, rfl, ?_⟩
        by_cases k3 : k = 3
        · subst k3
          exact .inl ⟨by decide, by decide, by omega⟩
        · exact .inr ⟨by simpa using k3, by omega⟩
      have hd : (if k = 3 then decide (m = 1 ∨ m = 2) else decide (m = 0)) = true := by
        split
        · simp; omega
        · simp; omega
      have hk2 : (k == 2) = decide (k = 2) := rfl
      have e1 : wa.toList.isEmpty = decide (wa.size = 0) := size_of_isEmpty
      have e2 : nm.toList.isEmpty = decide (nm.size = 0) := size_of_isEmpty
      by_cases hb : ((sl || !decide (wa.size = 0)) && !(k == 2)) = true ∨ (((sl || !decide (wa.size = 0)) && !(k == 2)) = false ∧ (!decide (nm.size = 0) && !sl) = true)
      · have h := right_slots k pa ho sh m sl nm wa kv w _ _ _ _ hf e1 e2 hb
        have ho : okNode k m sl nm wa = false := by
          unfold okNode
          rw [hd, ← hk2]
          revert hb
          cases sl <;> cases (k == 2) <;> cases decide (wa.size = 0) <;> cases decide (nm.size = 0) <;> simp
        rw [ho]
        exact h
      · have hb' : ((sl || !decide (wa.size = 0)) && !(k == 2)) = false ∧ (!decide (nm.size = 0) && !sl) = false := by
          revert hb
          cases ((sl || !decide (wa.size = 0)) && !(k == 2)) <;> cases (!decide (nm.size = 0) && !sl) <;> simp
        have h := right_names k pa ho sh m sl nm wa kv w _ _ _ _ _ _ hf e1 e2 hb' rfl rfl
        have ho : okNode k m sl nm wa = (namedB nm && namedB wa) := by
          unfold okNode
          rw [hd, ← hk2]
          revert hb'
          cases sl <;> cases (k == 2) <;> cases decide (wa.size = 0) <;> cases decide (nm.size = 0) <;> simp
        rw [ho]
        exact h
end Go.Proofs.Ytbkpgbhdfdifoaa
