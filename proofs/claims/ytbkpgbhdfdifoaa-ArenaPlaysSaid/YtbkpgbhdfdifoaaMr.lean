/- The document's Make, refused; and whatever it is asked. -/
import Derived.Test.YtbkpgbhdfdifoaaMk
namespace Go.Proofs.Ytbkpgbhdfdifoaa
open Go.RowKit Go.Proofs.YtbkpgbhdfdifoaaW.PrintWords Go.Proofs.YtbkpgbhdfdifoaaW.PrintLast Go.Proofs.YtbkpgbhdfdifoaaW.PrintMore
set_option linter.unusedVariables false
set_option linter.unusedSimpArgs false

/-- The list as it was, and an error's number. -/
def SameErr (B : Nat → Prop) (w : World) (L : List S33) (n : Int) : Ending → World → Prop := RMake B w fun id n' L' => id = 0 ∧ n' = n ∧ L' = L
theorem SameErr.mk {B : Nat → Prop} {w w' : World} {v : Value} {L : List S33} {n : Int} (h : RV B w v L) (hb : Below w.heap.size w w') : SameErr B w L n (.returned (.tuple #[v, .int .i64 0, .int .i64 n])) w' :=
  ⟨0, n, L, v, ⟨rfl, rfl, rfl⟩, rfl, h.below hb, hb⟩

set_option maxRecDepth 100000 in
set_option maxHeartbeats 2000000 in
theorem make78_kind {B : Nat → Prop} {w : World} {v : Value} {L : List S33} (h : RV B w v L) (k pa ho sh m : Int) (sl : Bool) (nm wa : ByteArray) (kv : Value) (hk : k < 1 ∨ 4 < k) :
    Calls Try.prog 78 #[v, .agg #[.int .i64 k, .int .i64 pa, .int .i64 ho, .int .i64 sh, .int .i64 m, .bool sl, .string nm, .string wa, kv]] w (SameErr B w L 2) := by
  obtain ⟨A, c, rfl⟩ := h.slice
  have HB0 := (Below.refl w.heap.size w).alloc (Nat.le_refl _) (.cells #[.int .i64 k, .int .i64 pa, .int .i64 ho, .int .i64 sh, .int .i64 m, .bool sl, .string nm, .string wa, kv] 33)
  have HE := Aside0.mk (SameErr.mk (n := 2) h HB0)
  have hb0 := heap_alloc_new w (.cells #[.int .i64 k, .int .i64 pa, .int .i64 ho, .int .i64 sh, .int .i64 m, .bool sl, .string nm, .string wa, kv] 33)
  have hb1 := fun j => blk_cell hb0 j
  clear h HB0 hb0
  by_cases k1 : k < 1
  · clear hk
    go_enter Try.func78, Try.ntmps78
    go_wp2
    go_ret3
    exact HE.out
  · have k4 : 4 < k := by omega
    clear hk k1
    go_enter Try.func78, Try.ntmps78
    go_wp2
    go_ret3
    exact HE.out

set_option maxRecDepth 100000 in
set_option maxHeartbeats 4000000 in
theorem make78_mode {B : Nat → Prop} {w : World} {v : Value} {L : List S33} (h : RV B w v L) (k pa ho sh m : Int) (sl : Bool) (nm wa : ByteArray) (kv : Value) (k1 : (1 : Int) ≤ k) (k4 : k ≤ 4)
    (hm : ((k == 3) = true ∧ (k != 3) = false ∧ (m != 1) = true ∧ (m != 2) = true) ∨ ((k == 3) = false ∧ (k != 3) = true ∧ (m != 0) = true)) :
    Calls Try.prog 78 #[v, .agg #[.int .i64 k, .int .i64 pa, .int .i64 ho, .int .i64 sh, .int .i64 m, .bool sl, .string nm, .string wa, kv]] w (SameErr B w L 1) := by
  obtain ⟨A, c, rfl⟩ := h.slice
  have HB0 := (Below.refl w.heap.size w).alloc (Nat.le_refl _) (.cells #[.int .i64 k, .int .i64 pa, .int .i64 ho, .int .i64 sh, .int .i64 m, .bool sl, .string nm, .string wa, kv] 33)
  have HE := Aside0.mk (SameErr.mk (n := 1) h HB0)
  have hb0 := heap_alloc_new w (.cells #[.int .i64 k, .int .i64 pa, .int .i64 ho, .int .i64 sh, .int .i64 m, .bool sl, .string nm, .string wa, kv] 33)
  have hb1 := fun j => blk_cell hb0 j
  clear h HB0 hb0
  rcases hm with ⟨q1, q2, q3, q4⟩ | ⟨q1, q2, q3⟩
  all_goals
    go_enter Try.func78, Try.ntmps78
    go_wp2
    go_ret3
    exact HE.out

set_option maxRecDepth 100000 in
set_option maxHeartbeats 8000000 in
theorem make78_slot {B : Nat → Prop} {w : World} {v : Value} {L : List S33} (h : RV B w v L) (k pa ho sh m : Int) (sl : Bool) (nm wa : ByteArray) (kv : Value) (k1 : (1 : Int) ≤ k) (k4 : k ≤ 4)
    (hm : ((k == 3) = true ∧ (k != 3) = false ∧ (k != 2) = true ∧ (m != 1) = false) ∨ ((k == 3) = true ∧ (k != 3) = false ∧ (k != 2) = true ∧ (m != 1) = true ∧ (m != 2) = false) ∨ ((k == 3) = false ∧ (k != 3) = true ∧ (m != 0) = false ∧ (k != 2) = true) ∨ ((k == 3) = false ∧ (k != 3) = true ∧ (m != 0) = false ∧ (k != 2) = false))
    (ew en : Bool) (e1 : wa.toList.isEmpty = ew) (e2 : nm.toList.isEmpty = en)
    (hb : ((sl || !ew) && (k != 2)) = true ∨ (((sl || !ew) && (k != 2)) = false ∧ (!en && !sl) = true)) :
    Calls Try.prog 78 #[v, .agg #[.int .i64 k, .int .i64 pa, .int .i64 ho, .int .i64 sh, .int .i64 m, .bool sl, .string nm, .string wa, kv]] w (SameErr B w L 1) := by
  obtain ⟨A, c, rfl⟩ := h.slice
  have HB0 := (Below.refl w.heap.size w).alloc (Nat.le_refl _) (.cells #[.int .i64 k, .int .i64 pa, .int .i64 ho, .int .i64 sh, .int .i64 m, .bool sl, .string nm, .string wa, kv] 33)
  have HE := Aside0.mk (SameErr.mk (n := 1) h HB0)
  have hb0 := heap_alloc_new w (.cells #[.int .i64 k, .int .i64 pa, .int .i64 ho, .int .i64 sh, .int .i64 m, .bool sl, .string nm, .string wa, kv] 33)
  have hb1 := fun j => blk_cell hb0 j
  clear h HB0 hb0
  rcases hm with ⟨q1, q2, q3, q4⟩ | ⟨q1, q2, q3, q4, q5⟩ | ⟨q1, q2, q4, q3⟩ | ⟨q1, q2, q4, q3⟩
  all_goals
    rw [q3] at hb
    cases sl <;> cases ew <;> cases en <;> (first | (exfalso; revert hb; simp; done) | clear hb)
    all_goals
      go_enter Try.func78, Try.ntmps78
      go_wp2
      go_ret3
      exact HE.out

theorem make78_any {B : Nat → Prop} {w : World} {v : Value} {L : List S33} (h : RV B w v L) (hB : Up B w) (hg : Good L) (x : S33) (kv : Value) (hkv : kv.oneCell' = true) :
    Calls Try.prog 78 #[v, nodeV x kv] w (RMake B w (MakeR L x)) := by
  obtain ⟨k, pa, ho, sh, m, sl, nm, wa, kids⟩ := x
  have err : ∀ n : Int, n ≠ 0 → rightE k m sl nm wa = n → ∀ e w', SameErr B w L n e w' → RMake B w (MakeR L ⟨k, pa, ho, sh, m, sl, nm, wa, kids⟩) e w' := by
    intro n hn0 he e w' ⟨id, n', L', v', ⟨r1, r2, r3⟩, r⟩
    exact ⟨id, n', L', v', .inl ⟨by show ¬ rightE k m sl nm wa = 0; rw [he]; exact hn0, r1, by show n' = rightE k m sl nm wa; rw [r2, he], r3⟩, r⟩
  by_cases hk : k < 1 ∨ 4 < k
  · exact (make78_kind h k pa ho sh m sl nm wa kv hk).mono (err 2 (by decide) (by unfold rightE; rw [if_pos hk]))
  have hre : rightE k m sl nm wa = resE (okNode k m sl nm wa) := by unfold rightE; rw [if_neg hk]
  by_cases hm : (k = 3 ∧ ¬ m = 1 ∧ ¬ m = 2) ∨ (¬ k = 3 ∧ ¬ m = 0)
  · refine (make78_mode h k pa ho sh m sl nm wa kv (by omega) (by omega) ?_).mono (err 1 (by decide) ?_)
    · rcases hm with ⟨a, b, c⟩ | ⟨a, b⟩
      · exact .inl ⟨by simp [a], by simp [a], bneT b, bneT c⟩
      · exact .inr ⟨beqF a, bneT a, bneT b⟩
    · rw [hre]
      have hok : okNode k m sl nm wa = false := by
        unfold okNode
        rcases hm with ⟨rfl, a, b⟩ | ⟨a, b⟩
        · simp [a, b]
        · simp [a, b]
      rw [hok]
      rfl
  have hm4 : ((k == 3) = true ∧ (k != 3) = false ∧ (k != 2) = true ∧ (m != 1) = false) ∨ ((k == 3) = true ∧ (k != 3) = false ∧ (k != 2) = true ∧ (m != 1) = true ∧ (m != 2) = false) ∨ ((k == 3) = false ∧ (k != 3) = true ∧ (m != 0) = false ∧ (k != 2) = true) ∨ ((k == 3) = false ∧ (k != 3) = true ∧ (m != 0) = false ∧ (k != 2) = false) := by
    by_cases k3 : k = 3
    · subst k3
      by_cases m1 : m = 1
      · subst m1; exact .inl ⟨by decide, by decide, by decide, by decide⟩
      · have m2 : m = 2 := by omega
        subst m2; exact .inr (.inl ⟨by decide, by decide, by decide, by decide, by decide⟩)
    · have m0 : m = 0 := by omega
      subst m0
      by_cases k2 : k = 2
      · subst k2; exact .inr (.inr (.inr ⟨by decide, by decide, by decide, by decide⟩))
      · exact .inr (.inr (.inl ⟨beqF k3, bneT k3, by decide, bneT k2⟩))
  have hd : (if k = 3 then decide (m = 1 ∨ m = 2) else decide (m = 0)) = true := by
    split
    · simp; omega
    · simp; omega
  have hk2 : (!(k != 2)) = decide (k = 2) := by by_cases k2 : k = 2 <;> simp [k2]
  have e1 : wa.toList.isEmpty = decide (wa.size = 0) := size_of_isEmpty
  have e2 : nm.toList.isEmpty = decide (nm.size = 0) := size_of_isEmpty
  by_cases hb : ((sl || !decide (wa.size = 0)) && (k != 2)) = true ∨ (((sl || !decide (wa.size = 0)) && (k != 2)) = false ∧ (!decide (nm.size = 0) && !sl) = true)
  · refine (make78_slot h k pa ho sh m sl nm wa kv (by omega) (by omega) hm4 _ _ e1 e2 hb).mono (err 1 (by decide) ?_)
    rw [hre]
    have hok : okNode k m sl nm wa = false := by
      unfold okNode
      rw [hd, ← hk2]
      revert hb
      cases sl <;> cases (k != 2) <;> cases decide (wa.size = 0) <;> cases decide (nm.size = 0) <;> simp
    rw [hok]
    rfl
  · have hb' : ((sl || !decide (wa.size = 0)) && (k != 2)) = false ∧ (!decide (nm.size = 0) && !sl) = false := by
      revert hb
      cases ((sl || !decide (wa.size = 0)) && (k != 2)) <;> cases (!decide (nm.size = 0) && !sl) <;> simp
    have hok : okNode k m sl nm wa = (namedB nm && namedB wa) := by
      unfold okNode
      rw [hd, ← hk2]
      revert hb'
      cases sl <;> cases (k != 2) <;> cases decide (wa.size = 0) <;> cases decide (nm.size = 0) <;> simp
    have fin : ∀ e w', NamedPost B w L k m sl nm wa e w' → RMake B w (MakeR L ⟨k, pa, ho, sh, m, sl, nm, wa, kids⟩) e w' := by
      rintro e w' ⟨id, n, L', v', hR, r⟩
      refine ⟨id, n, L', v', ?_, r⟩
      have hr1 : (namedB nm && namedB wa) = false → rightE k m sl nm wa = 1 := fun h => by rw [hre, hok, h]; rfl
      have hr0 : (namedB nm && namedB wa) = true → rightE k m sl nm wa = 0 := fun h => by rw [hre, hok, h]; rfl
      rcases hR with ⟨a, b, c, d⟩ | ⟨a, b, c, d, e⟩ | ⟨a, b, c, d, e⟩
      · exact .inl ⟨by show ¬ rightE k m sl nm wa = 0; rw [hr1 a]; decide, b, by show n = rightE k m sl nm wa; rw [hr1 a, c], d⟩
      · exact .inr (.inl ⟨hr0 a, b, c, d, e⟩)
      · exact .inr (.inr ⟨hr0 a, b, c, d, e⟩)
    cases sl with
    | true =>
      have hk20 : (k != 2) = false := by
        have := hb'.1
        simpa using this
      exact (make78_t h hB hg k pa ho sh m nm wa kv (by omega) (by omega) hm4 ⟨hk20, hkv⟩).mono fin
    | false =>
      refine (make78_f h hB hg k pa ho sh m nm wa kv (by omega) (by omega) hm4 ⟨?_, ?_, hkv⟩).mono fin
      · have h1 := hb'.1
        rw [e1]
        cases hw : decide (wa.size = 0)
        · rw [hw] at h1
          left
          simpa using h1
        · exact .inr rfl
      · have h2 := hb'.2
        rw [e2]
        simpa using h2
end Go.Proofs.Ytbkpgbhdfdifoaa
