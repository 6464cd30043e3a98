/- The forest in memory; its first methods: at, Len; and slices.Clone at ints. -/
import Derived.Test.YtbkpgbhdfdifoaaB
namespace Go.Proofs.Ytbkpgbhdfdifoaa
open Go.RowKit Go.Proofs.YtbkpgbhdfdifoaaW.PrintWords Go.Proofs.YtbkpgbhdfdifoaaW.PrintLast Go.Proofs.YtbkpgbhdfdifoaaW.PrintMore
set_option linter.unusedVariables false
set_option linter.unusedSimpArgs false

/-- Block p is a forest whose list of nodes is v; v reads as L. All that the forest owns lies from block B on. -/
def FV (B : Nat) (w : World) (p : Nat) (v : Value) (L : List S33) : Prop := w.heap[p]? = some (.cells #[v] 53 (0, 0)) ∧ B ≤ p ∧ Kd.N k33 33 w B (fun k => k ≠ p) v L
def Th (L : List S33) (id : Int) : Prop := 1 ≤ id ∧ id ≤ (L.length : Int)
instance (L : List S33) (id : Int) : Decidable (Th L id) := inferInstanceAs (Decidable (_ ∧ _))

theorem FV.below {B : Nat} {w w' : World} {p : Nat} {v : Value} {L : List S33} (h : FV B w p v L) (hb : Below w.heap.size w w') : FV B w' p v L :=
  ⟨blk_below h.1 hb (blk_lt' h.1), h.2.1, Kd.N_below h.2.2 hb⟩
theorem FV.cell {B : Nat} {w : World} {p : Nat} {v : Value} {L : List S33} (h : FV B w p v L) : w.cell? ⟨p, 0, none⟩ = some v := by rw [blk_cell h.1]; rfl
theorem FV.slice {B : Nat} {w : World} {p : Nat} {v : Value} {L : List S33} (h : FV B w p v L) : ∃ A c, v = .slice A L.length c := Kd.N_slice h.2.2
theorem FV.form {B : Nat} {w : World} {p : Nat} {v : Value} {L : List S33} (h : FV B w p v L) (hp : 0 < L.length) : ∃ g cap, v = .slice (some ⟨g, 0, none⟩) L.length cap ∧ B ≤ g ∧ g < w.heap.size := by
  obtain ⟨g, cap, h1, h2, h3, _⟩ := Kd.N_form h.2.2 hp
  exact ⟨g, cap, h1, h2, h3⟩

set_option maxHeartbeats 400000 in
theorem at_nil (id : Int) (w : World) : Calls Try.prog 83 #[.pointer none, .int .i64 id] w fun e w' => e = .returned (.pointer none) ∧ w = w' := by
  go_enter Try.func83, Try.ntmps83
  go_wp2
  go_ret
  exact ⟨rfl, rfl⟩

set_option maxHeartbeats 400000 in
theorem at_no {B : Nat} {w : World} {p : Nat} {v : Value} {L : List S33} (h : FV B w p v L) (id : Int) (hid : ¬ Th L id) :
    Calls Try.prog 83 #[.pointer (some ⟨p, 0, none⟩), .int .i64 id] w fun e w' => e = .returned (.pointer none) ∧ w = w' := by
  obtain ⟨A, c, rfl⟩ := h.slice
  have hc := h.cell
  by_cases h1 : id < 1
  · clear hid
    go_enter Try.func83, Try.ntmps83
    go_wp2
    go_ret
    exact ⟨rfl, rfl⟩
  · have h2 : (L.length : Int) < id := by unfold Th at hid; omega
    clear hid
    go_enter Try.func83, Try.ntmps83
    go_wp2
    go_ret
    exact ⟨rfl, rfl⟩

set_option maxHeartbeats 400000 in
theorem at_yes {B : Nat} {w : World} {p g cap : Nat} {L : List S33} (h : FV B w p (.slice (some ⟨g, 0, none⟩) L.length cap) L) (id : Int) (hid : Th L id) (hn : L.length ≤ 1000) :
    Calls Try.prog 83 #[.pointer (some ⟨p, 0, none⟩), .int .i64 id] w fun e w' => e = .returned (.pointer (some ⟨g, (id.toNat - 1) * 9, none⟩)) ∧ w = w' := by
  have hc := h.cell
  obtain ⟨h1, h2⟩ := hid
  go_enter Try.func83, Try.ntmps83
  go_wp2
  go_ret
  exact ⟨by simp [add_at], rfl⟩

set_option maxHeartbeats 400000 in
theorem len_any {B : Nat} {w : World} {p : Nat} {v : Value} {L : List S33} (h : FV B w p v L) :
    Calls Try.prog 21 #[.pointer (some ⟨p, 0, none⟩)] w fun e w' => e = .returned (.int .i64 L.length) ∧ w = w' := by
  obtain ⟨A, c, rfl⟩ := h.slice
  have hc := h.cell
  go_enter Try.func21, Try.ntmps21
  go_wp2
  go_ret
  exact ⟨rfl, rfl⟩
set_option maxHeartbeats 400000 in
theorem len_nil (w : World) : Calls Try.prog 21 #[.pointer none] w fun e w' => e = .returned (.int .i64 0) ∧ w = w' := by
  go_enter Try.func21, Try.ntmps21
  go_wp2
  go_ret
  exact ⟨rfl, rfl⟩
set_option maxHeartbeats 400000 in
theorem new_any (w : World) : Calls Try.prog 18 #[] w fun e w' => e = .returned (.pointer (some ⟨w.heap.size, 0, none⟩)) ∧ w.alloc (.cells #[.slice none 0 0] 53) = w' := by
  go_enter Try.func18, Try.ntmps18
  go_wp2
  go_ret
  exact ⟨rfl, rfl⟩
theorem FV.new (B : Nat) (w : World) (hB : B ≤ w.heap.size) : FV B (w.alloc (.cells #[.slice none 0 0] 53)) w.heap.size (.slice none 0 0) [] := ⟨heap_alloc_new w _, hB, Kd.N_nil _ _ _ _ _⟩

set_option maxHeartbeats 400000 in
theorem clone_any (ok : Nat → Prop) (A : Option Addr) (c : Nat) (l : List Int) (w : World) (hr : Kd.F (Kd.int .i64) w ok A l.length l) (hn : l.length ≤ 1000) :
    Calls Try.prog 84 #[.slice A l.length c] w fun e w' => ∃ v, e = .returned v ∧ Kd.R (Kd.int .i64) 3 w' w.heap.size (fun k => w.heap.size ≤ k) v l ∧ Below w.heap.size w w' := by
  have HR := Aside0.mk hr
  clear hr
  rcases A with _ | ad
  · have hl : l = [] := by
      rcases l with _ | ⟨x, l⟩
      · rfl
      · obtain ⟨ad, h, _⟩ := (Kd.F_now HR.out).2.2 (by simp)
        cases h
    subst hl
    have hq := Lib.run_eql_slice_nil (P := Try.prog) w 31 3 none 0 c 0 0 Try.underlying31
    go_enter Try.func84, Try.ntmps84
    go_wp2_with (first | (at_builtin; refine Stop0.out ?_))
    go_ret
    exact ⟨_, rfl, Kd.R_nil _ _ _ _ _, Below.refl _ _⟩
  · have hq := Lib.run_eql_slice_nil (P := Try.prog) w 31 3 (some ad) l.length c 0 0 Try.underlying31
    go_enter Try.func84, Try.ntmps84
    go_wp2_with (first | (at_builtin; refine Stop0.out ?_))
    refine ⟨?_⟩
    refine Kd.R_append_rows (Kd.int .i64) (w0 := w) w.heap.size rfl (.tmp 5) (.tmp 6) 31 3 (.int .i64 0) 8 rfl Try.underlying31 info3 rfl (by decide) (by omega) (.slice (some ⟨w.heap.size, 0, none⟩) 0 0) [] l (some ad) _ c (fun k => w.heap.size ≤ k) (fun _ => False) rfl rfl (R_empty (Kd.int .i64) 3 w _ _ (Nat.le_refl _) (Nat.le_refl _)) (Kd.C_alloc (Kd.F_now HR.out) _) (fun _ _ h => h) (fun _ h => h.elim) ?aF ?aB ?aS ?aL ?_
    case aF => intro j hj; simp at hj; omega
    case aB => exact (Below.refl _ _).alloc (Nat.le_refl _) _
    case aS => simp
    case aL => simp; omega
    intro v1 w1 H1 HB hg hat
    rw [List.nil_append] at H1
    have HB1 := Lib.hid HB
    have HR1 := Lib.hid H1
    clear hg hat HB H1
    go_wp2
    go_ret
    exact ⟨_, rfl, HR1.out, HB1.out⟩
end Go.Proofs.Ytbkpgbhdfdifoaa
