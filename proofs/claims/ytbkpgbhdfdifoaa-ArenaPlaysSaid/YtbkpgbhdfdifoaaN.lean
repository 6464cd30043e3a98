/- Forest.Node tells a node, its list of children copied. -/
import Derived.Test.YtbkpgbhdfdifoaaA
namespace Go.Proofs.Ytbkpgbhdfdifoaa
open Go.RowKit Go.Proofs.YtbkpgbhdfdifoaaW.PrintWords Go.Proofs.YtbkpgbhdfdifoaaW.PrintLast Go.Proofs.YtbkpgbhdfdifoaaW.PrintMore
set_option linter.unusedVariables false
set_option linter.unusedSimpArgs false

/-- A node as a value, its list of children another one. -/
def nodeV (x : S33) (kv : Value) : Value := .agg #[.int .i64 x.f0, .int .i64 x.f1, .int .i64 x.f2, .int .i64 x.f3, .int .i64 x.f4, .bool x.f5, .string x.f6, .string x.f7, kv]
/-- The node of a number (from 1 on). -/
def nd (L : List S33) (id : Int) : S33 := rd_T33 L (id - 1)
theorem nd_mem {L : List S33} {id : Int} (h : Th L id) : nd L id ∈ L := by
  obtain ⟨h1, h2⟩ := h
  unfold nd rd_T33
  have hl : (id - 1).toNat < L.length := by omega
  rw [List.getD_eq_getElem?_getD, List.getElem?_eq_getElem hl]
  simp
theorem FV.elem {B : Nat} {w : World} {p g cap : Nat} {L : List S33} (h : FV B w p (.slice (some ⟨g, 0, none⟩) L.length cap) L) {id : Int} (hid : Th L id) :
    ∃ A8 c8, (nd L id).f8.length ≤ c8 ∧ Kd.F (Kd.int .i64) w (fun k => k ≠ p ∧ k ≠ g) A8 (nd L id).f8.length (nd L id).f8 ∧
      (∀ j u, ([.int .i64 (nd L id).f0, .int .i64 (nd L id).f1, .int .i64 (nd L id).f2, .int .i64 (nd L id).f3, .int .i64 (nd L id).f4, .bool (nd L id).f5, .string (nd L id).f6, .string (nd L id).f7, .slice A8 (nd L id).f8.length c8] : List Value)[j]? = some u → w.cell? ⟨g, (id.toNat - 1) * 9 + j, none⟩ = some u) ∧
      (∀ j, w.frozen? ⟨g, (id.toNat - 1) * 9 + j, none⟩ = false) := by
  obtain ⟨h1, h2⟩ := hid
  have e : id.toNat - 1 = (id - 1).toNat := by omega
  rw [e]
  obtain ⟨cs, hcl, hM, hcc, hfr⟩ := Kd.N_elem h.2.2 z33 (id - 1) (by omega) (by omega)
  obtain ⟨A8, c8, rfl, l8, g8⟩ := k33_openF hM
  exact ⟨A8, c8, l8, g8, hcc, hfr⟩

set_option maxHeartbeats 400000 in
theorem node_yes {B : Nat} {w : World} {p : Nat} {v : Value} {L : List S33} (h : FV B w p v L) (id : Int) (hid : Th L id) (hn : L.length ≤ 1000) (hk : (nd L id).f8.length ≤ 1000) :
    Calls Try.prog 22 #[.pointer (some ⟨p, 0, none⟩), .int .i64 id] w fun e w' => ∃ kv, e = .returned (.tuple #[nodeV (nd L id) kv, .bool true]) ∧ Kd.R (Kd.int .i64) 3 w' w.heap.size (fun k => w.heap.size ≤ k) kv (nd L id).f8 ∧ Below w.heap.size w w' := by
  have hp : 0 < L.length := by obtain ⟨h1, h2⟩ := hid; omega
  obtain ⟨g, cap, rfl, hgB, hgl⟩ := h.form hp
  obtain ⟨A8, c8, l8, F8, hcc, hfr⟩ := h.elem hid
  have H := Aside0.mk h
  have HID := Aside0.mk hid
  clear h hid
  obtain ⟨x, hx⟩ : ∃ x, x = nd L id := ⟨_, rfl⟩
  rw [← hx] at hcc l8 F8 hk ⊢
  clear hx
  have e0 := hcc 0 _ rfl
  have e1 := hcc 1 _ rfl
  have e2 := hcc 2 _ rfl
  have e3 := hcc 3 _ rfl
  have e4 := hcc 4 _ rfl
  have e5 := hcc 5 _ rfl
  have e6 := hcc 6 _ rfl
  have e7 := hcc 7 _ rfl
  have e8 := hcc 8 _ rfl
  rw [Nat.add_zero] at e0
  have F8' := Aside0.mk F8
  clear hcc hfr F8
  go_enter Try.func22, Try.ntmps22
  go_wp2_with fail
  refine (at_yes (H.out.below ((Below.refl _ _).alloc (Nat.le_refl _) _)) id HID.out hn).mono ?_
  rintro e w1 ⟨rfl, rfl⟩
  go_wp2_with fail
  refine (clone_any (fun k => True) A8 c8 x.f8 _ (Kd.F_mono (Kd.F_alloc (Kd.F_alloc F8'.out _) _) (fun _ _ => trivial)) hk).mono ?_
  rintro e w2 ⟨kv, rfl, HR, HB⟩
  obtain ⟨A9, c9, rfl, l9, _⟩ := Kd.R_reads HR
  have hB2 : Below w.heap.size w w2 := (((Below.refl _ _).alloc (Nat.le_refl _) _).alloc (by simp) _).trans (HB.mono (by simp; omega))
  have hg0 := blk_below (blk_alloc (heap_alloc_new w (.cells #[.int .i64 0, .int .i64 0, .int .i64 0, .int .i64 0, .int .i64 0, .bool false, .string ⟨#[]⟩, .string ⟨#[]⟩, .slice none 0 0] 33)) _) HB (by simp; omega)
  have hg1 := blk_below (heap_alloc_new (w.alloc (.cells #[.int .i64 0, .int .i64 0, .int .i64 0, .int .i64 0, .int .i64 0, .bool false, .string ⟨#[]⟩, .string ⟨#[]⟩, .slice none 0 0] 33)) (.cells #[.int .i64 x.f0, .int .i64 x.f1, .int .i64 x.f2, .int .i64 x.f3, .int .i64 x.f4, .bool x.f5, .string x.f6, .string x.f7, .slice A8 x.f8.length c8] 33)) HB (by simp)
  simp only [World.size_alloc] at hg1
  have hc0 := fun j => blk_cell hg0 j
  have hc1 := fun j => blk_cell hg1 j
  have hf0 := fun j => blk_free hg0 j
  have hf1 := fun j => blk_free hg1 j
  have G0 := Lib.hid hg0
  have G1 := Lib.hid hg1
  have HR1 := Lib.hid HR
  have HB1 := Lib.hid HB
  clear hg0 hg1 HR HB e0 e1 e2 e3 e4 e5 e6 e7 e8
  go_wp2
  refine bodyPost_ret (results_ct rfl _ _ w.heap.size 33 #[.int .i64 x.f0, .int .i64 x.f1, .int .i64 x.f2, .int .i64 x.f3, .int .i64 x.f4, .bool x.f5, .string x.f6, .string x.f7, .slice A9 x.f8.length c9] (0, 0) _ rfl ?_ Try.underlying33 rfl (by kernel_rfl)) rfl ⟨_, rfl, ?_, ?_⟩
  · have g0 := G0.out
    simp [World.setCell, Array.getElem?_modify, g0]
  · have h0 : ∀ k, w.heap.size + 2 ≤ k → k ≠ w.heap.size := fun k hk => by omega
    have h1 : ∀ k, w.heap.size + 2 ≤ k → k ≠ w.heap.size + 1 := fun k hk => by omega
    refine Kd.R_mono (ok := fun k => w.heap.size + 2 ≤ k) ?_ (fun k hk => by omega)
    repeat (first | refine Kd.R_far ?_ h0 _ | refine Kd.R_far ?_ h1 _)
    exact Kd.R_mono (Kd.R_lower HR1.out (by simp; omega)) (fun k hk => by simp at hk; omega)
  · repeat (refine Below.setCell ?_ (by simp) _)
    exact hB2

set_option maxHeartbeats 400000 in
theorem node_no {B : Nat} {w : World} {p : Nat} {v : Value} {L : List S33} (h : FV B w p v L) (id : Int) (hid : ¬ Th L id) :
    Calls Try.prog 22 #[.pointer (some ⟨p, 0, none⟩), .int .i64 id] w fun e w' => e = .returned (.tuple #[nodeV z33 (.slice none 0 0), .bool false]) ∧ Below w.heap.size w w' := by
  have H := Aside0.mk h
  have HID := Aside0.mk hid
  clear h hid
  go_enter Try.func22, Try.ntmps22
  go_wp2_with fail
  refine (at_no (H.out.below ((Below.refl _ _).alloc (Nat.le_refl _) _)) id HID.out).mono ?_
  rintro e w1 ⟨rfl, rfl⟩
  go_wp2
  refine bodyPost_ret (results_ct rfl _ _ w.heap.size 33 #[.int .i64 0, .int .i64 0, .int .i64 0, .int .i64 0, .int .i64 0, .bool false, .string ⟨#[]⟩, .string ⟨#[]⟩, .slice none 0 0] (0, 0) _ rfl ?_ Try.underlying33 rfl (by kernel_rfl)) rfl ⟨rfl, ?_⟩
  · exact heap_alloc_new w _
  · exact (Below.refl _ _).alloc (Nat.le_refl _) _

set_option maxHeartbeats 400000 in
theorem node_nil (id : Int) (w : World) :
    Calls Try.prog 22 #[.pointer none, .int .i64 id] w fun e w' => e = .returned (.tuple #[nodeV z33 (.slice none 0 0), .bool false]) ∧ Below w.heap.size w w' := by
  go_enter Try.func22, Try.ntmps22
  go_wp2_with fail
  refine (at_nil id _).mono ?_
  rintro e w1 ⟨rfl, rfl⟩
  go_wp2
  refine bodyPost_ret (results_ct rfl _ _ w.heap.size 33 #[.int .i64 0, .int .i64 0, .int .i64 0, .int .i64 0, .int .i64 0, .bool false, .string ⟨#[]⟩, .string ⟨#[]⟩, .slice none 0 0] (0, 0) _ rfl ?_ Try.underlying33 rfl (by kernel_rfl)) rfl ⟨rfl, ?_⟩
  · exact heap_alloc_new w _
  · exact (Below.refl _ _).alloc (Nat.le_refl _) _
end Go.Proofs.Ytbkpgbhdfdifoaa
