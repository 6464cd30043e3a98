/- The document's One and Ints at equal nodes; what a nil forest tells. -/
import Derived.Test.YtbkpgbhdfdifoaaO
import Derived.Deep.QuietTactic
import Derived.BigQuiet
namespace Go.Proofs.Ytbkpgbhdfdifoaa
open Go.RowKit Go.Proofs.YtbkpgbhdfdifoaaW.PrintWords Go.Proofs.YtbkpgbhdfdifoaaW.PrintLast Go.Proofs.YtbkpgbhdfdifoaaW.PrintMore
set_option linter.unusedVariables false
set_option linter.unusedSimpArgs false

def TrueB (w : World) (e : Ending) (w' : World) : Prop := e = .returned (.bool true) ∧ Below w.heap.size w w'
set_option maxHeartbeats 400000 in
theorem ints_same (A A' : Option Addr) (c c' n : Nat) (l : List Int) (w : World) (hC : (Kd.int .i64).C w A n l) (hC' : (Kd.int .i64).C w A' n l) :
    Calls Try.prog 52 #[.slice A n c, .slice A' n c'] w (TrueB w) := by
  have hl : l.length = n := hC.1
  have hmax := hC.2.1
  subst hl
  have H := Aside0.mk hC
  have H' := Aside0.mk hC'
  clear hC hC'
  go_enter Try.func52, Try.ntmps52
  go_wp2_with fail
  go_loopw [5] (fun i wr => ∃ k : Nat, i = .int .i64 k ∧ k ≤ l.length ∧ Aside0 (Below w.heap.size w wr)) (fun i _ => l.length - (intOf i).toNat)
  case atStart => exact ⟨0, rfl, by omega, ⟨Below.refl _ _⟩⟩
  case round =>
    obtain ⟨k, rfl, hk, HB⟩ := hrel
    by_cases hlt : k < l.length
    · obtain ⟨ad, eA, hc⟩ := int_at (Kd.C_below H.out HB.out) hlt
      obtain ⟨ad', eA', hc'⟩ := int_at (Kd.C_below H'.out HB.out) hlt
      have p1 : (0 : Int) ≤ (k : Int) := by omega
      have p2 : (k : Int) < (l.length : Int) := by omega
      subst eA
      subst eA'
      go_wp2_with fail
      go_quiet (fail)
      go_wp2
      go_round
      case rel => exact ⟨k + 1, by go_num, by omega, ⟨pw_below_drewN HB.out _⟩⟩
      case measure => simp [intOf]; omega
    · have hkk : k = l.length := by omega
      subst hkk
      go_wp2
      go_ret
      exact ⟨rfl, HB.out⟩

set_option maxRecDepth 100000 in
set_option maxHeartbeats 400000 in
theorem one_same (x : S33) (A A' : Option Addr) (c c' n : Nat) (w : World) (hC : (Kd.int .i64).C w A n x.f8) (hC' : (Kd.int .i64).C w A' n x.f8) :
    Calls Try.prog 24 #[nodeV x (.slice A n c), nodeV x (.slice A' n c')] w (TrueB w) := by
  have H := Aside0.mk hC
  have H' := Aside0.mk hC'
  clear hC hC'
  unfold nodeV
  have hb1 := blk_alloc (heap_alloc_new w (.cells #[.int .i64 x.f0, .int .i64 x.f1, .int .i64 x.f2, .int .i64 x.f3, .int .i64 x.f4, .bool x.f5, .string x.f6, .string x.f7, .slice A n c] 33)) (.cells #[.int .i64 x.f0, .int .i64 x.f1, .int .i64 x.f2, .int .i64 x.f3, .int .i64 x.f4, .bool x.f5, .string x.f6, .string x.f7, .slice A' n c'] 33)
  have hb2 := heap_alloc_new (w.alloc (.cells #[.int .i64 x.f0, .int .i64 x.f1, .int .i64 x.f2, .int .i64 x.f3, .int .i64 x.f4, .bool x.f5, .string x.f6, .string x.f7, .slice A n c] 33)) (.cells #[.int .i64 x.f0, .int .i64 x.f1, .int .i64 x.f2, .int .i64 x.f3, .int .i64 x.f4, .bool x.f5, .string x.f6, .string x.f7, .slice A' n c'] 33)
  simp only [World.size_alloc] at hb2
  have hc1 := fun j => blk_cell hb1 j
  have hc2 := fun j => blk_cell hb2 j
  clear hb1 hb2
  go_enter Try.func24, Try.ntmps24
  go_wp2_with fail
  refine (ints_same A A' c c' n x.f8 _ (Kd.C_alloc (Kd.C_alloc H.out _) _) (Kd.C_alloc (Kd.C_alloc H'.out _) _)).mono ?_
  rintro e w1 ⟨rfl, hb⟩
  have HB := Aside0.mk hb
  clear hb
  go_wp2
  go_ret
  exact ⟨rfl, (((Below.refl _ _).alloc (Nat.le_refl _) _).alloc (by simp) _).trans (HB.out.mono (by simp; omega))⟩

set_option maxHeartbeats 400000 in
theorem all_nil (w : World) : Calls Try.prog 25 #[.pointer none] w fun e w' => e = .returned (.slice none 0 0) ∧ w = w' := by
  go_enter Try.func25, Try.ntmps25
  go_wp2_with fail
  refine (len_nil _).mono ?_
  rintro e w' ⟨rfl, rfl⟩
  go_wp2_with fail
  go_loop [3, 9] (fun o i => o = .slice none 0 0 ∧ i = .int .i64 0) (fun _ _ => 0)
  case atStart => exact ⟨rfl, rfl⟩
  case round =>
    obtain ⟨rfl, rfl⟩ := hrel
    go_wp2
    go_ret
    exact ⟨rfl, rfl⟩
set_option maxHeartbeats 400000 in
theorem put_nil (parent : Int) (A : Option Addr) (n c : Nat) (w : World) : Calls Try.prog 30 #[.pointer none, .int .i64 parent, .slice A n c] w fun e w' => e = .returned (.int .i64 1) ∧ w = w' := by
  go_enter Try.func30, Try.ntmps30
  go_wp2_with fail
  refine (at_nil parent _).mono ?_
  rintro e w' ⟨rfl, rfl⟩
  go_wp2
  go_ret
  exact ⟨rfl, rfl⟩

/-- Two elements. -/
def twoL : List S33 := [mkN 2 0 false ⟨#[]⟩ ⟨#[]⟩, mkN 2 0 false ⟨#[]⟩ ⟨#[]⟩]
theorem two_good : Good twoL := (Good.nil.make (by simp) 2 0 false ⟨#[]⟩ ⟨#[]⟩).make (by simp) 2 0 false ⟨#[]⟩ ⟨#[]⟩
theorem two_th {id : Int} : Th twoL id ↔ id = 1 ∨ id = 2 := by
  unfold Th twoL
  simp only [List.length_cons, List.length_nil]
  omega
theorem two_put {n : Int} {L' : List S33} (h : PutR twoL 1 [2] n L') : n = 0 ∧ L' = relink twoL 1 [2] := by
  refine h.unique (.inr (.inr (.inr ⟨two_th.2 (.inl rfl), ⟨fun k hk => ?_, by simp⟩, fun k hk => ?_, rfl, rfl⟩)))
  · simp at hk; subst hk; exact two_th.2 (.inr rfl)
  · simp at hk; subst hk
    refine ⟨by decide, fun hA => ?_, .inl (by decide)⟩
    cases hA with
    | step h1 h2 =>
      have e : upO (nd twoL 1) = 0 := by decide
      rw [e] at h2
      have := h2.right.1
      omega
set_option maxRecDepth 100000 in
set_option maxHeartbeats 400000 in
theorem awake_any (w : World) : Calls Try.prog 16 #[] w (TrueB w) := by
  have hr : rightE 2 0 false ⟨#[]⟩ ⟨#[]⟩ = 0 := by decide
  go_enter Try.func16, Try.ntmps16
  go_wp2_with fail
  refine (new_any _).mono ?_
  rintro e w1 ⟨rfl, rfl⟩
  have H0 := FV.new w.heap.size w (Nat.le_refl _)
  have B0 := (Below.refl w.heap.size w).alloc (Nat.le_refl _) (.cells #[.slice none 0 0] 53)
  have H0' := Aside0.mk H0
  have B0' := Aside0.mk B0
  clear H0 B0
  go_wp2_with fail
  refine (make_yes H0'.out (by simp) 2 0 0 0 0 false ⟨#[]⟩ ⟨#[]⟩ (.slice none 0 0) rfl hr (by simp)).mono ?_
  rintro e w1 ⟨rfl, v1, h1, m1⟩
  have H1 := Aside0.mk h1
  have M1 := Aside0.mk (B0'.out.trans m1.2.1)
  clear h1 m1
  go_wp2_with fail
  refine (make_yes H1.out M1.out.size 2 0 0 0 0 false ⟨#[]⟩ ⟨#[]⟩ (.slice none 0 0) rfl hr (by simp)).mono ?_
  rintro e w2 ⟨rfl, v2, h2, m2⟩
  have H2 := Aside0.mk h2
  have M2 := Aside0.mk (M1.out.trans m2.2.1)
  clear h2 m2
  obtain ⟨g, cap, rfl, hgB, hgl⟩ := H2.out.form (by simp)
  go_wp2_with fail
  refine (put_th (L := twoL) (cap := cap) (H2.out.below (below_alloc (Below.refl _ _) _)) ?_ two_good 1 (two_th.2 (.inl rfl)) (some ⟨w2.heap.size, 0, none⟩) 1 [2] (fun k => k = w2.heap.size) (ints_F (heap_alloc_new _ _) rfl (by simp) _ rfl) ?_ (by simp) (by simp)).mono ?_
  · have := M2.out.size; simp; omega
  · intro k hk
    have hp2 := blk_lt' H2.out.1
    subst hk
    exact ⟨by omega, by omega⟩
  rintro e w3 ⟨n, L', hR, rfl, v3, h3, m3⟩
  obtain ⟨rfl, rfl⟩ := two_put hR
  have H3 := Aside0.mk h3
  have M3 := Aside0.mk ((M2.out.alloc M2.out.size (.cells #[.int .i64 2] 3)).trans m3.2.1)
  clear h3 m3 hR
  go_wp2_with fail
  refine (node_yes H3.out 2 (Th_mapN.2 (two_th.2 (.inr rfl))) (by decide) (by decide)).mono ?_
  rintro e w4 ⟨kv, rfl, hRk, hb4⟩
  have e : (nd (relink twoL 1 [2]) 2) = ⟨2, 1, 0, 0, 0, false, ⟨#[]⟩, ⟨#[]⟩, []⟩ := rfl
  rw [e] at hRk ⊢
  unfold nodeV
  obtain ⟨A, c, rfl, -, -⟩ := Kd.R_reads hRk
  have hb := fun cs => blk_cell (heap_alloc_new w4 (.cells cs 33))
  have M4 := Aside0.mk (M3.out.trans (hb4.mono M3.out.size))
  clear hRk hb4
  go_wp2
  go_ret
  exact ⟨rfl, M4.out.alloc M4.out.size _⟩
end Go.Proofs.Ytbkpgbhdfdifoaa
