/- The document's Do, and its Same at equal nodes. -/
import Derived.Test.YtbkpgbhdfdifoaaMr
namespace Go.Proofs.Ytbkpgbhdfdifoaa
open Go.RowKit Go.Proofs.YtbkpgbhdfdifoaaW.PrintWords Go.Proofs.YtbkpgbhdfdifoaaW.PrintLast Go.Proofs.YtbkpgbhdfdifoaaW.PrintMore
set_option linter.unusedVariables false
set_option linter.unusedSimpArgs false

set_option maxRecDepth 100000 in
set_option maxHeartbeats 1000000 in
theorem do20 {B : Nat → Prop} {w : World} {v : Value} {L : List S33} (h : RV B w v L) (hB : Up B w) (hg : Good L) (x : S35) (A12 A13 : Option Addr) (n12 c12 c13 : Nat)
    (hC : (Kd.int .i64).C w A13 x.f5.length x.f5) (hl : x.f5.length ≤ 1000) (hc : x.f5.length ≤ c13) :
    Calls Try.prog 20 #[v, actV x (.slice A12 n12 c12) (.slice A13 x.f5.length c13)] w (RMake B w (DoR L x)) := by
  obtain ⟨A, c, rfl⟩ := h.slice
  have H := Aside0.mk h
  have HG := Aside0.mk hg
  have HC := Aside0.mk hC
  clear h hg hC
  unfold actV
  have hb0 := heap_alloc_new w (.cells #[.int .i64 x.f0, .int .i64 x.f1, .int .i64 x.f2, .string x.f3, .int .i64 x.f4.f0, .int .i64 x.f4.f1, .int .i64 x.f4.f2, .int .i64 x.f4.f3, .int .i64 x.f4.f4, .bool x.f4.f5, .string x.f4.f6, .string x.f4.f7, .slice A12 n12 c12, .slice A13 x.f5.length c13] 35)
  have hb1 := fun j => blk_cell hb0 j
  have HB0 := Aside0.mk ((Below.refl w.heap.size w).alloc (Nat.le_refl _) (.cells #[.int .i64 x.f0, .int .i64 x.f1, .int .i64 x.f2, .string x.f3, .int .i64 x.f4.f0, .int .i64 x.f4.f1, .int .i64 x.f4.f2, .int .i64 x.f4.f3, .int .i64 x.f4.f4, .bool x.f4.f5, .string x.f4.f6, .string x.f4.f7, .slice A12 n12 c12, .slice A13 x.f5.length c13] 35))
  have H1 := Aside0.mk (H.out.below HB0.out)
  have hB1 := Up.le hB HB0.out.size
  by_cases e0 : x.f0 = 0
  · have hE := Aside0.mk e0
    have t0 : (x.f0 == 0) = true := by simp [e0]
    clear e0
    go_enter Try.func20, Try.ntmps20
    go_wp2_with fail
    refine (make78_any H1.out hB1 HG.out x.f4 (.slice A12 n12 c12) rfl).mono ?_
    rintro e w' ⟨id, n, L', v', hR, rfl, h1, h2⟩
    have HR := Aside0.mk hR
    have H2 := Aside0.mk h1
    have M2 := Aside0.mk (HB0.out.trans (h2.mono HB0.out.size))
    clear hR h1 h2
    go_wp2
    go_ret3
    exact ⟨id, n, L', v', .inl ⟨hE.out, HR.out⟩, rfl, H2.out, M2.out⟩
  have t0 := beqF e0
  by_cases e1 : x.f0 = 1
  · have hE := Aside0.mk e1
    have t1 : (x.f0 == 1) = true := by simp [e1]
    clear e0 e1
    go_enter Try.func20, Try.ntmps20
    go_wp2_with fail
    refine (put79 H1.out hB1 HG.out x.f1 A13 c13 x.f5 (fun w' hw => Kd.C_below HC.out ((HB0.out.trans (hw.mono HB0.out.size)))) hl hc).mono ?_
    rintro e w' ⟨n, L', v', hR, rfl, h1, h2⟩
    have HR := Aside0.mk hR
    have H2 := Aside0.mk h1
    have M2 := Aside0.mk (HB0.out.trans (h2.mono HB0.out.size))
    clear hR h1 h2
    go_wp2
    go_ret3
    exact ⟨0, n, L', v', .inr (.inl ⟨hE.out, rfl, HR.out⟩), rfl, H2.out, M2.out⟩
  have t1 := beqF e1
  by_cases e2 : x.f0 = 2
  · have hE := Aside0.mk e2
    have t2 : (x.f0 == 2) = true := by simp [e2]
    clear e0 e1 e2
    go_enter Try.func20, Try.ntmps20
    go_wp2_with fail
    refine (tie80 H1.out hB1 HG.out x.f1 x.f2).mono ?_
    rintro e w' ⟨n, L', v', hR, rfl, h1, h2⟩
    have HR := Aside0.mk hR
    have H2 := Aside0.mk h1
    have M2 := Aside0.mk (HB0.out.trans (h2.mono HB0.out.size))
    clear hR h1 h2
    go_wp2
    go_ret3
    exact ⟨0, n, L', v', .inr (.inr (.inl ⟨hE.out, rfl, HR.out⟩)), rfl, H2.out, M2.out⟩
  have t2 := beqF e2
  by_cases e3 : x.f0 = 3
  · have hE := Aside0.mk e3
    have t3 : (x.f0 == 3) = true := by simp [e3]
    clear e0 e1 e2 e3
    go_enter Try.func20, Try.ntmps20
    go_wp2_with fail
    refine (name81 H1.out hB1 HG.out x.f1 x.f3).mono ?_
    rintro e w' ⟨n, L', v', hR, rfl, h1, h2⟩
    have HR := Aside0.mk hR
    have H2 := Aside0.mk h1
    have M2 := Aside0.mk (HB0.out.trans (h2.mono HB0.out.size))
    clear hR h1 h2
    go_wp2
    go_ret3
    exact ⟨0, n, L', v', .inr (.inr (.inr (.inl ⟨hE.out, rfl, HR.out⟩))), rfl, H2.out, M2.out⟩
  have t3 := beqF e3
  by_cases e4 : x.f0 = 4
  · have hE := Aside0.mk e4
    have t4 : (x.f0 == 4) = true := by simp [e4]
    clear e0 e1 e2 e3 e4
    go_enter Try.func20, Try.ntmps20
    go_wp2_with fail
    refine (want82 H1.out hB1 HG.out x.f1 x.f3).mono ?_
    rintro e w' ⟨n, L', v', hR, rfl, h1, h2⟩
    have HR := Aside0.mk hR
    have H2 := Aside0.mk h1
    have M2 := Aside0.mk (HB0.out.trans (h2.mono HB0.out.size))
    clear hR h1 h2
    go_wp2
    go_ret3
    exact ⟨0, n, L', v', .inr (.inr (.inr (.inr (.inl ⟨hE.out, rfl, HR.out⟩)))), rfl, H2.out, M2.out⟩
  have t4 := beqF e4
  have hE : Aside0 (x.f0 < 0 ∨ 4 < x.f0) := ⟨by omega⟩
  clear e0 e1 e2 e3 e4
  go_enter Try.func20, Try.ntmps20
  go_wp2
  go_ret3
  exact ⟨0, 0, L, _, .inr (.inr (.inr (.inr (.inr ⟨hE.out, rfl, rfl, rfl⟩)))), rfl, H1.out, HB0.out⟩
end Go.Proofs.Ytbkpgbhdfdifoaa
