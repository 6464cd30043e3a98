/- The document's Copy. -/
import Derived.Test.YtbkpgbhdfdifoaaY
namespace Go.Proofs.Ytbkpgbhdfdifoaa
open Go.RowKit Go.Proofs.YtbkpgbhdfdifoaaW.PrintWords Go.Proofs.YtbkpgbhdfdifoaaW.PrintLast Go.Proofs.YtbkpgbhdfdifoaaW.PrintMore
set_option linter.unusedVariables false
set_option linter.unusedSimpArgs false

theorem setN_self {L : List S33} {id : Int} (h : Th L id) : setN L id (nd L id) = L := by
  refine ext_nd (length_setN _ _ _) fun j hj => ?_
  rw [nd_setN h (Th_setN.1 hj)]
  by_cases e : j = id
  · rw [if_pos e, e]
  · rw [if_neg e]
/-- A list of nodes, made since block B; its own row since world w. -/
def CopyPost (B : Nat → Prop) (L : List S33) (w : World) (e : Ending) (w' : World) : Prop := ∃ v', e = .returned v' ∧ RV B w' v' L ∧ Below w.heap.size w w' ∧ ∀ k, v'.ownBlock = some k → w.heap.size ≤ k
set_option maxRecDepth 100000 in
set_option maxHeartbeats 400000 in
theorem copy_any {B : Nat → Prop} {w : World} {v : Value} {L : List S33} (h : RV B w v L) (hB : Up B w) (hn : L.length ≤ 128) (hk : ∀ id, Th L id → (nd L id).f8.length ≤ 1000) : Calls Try.prog 103 #[v] w (CopyPost B L w) := by
  obtain ⟨A, c, rfl⟩ := h.slice
  have H := Aside0.mk h
  have HKL := Aside0.mk hk
  clear h hk
  go_enter Try.func103, Try.ntmps103
  go_wp2_with (first | (at_builtin; refine Stop0.out ?_) | fail)
  refine ⟨?_⟩
  refine Kd.N_append_rows k33 (w0 := w) (W := w.alloc (.cells #[] 33)) 0 rfl (.tmp 5) (.tmp 6) 27 33 _ 104 rfl Try.underlying27 info33 rfl (by decide) (by omega) (.slice (some ⟨w.heap.size, 0, none⟩) 0 0) [] L A L.length c B (fun k => B k ∧ k < w.heap.size) rfl rfl (N_empty k33 33 w 0 _ (Nat.zero_le _) (hB w.heap.size (Nat.le_refl _))) (Kd.F_alloc (Kd.F_mono (Kd.F_bound (Kd.N_F H.out)) (fun _ h => h)) _) ?hokp ?hf ?hB ?hb ?hl ?_
  case hokp => exact fun k hk => ⟨hk.1, fun e => by have e' : k = w.heap.size := by simpa [Value.ownBlock] using e
                                                    omega⟩
  case hf => exact fun k hk => hB k (by simp at hk; omega)
  case hB => exact (Below.refl _ _).alloc (Nat.zero_le _) _
  case hb => exact Nat.zero_le _
  case hl => simp; omega
  intro v1 w1 HN1 HB1 hg1 hat1
  rw [List.nil_append] at HN1
  have hB1 : Below w.heap.size w w1 := by
    refine ((Below.refl w.heap.size w).alloc (Nat.le_refl _) _).grown hg1 (by simp) (fun k e => ?_)
    have e' : w.heap.size = k := by simpa [Value.ownBlock] using e
    omega
  have hf1 : ∀ k, v1.ownBlock = some k → w.heap.size ≤ k := fun k e => by
    rcases hat1 with h | ⟨b, h1, h2⟩
    · rw [h] at e
      have e' : w.heap.size = k := by simpa [Value.ownBlock] using e
      omega
    · rw [h1] at e
      injection e with e
      simp at h2
      omega
  have HN2 : Aside0 (RV B w1 v1 L) := ⟨HN1⟩
  obtain ⟨A1, c1, rfl⟩ := HN2.out.slice
  have HB2 := Aside0.mk hB1
  have HF1 := Aside0.mk hf1
  clear hB1 HB1 hg1 hat1 HN1 hf1
  go_wp2_with fail
  go_loopw [4] (fun i wr => ∃ k : Nat, i = .int .i64 k ∧ k ≤ L.length ∧ Aside0 (RV B wr (.slice A1 L.length c1) L) ∧ Aside0 (Below w.heap.size w wr)) (fun i _ => L.length - (intOf i).toNat)
  case atStart => exact ⟨0, rfl, by omega, HN2, HB2⟩
  case round =>
    clear HN2 HB2
    obtain ⟨k, rfl, hk, HN, HBl⟩ := hrel
    by_cases hlt : k < L.length
    · obtain ⟨g, cap, he, hgB, hgl⟩ := (H.out.below HBl.out).form (by omega)
      obtain ⟨g1, cap1, he1, hgB1, hgl1⟩ := HN.out.form (by omega)
      have hA : A = some ⟨g, 0, none⟩ := by injection he
      have hA1 : A1 = some ⟨g1, 0, none⟩ := by injection he1
      subst hA
      subst hA1
      have hT : Th L ((k : Int) + 1) := ⟨by omega, by omega⟩
      have hk0 : ((k : Int) + 1).toNat - 1 = k := by omega
      have hg1w := HF1.out g1 (by simp [Value.ownBlock])
      obtain ⟨A8, c8, l8, F8, hcc, hfr⟩ := (H.out.below HBl.out).elem rfl hT
      obtain ⟨l, hl⟩ : ∃ l, l = (nd L ((k : Int) + 1)).f8 := ⟨_, rfl⟩
      have hl8 := HKL.out _ hT
      have e8 := hcc 8 _ rfl
      rw [hk0] at e8
      rw [← hl] at e8 l8 F8 hl8
      have HF8 := Aside0.mk F8
      have HT := Aside0.mk hT
      have HL := Aside0.mk hl
      have p1 : (0 : Int) ≤ (k : Int) := by omega
      have p2 : (k : Int) < (L.length : Int) := by omega
      clear he he1 F8 hcc hfr hT hl
      go_wp2_with (first | (at_builtin; refine Stop0.out ?_) | fail)
      refine ⟨?_⟩
      refine Kd.R_append_rows (Kd.int .i64) (w0 := wr) (W := wr.alloc (.cells #[] 3)) wr.heap.size rfl (.tmp 16) (.tmp 21) 31 3 (.int .i64 0) 8 rfl Try.underlying31 info3 rfl (by decide) (by omega) (.slice (some ⟨wr.heap.size, 0, none⟩) 0 0) [] l A8 _ c8 (fun k => wr.heap.size ≤ k) (fun _ => False) rfl rfl (R_empty (Kd.int .i64) 3 wr _ _ (Nat.le_refl _) (Nat.le_refl _)) (Kd.C_alloc (Kd.F_now HF8.out) _) (fun _ _ h => h) (fun _ h => h.elim) ?aF ?aB ?aS ?aL ?_
      case aF => intro j hj; simp at hj; show wr.heap.size ≤ j; omega
      case aB => exact (Below.refl _ _).alloc (Nat.le_refl _) _
      case aS => simp
      case aL => simp; omega
      intro v3 w3 HR3 HB3 hg3 hat3
      rw [List.nil_append] at HR3
      obtain ⟨A9, c9, rfl, l9, -⟩ := Kd.R_reads HR3
      have HNw := HN.out.below HB3
      obtain ⟨A7, c7, l7, F7, hcc, hfr⟩ := HNw.elem rfl HT.out
      have d8 := hcc 8 _ rfl
      have f8 := hfr 8
      rw [hk0] at d8 f8
      have hF9 : Kd.F (Kd.int .i64) w3 (fun j => B j ∧ j ≠ g1) A9 l.length l := Kd.F_mono (Kd.N_F (Kd.R_N HR3)) (fun j hj => by
        have hj' : wr.heap.size ≤ j := hj
        have := HBl.out.size
        exact ⟨hB j (by omega), by omega⟩)
      have HS := Aside0.mk (HNw.store8 rfl HT.out A9 c9 l l9 hF9)
      have HB4 := Aside0.mk ((HBl.out.trans (HB3.mono HBl.out.size)).setCell (p := ⟨g1, k * 9 + 8, none⟩) hg1w (.slice A9 l.length c9))
      clear HNw F7 l7 hcc hfr hF9 HR3 HB3 hg3 hat3
      go_wp2
      go_round
      case rel =>
        refine ⟨k + 1, by go_num, by omega, ⟨?_⟩, HB4⟩
        have := HS.out
        rw [hk0, HL.out] at this
        rw [← HL.out] at this
        have e : setN L ((k : Int) + 1) { nd L ((k : Int) + 1) with f8 := l } = L := by rw [HL.out]; exact setN_self HT.out
        rw [e] at this
        exact this
      case measure => simp [intOf]; omega
    · have hkk : k = L.length := by omega
      subst hkk
      go_wp2
      go_ret
      exact ⟨_, rfl, HN.out, HBl.out, HF1.out⟩
end Go.Proofs.Ytbkpgbhdfdifoaa
