/- The document's Same at equal nodes. -/
import Derived.Test.YtbkpgbhdfdifoaaDr
namespace Go.Proofs.Ytbkpgbhdfdifoaa
open Go.RowKit Go.Proofs.YtbkpgbhdfdifoaaW.PrintWords Go.Proofs.YtbkpgbhdfdifoaaW.PrintLast Go.Proofs.YtbkpgbhdfdifoaaW.PrintMore
set_option linter.unusedVariables false
set_option linter.unusedSimpArgs false

set_option maxRecDepth 100000 in
set_option maxHeartbeats 1000000 in
theorem same_any {B1 B2 : Nat → Prop} {w : World} {v1 v2 : Value} {L : List S33} (h1 : RV B1 w v1 L) (h2 : RV B2 w v2 L) (hn : L.length ≤ 128) : Calls Try.prog 26 #[v1, v2] w (TrueB w) := by
  obtain ⟨A1, c1, rfl⟩ := h1.slice
  obtain ⟨A2, c2, rfl⟩ := h2.slice
  have H1 := Aside0.mk h1
  have H2 := Aside0.mk h2
  clear h1 h2
  go_enter Try.func26, Try.ntmps26
  go_wp2_with fail
  go_loopw [5] (fun i wr => ∃ k : Nat, i = .int .i64 k ∧ k ≤ L.length ∧ Aside0 (Below w.heap.size w wr)) (fun i _ => L.length - (intOf i).toNat)
  case atStart => exact ⟨0, rfl, by omega, ⟨Below.refl _ _⟩⟩
  case round =>
    obtain ⟨k, rfl, hk, HBl⟩ := hrel
    by_cases hlt : k < L.length
    · obtain ⟨g, cap, he, -, -⟩ := (H1.out.below HBl.out).form (by omega)
      obtain ⟨g2, cap2, he2, -, -⟩ := (H2.out.below HBl.out).form (by omega)
      have hA : A1 = some ⟨g, 0, none⟩ := by injection he
      have hA2 : A2 = some ⟨g2, 0, none⟩ := by injection he2
      subst hA
      subst hA2
      have hT : Th L ((k : Int) + 1) := ⟨by omega, by omega⟩
      have hk0 : ((k : Int) + 1).toNat - 1 = k := by omega
      obtain ⟨A8, c8, l8, F8, hcc, -⟩ := (H1.out.below HBl.out).elem rfl hT
      obtain ⟨A9, c9, l9, F9, hcd, -⟩ := (H2.out.below HBl.out).elem rfl hT
      obtain ⟨x, hx⟩ : ∃ x, x = nd L ((k : Int) + 1) := ⟨_, rfl⟩
      rw [← hx] at hcc hcd F8 F9
      have a0 := hcc 0 _ rfl
      have a1 := hcc 1 _ rfl
      have a2 := hcc 2 _ rfl
      have a3 := hcc 3 _ rfl
      have a4 := hcc 4 _ rfl
      have a5 := hcc 5 _ rfl
      have a6 := hcc 6 _ rfl
      have a7 := hcc 7 _ rfl
      have a8 := hcc 8 _ rfl
      rw [hk0] at a0 a1 a2 a3 a4 a5 a6 a7 a8
      rw [Nat.add_zero] at a0
      have b0 := hcd 0 _ rfl
      have b1 := hcd 1 _ rfl
      have b2 := hcd 2 _ rfl
      have b3 := hcd 3 _ rfl
      have b4 := hcd 4 _ rfl
      have b5 := hcd 5 _ rfl
      have b6 := hcd 6 _ rfl
      have b7 := hcd 7 _ rfl
      have b8 := hcd 8 _ rfl
      rw [hk0] at b0 b1 b2 b3 b4 b5 b6 b7 b8
      rw [Nat.add_zero] at b0
      have HF8 := Aside0.mk F8
      have HF9 := Aside0.mk F9
      have p1 : (0 : Int) ≤ (k : Int) := by omega
      have p2 : (k : Int) < (L.length : Int) := by omega
      clear he he2 hT hx l8 l9 F8 F9 hcc hcd
      go_wp2
      refine start_ (n := 10) (S := fun w' => w'.cell? ⟨g, k * 9, none⟩ = some (.int .i64 x.f0) ∧ w'.cell? ⟨g, k * 9 + 1, none⟩ = some (.int .i64 x.f1) ∧ w'.cell? ⟨g, k * 9 + 2, none⟩ = some (.int .i64 x.f2) ∧ w'.cell? ⟨g, k * 9 + 3, none⟩ = some (.int .i64 x.f3) ∧ w'.cell? ⟨g, k * 9 + 4, none⟩ = some (.int .i64 x.f4) ∧ w'.cell? ⟨g, k * 9 + 5, none⟩ = some (.bool x.f5) ∧ w'.cell? ⟨g, k * 9 + 6, none⟩ = some (.string x.f6) ∧ w'.cell? ⟨g, k * 9 + 7, none⟩ = some (.string x.f7) ∧ w'.cell? ⟨g, k * 9 + 8, none⟩ = some (.slice A8 x.f8.length c8) ∧ w'.cell? ⟨g2, k * 9, none⟩ = some (.int .i64 x.f0) ∧ w'.cell? ⟨g2, k * 9 + 1, none⟩ = some (.int .i64 x.f1) ∧ w'.cell? ⟨g2, k * 9 + 2, none⟩ = some (.int .i64 x.f2) ∧ w'.cell? ⟨g2, k * 9 + 3, none⟩ = some (.int .i64 x.f3) ∧ w'.cell? ⟨g2, k * 9 + 4, none⟩ = some (.int .i64 x.f4) ∧ w'.cell? ⟨g2, k * 9 + 5, none⟩ = some (.bool x.f5) ∧ w'.cell? ⟨g2, k * 9 + 6, none⟩ = some (.string x.f6) ∧ w'.cell? ⟨g2, k * 9 + 7, none⟩ = some (.string x.f7) ∧ w'.cell? ⟨g2, k * 9 + 8, none⟩ = some (.slice A9 x.f8.length c9)) (ds := [8]) #[false, false, false, false, false, false, false, false, false, false] (by kernel_rfl) rfl rfl ⟨a0, a1, a2, a3, a4, a5, a6, a7, a8, b0, b1, b2, b3, b4, b5, b6, b7, b8⟩ (fun hHeld => ?_)
      refine with_tab (T := rtab .any (opsOf Try.f26 6)) (by rfl) (fun HT_ => ?_)
      refine pure_ (i := 0) (N := (some 17)) (v := ?_) (a' := ?_) #[true, false, false, false, false, false, false, false, false, false] rfl rfl (any_of HT_.out (by kernel_rfl)) (fun _ _ _ h => h) (Or.inl ⟨by rfl, ?_⟩) ?_ ?_
      rotate_left
      · intro w'
        go_simp
        with_reducible rfl
      rotate_left
      · simp only [Act.put, List.setIfInBounds_toArray, List.set_cons_zero, List.set_cons_succ, i64_w, i32_w]
        rfl
      refine pure_ (i := 1) (N := (some 18)) (v := ?_) (a' := ?_) #[true, true, false, false, false, false, false, false, false, false] rfl rfl (any_of HT_.out (by kernel_rfl)) (fun _ _ _ h => h) (Or.inl ⟨by rfl, ?_⟩) ?_ ?_
      rotate_left
      · intro w'
        go_simp
        with_reducible rfl
      rotate_left
      · simp only [Act.put, List.setIfInBounds_toArray, List.set_cons_zero, List.set_cons_succ, i64_w, i32_w]
        rfl
      refine pure_ (i := 2) (N := (some 19)) (v := ?_) (a' := ?_) #[true, true, true, false, false, false, false, false, false, false] rfl rfl (any_of HT_.out (by kernel_rfl)) (fun _ _ _ h => h) (Or.inl ⟨by rfl, ?_⟩) ?_ ?_
      rotate_left
      · intro w'
        go_simp
        with_reducible rfl
      rotate_left
      · simp only [Act.put, List.setIfInBounds_toArray, List.set_cons_zero, List.set_cons_succ, i64_w, i32_w]
        rfl
      refine take_ (i := 3) (N := (some 20)) (v := ?_) (a' := ?_) #[true, true, true, true, false, false, false, false, false, false] rfl rfl (take_of HT_.out (by kernel_rfl)) (fun _ _ _ h => h) (Or.inl ⟨by rfl, ?_⟩) hHeld ?_ ?_
      rotate_left
      · rintro w' ⟨s0_, s1_, s2_, s3_, s4_, s5_, s6_, s7_, s8_, s9_, s10_, s11_, s12_, s13_, s14_, s15_, s16_, s17_⟩
        go_simp
        with_reducible rfl
      rotate_left
      · simp only [Act.put, List.setIfInBounds_toArray, List.set_cons_zero, List.set_cons_succ, i64_w, i32_w]
        rfl
      refine pure_ (i := 4) (N := (some 21)) (v := ?_) (a' := ?_) #[true, true, true, true, true, false, false, false, false, false] rfl rfl (any_of HT_.out (by kernel_rfl)) (fun _ _ _ h => h) (Or.inl ⟨by rfl, ?_⟩) ?_ ?_
      rotate_left
      · intro w'
        go_simp
        with_reducible rfl
      rotate_left
      · simp only [Act.put, List.setIfInBounds_toArray, List.set_cons_zero, List.set_cons_succ, i64_w, i32_w]
        rfl
      refine pure_ (i := 5) (N := (some 22)) (v := ?_) (a' := ?_) #[true, true, true, true, true, true, false, false, false, false] rfl rfl (any_of HT_.out (by kernel_rfl)) (fun _ _ _ h => h) (Or.inl ⟨by rfl, ?_⟩) ?_ ?_
      rotate_left
      · intro w'
        go_simp
        with_reducible rfl
      rotate_left
      · simp only [Act.put, List.setIfInBounds_toArray, List.set_cons_zero, List.set_cons_succ, i64_w, i32_w]
        rfl
      refine pure_ (i := 6) (N := (some 23)) (v := ?_) (a' := ?_) #[true, true, true, true, true, true, true, false, false, false] rfl rfl (any_of HT_.out (by kernel_rfl)) (fun _ _ _ h => h) (Or.inl ⟨by rfl, ?_⟩) ?_ ?_
      rotate_left
      · intro w'
        go_simp
        with_reducible rfl
      rotate_left
      · simp only [Act.put, List.setIfInBounds_toArray, List.set_cons_zero, List.set_cons_succ, i64_w, i32_w]
        rfl
      refine take_ (i := 7) (N := (some 24)) (v := ?_) (a' := ?_) #[true, true, true, true, true, true, true, true, false, false] rfl rfl (take_of HT_.out (by kernel_rfl)) (fun _ _ _ h => h) (Or.inl ⟨by rfl, ?_⟩) hHeld ?_ ?_
      rotate_left
      · rintro w' ⟨s0_, s1_, s2_, s3_, s4_, s5_, s6_, s7_, s8_, s9_, s10_, s11_, s12_, s13_, s14_, s15_, s16_, s17_⟩
        go_simp
        with_reducible rfl
      rotate_left
      · simp only [Act.put, List.setIfInBounds_toArray, List.set_cons_zero, List.set_cons_succ, i64_w, i32_w]
        rfl
      refine last_ (i := 8) (N := (some 25)) #[true, true, true, true, true, true, true, true, true, false] rfl rfl (one_of HT_.out (by kernel_rfl)) (by decide) (fun K hK => ?_)
      refine goes_ Try.func24 (by kernel_rfl) rfl #[nodeV x (.slice A8 x.f8.length c8), nodeV x (.slice A9 x.f8.length c9)] (by rfl) rfl rfl (by simp only [List.map_toArray, List.map_cons, List.map_nil]; rfl) ?_
      with_reducible refine (one_same x A8 A9 c8 c9 x.f8.length _ (Kd.C_below (Kd.F_now HF8.out) (below_drew (Below.refl _ _))) (Kd.C_below (Kd.F_now HF9.out) (below_drew (Below.refl _ _)))).mono ?_
      rintro e w2 ⟨rfl, hb2⟩
      refine ⟨_, rfl, ?_⟩
      have HB2 := Aside0.mk ((below_drew HBl.out).trans (hb2.mono (below_drew HBl.out).size))
      clear hb2
      refine hK.out _ _ ?_
      clear hK K
      refine norm_ (a' := ?_) ?_ ?_
      rotate_left
      · show Act.put _ (some 25) _ = _
        simp only [Act.put, List.setIfInBounds_toArray, List.set_cons_zero, List.set_cons_succ, i64_w, i32_w]
        rfl
      refine pure_ (i := 9) (N := (some 26)) (v := ?_) (a' := ?_) #[true, true, true, true, true, true, true, true, true, true] rfl rfl (any_of HT_.out (by kernel_rfl)) (fun _ _ _ h => h) (Or.inl ⟨by rfl, ?_⟩) ?_ ?_
      rotate_left
      · intro w'
        go_simp
        with_reducible rfl
      rotate_left
      · simp only [Act.put, List.setIfInBounds_toArray, List.set_cons_zero, List.set_cons_succ, i64_w, i32_w]
        rfl
      refine done_ (done_of HT_.out (by kernel_rfl)) ?_
      clear a0 a1 a2 a3 a4 a5 a6 a7 a8 b0 b1 b2 b3 b4 b5 b6 b7 b8
      go_wp2
      go_round
      case rel => exact ⟨k + 1, by go_num, by omega, HB2⟩
      case measure => simp [intOf]; omega
    · have hkk : k = L.length := by omega
      subst hkk
      go_wp2
      go_ret
      exact ⟨rfl, HBl.out⟩
end Go.Proofs.Ytbkpgbhdfdifoaa
