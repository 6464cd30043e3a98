/- Forest.Tie. -/
import Derived.Test.YtbkpgbhdfdifoaaJ
namespace Go.Proofs.Ytbkpgbhdfdifoaa
open Go.RowKit Go.Proofs.YtbkpgbhdfdifoaaW.PrintWords Go.Proofs.YtbkpgbhdfdifoaaW.PrintLast Go.Proofs.YtbkpgbhdfdifoaaW.PrintMore
set_option linter.unusedVariables false
set_option linter.unusedSimpArgs false

set_option maxHeartbeats 400000 in
theorem tie_nil (a b : Int) (w : World) : Calls Try.prog 31 #[.pointer none, .int .i64 a, .int .i64 b] w fun e w' => e = .returned (.int .i64 1) ∧ w = w' := by
  go_enter Try.func31, Try.ntmps31
  go_wp2_with fail
  refine (at_nil a _).mono ?_
  rintro e w' ⟨rfl, rfl⟩
  go_wp2_with fail
  refine (at_nil b _).mono ?_
  rintro e w' ⟨rfl, rfl⟩
  go_wp2
  go_ret
  exact ⟨rfl, rfl⟩
set_option maxHeartbeats 400000 in
theorem tie_no {B : Nat} {w : World} {p : Nat} {v : Value} {L : List S33} (h : FV B w p v L) (hB : B ≤ w.heap.size) (hn : L.length ≤ 1000) (a b : Int) (hid : ¬ (Th L a ∧ Th L b)) :
    Calls Try.prog 31 #[.pointer (some ⟨p, 0, none⟩), .int .i64 a, .int .i64 b] w (EPost B w p v (TieR L a b)) := by
  have HR := Aside0.mk (EPost.same (R := TieR L a b) h hB (Below.refl _ _) (.inl ⟨hid, rfl, rfl⟩))
  by_cases ha : Th L a
  · obtain ⟨g, cap, rfl, hgB, hgl⟩ := h.form (by obtain ⟨b1, b2⟩ := ha; omega)
    have hb : ¬ Th L b := fun hb => hid ⟨ha, hb⟩
    go_enter Try.func31, Try.ntmps31
    go_wp2_with fail
    refine (at_yes h a ha hn).mono ?_
    rintro e w' ⟨rfl, rfl⟩
    go_wp2_with fail
    refine (at_no h b hb).mono ?_
    rintro e w' ⟨rfl, rfl⟩
    go_wp2
    go_ret
    exact HR.out
  · by_cases hb : Th L b
    · obtain ⟨g, cap, rfl, hgB, hgl⟩ := h.form (by obtain ⟨b1, b2⟩ := hb; omega)
      go_enter Try.func31, Try.ntmps31
      go_wp2_with fail
      refine (at_no h a ha).mono ?_
      rintro e w' ⟨rfl, rfl⟩
      go_wp2_with fail
      refine (at_yes h b hb hn).mono ?_
      rintro e w' ⟨rfl, rfl⟩
      go_wp2
      go_ret
      exact HR.out
    · go_enter Try.func31, Try.ntmps31
      go_wp2_with fail
      refine (at_no h a ha).mono ?_
      rintro e w' ⟨rfl, rfl⟩
      go_wp2_with fail
      refine (at_no h b hb).mono ?_
      rintro e w' ⟨rfl, rfl⟩
      go_wp2
      go_ret
      exact HR.out
theorem FV.store2_n {B : Nat} {w : World} {p g n cap : Nat} {L : List S33} (h : FV B w p (.slice (some ⟨g, 0, none⟩) n cap) L) (hl : L.length = n) {id : Int} (hid : Th L id) (q : Int) :
    FV B (w.setCell ⟨g, (id.toNat - 1) * 9 + 2, none⟩ (.int .i64 q)) p (.slice (some ⟨g, 0, none⟩) n cap) (setN L id { nd L id with f2 := q }) ∧ w.grownBy (w.setCell ⟨g, (id.toNat - 1) * 9 + 2, none⟩ (.int .i64 q)) (some g) := by
  subst hl
  exact h.store2 hid q
theorem tie_of {L : List S33} {a b : Int} (ha : Th L a) (hb : Th L b) : setN (setN L a { nd L a with f3 := b }) b { nd (setN L a { nd L a with f3 := b }) b with f2 := a } = tieL L a b := by
  refine ext_nd (by rw [length_setN, length_setN, tieL, length_mapN]) fun id hid => ?_
  have hid1 := Th_setN.1 hid
  have hid2 := Th_setN.1 hid1
  rw [nd_setN (Th_setN.2 hb) hid1, nd_setN ha hid2, nd_setN ha hb, tieL, nd_mapN hid2]
  by_cases e1 : id = b
  · subst e1
    by_cases e2 : id = a
    · subst e2; simp
    · simp [e2]
  · by_cases e2 : id = a
    · subst e2; simp [e1]
    · simp [e1, e2]

set_option maxRecDepth 100000 in
set_option maxHeartbeats 400000 in
theorem tie_th {B : Nat} {w : World} {p g cap : Nat} {L : List S33} (h : FV B w p (.slice (some ⟨g, 0, none⟩) L.length cap) L) (hB : B ≤ w.heap.size) (hn : L.length ≤ 1000) (r : Int → Nat) (hr : Ranked L upO r) (a b : Int) (ha : Th L a) (hb : Th L b) :
    Calls Try.prog 31 #[.pointer (some ⟨p, 0, none⟩), .int .i64 a, .int .i64 b] w (EPost B w p (.slice (some ⟨g, 0, none⟩) L.length cap) (TieR L a b)) := by
  have H := Aside0.mk h
  have HA := Aside0.mk ha
  have HB := Aside0.mk hb
  have HRk := Aside0.mk hr
  have hgB : B ≤ g := Kd.N_base h.2.2 g (by simp [Value.ownBlock])
  clear h ha hb hr
  obtain ⟨y, hy⟩ : ∃ y, y = nd L a := ⟨_, rfl⟩
  obtain ⟨z, hz⟩ : ∃ z, z = nd L b := ⟨_, rfl⟩
  obtain ⟨A8, c8, l8, F8, hcc, hfr⟩ := H.out.elem HA.out
  rw [← hy] at hcc
  have e0 := hcc 0 _ rfl
  have e3 := hcc 3 _ rfl
  have f3 := hfr 3
  rw [Nat.add_zero] at e0
  clear hcc hfr F8 l8
  obtain ⟨A9, c9, l9, F9, hcc, hfr⟩ := H.out.elem HB.out
  rw [← hz] at hcc
  have d0 := hcc 0 _ rfl
  have d2 := hcc 2 _ rfl
  have g2 := hfr 2
  rw [Nat.add_zero] at d0
  clear hcc hfr F9 l9
  have HY := Aside0.mk hy
  have HZ := Aside0.mk hz
  clear hy hz
  go_enter Try.func31, Try.ntmps31
  go_wp2_with fail
  refine (at_yes H.out a HA.out hn).mono ?_
  rintro e w' ⟨rfl, rfl⟩
  go_wp2_with fail
  refine (at_yes H.out b HB.out hn).mono ?_
  rintro e w' ⟨rfl, rfl⟩
  by_cases k1 : y.f0 = 2
  · by_cases k2 : z.f0 = 3
    · have HK : Aside0 ((nd L a).f0 = 2 ∧ (nd L b).f0 = 3) := ⟨by rw [← HY.out, ← HZ.out]; exact ⟨k1, k2⟩⟩
      by_cases k3 : y.f3 = 0
      · by_cases k4 : z.f2 = 0
        · have HF : Aside0 ((nd L a).f3 = 0 ∧ (nd L b).f2 = 0) := ⟨by rw [← HY.out, ← HZ.out]; exact ⟨k3, k4⟩⟩
          go_wp2_with fail
          refine (above_any H.out hn r HRk.out b a HA.out).mono ?_
          rintro e w' ⟨bb, rfl, hbb, rfl⟩
          have HBB := Aside0.mk hbb
          clear hbb
          cases bb with
          | true =>
            go_wp2
            go_ret
            exact EPost.same H.out hB (Below.refl _ _) (.inr (.inr (.inr (.inl ⟨⟨HA.out, HB.out⟩, HK.out, HF.out, HBB.out.1 (by simp), rfl, rfl⟩))))
          | false =>
            have hS1 := H.out.store3 HA.out b
            have HS1 := Aside0.mk hS1.1
            have hS2 := FV.store2_n hS1.1 (length_setN _ _ _) (Th_setN.2 HB.out) a
            have HS2 := Aside0.mk hS2.1
            obtain ⟨A7, c7, l7, F7, hcc, hfr⟩ := FV.elem_n hS1.1 (length_setN _ _ _) (Th_setN.2 HB.out)
            have d2' := hcc 2 _ rfl
            have g2' := hfr 2
            clear hS1 hS2 hcc hfr l7 F7
            go_wp2
            go_ret
            refine ⟨0, tieL L a b, .inr (.inr (.inr (.inr ⟨⟨HA.out, HB.out⟩, HK.out, HF.out, fun hA => absurd (HBB.out.2 hA) (by decide), rfl, rfl⟩))), rfl, .slice (some ⟨g, 0, none⟩) L.length cap, ?_, ?_⟩
            · have := HS2.out
              rw [tie_of HA.out HB.out] at this
              exact this
            · have hv : some g = (Value.slice (some ⟨g, 0, none⟩) L.length cap).ownBlock := rfl
              exact ⟨((Kept.refl w _).setCell (.inl (.inr hv)) _).setCell (.inl (.inr hv)) _, ((Below.refl B w).setCell hgB _).setCell hgB _, .inl rfl⟩
        · have hb4 := bneT k4
          have HF : Aside0 (¬ ((nd L a).f3 = 0 ∧ (nd L b).f2 = 0)) := ⟨by rw [← HY.out, ← HZ.out]; exact fun h => k4 h.2⟩
          clear k4
          go_wp2
          go_ret
          exact EPost.same H.out hB (Below.refl _ _) (.inr (.inr (.inl ⟨⟨HA.out, HB.out⟩, HK.out, HF.out, rfl, rfl⟩)))
      · have hb3 := bneT k3
        have HF : Aside0 (¬ ((nd L a).f3 = 0 ∧ (nd L b).f2 = 0)) := ⟨by rw [← HY.out, ← HZ.out]; exact fun h => k3 h.1⟩
        clear k3
        go_wp2
        go_ret
        exact EPost.same H.out hB (Below.refl _ _) (.inr (.inr (.inl ⟨⟨HA.out, HB.out⟩, HK.out, HF.out, rfl, rfl⟩)))
    · have hb2 := bneT k2
      have HK : Aside0 (¬ ((nd L a).f0 = 2 ∧ (nd L b).f0 = 3)) := ⟨by rw [← HY.out, ← HZ.out]; exact fun h => k2 h.2⟩
      clear k2
      go_wp2
      go_ret
      exact EPost.same H.out hB (Below.refl _ _) (.inr (.inl ⟨⟨HA.out, HB.out⟩, HK.out, rfl, rfl⟩))
  · have hb1 := bneT k1
    have HK : Aside0 (¬ ((nd L a).f0 = 2 ∧ (nd L b).f0 = 3)) := ⟨by rw [← HY.out, ← HZ.out]; exact fun h => k1 h.1⟩
    clear k1
    go_wp2
    go_ret
    exact EPost.same H.out hB (Below.refl _ _) (.inr (.inl ⟨⟨HA.out, HB.out⟩, HK.out, rfl, rfl⟩))
end Go.Proofs.Ytbkpgbhdfdifoaa
