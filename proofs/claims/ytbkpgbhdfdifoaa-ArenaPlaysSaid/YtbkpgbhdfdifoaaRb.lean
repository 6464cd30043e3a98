/- The document's Name, Want, Tie. -/
import Derived.Test.YtbkpgbhdfdifoaaCp
namespace Go.Proofs.Ytbkpgbhdfdifoaa
open Go.RowKit Go.Proofs.YtbkpgbhdfdifoaaW.PrintWords Go.Proofs.YtbkpgbhdfdifoaaW.PrintLast Go.Proofs.YtbkpgbhdfdifoaaW.PrintMore
set_option linter.unusedVariables false
set_option linter.unusedSimpArgs false

def RPost (B : Nat → Prop) (w : World) (R : Int → List S33 → Prop) (e : Ending) (w' : World) : Prop := ∃ n L' v', R n L' ∧ e = .returned (.tuple #[v', .int .i64 n]) ∧ RV B w' v' L' ∧ Below w.heap.size w w'
theorem Good.kl {L : List S33} (h : Good L) : ∀ id, Th L id → (nd L id).f8.length ≤ 1000 := fun id hid => by have := h.kids_le hid; omega

set_option maxRecDepth 100000 in
set_option maxHeartbeats 400000 in
theorem name81 {B : Nat → Prop} {w : World} {v : Value} {L : List S33} (h : RV B w v L) (hB : Up B w) (hg : Good L) (a : Int) (s : ByteArray) : Calls Try.prog 81 #[v, .int .i64 a, .string s] w (RPost B w (NameR L a s)) := by
  obtain ⟨A, c, rfl⟩ := h.slice
  have H := Aside0.mk h
  have HG := Aside0.mk hg
  have hn := hg.len
  clear h hg
  by_cases hT : Th L a
  · have HT := Aside0.mk hT
    obtain ⟨g, cap, he, hgB, hgl⟩ := H.out.form (by obtain ⟨b1, b2⟩ := hT; omega)
    have hA : A = some ⟨g, 0, none⟩ := by injection he
    subst hA
    obtain ⟨A8, c8, l8, F8, hcc, hfr⟩ := H.out.elem rfl HT.out
    obtain ⟨x, hxx⟩ : ∃ x, x = nd L a := ⟨_, rfl⟩
    rw [← hxx] at hcc
    have e5 := hcc 5 _ rfl
    have HXX := Aside0.mk hxx
    have p4 : (1 : Int) ≤ a := HT.out.1
    have p5 : a ≤ (L.length : Int) := HT.out.2
    clear l8 F8 hcc hfr hxx hT he
    go_enter Try.func81, Try.ntmps81
    go_wp2_with fail
    refine (there_yes (some ⟨g, 0, none⟩) L.length c a _ HT.out).mono ?_
    rintro e w' ⟨rfl, rfl⟩
    go_wp2_with fail
    refine (named102 s _).mono ?_
    rintro e w' ⟨rfl, rfl⟩
    by_cases hs : namedB s = true
    · have HS := Aside0.mk hs
      by_cases h5 : x.f5 = true
      · have H5 := Aside0.mk h5
        go_wp2_with fail
        refine (copy_any H.out hB hn HG.out.kl).mono ?_
        rintro e w1 ⟨v1, rfl, hV1, hb1, hf1⟩
        obtain ⟨g1, cap1, rfl, hgB1, hgl1⟩ := hV1.form (by omega)
        have hgw := hf1 g1 (by simp [Value.ownBlock])
        obtain ⟨A8, c8, l8, F8, hcc, hfr⟩ := hV1.elem rfl HT.out
        have d6 := hcc 6 _ rfl
        have f6 := hfr 6
        have HS6 := Aside0.mk (hV1.store6 rfl HT.out s)
        have HB1 := Aside0.mk (hb1.setCell (p := ⟨g1, (a.toNat - 1) * 9 + 6, none⟩) hgw (.string s))
        clear hV1 hb1 hf1 l8 F8 hcc hfr
        go_wp2
        go_ret2
        refine ⟨0, nameL L a s, _, .inr (.inr ⟨⟨HT.out, HS.out⟩, by rw [← HXX.out]; exact H5.out, rfl, rfl⟩), rfl, ?_, HB1.out⟩
        have := HS6.out
        rw [setN_eq HT.out] at this
        exact (congrArg (fun l => RV B _ _ l) (mapN_congr (g' := fun j x => { x with f6 := if j = a then s else x.f6 }) fun j hj => by by_cases e : j = a <;> simp [e])).mp this
      · have h5f : x.f5 = false := by simpa using h5
        have H5 := Aside0.mk h5f
        clear h5
        go_wp2
        go_ret2
        exact ⟨2, L, _, .inr (.inl ⟨⟨HT.out, HS.out⟩, by rw [← HXX.out, H5.out]; simp, rfl, rfl⟩), rfl, H.out, Below.refl _ _⟩
    · have hsf : namedB s = false := by simpa using hs
      have HS := Aside0.mk hsf
      clear hs
      go_wp2
      go_ret2
      exact ⟨1, L, _, .inl ⟨fun h => by rw [HS.out] at h; simp at h, rfl, rfl⟩, rfl, H.out, Below.refl _ _⟩
  · have HT := Aside0.mk hT
    clear hT
    go_enter Try.func81, Try.ntmps81
    go_wp2_with fail
    refine (there_no A L.length c a _ HT.out).mono ?_
    rintro e w' ⟨rfl, rfl⟩
    go_wp2
    go_ret2
    exact ⟨1, L, _, .inl ⟨fun h => HT.out h.1, rfl, rfl⟩, rfl, H.out, Below.refl _ _⟩

set_option maxRecDepth 100000 in
set_option maxHeartbeats 400000 in
theorem want82 {B : Nat → Prop} {w : World} {v : Value} {L : List S33} (h : RV B w v L) (hB : Up B w) (hg : Good L) (a : Int) (s : ByteArray) : Calls Try.prog 82 #[v, .int .i64 a, .string s] w (RPost B w (WantR L a s)) := by
  obtain ⟨A, c, rfl⟩ := h.slice
  have H := Aside0.mk h
  have HG := Aside0.mk hg
  have hn := hg.len
  clear h hg
  by_cases hT : Th L a
  · have HT := Aside0.mk hT
    obtain ⟨g, cap, he, hgB, hgl⟩ := H.out.form (by obtain ⟨b1, b2⟩ := hT; omega)
    have hA : A = some ⟨g, 0, none⟩ := by injection he
    subst hA
    obtain ⟨A8, c8, l8, F8, hcc, hfr⟩ := H.out.elem rfl HT.out
    obtain ⟨x, hxx⟩ : ∃ x, x = nd L a := ⟨_, rfl⟩
    rw [← hxx] at hcc
    have e0 := hcc 0 _ rfl
    rw [Nat.add_zero] at e0
    have HXX := Aside0.mk hxx
    have p4 : (1 : Int) ≤ a := HT.out.1
    have p5 : a ≤ (L.length : Int) := HT.out.2
    clear l8 F8 hcc hfr hxx hT he
    go_enter Try.func82, Try.ntmps82
    go_wp2_with fail
    refine (there_yes (some ⟨g, 0, none⟩) L.length c a _ HT.out).mono ?_
    rintro e w' ⟨rfl, rfl⟩
    go_wp2_with fail
    refine (named102 s _).mono ?_
    rintro e w' ⟨rfl, rfl⟩
    by_cases hs : namedB s = true
    · have HS := Aside0.mk hs
      by_cases h0 : x.f0 = 2
      · have H0 := Aside0.mk h0
        go_wp2_with fail
        refine (copy_any H.out hB hn HG.out.kl).mono ?_
        rintro e w1 ⟨v1, rfl, hV1, hb1, hf1⟩
        obtain ⟨g1, cap1, rfl, hgB1, hgl1⟩ := hV1.form (by omega)
        have hgw := hf1 g1 (by simp [Value.ownBlock])
        obtain ⟨A8, c8, l8, F8, hcc, hfr⟩ := hV1.elem rfl HT.out
        have d7 := hcc 7 _ rfl
        have f7 := hfr 7
        have HS7 := Aside0.mk (hV1.store7 rfl HT.out s)
        have HB1 := Aside0.mk (hb1.setCell (p := ⟨g1, (a.toNat - 1) * 9 + 7, none⟩) hgw (.string s))
        clear hV1 hb1 hf1 l8 F8 hcc hfr
        go_wp2
        go_ret2
        refine ⟨0, wantL L a s, _, .inr (.inr ⟨⟨HT.out, HS.out⟩, by rw [← HXX.out]; exact H0.out, rfl, rfl⟩), rfl, ?_, HB1.out⟩
        have := HS7.out
        rw [setN_eq HT.out] at this
        exact (congrArg (fun l => RV B _ _ l) (mapN_congr (g' := fun j x => { x with f7 := if j = a then s else x.f7 }) fun j hj => by by_cases e : j = a <;> simp [e])).mp this
      · have hb0 := bneT h0
        have H0 := Aside0.mk h0
        clear h0
        go_wp2
        go_ret2
        exact ⟨2, L, _, .inr (.inl ⟨⟨HT.out, HS.out⟩, by rw [← HXX.out]; exact H0.out, rfl, rfl⟩), rfl, H.out, Below.refl _ _⟩
    · have hsf : namedB s = false := by simpa using hs
      have HS := Aside0.mk hsf
      clear hs
      go_wp2
      go_ret2
      exact ⟨1, L, _, .inl ⟨fun h => by rw [HS.out] at h; simp at h, rfl, rfl⟩, rfl, H.out, Below.refl _ _⟩
  · have HT := Aside0.mk hT
    clear hT
    go_enter Try.func82, Try.ntmps82
    go_wp2_with fail
    refine (there_no A L.length c a _ HT.out).mono ?_
    rintro e w' ⟨rfl, rfl⟩
    go_wp2
    go_ret2
    exact ⟨1, L, _, .inl ⟨fun h => HT.out h.1, rfl, rfl⟩, rfl, H.out, Below.refl _ _⟩

set_option maxRecDepth 100000 in
set_option maxHeartbeats 400000 in
theorem tie80 {B : Nat → Prop} {w : World} {v : Value} {L : List S33} (h : RV B w v L) (hB : Up B w) (hg : Good L) (a b : Int) : Calls Try.prog 80 #[v, .int .i64 a, .int .i64 b] w (RPost B w (TieR L a b)) := by
  obtain ⟨A, c, rfl⟩ := h.slice
  have H := Aside0.mk h
  have HG := Aside0.mk hg
  have hn := hg.len
  obtain ⟨r, hr⟩ := hg.rank
  have HRk := Aside0.mk hr
  clear h hg hr
  by_cases hT : Th L a
  · by_cases hT2 : Th L b
    · have HT := Aside0.mk hT
      have HT2 := Aside0.mk hT2
      obtain ⟨g, cap, he, hgB, hgl⟩ := H.out.form (by obtain ⟨b1, b2⟩ := hT; omega)
      have hA : A = some ⟨g, 0, none⟩ := by injection he
      subst hA
      obtain ⟨y, hy⟩ : ∃ y, y = nd L a := ⟨_, rfl⟩
      obtain ⟨z, hz⟩ : ∃ z, z = nd L b := ⟨_, rfl⟩
      obtain ⟨A8, c8, l8, F8, hcc, hfr⟩ := H.out.elem rfl HT.out
      rw [← hy] at hcc
      have e0 := hcc 0 _ rfl
      have e3 := hcc 3 _ rfl
      rw [Nat.add_zero] at e0
      clear hcc hfr F8 l8
      obtain ⟨A9, c9, l9, F9, hcc, hfr⟩ := H.out.elem rfl HT2.out
      rw [← hz] at hcc
      have d0 := hcc 0 _ rfl
      have d2 := hcc 2 _ rfl
      rw [Nat.add_zero] at d0
      clear hcc hfr F9 l9
      have HY := Aside0.mk hy
      have HZ := Aside0.mk hz
      have p4 : (1 : Int) ≤ a := HT.out.1
      have p5 : a ≤ (L.length : Int) := HT.out.2
      have p6 : (1 : Int) ≤ b := HT2.out.1
      have p7 : b ≤ (L.length : Int) := HT2.out.2
      clear hy hz hT hT2 he
      go_enter Try.func80, Try.ntmps80
      go_wp2_with fail
      refine (there_yes (some ⟨g, 0, none⟩) L.length c a _ HT.out).mono ?_
      rintro e w' ⟨rfl, rfl⟩
      go_wp2_with fail
      refine (there_yes (some ⟨g, 0, none⟩) L.length c b _ HT2.out).mono ?_
      rintro e w' ⟨rfl, rfl⟩
      by_cases k1 : y.f0 = 2
      · by_cases k2 : z.f0 = 3
        · have HK : Aside0 ((nd L a).f0 = 2 ∧ (nd L b).f0 = 3) := ⟨by rw [← HY.out, ← HZ.out]; exact ⟨k1, k2⟩⟩
          by_cases k3 : y.f3 = 0
          · by_cases k4 : z.f2 = 0
            · have HF : Aside0 ((nd L a).f3 = 0 ∧ (nd L b).f2 = 0) := ⟨by rw [← HY.out, ← HZ.out]; exact ⟨k3, k4⟩⟩
              obtain ⟨l, hl⟩ := chain_exists HRk.out a
              have HL := Aside0.mk hl
              clear hl
              go_wp2_with fail
              refine (over_any H.out hn r HRk.out a l HL.out).mono ?_
              rintro e w1 ⟨vo, rfl, hro, hb1⟩
              obtain ⟨Ao, co, rfl, lo, hCo⟩ := Kd.R_reads hro
              have HCo := Aside0.mk hCo
              have HB1 := Aside0.mk hb1
              clear hro hCo hb1
              go_wp2_with fail
              refine (has_any Ao l.length co l b _ HCo.out).mono ?_
              rintro e w' ⟨rfl, rfl⟩
              by_cases hm : b ∈ l
              · have hd : decide (b ∈ l) = true := decide_eq_true hm
                have HAn := Aside0.mk ((HL.out.mem b).1 hm)
                clear hm
                go_wp2
                go_ret2
                exact ⟨3, L, _, .inr (.inr (.inr (.inl ⟨⟨HT.out, HT2.out⟩, HK.out, HF.out, HAn.out, rfl, rfl⟩))), rfl, H.out.below HB1.out, HB1.out⟩
              · have hd : decide (b ∈ l) = false := decide_eq_false hm
                have HAn : Aside0 (¬ Anc L upO b a) := ⟨fun h => hm ((HL.out.mem b).2 h)⟩
                clear hm
                go_wp2_with fail
                refine (copy_any (H.out.below HB1.out) (Up.le hB HB1.out.size) hn HG.out.kl).mono ?_
                rintro e w2 ⟨v1, rfl, hV1, hb2, hf1⟩
                obtain ⟨g1, cap1, rfl, hgB1, hgl1⟩ := hV1.form (by omega)
                have hgw : w.heap.size ≤ g1 := Nat.le_trans HB1.out.size (hf1 g1 (by simp [Value.ownBlock]))
                obtain ⟨A8, c8, l8, F8, hcc, hfr⟩ := hV1.elem rfl HT.out
                have q3 := hcc 3 _ rfl
                have f3 := hfr 3
                clear hcc hfr l8 F8
                have hS1 := hV1.store3 rfl HT.out b
                have hS2 := hS1.store2 (length_setN _ _ _) (Th_setN.2 HT2.out) a
                obtain ⟨A7, c7, l7, F7, hcc, hfr⟩ := hS1.elem (length_setN _ _ _) (Th_setN.2 HT2.out)
                have q2 := hcc 2 _ rfl
                have f2 := hfr 2
                have HS2 := Aside0.mk hS2
                have HB2 := Aside0.mk (((HB1.out.trans (hb2.mono HB1.out.size)).setCell (p := ⟨g1, (a.toNat - 1) * 9 + 3, none⟩) hgw (.int .i64 b)).setCell (p := ⟨g1, (b.toNat - 1) * 9 + 2, none⟩) hgw (.int .i64 a))
                clear hS1 hS2 hcc hfr l7 F7 hV1 hb2 hf1
                go_wp2
                go_ret2
                refine ⟨0, tieL L a b, _, .inr (.inr (.inr (.inr ⟨⟨HT.out, HT2.out⟩, HK.out, HF.out, HAn.out, rfl, rfl⟩))), rfl, ?_, HB2.out⟩
                have := HS2.out
                rw [tie_of HT.out HT2.out] at this
                exact this
            · have hb4 := bneT k4
              have HF : Aside0 (¬ ((nd L a).f3 = 0 ∧ (nd L b).f2 = 0)) := ⟨by rw [← HY.out, ← HZ.out]; exact fun h => k4 h.2⟩
              clear k4
              go_wp2
              go_ret2
              exact ⟨6, L, _, .inr (.inr (.inl ⟨⟨HT.out, HT2.out⟩, HK.out, HF.out, rfl, rfl⟩)), rfl, H.out, Below.refl _ _⟩
          · have hb3 := bneT k3
            have HF : Aside0 (¬ ((nd L a).f3 = 0 ∧ (nd L b).f2 = 0)) := ⟨by rw [← HY.out, ← HZ.out]; exact fun h => k3 h.1⟩
            clear k3
            go_wp2
            go_ret2
            exact ⟨6, L, _, .inr (.inr (.inl ⟨⟨HT.out, HT2.out⟩, HK.out, HF.out, rfl, rfl⟩)), rfl, H.out, Below.refl _ _⟩
        · have hb2 := bneT k2
          have HK : Aside0 (¬ ((nd L a).f0 = 2 ∧ (nd L b).f0 = 3)) := ⟨by rw [← HY.out, ← HZ.out]; exact fun h => k2 h.2⟩
          clear k2
          go_wp2
          go_ret2
          exact ⟨2, L, _, .inr (.inl ⟨⟨HT.out, HT2.out⟩, HK.out, rfl, rfl⟩), rfl, H.out, Below.refl _ _⟩
      · have hb1 := bneT k1
        have HK : Aside0 (¬ ((nd L a).f0 = 2 ∧ (nd L b).f0 = 3)) := ⟨by rw [← HY.out, ← HZ.out]; exact fun h => k1 h.1⟩
        clear k1
        go_wp2
        go_ret2
        exact ⟨2, L, _, .inr (.inl ⟨⟨HT.out, HT2.out⟩, HK.out, rfl, rfl⟩), rfl, H.out, Below.refl _ _⟩
    · have HT := Aside0.mk hT
      have HT2 := Aside0.mk hT2
      clear hT hT2
      go_enter Try.func80, Try.ntmps80
      go_wp2_with fail
      refine (there_yes A L.length c a _ HT.out).mono ?_
      rintro e w' ⟨rfl, rfl⟩
      go_wp2_with fail
      refine (there_no A L.length c b _ HT2.out).mono ?_
      rintro e w' ⟨rfl, rfl⟩
      go_wp2
      go_ret2
      exact ⟨1, L, _, .inl ⟨fun h => HT2.out h.2, rfl, rfl⟩, rfl, H.out, Below.refl _ _⟩
  · have HT := Aside0.mk hT
    clear hT
    go_enter Try.func80, Try.ntmps80
    go_wp2_with fail
    refine (there_no A L.length c a _ HT.out).mono ?_
    rintro e w' ⟨rfl, rfl⟩
    go_wp2
    go_ret2
    exact ⟨1, L, _, .inl ⟨fun h => HT.out h.1, rfl, rfl⟩, rfl, H.out, Below.refl _ _⟩
end Go.Proofs.Ytbkpgbhdfdifoaa
