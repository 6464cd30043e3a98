/- towncrierlaw04.ArenaTree: the walk. -/
import Derived.Test.YtbkpgbhdfdifoaaOpn
namespace Go.Proofs.Ytbkpgbhdfdifoaa
open Go.RowKit Go.Proofs.YtbkpgbhdfdifoaaW.PrintWords Go.Proofs.YtbkpgbhdfdifoaaW.PrintLast Go.Proofs.YtbkpgbhdfdifoaaW.PrintMore
set_option linter.unusedVariables false
set_option linter.unusedSimpArgs false

set_option maxRecDepth 100000 in
set_option maxHeartbeats 4000000 in
theorem arenaTree_walk (A : Option Addr) (n c0 : Nat) (acts : List S35) (w : World) (hC : k35.C w A n acts) : Calls Try.prog 4 #[.slice A n c0] w (TrueB w) := by
  have HC := Aside0.mk hC
  clear hC
  go_enter Try.func4, Try.ntmps4
  go_wp2_with fail
  refine (awake_any _).mono ?_
  rintro e w1 ⟨rfl, hb1⟩
  have B1 := Aside0.mk hb1
  clear hb1
  go_wp2_with fail
  refine (great17 A n c0 acts _ (Kd.C_below HC.out B1.out)).mono ?_
  rintro e w' ⟨bg, rfl, rfl, hS⟩
  have HS := Aside0.mk hS
  clear hS
  cases bg with
  | true =>
    go_wp2
    go_ret
    exact ⟨rfl, B1.out⟩
  | false =>
    go_wp2_with fail
    refine (made27 A n c0 acts _ (Kd.C_below HC.out B1.out) (HS.out (by trivial))).mono ?_
    rintro e w2 ⟨p, v0, L, rfl, hF, hP, hb2⟩
    have HF := Aside0.mk hF
    have hg := hP.good Good.nil
    have hn := hg.len
    obtain ⟨r, hr⟩ := hg.rank
    have HRk := Aside0.mk hr
    have HG := Aside0.mk hg
    have B2 := Aside0.mk (B1.out.trans (hb2.mono B1.out.size))
    clear hF hP hb2 hg hr
    go_wp2_with fail
    refine (all_any HF.out HG.out).mono ?_
    rintro e w3 ⟨v, rfl, hR, hb3⟩
    have HV : Aside0 (RV w2.heap.size w3 v L) := ⟨Kd.R_N hR⟩
    have B3 := Aside0.mk (B2.out.trans (hb3.mono B2.out.size))
    clear hR hb3
    obtain ⟨A3, c, rfl⟩ := HV.out.slice
    go_wp2_with fail
    go_loopw [4] (fun i wr => ∃ k : Nat, i = .int .i64 k ∧ k ≤ L.length ∧ Aside0 (Below w3.heap.size w3 wr)) (fun i _ => L.length - (intOf i).toNat)
    case atStart => exact ⟨0, rfl, by omega, ⟨Below.refl _ _⟩⟩
    case round =>
      obtain ⟨k, rfl, hk, HB⟩ := hrel
      by_cases hlt : k < L.length
      · obtain ⟨g, cap, he, -, -⟩ := HV.out.form (by omega)
        have hA : A3 = some ⟨g, 0, none⟩ := by injection he
        subst hA
        have hT : Th L ((k : Int) + 1) := ⟨by omega, by omega⟩
        have hk0 : ((k : Int) + 1).toNat - 1 = k := by omega
        obtain ⟨x, hx⟩ : ∃ x, x = nd L ((k : Int) + 1) := ⟨_, rfl⟩
        have HX := Aside0.mk hx
        have HT := Aside0.mk hT
        have p1 : (0 : Int) ≤ (k : Int) := by omega
        have p2 : (k : Int) < (L.length : Int) := by omega
        have hx8 : x.f8.length ≤ 128 := by rw [hx]; exact HG.out.kids_le hT
        clear hx hT he
        go_wp2_with fail
        go_loopw [5] (fun i wr => ∃ k2 : Nat, i = .int .i64 k2 ∧ k2 ≤ x.f8.length ∧ Aside0 (Below w3.heap.size w3 wr)) (fun i _ => x.f8.length - (intOf i).toNat)
        case atStart => exact ⟨0, rfl, by omega, HB⟩
        case round =>
          clear HB
          obtain ⟨k2, rfl, hk2, HB⟩ := hrel
          obtain ⟨A8, c8, l8, F8, hcc, -⟩ := (HV.out.below HB.out).elem rfl HT.out
          rw [← HX.out] at hcc F8 l8
          have e8 := hcc 8 _ rfl
          rw [hk0] at e8
          have HF8 := Aside0.mk F8
          clear hcc F8
          by_cases hlt2 : k2 < x.f8.length
          · obtain ⟨ad, eA, hc⟩ := int_at (Kd.F_now HF8.out) hlt2
            have p3 : (0 : Int) ≤ (k2 : Int) := by omega
            have p4 : (k2 : Int) < (x.f8.length : Int) := by omega
            obtain ⟨a, ha⟩ : ∃ a, a = x.f8[k2] := ⟨_, rfl⟩
            rw [← ha] at hc
            have hq := HG.out.kid ((k : Int) + 1) HT.out a (by rw [← HX.out, ha]; exact List.getElem_mem hlt2)
            obtain ⟨A7, c7, l7, F7, hcc, -⟩ := (HV.out.below HB.out).elem rfl hq.1
            rw [hq.2] at hcc
            have d1 := hcc 1 _ rfl
            have HTa := Aside0.mk hq.1
            have HA := Aside0.mk ha
            have p5 : (1 : Int) ≤ a := hq.1.1
            have p6 : a ≤ (L.length : Int) := hq.1.2
            clear hcc l7 F7 hq ha
            subst eA
            go_wp2_with fail
            refine (there_yes (some ⟨g, 0, none⟩) L.length c a _ HTa.out).mono ?_
            rintro e w' ⟨rfl, rfl⟩
            go_wp2_with fail
            go_loopw [6] (fun i wr => ∃ k3 : Nat, i = .int .i64 k3 ∧ k3 ≤ k2 ∧ Aside0 (Below w3.heap.size w3 wr)) (fun i _ => k2 - (intOf i).toNat)
            case atStart => exact ⟨0, rfl, by omega, HB⟩
            case round =>
              clear HB e8 hc HF8 l8 d1
              obtain ⟨k3, rfl, hk3, HB⟩ := hrel
              by_cases hlt3 : k3 < k2
              · obtain ⟨A8, c8, l8, F8, hcc, -⟩ := (HV.out.below HB.out).elem rfl HT.out
                rw [← HX.out] at hcc F8 l8
                have e8 := hcc 8 _ rfl
                rw [hk0] at e8
                obtain ⟨ad2, eA, hc⟩ := int_at (Kd.F_now F8) hlt2
                obtain ⟨ad3, eA3, hc3⟩ := int_at (Kd.F_now F8) (show k3 < x.f8.length by omega)
                have e23 : ad3 = ad2 := by rw [eA] at eA3; injection eA3 with e; exact e.symm
                rw [e23] at hc3
                obtain ⟨b, hb⟩ : ∃ b, b = x.f8[k3] := ⟨_, rfl⟩
                rw [← hb] at hc3
                rw [← HA.out] at hc
                have hne : (b == a) = false := by
                  have hnd := HG.out.nodup ((k : Int) + 1) HT.out
                  rw [← HX.out] at hnd
                  refine beqF (fun e => ?_)
                  rw [hb, HA.out] at e
                  rw [List.nodup_iff_pairwise_ne, List.pairwise_iff_getElem] at hnd
                  exact hnd k3 k2 (by omega) hlt2 hlt3 e
                have p7 : (0 : Int) ≤ (k3 : Int) := by omega
                have p8 : (k3 : Int) < (x.f8.length : Int) := by omega
                have p9 : (k3 : Int) < (k2 : Int) := by omega
                clear hcc F8 eA3 e23 hb
                subst eA
                go_wp2_with fail
                go_quiet (fail)
                go_wp2
                go_round
                case rel => exact ⟨k3 + 1, by go_num, by omega, ⟨pw_below_drewN HB.out _⟩⟩
                case measure => simp [intOf]; omega
              · have p9 : ¬ (k3 : Int) < (k2 : Int) := by omega
                go_wp2
                go_round
                case rel => exact ⟨k2 + 1, by go_num, by omega, HB⟩
                case measure => simp [intOf]; omega
          · have p4 : ¬ (k2 : Int) < (x.f8.length : Int) := by omega
            obtain ⟨A7, c7, l7, F7, hcc, -⟩ := (HV.out.below HB.out).elem rfl HT.out
            rw [← HX.out] at hcc
            have e1 := hcc 1 _ rfl
            rw [hk0] at e1
            clear hcc l7 F7 HF8
            by_cases f1 : x.f1 = 0
            · have HF1 : Aside0 ((x.f1 != 0) = false) := ⟨by simp [f1]⟩
              have b1 := HF1.out
              clear f1
              obtain ⟨l, hl⟩ := chain_exists HRk.out ((k : Int) + 1)
              have hll := hl.length HRk.out
              have HL := Aside0.mk hl
              have q30 : (l.length : Int) ≤ (L.length : Int) := by omega
              clear hl
              go_wp2_with fail
              refine (over_any (HV.out.below HB.out) hn r HRk.out ((k : Int) + 1) l HL.out).mono ?_
              rintro e w5 ⟨vo, rfl, hro, hb5⟩
              obtain ⟨Ao, co, rfl, lo, -⟩ := Kd.R_reads hro
              have HB5 := Aside0.mk (HB.out.trans (hb5.mono HB.out.size))
              clear hro hb5
              obtain ⟨A7, c7, l7, F7, hcc, -⟩ := (HV.out.below HB5.out).elem rfl HT.out
              rw [← HX.out] at hcc
              have e0 := hcc 0 _ rfl
              have e1 := hcc 1 _ rfl
              have e3 := hcc 3 _ rfl
              rw [hk0] at e0 e1 e3
              rw [Nat.add_zero] at e0
              clear l7 F7 hcc
              have b1 := HF1.out
              by_cases f3 : x.f3 = 0
              · have b4 : (x.f3 != 0) = false := by simp [f3]
                clear f3
                go_wp2
                go_round
                case rel => exact ⟨k + 1, by go_num, by omega, HB5⟩
                case measure => simp [intOf]; omega
              · obtain ⟨g1, g2, g3⟩ := HG.out.shad ((k : Int) + 1) HT.out (by rw [← HX.out]; exact f3)
                rw [← HX.out] at g2 g3
                have g4 := (HG.out.host x.f3 g2 (by rw [g3]; omega)).1
                obtain ⟨A7, c7, l7, F7, hcc, -⟩ := (HV.out.below HB5.out).elem rfl g2
                rw [g3, g4] at hcc
                have d0 := hcc 0 _ rfl
                have d2 := hcc 2 _ rfl
                rw [Nat.add_zero] at d0
                have p7 : (1 : Int) ≤ x.f3 := g2.1
                have p8 : x.f3 ≤ (L.length : Int) := g2.2
                have HT3 := Aside0.mk g2
                have b4 := bneT f3
                clear f3 g1 g2 g3 g4 l7 F7 hcc
                go_wp2_with fail
                refine (there_yes (some ⟨g, 0, none⟩) L.length c x.f3 _ HT3.out).mono ?_
                rintro e w' ⟨rfl, rfl⟩
                go_wp2
                go_round
                case rel => exact ⟨k + 1, by go_num, by omega, HB5⟩
                case measure => simp [intOf]; omega
            · obtain ⟨g1, g2⟩ := HG.out.par ((k : Int) + 1) HT.out (by rw [← HX.out]; exact f1)
              have g3 := HG.out.kind ((k : Int) + 1) HT.out (by rw [← HX.out]; exact f1)
              rw [← HX.out] at g1 g2 g3
              have HF1 := Aside0.mk (bneT f1)
              have HK1 : Aside0 ((x.f0 == 1) = false) := ⟨by unfold rootedB at g3; simp at g3; exact beqF g3.1⟩
              have HK3 : Aside0 ((x.f0 == 3) = false) := ⟨by unfold rootedB at g3; simp at g3; exact beqF g3.2⟩
              have b1 := HF1.out
              have p5 : (1 : Int) ≤ x.f1 := g1.1
              have p6 : x.f1 ≤ (L.length : Int) := g1.2
              have HTp := Aside0.mk g1
              obtain ⟨ks, hks⟩ : ∃ ks, ks = (nd L x.f1).f8 := ⟨_, rfl⟩
              rw [← hks] at g2
              have HKs := Aside0.mk hks
              have HIn := Aside0.mk g2
              have hksl : ks.length ≤ 128 := by rw [hks]; exact HG.out.kids_le g1
              clear f1 g1 g2 g3 hks
              go_wp2_with fail
              refine (there_yes (some ⟨g, 0, none⟩) L.length c x.f1 _ HTp.out).mono ?_
              rintro e w' ⟨rfl, rfl⟩
              go_wp2_with fail
              go_loopw [8, 9] (fun t i wr => ∃ (k4 : Nat) (b : Bool), i = .int .i64 k4 ∧ t = .bool b ∧ k4 ≤ ks.length ∧ Aside0 (b = decide ((k : Int) + 1 ∈ ks.take k4)) ∧ Aside0 (Below w3.heap.size w3 wr)) (fun t i _ => ks.length - (intOf i).toNat)
              case atStart => exact ⟨0, false, rfl, rfl, by omega, ⟨by simp⟩, HB⟩
              case round =>
                clear HB e8 l8 e1
                obtain ⟨k4, b, rfl, rfl, hk4, HI, HB⟩ := hrel
                obtain ⟨A8, c8, l8, F8, hcc, -⟩ := (HV.out.below HB.out).elem rfl HTp.out
                rw [← HKs.out] at hcc F8 l8
                have e8 := hcc 8 _ rfl
                have HF8 := Aside0.mk F8
                clear hcc F8
                by_cases hlt4 : k4 < ks.length
                · obtain ⟨ad, eA, hc⟩ := int_at (Kd.F_now HF8.out) hlt4
                  obtain ⟨a, ha⟩ : ∃ a, a = ks[k4] := ⟨_, rfl⟩
                  rw [← ha] at hc
                  have HA := Aside0.mk ha
                  have q1 : (0 : Int) ≤ (k4 : Int) := by omega
                  have q2 : (k4 : Int) < (ks.length : Int) := by omega
                  have hmem : decide ((k : Int) + 1 ∈ ks.take (k4 + 1)) = (b || (a == (k : Int) + 1)) := by
                    rw [HI.out, Bool.eq_iff_iff, take_snoc hlt4, ← ha]
                    simp only [decide_eq_true_eq, List.mem_append, List.mem_singleton, Bool.or_eq_true, beq_iff_eq]
                    exact or_congr Iff.rfl ⟨Eq.symm, Eq.symm⟩
                  have HM := Aside0.mk hmem
                  clear ha hmem
                  subst eA
                  cases b with
                  | true =>
                    go_wp2
                    go_round
                    case rel => exact ⟨k4 + 1, true, by go_num, rfl, by omega, ⟨by rw [HM.out]; rfl⟩, HB⟩
                    case measure => simp [intOf]; omega
                  | false =>
                    go_wp2
                    go_round
                    case rel => exact ⟨k4 + 1, _, by go_num, rfl, by omega, ⟨by rw [HM.out]; rfl⟩, HB⟩
                    case measure => simp [intOf]; omega
                · have q2 : ¬ (k4 : Int) < (ks.length : Int) := by omega
                  have hbt : b = true := by
                    rw [HI.out, List.take_of_length_le (by omega)]
                    exact decide_eq_true HIn.out
                  subst hbt
                  obtain ⟨l, hl⟩ := chain_exists HRk.out ((k : Int) + 1)
                  have hll := hl.length HRk.out
                  have HL := Aside0.mk hl
                  have q30 : (l.length : Int) ≤ (L.length : Int) := by omega
                  clear hl
                  go_wp2_with fail
                  refine (over_any (HV.out.below HB.out) hn r HRk.out ((k : Int) + 1) l HL.out).mono ?_
                  rintro e w5 ⟨vo, rfl, hro, hb5⟩
                  obtain ⟨Ao, co, rfl, lo, -⟩ := Kd.R_reads hro
                  have HB5 := Aside0.mk (HB.out.trans (hb5.mono HB.out.size))
                  clear hro hb5
                  obtain ⟨A7, c7, l7, F7, hcc, -⟩ := (HV.out.below HB5.out).elem rfl HT.out
                  rw [← HX.out] at hcc
                  have e0 := hcc 0 _ rfl
                  have e1 := hcc 1 _ rfl
                  have e3 := hcc 3 _ rfl
                  rw [hk0] at e0 e1 e3
                  rw [Nat.add_zero] at e0
                  clear l7 F7 hcc
                  have b1 := HF1.out
                  have b2 := HK1.out
                  have b3 := HK3.out
                  by_cases f3 : x.f3 = 0
                  · have b4 : (x.f3 != 0) = false := by simp [f3]
                    clear f3
                    go_wp2
                    go_round
                    case rel => exact ⟨k + 1, by go_num, by omega, HB5⟩
                    case measure => simp [intOf]; omega
                  · obtain ⟨g1, g2, g3⟩ := HG.out.shad ((k : Int) + 1) HT.out (by rw [← HX.out]; exact f3)
                    rw [← HX.out] at g2 g3
                    have g4 := (HG.out.host x.f3 g2 (by rw [g3]; omega)).1
                    obtain ⟨A7, c7, l7, F7, hcc, -⟩ := (HV.out.below HB5.out).elem rfl g2
                    rw [g3, g4] at hcc
                    have d0 := hcc 0 _ rfl
                    have d2 := hcc 2 _ rfl
                    rw [Nat.add_zero] at d0
                    have p7 : (1 : Int) ≤ x.f3 := g2.1
                    have p8 : x.f3 ≤ (L.length : Int) := g2.2
                    have HT3 := Aside0.mk g2
                    have b4 := bneT f3
                    clear f3 g1 g2 g3 g4 l7 F7 hcc
                    go_wp2_with fail
                    refine (there_yes (some ⟨g, 0, none⟩) L.length c x.f3 _ HT3.out).mono ?_
                    rintro e w' ⟨rfl, rfl⟩
                    go_wp2
                    go_round
                    case rel => exact ⟨k + 1, by go_num, by omega, HB5⟩
                    case measure => simp [intOf]; omega
      · have p2 : ¬ (k : Int) < (L.length : Int) := by omega
        go_wp2
        go_ret
        exact ⟨rfl, B3.out.trans (HB.out.mono B3.out.size)⟩
end Go.Proofs.Ytbkpgbhdfdifoaa
