/- The document's Put. -/
import Derived.Test.YtbkpgbhdfdifoaaRb
namespace Go.Proofs.Ytbkpgbhdfdifoaa
open Go.RowKit Go.Proofs.YtbkpgbhdfdifoaaW.PrintWords Go.Proofs.YtbkpgbhdfdifoaaW.PrintLast Go.Proofs.YtbkpgbhdfdifoaaW.PrintMore
set_option linter.unusedVariables false
set_option linter.unusedSimpArgs false

theorem relink_to {L : List S33} {parent : Int} (hp : Th L parent) (kids : List Int) :
    setN (mapN L fun id x => { x with f1 := if id ∈ kids then parent else if x.f1 = parent then 0 else x.f1 }) parent { nd (mapN L fun id x => { x with f1 := if id ∈ kids then parent else if x.f1 = parent then 0 else x.f1 }) parent with f8 := kids } = relink L parent kids := by
  rw [setN_mapN hp]
  refine mapN_congr fun id hid => ?_
  by_cases e : id = parent
  · subst e
    rw [if_pos rfl, nd_mapN hid, if_pos rfl]
  · rw [if_neg e, if_neg e]
/-- The children of a node let go, up to a number. -/
def freed (L : List S33) (parent : Int) (k : Nat) : List S33 := mapN L fun id x => { x with f1 := if id ≤ (k : Int) ∧ x.f1 = parent then 0 else x.f1 }
theorem freed_zero (L : List S33) (parent : Int) : freed L parent 0 = L := by
  unfold freed
  conv => rhs; rw [← mapN_id L]
  refine mapN_congr fun id hid => ?_
  rw [if_neg (fun h => by have := hid.1; omega)]
theorem freed_all (L : List S33) (parent : Int) : freed L parent L.length = mapN L fun id x => { x with f1 := if id ∈ ([] : List Int) then parent else if x.f1 = parent then 0 else x.f1 } := by
  refine mapN_congr fun id hid => ?_
  rw [if_neg (by simp : ¬ id ∈ ([] : List Int))]
  by_cases e : (nd L id).f1 = parent
  · rw [if_pos ⟨hid.2, e⟩, if_pos e]
  · rw [if_neg (fun h => e h.2), if_neg e]
theorem freed_nd {L : List S33} {parent : Int} {k : Nat} (hk : k < L.length) : (nd (freed L parent k) ((k : Int) + 1)).f1 = (nd L ((k : Int) + 1)).f1 := by
  unfold freed
  rw [nd_mapN ⟨by omega, by omega⟩]
  show (if _ then _ else _) = _
  rw [if_neg (fun h => by omega)]
theorem freed_yes {L : List S33} {parent : Int} {k : Nat} (hk : k < L.length) (h : (nd L ((k : Int) + 1)).f1 = parent) : setN (freed L parent k) ((k : Int) + 1) { nd (freed L parent k) ((k : Int) + 1) with f1 := 0 } = freed L parent (k + 1) := by
  have hT : Th L ((k : Int) + 1) := ⟨by omega, by omega⟩
  unfold freed
  rw [setN_mapN hT]
  refine mapN_congr fun id hid => ?_
  by_cases e : id = (k : Int) + 1
  · subst e
    rw [if_pos rfl, nd_mapN hid]
    show { nd L ((k : Int) + 1) with f1 := 0 } = { nd L ((k : Int) + 1) with f1 := if (k : Int) + 1 ≤ ((k + 1 : Nat) : Int) ∧ (nd L ((k : Int) + 1)).f1 = parent then 0 else (nd L ((k : Int) + 1)).f1 }
    rw [if_pos ⟨by omega, h⟩]
  · rw [if_neg e]
    by_cases e2 : id ≤ (k : Int) ∧ (nd L id).f1 = parent
    · rw [if_pos e2, if_pos ⟨by omega, e2.2⟩]
    · rw [if_neg e2, if_neg (fun h => e2 ⟨by omega, h.2⟩)]
theorem freed_no {L : List S33} {parent : Int} {k : Nat} (h : (nd L ((k : Int) + 1)).f1 ≠ parent) : freed L parent k = freed L parent (k + 1) := by
  refine mapN_congr fun id hid => ?_
  by_cases e2 : id ≤ (k : Int) ∧ (nd L id).f1 = parent
  · rw [if_pos e2, if_pos ⟨by omega, e2.2⟩]
  · rw [if_neg e2, if_neg (fun h2 => e2 ⟨by
      have h3 := h2.1
      have h4 : id ≠ (k : Int) + 1 := fun e => h (e ▸ h2.2)
      omega, h2.2⟩)]

set_option maxRecDepth 100000 in
set_option maxHeartbeats 1000000 in
theorem put79 {B : Nat → Prop} {w : World} {v : Value} {L : List S33} (h : RV B w v L) (hB : Up B w) (hg : Good L) (parent : Int) (A2 : Option Addr) (c2 : Nat) (kids : List Int) (hK : ∀ w', Below w.heap.size w w' → (Kd.int .i64).C w' A2 kids.length kids) (hkl : kids.length ≤ 1000) (hcap : kids.length ≤ c2) :
    Calls Try.prog 79 #[v, .int .i64 parent, .slice A2 kids.length c2] w (RPost B w (PutR L parent kids)) := by
  obtain ⟨A, c, rfl⟩ := h.slice
  have H := Aside0.mk h
  have HG := Aside0.mk hg
  have HKd := Aside0.mk hK
  have hn := hg.len
  obtain ⟨r, hr⟩ := hg.rank
  have HRk := Aside0.mk hr
  clear h hg hr hK
  by_cases hT : Th L parent
  · have HP := Aside0.mk hT
    obtain ⟨g, cap, he, hgB, hgl⟩ := H.out.form (by obtain ⟨b1, b2⟩ := hT; omega)
    have hA : A = some ⟨g, 0, none⟩ := by injection he
    subst hA
    clear hT he
    go_enter Try.func79, Try.ntmps79
    go_wp2_with fail
    refine (there_yes (some ⟨g, 0, none⟩) L.length c parent _ HP.out).mono ?_
    rintro e w' ⟨rfl, rfl⟩
    go_wp2_with fail
    go_loopw [8] (fun i wr => ∃ k : Nat, i = .int .i64 k ∧ k ≤ kids.length ∧ Aside0 (∀ j (hj : j < kids.length), j < k → Th L kids[j] ∧ kids[j] ∉ kids.take j) ∧ Aside0 (Below w.heap.size w wr)) (fun i _ => kids.length - (intOf i).toNat)
    case atStart => exact ⟨0, rfl, by omega, ⟨fun j hj h => absurd h (by omega)⟩, ⟨Below.refl _ _⟩⟩
    case round =>
      obtain ⟨k, rfl, hk, HI, HBl⟩ := hrel
      by_cases hlt : k < kids.length
      · obtain ⟨ad, eA, hc⟩ := int_at (HKd.out _ HBl.out) hlt
        have p1 : (0 : Int) ≤ (k : Int) := by omega
        have p2 : (k : Int) < (kids.length : Int) := by omega
        have p3 : (k : Int) ≤ (c2 : Int) := by omega
        obtain ⟨x, hx⟩ : ∃ x, x = kids[k] := ⟨_, rfl⟩
        rw [← hx] at hc
        have HX := Aside0.mk hx
        clear hx
        subst eA
        by_cases hT : Th L x
        · have HT := Aside0.mk hT
          clear hT
          have HCt : Aside0 (∀ w', Below w.heap.size w w' → (Kd.int .i64).C w' (some ad) k (kids.take k)) := ⟨fun w' hw => C_take (HKd.out _ hw) (show k ≤ kids.length by omega)⟩
          by_cases hm : x ∈ kids.take k
          · have HM := Aside0.mk hm
            have hd := Lib.hid (decide_eq_true hm)
            clear hm
            go_wp2_with fail
            go_quiet (first | (go_at_call 23; refine Calls.quiet_of_same ((there_yes (some ⟨g, 0, none⟩) L.length c x _ HT.out).mono fun _ _ h => ⟨h.1, h.2.symm⟩)) | (go_at_call 95; refine Calls.quiet_of_same ((has_any (some ad) k c2 (kids.take k) x _ (HCt.out _ (pw_below_drewN HBl.out _))).mono fun _ _ h => ⟨h.1.trans (by rw [hd.out]), h.2.symm⟩)) | fail)
            go_wp2
            go_ret2
            exact ⟨1, L, _, .inr (.inl ⟨HP.out, fun hk => not_nodup_take hlt (by rw [← HX.out]; exact HM.out) hk.2, rfl, rfl⟩), rfl, H.out.below (pw_below_drewN HBl.out _), pw_below_drewN HBl.out _⟩
          · have HM := Aside0.mk hm
            have hd := Lib.hid (decide_eq_false hm)
            clear hm
            go_wp2_with fail
            go_quiet (first | (go_at_call 23; refine Calls.quiet_of_same ((there_yes (some ⟨g, 0, none⟩) L.length c x _ HT.out).mono fun _ _ h => ⟨h.1, h.2.symm⟩)) | (go_at_call 95; refine Calls.quiet_of_same ((has_any (some ad) k c2 (kids.take k) x _ (HCt.out _ (pw_below_drewN HBl.out _))).mono fun _ _ h => ⟨h.1.trans (by rw [hd.out]), h.2.symm⟩)) | fail)
            go_wp2
            go_round
            case rel =>
              refine ⟨k + 1, by go_num, by omega, ⟨fun j hj h => ?_⟩, ⟨pw_below_drewN HBl.out _⟩⟩
              by_cases ej : j = k
              · subst ej; rw [← HX.out]; exact ⟨HT.out, HM.out⟩
              · exact HI.out j hj (by omega)
            case measure => simp [intOf]; omega
        · have HT := Aside0.mk hT
          clear hT
          go_wp2_with fail
          go_quiet (first | (go_at_call 23; refine Calls.quiet_of_same ((there_no (some ⟨g, 0, none⟩) L.length c x _ HT.out).mono fun _ _ h => ⟨h.1, h.2.symm⟩)) | fail)
          go_wp2
          go_ret2
          exact ⟨1, L, _, .inr (.inl ⟨HP.out, fun hk => HT.out (HX.out ▸ hk.1 _ (List.getElem_mem hlt)), rfl, rfl⟩), rfl, H.out.below (pw_below_drewN HBl.out _), pw_below_drewN HBl.out _⟩
      · have hko : KidsOk L kids := ⟨fun x hx => by
            obtain ⟨j, hj, rfl⟩ := List.mem_iff_getElem.1 hx
            exact (HI.out j hj (by omega)).1, nodup_take fun j hj => (HI.out j hj (by omega)).2⟩
        have HK := Aside0.mk hko
        clear hko HI
        obtain ⟨l, hl⟩ := chain_exists HRk.out parent
        have HL := Aside0.mk hl
        clear hl
        go_wp2_with fail
        refine (over_any (H.out.below HBl.out) hn r HRk.out parent l HL.out).mono ?_
        rintro e w1 ⟨vo, rfl, hro, hb1⟩
        obtain ⟨Ao, co, rfl, lo, hCo⟩ := Kd.R_reads hro
        have HCo := Aside0.mk hCo
        have HB1 := Aside0.mk (HBl.out.trans (hb1.mono HBl.out.size))
        clear hro hCo hb1
        have H1 := Aside0.mk (H.out.below HB1.out)
        go_wp2_with fail
        go_loop [10] (fun i => ∃ k : Nat, i = .int .i64 k ∧ k ≤ kids.length ∧ Aside0 (∀ j (hj : j < kids.length), j < k → KidOk L parent kids[j])) (fun i => kids.length - (intOf i).toNat)
        case atStart => exact ⟨0, rfl, by omega, ⟨fun j hj h => absurd h (by omega)⟩⟩
        case round =>
          obtain ⟨k2, rfl, hk2, HI⟩ := hrel
          by_cases hlt2 : k2 < kids.length
          · obtain ⟨ad, eA, hc⟩ := int_at (HKd.out _ HB1.out) hlt2
            have p1 : (0 : Int) ≤ (k2 : Int) := by omega
            have p2 : (k2 : Int) < (kids.length : Int) := by omega
            have hT := HK.out.1 _ (List.getElem_mem hlt2)
            obtain ⟨x, hx⟩ : ∃ x, x = kids[k2] := ⟨_, rfl⟩
            rw [← hx] at hc hT
            have HX := Aside0.mk hx
            have HT := Aside0.mk hT
            have p4 : (1 : Int) ≤ x := hT.1
            have p5 : x ≤ (L.length : Int) := hT.2
            clear hx hT
            subst eA
            obtain ⟨A8, c8, l8, F8, hcc, hfr⟩ := H1.out.elem rfl HT.out
            have e0 := hcc 0 _ rfl
            have e1 := hcc 1 _ rfl
            rw [Nat.add_zero] at e0
            clear hcc hfr l8 F8
            obtain ⟨y, hy⟩ : ∃ y, y = nd L x := ⟨_, rfl⟩
            rw [← hy] at e0 e1
            have HY := Aside0.mk hy
            clear hy
            have HBad : Aside0 (¬ KidOk L parent x → PutR L parent kids 3 L) := ⟨fun hk => .inr (.inr (.inl ⟨HP.out, HK.out, ⟨x, by rw [HX.out]; exact List.getElem_mem hlt2, hk⟩, rfl, rfl⟩))⟩
            by_cases k1 : y.f0 = 1
            · have HR : Aside0 (rootedB (nd L x) = true) := ⟨by rw [← HY.out]; unfold rootedB; simp [k1]⟩
              have t1 : (y.f0 == 1) = true := by simp [k1]
              clear k1
              go_wp2
              go_ret2
              exact ⟨3, L, _, HBad.out (fun hk => by rw [KidOk, HR.out] at hk; exact absurd hk.1 (by decide)), rfl, H1.out, HB1.out⟩
            have t1 := beqF k1
            by_cases k3 : y.f0 = 3
            · have HR : Aside0 (rootedB (nd L x) = true) := ⟨by rw [← HY.out]; unfold rootedB; simp [k3]⟩
              have t3 : (y.f0 == 3) = true := by simp [k3]
              clear k1 k3
              go_wp2
              go_ret2
              exact ⟨3, L, _, HBad.out (fun hk => by rw [KidOk, HR.out] at hk; exact absurd hk.1 (by decide)), rfl, H1.out, HB1.out⟩
            have t3 := beqF k3
            have HR : Aside0 (rootedB (nd L x) = false) := ⟨by rw [← HY.out]; unfold rootedB; simp [k1, k3]⟩
            clear k1 k3
            by_cases hm : x ∈ l
            · have hd := Lib.hid (decide_eq_true hm)
              have HAn := Aside0.mk ((HL.out.mem x).1 hm)
              clear hm
              go_wp2_with fail
              refine (has_any Ao l.length co l x _ HCo.out).mono ?_
              rintro e w' ⟨rfl, rfl⟩
              rw [hd.out]
              go_wp2
              go_ret2
              exact ⟨3, L, _, HBad.out (fun hk => hk.2.1 HAn.out), rfl, H1.out, HB1.out⟩
            have hd := Lib.hid (decide_eq_false hm)
            have HAn : Aside0 (¬ Anc L upO x parent) := ⟨fun h => hm ((HL.out.mem x).2 h)⟩
            clear hm
            by_cases f0 : y.f1 = 0
            · have HF0 : Aside0 ((nd L x).f1 = 0) := ⟨by rw [← HY.out]; exact f0⟩
              have b0 : (y.f1 != 0) = false := by simp [f0]
              clear f0
              go_wp2_with fail
              refine (has_any Ao l.length co l x _ HCo.out).mono ?_
              rintro e w' ⟨rfl, rfl⟩
              rw [hd.out]
              go_wp2
              go_round
              case rel =>
                refine ⟨k2 + 1, by go_num, by omega, ⟨fun j hj h => ?_⟩⟩
                by_cases ej : j = k2
                · subst ej; rw [← HX.out]; exact ⟨HR.out, HAn.out, .inl HF0.out⟩
                · exact HI.out j hj (by omega)
              case measure => simp [intOf]; omega
            have b0 := bneT f0
            by_cases f1 : y.f1 = parent
            · have HF1 : Aside0 ((nd L x).f1 = parent) := ⟨by rw [← HY.out]; exact f1⟩
              have b1 : (y.f1 != parent) = false := by simp [f1]
              clear f0 f1
              go_wp2_with fail
              refine (has_any Ao l.length co l x _ HCo.out).mono ?_
              rintro e w' ⟨rfl, rfl⟩
              rw [hd.out]
              go_wp2
              go_round
              case rel =>
                refine ⟨k2 + 1, by go_num, by omega, ⟨fun j hj h => ?_⟩⟩
                by_cases ej : j = k2
                · subst ej; rw [← HX.out]; exact ⟨HR.out, HAn.out, .inr HF1.out⟩
                · exact HI.out j hj (by omega)
              case measure => simp [intOf]; omega
            · have HF1 : Aside0 (¬ ((nd L x).f1 = 0 ∨ (nd L x).f1 = parent)) := ⟨by rw [← HY.out]; exact fun h => h.elim f0 f1⟩
              have b1 := bneT f1
              clear f0 f1
              go_wp2_with fail
              refine (has_any Ao l.length co l x _ HCo.out).mono ?_
              rintro e w' ⟨rfl, rfl⟩
              rw [hd.out]
              go_wp2
              go_ret2
              exact ⟨3, L, _, HBad.out (fun hk => HF1.out hk.2.2), rfl, H1.out, HB1.out⟩
          · have hko2 : ∀ x ∈ kids, KidOk L parent x := fun x hx => by
              obtain ⟨j, hj, rfl⟩ := List.mem_iff_getElem.1 hx
              exact HI.out j hj (by omega)
            have HK2 := Aside0.mk hko2
            clear hko2 HI
            go_wp2_with fail
            refine (copy_any H1.out (Up.le hB HB1.out.size) hn HG.out.kl).mono ?_
            rintro e w2 ⟨v1, rfl, hV1, hb2, hf1⟩
            obtain ⟨g1, cap1, rfl, hgB1, hgl1⟩ := hV1.form (by have := HP.out; obtain ⟨b1, b2⟩ := this; omega)
            have hgw : w.heap.size ≤ g1 := Nat.le_trans HB1.out.size (hf1 g1 (by simp [Value.ownBlock]))
            have HV0 : Aside0 (RV B w2 (.slice (some ⟨g1, 0, none⟩) L.length cap1) (freed L parent 0)) := ⟨by rw [freed_zero]; exact hV1⟩
            have HB2 := Aside0.mk (HB1.out.trans (hb2.mono HB1.out.size))
            clear hV1 hb2 hf1
            go_wp2_with fail
            go_loopw [14] (fun i wr => ∃ k : Nat, i = .int .i64 k ∧ k ≤ L.length ∧ Aside0 (RV B wr (.slice (some ⟨g1, 0, none⟩) L.length cap1) (freed L parent k)) ∧ Aside0 (Below w.heap.size w wr)) (fun i _ => L.length - (intOf i).toNat)
            case atStart => exact ⟨0, rfl, by omega, HV0, HB2⟩
            case round =>
              clear HV0 HB2
              obtain ⟨k3, rfl, hk3, HV, HB3⟩ := hrel
              by_cases hlt3 : k3 < L.length
              · have hT : Th L ((k3 : Int) + 1) := ⟨by omega, by omega⟩
                have hk0 : ((k3 : Int) + 1).toNat - 1 = k3 := by omega
                have p1 : (0 : Int) ≤ (k3 : Int) := by omega
                have p2 : (k3 : Int) < (L.length : Int) := by omega
                have hT' : Th (freed L parent k3) ((k3 : Int) + 1) := Th_mapN.2 hT
                obtain ⟨A8, c8, l8, F8, hcc, hfr⟩ := HV.out.elem (length_mapN _ _) hT'
                have e1 := hcc 1 _ rfl
                have f1 := hfr 1
                rw [hk0] at e1 f1
                rw [freed_nd hlt3] at e1
                obtain ⟨y, hy⟩ : ∃ y, y = nd L ((k3 : Int) + 1) := ⟨_, rfl⟩
                rw [← hy] at e1
                have HY := Aside0.mk hy
                have HS := Aside0.mk (HV.out.store1 (length_mapN _ _) hT' 0)
                have hB4 := Aside0.mk (HB3.out.setCell (p := ⟨g1, k3 * 9 + 1, none⟩) hgw (.int .i64 0))
                clear hy hT hT' l8 F8 hcc hfr
                by_cases f : y.f1 = parent
                · have HF : Aside0 ((nd L ((k3 : Int) + 1)).f1 = parent) := ⟨by rw [← HY.out]; exact f⟩
                  have b1 : (y.f1 == parent) = true := by simp [f]
                  clear f
                  go_wp2
                  go_round
                  case rel =>
                    refine ⟨k3 + 1, by go_num, by omega, ⟨?_⟩, hB4⟩
                    have := HS.out
                    rw [hk0, freed_yes hlt3 HF.out] at this
                    exact this
                  case measure => simp [intOf]; omega
                · have HF : Aside0 ((nd L ((k3 : Int) + 1)).f1 ≠ parent) := ⟨by rw [← HY.out]; exact f⟩
                  have b1 := beqF f
                  clear f
                  go_wp2
                  go_round
                  case rel => exact ⟨k3 + 1, by go_num, by omega, ⟨by rw [← freed_no HF.out]; exact HV.out⟩, HB3⟩
                  case measure => simp [intOf]; omega
              · have hkk : k3 = L.length := by omega
                subst hkk
                rw [freed_all] at HV
                go_wp2_with fail
                go_loopw [15] (fun i wr => ∃ k : Nat, i = .int .i64 k ∧ k ≤ kids.length ∧ Aside0 (RV B wr (.slice (some ⟨g1, 0, none⟩) L.length cap1) (mapN L fun id x => { x with f1 := if id ∈ kids.take k then parent else if x.f1 = parent then 0 else x.f1 })) ∧ Aside0 (Below w.heap.size w wr)) (fun i _ => kids.length - (intOf i).toNat)
                case atStart => exact ⟨0, rfl, by omega, ⟨by rw [List.take_zero]; exact HV.out⟩, HB3⟩
                case round =>
                  clear HV HB3
                  obtain ⟨k4, rfl, hk4, HV, HB4⟩ := hrel
                  by_cases hlt4 : k4 < kids.length
                  · obtain ⟨ad, eA, hc⟩ := int_at (HKd.out _ HB4.out) hlt4
                    have p1 : (0 : Int) ≤ (k4 : Int) := by omega
                    have p2 : (k4 : Int) < (kids.length : Int) := by omega
                    have hT := HK.out.1 _ (List.getElem_mem hlt4)
                    obtain ⟨x, hx⟩ : ∃ x, x = kids[k4] := ⟨_, rfl⟩
                    rw [← hx] at hc hT
                    have HT := Aside0.mk hT
                    have HX := Aside0.mk hx
                    have p4 : (1 : Int) ≤ x := hT.1
                    have p5 : x ≤ (L.length : Int) := hT.2
                    clear hx hT
                    subst eA
                    have HS := Aside0.mk (HV.out.store1 (length_mapN _ _) (Th_mapN.2 HT.out) parent)
                    obtain ⟨A9, c9, l9, F9, hcc, hfr⟩ := HV.out.elem (length_mapN _ _) (Th_mapN.2 HT.out)
                    have y1 := hcc 1 _ rfl
                    have f1 := hfr 1
                    have hB5 := Aside0.mk (HB4.out.setCell (p := ⟨g1, (x.toNat - 1) * 9 + 1, none⟩) hgw (.int .i64 parent))
                    clear hcc hfr l9 F9
                    go_wp2
                    go_round
                    case rel =>
                      refine ⟨k4 + 1, by go_num, by omega, ⟨?_⟩, hB5⟩
                      exact (congrArg (fun l => RV B _ _ l) (map_step hlt4 HX.out HT.out parent (fun id y => if y.f1 = parent then 0 else y.f1))).mp HS.out
                    case measure => simp [intOf]; omega
                  · have hkk : k4 = kids.length := by omega
                    subst hkk
                    rw [List.take_length] at HV
                    have p4 : (1 : Int) ≤ parent := HP.out.1
                    have p5 : parent ≤ (L.length : Int) := HP.out.2
                    go_wp2_with (first | (at_builtin; refine Stop0.out ?_) | fail)
                    refine ⟨?_⟩
                    refine Kd.R_append_rows (Kd.int .i64) (w0 := wr) (W := wr.alloc (.cells #[] 3)) wr.heap.size rfl (.tmp 133) (.tmp 134) 31 3 (.int .i64 0) 8 rfl Try.underlying31 info3 rfl (by decide) (by omega) (.slice (some ⟨wr.heap.size, 0, none⟩) 0 0) [] kids A2 _ c2 (fun k => wr.heap.size ≤ k) (fun _ => False) rfl rfl (R_empty (Kd.int .i64) 3 wr _ _ (Nat.le_refl _) (Nat.le_refl _)) (Kd.C_alloc (HKd.out _ HB4.out) _) (fun _ _ h => h) (fun _ h => h.elim) ?aF ?aB ?aS ?aL ?_
                    case aF => intro j hj; simp at hj; show wr.heap.size ≤ j; omega
                    case aB => exact (Below.refl _ _).alloc (Nat.le_refl _) _
                    case aS => simp
                    case aL => simp; omega
                    intro v3 w3 HR3 HB3 hg3 hat3
                    rw [List.nil_append] at HR3
                    obtain ⟨A9, c9, rfl, l9, -⟩ := Kd.R_reads HR3
                    have hV3 := HV.out.below HB3
                    have hgl3 := Kd.N_lt HV.out g1 (by simp [Value.ownBlock])
                    obtain ⟨A7, c7, l7, F7, hcc, hfr⟩ := hV3.elem (length_mapN _ _) (Th_mapN.2 HP.out)
                    have d8 := hcc 8 _ rfl
                    have f8 := hfr 8
                    have hF9 : Kd.F (Kd.int .i64) w3 (fun j => B j ∧ j ≠ g1) A9 kids.length kids := Kd.F_mono (Kd.N_F (Kd.R_N HR3)) (fun j hj => by
                      have hj' : wr.heap.size ≤ j := hj
                      have := HB4.out.size
                      exact ⟨hB j (by omega), by omega⟩)
                    have HS := Aside0.mk (hV3.store8 (length_mapN _ _) (Th_mapN.2 HP.out) A9 c9 kids l9 hF9)
                    have HB5 := Aside0.mk ((HB4.out.trans (HB3.mono HB4.out.size)).setCell (p := ⟨g1, (parent.toNat - 1) * 9 + 8, none⟩) hgw (.slice A9 kids.length c9))
                    clear hV3 hgl3 F7 l7 hcc hfr hF9 HR3 HB3 hg3 hat3
                    go_wp2
                    go_ret2
                    refine ⟨0, relink L parent kids, _, .inr (.inr (.inr ⟨HP.out, HK.out, HK2.out, rfl, rfl⟩)), rfl, ?_, HB5.out⟩
                    have := HS.out
                    rw [relink_to HP.out kids] at this
                    exact this
  · have HT := Aside0.mk hT
    clear hT
    go_enter Try.func79, Try.ntmps79
    go_wp2_with fail
    refine (there_no A L.length c parent _ HT.out).mono ?_
    rintro e w' ⟨rfl, rfl⟩
    go_wp2
    go_ret2
    exact ⟨1, L, _, .inl ⟨HT.out, rfl, rfl⟩, rfl, H.out, Below.refl _ _⟩
end Go.Proofs.Ytbkpgbhdfdifoaa
