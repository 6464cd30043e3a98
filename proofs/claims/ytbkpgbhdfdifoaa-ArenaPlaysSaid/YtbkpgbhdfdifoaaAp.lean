/- towncrierlaw04.ArenaPlays: the walk. -/
import Derived.Test.YtbkpgbhdfdifoaaSh
namespace Go.Proofs.Ytbkpgbhdfdifoaa
open Go.RowKit Go.Proofs.YtbkpgbhdfdifoaaW.PrintWords Go.Proofs.YtbkpgbhdfdifoaaW.PrintLast Go.Proofs.YtbkpgbhdfdifoaaW.PrintMore
set_option linter.unusedVariables false
set_option linter.unusedSimpArgs false

/-- Neither the forest nor its row of nodes. -/
def Oth (p : Nat) (v : Value) (k : Nat) : Prop := k ≠ p ∧ some k ≠ v.ownBlock
theorem RV.moved {B : Nat} {w w' : World} {p : Nat} {v v' lv : Value} {L : List S33} (h : RV (Oth p v) w lv L) (hm : FMoved B w w' p v v') : RV (Oth p v') w' lv L := by
  refine Kd.N_mono (Kd.N_kept (Kd.N_bound h) hm.1 (fun k hk hS => ?_)) (fun k hk => ⟨hk.1.1, fun e => ?_⟩)
  · rcases hS with e | e
    · exact hk.1.1 e
    · exact hk.1.2 e
  · rcases hm.2.2 with e2 | ⟨b, h1, h2⟩
    · rw [e2] at e; exact hk.1.2 e
    · rw [h1] at e
      injection e with e
      have := hk.2
      omega
theorem Oth.up {B : Nat} {w : World} {p : Nat} {v : Value} {L : List S33} (h : FV B w p v L) : Up (Oth p v) w := fun k hk => ⟨by have := blk_lt' h.1; omega, fun e => by have := Kd.N_lt h.2.2 k e.symm; omega⟩

set_option maxRecDepth 100000 in
set_option maxHeartbeats 8000000 in
theorem arenaPlays_walk (A : Option Addr) (n c0 : Nat) (acts : List S35) (id : Int) (w : World) (hC : k35.C w A n acts) : Calls Try.prog 3 #[.slice A n c0, .int .i64 id] w (TrueB w) := by
  have hl : acts.length = n := hC.1
  subst hl
  have HC := Aside0.mk hC
  clear hC
  go_enter Try.func3, Try.ntmps3
  go_wp2_with fail
  refine (awake_any _).mono ?_
  rintro e w1 ⟨rfl, hb1⟩
  have B1 := Aside0.mk hb1
  clear hb1
  go_wp2_with fail
  refine (great17 A acts.length c0 acts _ (Kd.C_below HC.out B1.out)).mono ?_
  rintro e w' ⟨bg, rfl, rfl, hS⟩
  have HS := Aside0.mk hS
  clear hS
  cases bg with
  | true =>
    go_wp2
    go_ret
    exact ⟨rfl, B1.out⟩
  | false =>
    have hs1 := (HS.out (by trivial)).1
    have H0 := Aside0.mk (FV.new w.heap.size w1 B1.out.size)
    have B0 := Aside0.mk (B1.out.alloc B1.out.size (.cells #[.slice none 0 0] 53))
    go_wp2_with fail
    refine (new_any _).mono ?_
    rintro e w2 ⟨rfl, rfl⟩
    go_wp2_with fail
    go_loopw [6, 7] (fun lv i wr => ∃ (k : Nat) (v0 : Value) (L : List S33), i = .int .i64 k ∧ k ≤ acts.length ∧ Aside0 (FV w.heap.size wr w1.heap.size v0 L) ∧ Aside0 (RV (Oth w1.heap.size v0) wr lv L) ∧ Aside0 (PlayR [] (acts.take k) L) ∧ Aside0 (Below w.heap.size w wr)) (fun lv i _ => acts.length - (intOf i).toNat)
    case atStart => exact ⟨0, _, [], rfl, by omega, H0, ⟨Kd.N_nil _ _ _ _ _⟩, ⟨PlayR.nil⟩, B0⟩
    case round =>
      clear H0 B0
      obtain ⟨k, v0, L, rfl, hk, HFw, HRw, HPl, HBw0⟩ := hrel
      have HG := Aside0.mk (HPl.out.good Good.nil)
      by_cases hlt : k < acts.length
      · have p1 : (0 : Int) ≤ (k : Int) := by omega
        have p2 : (k : Int) < (acts.length : Int) := by omega
        obtain ⟨x, hx⟩ : ∃ x, x = acts[k] := ⟨_, rfl⟩
        have HX := Aside0.mk hx
        have hl5 : x.f5.length ≤ 1000 := by have := (HS.out (by trivial)).2 x (by rw [hx]; exact List.getElem_mem hlt); omega
        have hrd : rd_T35 acts (k : Int) = x := by rw [hx]; simp [rd_T35, hlt]
        obtain ⟨ad, A12, c12, A13, c13, eA, hx0, hx1, hx2, hx3, hx4, hx5, hx6, hx7, hx8, hx9, hx10, hx11, hx12, hx13, -, -, l13, g13⟩ := at_T35 (Kd.C_below HC.out HBw0.out) (k : Int) (by omega) (by omega)
        rw [hrd] at hx0 hx1 hx2 hx3 hx4 hx5 hx6 hx7 hx8 hx9 hx10 hx11 hx12 hx13 l13 g13
        simp only [Int.toNat_natCast] at hx0 hx1 hx2 hx3 hx4 hx5 hx6 hx7 hx8 hx9 hx10 hx11 hx12 hx13
        have HG13 := Aside0.mk g13
        have HRD := Aside0.mk hrd
        subst eA
        clear g13 hx hrd
        go_wp2_with fail
        refine (do_any HFw.out HBw0.out.size HG.out x A12 A13 x.f4.f8.length c12 c13 HG13.out hl5 l13).mono ?_
        rintro e w2 ⟨id1, m1, L1, hR1, rfl, v1, h1, h2⟩
        have HR1 := Aside0.mk hR1
        have HF1 := Aside0.mk h1
        have HB1 := Aside0.mk (HBw0.out.trans h2.2.1)
        have HRv1 := Aside0.mk (HRw.out.moved h2)
        clear hR1 h1 h2 hx0 hx1 hx2 hx3 hx4 hx5 hx6 hx7 hx8 hx9 hx10 hx11 hx12 hx13 HG13 l13
        obtain ⟨ad2, B12, d12, B13, d13, eA, hx0, hx1, hx2, hx3, hx4, hx5, hx6, hx7, hx8, hx9, hx10, hx11, hx12, hx13, -, -, l13, g13⟩ := at_T35 (Kd.C_below HC.out HB1.out) (k : Int) (by omega) (by omega)
        injection eA with eA
        subst eA
        rw [HRD.out] at hx0 hx1 hx2 hx3 hx4 hx5 hx6 hx7 hx8 hx9 hx10 hx11 hx12 hx13 l13 g13
        simp only [Int.toNat_natCast] at hx0 hx1 hx2 hx3 hx4 hx5 hx6 hx7 hx8 hx9 hx10 hx11 hx12 hx13
        have HG13 := Aside0.mk g13
        clear g13
        go_wp2_with fail
        refine (do20 HRv1.out (Oth.up HF1.out) HG.out x B12 B13 x.f4.f8.length d12 d13 HG13.out hl5 l13).mono ?_
        rintro e w3 ⟨id2, m2, L2, lv2, hR2, rfl, h1, h2⟩
        obtain ⟨rfl, rfl, rfl⟩ := hR2.unique HR1.out
        have HRv2 := Aside0.mk h1
        have HF2 := Aside0.mk (HF1.out.below h2)
        have HB2 := Aside0.mk (HB1.out.trans (h2.mono HB1.out.size))
        obtain ⟨A2, c2, rfl⟩ := h1.slice
        clear hR2 h1 h2 hx0 hx1 hx2 hx3 hx4 hx5 hx6 hx7 hx8 hx9 hx10 hx11 hx12 hx13 HG13 l13 HF1 HRv1 HB1
        go_wp2_with fail
        refine (len_any HF2.out).mono ?_
        rintro e w' ⟨rfl, rfl⟩
        go_wp2
        go_round
        case rel => exact ⟨k + 1, v1, L2, by go_num, by omega, HF2, HRv2, ⟨by rw [take_snoc hlt, ← HX.out]; exact .snoc HPl.out HR1.out⟩, HB2⟩
        case measure => simp [intOf]; omega
      · have p2 : ¬ (k : Int) < (acts.length : Int) := by omega
        obtain ⟨wo, rfl⟩ : ∃ x, x = wr := ⟨_, rfl⟩
        by_cases hT : Th L id
        · skip
          have HT := Aside0.mk hT
          have HTH : Aside0 (1 ≤ id ∧ id ≤ (L.length : Int)) := ⟨hT⟩
          have hk8 : (nd L id).f8.length ≤ 128 := HG.out.kids_le hT
          clear hT
          go_wp2_with fail
          refine (node_yes HFw.out id HT.out (by have := HG.out.len; omega) (by omega)).mono ?_
          rintro e w5 ⟨kv, rfl, hRk, hb5⟩
          obtain ⟨x, hx⟩ : ∃ x, x = nd L id := ⟨_, rfl⟩
          rw [← hx] at hRk hk8 ⊢
          obtain ⟨AK, cK, rfl, lK, -⟩ := Kd.R_reads hRk
          unfold nodeV
          have hbx := heap_alloc_new w5 (.cells #[.int .i64 x.f0, .int .i64 x.f1, .int .i64 x.f2, .int .i64 x.f3, .int .i64 x.f4, .bool x.f5, .string x.f6, .string x.f7, .slice AK x.f8.length cK] 33)
          have hb0 := fun j => blk_cell hbx j
          have HK : Aside0 (KRow wo.heap.size (w5.alloc (.cells #[.int .i64 x.f0, .int .i64 x.f1, .int .i64 x.f2, .int .i64 x.f3, .int .i64 x.f4, .bool x.f5, .string x.f6, .string x.f7, .slice AK x.f8.length cK] 33)) w5.heap.size AK x.f8.length) := ⟨KRow.of_R (ok := fun k => wo.heap.size ≤ k ∧ k < w5.heap.size) (Kd.R_alloc (Kd.R_mono (Kd.R_bound hRk) (fun k hk => ⟨hk.1, hk.2.2.1⟩)) _) rfl (fun k hk => by omega)⟩
          have HB5 := Aside0.mk (hb5.alloc hb5.size (.cells #[.int .i64 x.f0, .int .i64 x.f1, .int .i64 x.f2, .int .i64 x.f3, .int .i64 x.f4, .bool x.f5, .string x.f6, .string x.f7, .slice AK x.f8.length cK] 33))
          have HR5 := HRw.out.below HB5.out
          obtain ⟨Al, cl, rfl⟩ := HRw.out.slice
          obtain ⟨g, cap, he, -, -⟩ := HRw.out.form (by have := HT.out; obtain ⟨h1, h2⟩ := this; omega)
          have hA : Al = some ⟨g, 0, none⟩ := by injection he
          subst hA
          obtain ⟨A8, c8, l8, F8, hcc, -⟩ := HR5.elem rfl HT.out
          rw [← hx] at hcc F8 l8
          have b0 := hcc 0 _ rfl
          have b1 := hcc 1 _ rfl
          have b2 := hcc 2 _ rfl
          have b3 := hcc 3 _ rfl
          have b4 := hcc 4 _ rfl
          have b5 := hcc 5 _ rfl
          have b6 := hcc 6 _ rfl
          have b7 := hcc 7 _ rfl
          have b8 := hcc 8 _ rfl
          rw [Nat.add_zero] at b0
          have HF8 := Aside0.mk F8
          have HCK : Aside0 ((Kd.int .i64).C (w5.alloc (.cells #[.int .i64 x.f0, .int .i64 x.f1, .int .i64 x.f2, .int .i64 x.f3, .int .i64 x.f4, .bool x.f5, .string x.f6, .string x.f7, .slice AK x.f8.length cK] 33)) AK x.f8.length x.f8) := ⟨Kd.C_alloc (by obtain ⟨A', c', he', _, hC⟩ := Kd.R_reads hRk; injection he' with e1 _ e2; subst e1; exact hC) _⟩
          have HX := Aside0.mk hx
          have p5 : (1 : Int) ≤ id := HT.out.1
          have p6 : id ≤ (L.length : Int) := HT.out.2
          have p7 : L.length ≤ 128 := HG.out.len
          have p8 : wrap64 (id - 1) = id - 1 := by unfold Go.RowKit.wrap64; omega
          have p9 : (0 : Int) ≤ id - 1 := by omega
          have p10 : id - 1 < (L.length : Int) := by omega
          have p11 : (id - 1).toNat = id.toNat - 1 := by omega
          clear hx hRk hb5 HR5 he l8 F8 hcc
          go_wp2
          generalize hW6 : w5.alloc (.cells #[.int .i64 x.f0, .int .i64 x.f1, .int .i64 x.f2, .int .i64 x.f3, .int .i64 x.f4, .bool x.f5, .string x.f6, .string x.f7, .slice AK x.f8.length cK] 33) = w6 at hbx hb0 HK HB5 b0 b1 b2 b3 b4 b5 b6 b7 b8 HF8 HCK ⊢
          have HBX := Aside0.mk hbx
          clear hW6 hbx
          refine start_ (n := 28) (S := fun w' => w'.cell? ⟨w5.heap.size, 0, none⟩ = some (.int .i64 x.f0) ∧ w'.cell? ⟨w5.heap.size, 1, none⟩ = some (.int .i64 x.f1) ∧ w'.cell? ⟨w5.heap.size, 2, none⟩ = some (.int .i64 x.f2) ∧ w'.cell? ⟨w5.heap.size, 3, none⟩ = some (.int .i64 x.f3) ∧ w'.cell? ⟨w5.heap.size, 4, none⟩ = some (.int .i64 x.f4) ∧ w'.cell? ⟨w5.heap.size, 5, none⟩ = some (.bool x.f5) ∧ w'.cell? ⟨w5.heap.size, 6, none⟩ = some (.string x.f6) ∧ w'.cell? ⟨w5.heap.size, 7, none⟩ = some (.string x.f7) ∧ w'.cell? ⟨w5.heap.size, 8, none⟩ = some (.slice AK x.f8.length cK) ∧ w'.cell? ⟨g, (id.toNat - 1) * 9, none⟩ = some (.int .i64 x.f0) ∧ w'.cell? ⟨g, (id.toNat - 1) * 9 + 1, none⟩ = some (.int .i64 x.f1) ∧ w'.cell? ⟨g, (id.toNat - 1) * 9 + 2, none⟩ = some (.int .i64 x.f2) ∧ w'.cell? ⟨g, (id.toNat - 1) * 9 + 3, none⟩ = some (.int .i64 x.f3) ∧ w'.cell? ⟨g, (id.toNat - 1) * 9 + 4, none⟩ = some (.int .i64 x.f4) ∧ w'.cell? ⟨g, (id.toNat - 1) * 9 + 5, none⟩ = some (.bool x.f5) ∧ w'.cell? ⟨g, (id.toNat - 1) * 9 + 6, none⟩ = some (.string x.f6) ∧ w'.cell? ⟨g, (id.toNat - 1) * 9 + 7, none⟩ = some (.string x.f7) ∧ w'.cell? ⟨g, (id.toNat - 1) * 9 + 8, none⟩ = some (.slice A8 x.f8.length c8)) (ds := [14]) #[false, false, false, false, false, false, false, false, false, false, false, false, false, false, false, false, false, false, false, false, false, false, false, false, false, false, false, false] (by kernel_rfl) rfl rfl ⟨(hb0 0).trans rfl, (hb0 1).trans rfl, (hb0 2).trans rfl, (hb0 3).trans rfl, (hb0 4).trans rfl, (hb0 5).trans rfl, (hb0 6).trans rfl, (hb0 7).trans rfl, (hb0 8).trans rfl, b0, b1, b2, b3, b4, b5, b6, b7, b8⟩ (fun hHeld => ?_)
          refine with_tab (T := rtab .any (opsOf Try.f3 16)) (by rfl) (fun HT_ => ?_)
          refine pure_ (i := 0) (N := (some 71)) (v := ?_) (a' := ?_) #[true, false, false, false, false, false, false, false, false, false, false, false, false, false, false, false, false, false, false, false, false, false, false, false, false, false, false, false] rfl rfl (any_of HT_.out (by kernel_rfl)) (fun _ _ _ h => h) (Or.inl ⟨by rfl, ?_⟩) ?_ ?_
          rotate_left
          · intro w'
            go_simp
            with_reducible rfl
          rotate_left
          · simp only [Act.put, List.setIfInBounds_toArray, List.set_cons_zero, List.set_cons_succ, i64_w, i32_w]
            rfl
          refine pure_ (i := 1) (N := (some 72)) (v := ?_) (a' := ?_) #[true, true, false, false, false, false, false, false, false, false, false, false, false, false, false, false, false, false, false, false, false, false, false, false, false, false, false, false] rfl rfl (any_of HT_.out (by kernel_rfl)) (fun _ _ _ h => h) (Or.inl ⟨by rfl, ?_⟩) ?_ ?_
          rotate_left
          · intro w'
            go_simp
            with_reducible rfl
          rotate_left
          · simp only [Act.put, List.setIfInBounds_toArray, List.set_cons_zero, List.set_cons_succ, i64_w, i32_w]
            rfl
          refine pure_ (i := 2) (N := (some 73)) (v := ?_) (a' := ?_) #[true, true, true, false, false, false, false, false, false, false, false, false, false, false, false, false, false, false, false, false, false, false, false, false, false, false, false, false] rfl rfl (any_of HT_.out (by kernel_rfl)) (fun _ _ _ h => h) (Or.inl ⟨by rfl, ?_⟩) ?_ ?_
          rotate_left
          · intro w'
            go_simp
            with_reducible rfl
          rotate_left
          · simp only [Act.put, List.setIfInBounds_toArray, List.set_cons_zero, List.set_cons_succ, i64_w, i32_w]
            rfl
          refine one_ (i := 3) (N := (some 74)) #[true, true, true, true, false, false, false, false, false, false, false, false, false, false, false, false, false, false, false, false, false, false, false, false, false, false, false, false] rfl rfl (one_of HT_.out (by kernel_rfl)) (by decide) (fun K hK => ?_)
          refine goes_ Try.func23 (by kernel_rfl) rfl #[.slice (some ⟨g, 0, none⟩) L.length cl, .int .i64 id] (by rfl) rfl rfl (by simp only [List.map_toArray, List.map_cons, List.map_nil]; rfl) ?_
          with_reducible refine (there_yes (some ⟨g, 0, none⟩) L.length cl id _ HTH.out).mono ?_
          rintro e w' ⟨rfl, rfl⟩
          refine ⟨_, rfl, ?_⟩
          refine hK.out _ _ hHeld (fun hHeld => ?_)
          clear hK K
          refine norm_ (a' := ?_) ?_ ?_
          rotate_left
          · show Act.put _ (some 74) _ = _
            simp only [Act.put, List.setIfInBounds_toArray, List.set_cons_zero, List.set_cons_succ, i64_w, i32_w]
            rfl
          refine pure_ (i := 4) (N := (some 75)) (v := ?_) (a' := ?_) #[true, true, true, true, true, false, false, false, false, false, false, false, false, false, false, false, false, false, false, false, false, false, false, false, false, false, false, false] rfl rfl (any_of HT_.out (by kernel_rfl)) (fun _ _ _ h => h) (Or.inl ⟨by rfl, ?_⟩) ?_ ?_
          rotate_left
          · intro w'
            go_simp
            with_reducible rfl
          rotate_left
          · simp only [Act.put, List.setIfInBounds_toArray, List.set_cons_zero, List.set_cons_succ, i64_w, i32_w]
            rfl
          refine pure_ (i := 5) (N := (some 76)) (v := ?_) (a' := ?_) #[true, true, true, true, true, true, false, false, false, false, false, false, false, false, false, false, false, false, false, false, false, false, false, false, false, false, false, false] rfl rfl (any_of HT_.out (by kernel_rfl)) (fun _ _ _ h => h) (Or.inl ⟨by rfl, ?_⟩) ?_ ?_
          rotate_left
          · intro w'
            go_simp
            with_reducible rfl
          rotate_left
          · simp only [Act.put, List.setIfInBounds_toArray, List.set_cons_zero, List.set_cons_succ, i64_w, i32_w]
            rfl
          refine pure_ (i := 6) (N := (some 77)) (v := ?_) (a' := ?_) #[true, true, true, true, true, true, true, false, false, false, false, false, false, false, false, false, false, false, false, false, false, false, false, false, false, false, false, false] rfl rfl (any_of HT_.out (by kernel_rfl)) (fun _ _ _ h => h) (Or.inl ⟨by rfl, ?_⟩) ?_ ?_
          rotate_left
          · intro w'
            go_simp
            with_reducible rfl
          rotate_left
          · simp only [Act.put, List.setIfInBounds_toArray, List.set_cons_zero, List.set_cons_succ, i64_w, i32_w]
            rfl
          refine pure_ (i := 7) (N := (some 78)) (v := ?_) (a' := ?_) #[true, true, true, true, true, true, true, true, false, false, false, false, false, false, false, false, false, false, false, false, false, false, false, false, false, false, false, false] rfl rfl (any_of HT_.out (by kernel_rfl)) (fun _ _ _ h => h) (Or.inl ⟨by rfl, ?_⟩) ?_ ?_
          rotate_left
          · intro w'
            go_simp
            with_reducible rfl
          rotate_left
          · simp only [Act.put, List.setIfInBounds_toArray, List.set_cons_zero, List.set_cons_succ, i64_w, i32_w]
            rfl
          refine take_ (i := 8) (N := (some 79)) (v := ?_) (a' := ?_) #[true, true, true, true, true, true, true, true, true, false, false, false, false, false, false, false, false, false, false, false, false, false, false, false, false, false, false, false] rfl rfl (take_of HT_.out (by kernel_rfl)) (fun _ _ _ h => h) (Or.inl ⟨by rfl, ?_⟩) hHeld ?_ ?_
          rotate_left
          · rintro w' ⟨s0_, s1_, s2_, s3_, s4_, s5_, s6_, s7_, s8_, s9_, s10_, s11_, s12_, s13_, s14_, s15_, s16_, s17_⟩
            go_simp
            with_reducible rfl
          rotate_left
          · simp only [Act.put, List.setIfInBounds_toArray, List.set_cons_zero, List.set_cons_succ, i64_w, i32_w]
            rfl
          refine pure_ (i := 9) (N := (some 80)) (v := ?_) (a' := ?_) #[true, true, true, true, true, true, true, true, true, true, false, false, false, false, false, false, false, false, false, false, false, false, false, false, false, false, false, false] rfl rfl (any_of HT_.out (by kernel_rfl)) (fun _ _ _ h => h) (Or.inl ⟨by rfl, ?_⟩) ?_ ?_
          rotate_left
          · intro w'
            go_simp
            with_reducible rfl
          rotate_left
          · simp only [Act.put, List.setIfInBounds_toArray, List.set_cons_zero, List.set_cons_succ, i64_w, i32_w]
            rfl
          refine pure_ (i := 10) (N := (some 81)) (v := ?_) (a' := ?_) #[true, true, true, true, true, true, true, true, true, true, true, false, false, false, false, false, false, false, false, false, false, false, false, false, false, false, false, false] rfl rfl (any_of HT_.out (by kernel_rfl)) (fun _ _ _ h => h) (Or.inl ⟨by rfl, ?_⟩) ?_ ?_
          rotate_left
          · intro w'
            go_simp
            with_reducible rfl
          rotate_left
          · simp only [Act.put, List.setIfInBounds_toArray, List.set_cons_zero, List.set_cons_succ, i64_w, i32_w]
            rfl
          refine pure_ (i := 11) (N := (some 82)) (v := ?_) (a' := ?_) #[true, true, true, true, true, true, true, true, true, true, true, true, false, false, false, false, false, false, false, false, false, false, false, false, false, false, false, false] rfl rfl (any_of HT_.out (by kernel_rfl)) (fun _ _ _ h => h) (Or.inl ⟨by rfl, ?_⟩) ?_ ?_
          rotate_left
          · intro w'
            go_simp
            with_reducible rfl
          rotate_left
          · simp only [Act.put, List.setIfInBounds_toArray, List.set_cons_zero, List.set_cons_succ, i64_w, i32_w]
            rfl
          refine pure_ (i := 12) (N := (some 83)) (v := ?_) (a' := ?_) #[true, true, true, true, true, true, true, true, true, true, true, true, true, false, false, false, false, false, false, false, false, false, false, false, false, false, false, false] rfl rfl (any_of HT_.out (by kernel_rfl)) (fun _ _ _ h => h) (Or.inl ⟨by rfl, ?_⟩) ?_ ?_
          rotate_left
          · intro w'
            go_simp
            with_reducible rfl
          rotate_left
          · simp only [Act.put, List.setIfInBounds_toArray, List.set_cons_zero, List.set_cons_succ, i64_w, i32_w]
            rfl
          refine take_ (i := 13) (N := (some 84)) (v := ?_) (a' := ?_) #[true, true, true, true, true, true, true, true, true, true, true, true, true, true, false, false, false, false, false, false, false, false, false, false, false, false, false, false] rfl rfl (take_of HT_.out (by kernel_rfl)) (fun _ _ _ h => h) (Or.inl ⟨by rfl, ?_⟩) hHeld ?_ ?_
          rotate_left
          · rintro w' ⟨s0_, s1_, s2_, s3_, s4_, s5_, s6_, s7_, s8_, s9_, s10_, s11_, s12_, s13_, s14_, s15_, s16_, s17_⟩
            go_simp
            with_reducible rfl
          rotate_left
          · simp only [Act.put, List.setIfInBounds_toArray, List.set_cons_zero, List.set_cons_succ, i64_w, i32_w]
            rfl
          refine last_ (i := 14) (N := (some 85)) #[true, true, true, true, true, true, true, true, true, true, true, true, true, true, true, false, false, false, false, false, false, false, false, false, false, false, false, false] rfl rfl (one_of HT_.out (by kernel_rfl)) (by decide) (fun K hK => ?_)
          refine goes_ Try.func24 (by kernel_rfl) rfl #[nodeV x (.slice AK x.f8.length cK), nodeV x (.slice A8 x.f8.length c8)] (by rfl) rfl rfl (by simp only [List.map_toArray, List.map_cons, List.map_nil]; rfl) ?_
          with_reducible refine (one_same x AK A8 cK c8 x.f8.length _ (Kd.C_below HCK.out (below_drew (Below.refl _ _))) (Kd.C_below (Kd.F_now HF8.out) (below_drew (Below.refl _ _)))).mono ?_
          rintro e w7 ⟨rfl, hb7⟩
          refine ⟨_, rfl, ?_⟩
          have hb67 : Below w6.heap.size w6 w7 := (below_drew (Below.refl w6.heap.size w6)).trans hb7
          have HB7 := Aside0.mk (HB5.out.trans (hb67.mono HB5.out.size))
          have HK7 := Aside0.mk (HK.out.below hb67)
          have HX7 : Aside0 (w7.heap[w5.heap.size]? = some (.cells #[.int .i64 x.f0, .int .i64 x.f1, .int .i64 x.f2, .int .i64 x.f3, .int .i64 x.f4, .bool x.f5, .string x.f6, .string x.f7, .slice AK x.f8.length cK] 33 (0, 0))) := ⟨blk_below HBX.out hb67 (blk_lt' HBX.out)⟩
          clear hb7 hb67
          refine hK.out _ _ ?_
          clear hK K
          refine norm_ (a' := ?_) ?_ ?_
          rotate_left
          · show Act.put _ (some 85) _ = _
            simp only [Act.put, List.setIfInBounds_toArray, List.set_cons_zero, List.set_cons_succ, i64_w, i32_w]
            rfl
          refine pure_ (i := 15) (N := (some 86)) (v := ?_) (a' := ?_) #[true, true, true, true, true, true, true, true, true, true, true, true, true, true, true, true, false, false, false, false, false, false, false, false, false, false, false, false] rfl rfl (any_of HT_.out (by kernel_rfl)) (fun _ _ _ h => h) (Or.inl ⟨by rfl, ?_⟩) ?_ ?_
          rotate_left
          · intro w'
            go_simp
            with_reducible rfl
          rotate_left
          · simp only [Act.put, List.setIfInBounds_toArray, List.set_cons_zero, List.set_cons_succ, i64_w, i32_w]
            rfl
          refine pure_ (i := 16) (N := (some 87)) (v := ?_) (a' := ?_) #[true, true, true, true, true, true, true, true, true, true, true, true, true, true, true, true, true, false, false, false, false, false, false, false, false, false, false, false] rfl rfl (any_of HT_.out (by kernel_rfl)) (fun _ _ _ h => h) (Or.inl ⟨by rfl, ?_⟩) ?_ ?_
          rotate_left
          · intro w'
            go_simp
            with_reducible rfl
          rotate_left
          · simp only [Act.put, List.setIfInBounds_toArray, List.set_cons_zero, List.set_cons_succ, i64_w, i32_w]
            rfl
          refine pure_ (i := 17) (N := (some 88)) (v := ?_) (a' := ?_) #[true, true, true, true, true, true, true, true, true, true, true, true, true, true, true, true, true, true, false, false, false, false, false, false, false, false, false, false] rfl rfl (any_of HT_.out (by kernel_rfl)) (fun _ _ _ h => h) (Or.inl ⟨by rfl, ?_⟩) ?_ ?_
          rotate_left
          · intro w'
            go_simp
            with_reducible rfl
          rotate_left
          · simp only [Act.put, List.setIfInBounds_toArray, List.set_cons_zero, List.set_cons_succ, i64_w, i32_w]
            rfl
          refine pure_ (i := 18) (N := (some 89)) (v := ?_) (a' := ?_) #[true, true, true, true, true, true, true, true, true, true, true, true, true, true, true, true, true, true, true, false, false, false, false, false, false, false, false, false] rfl rfl (any_of HT_.out (by kernel_rfl)) (fun _ _ _ h => h) (Or.inl ⟨by rfl, ?_⟩) ?_ ?_
          rotate_left
          · intro w'
            go_simp
            with_reducible rfl
          rotate_left
          · simp only [Act.put, List.setIfInBounds_toArray, List.set_cons_zero, List.set_cons_succ, i64_w, i32_w]
            rfl
          refine pure_ (i := 19) (N := (some 90)) (v := ?_) (a' := ?_) #[true, true, true, true, true, true, true, true, true, true, true, true, true, true, true, true, true, true, true, true, false, false, false, false, false, false, false, false] rfl rfl (any_of HT_.out (by kernel_rfl)) (fun _ _ _ h => h) (Or.inl ⟨by rfl, ?_⟩) ?_ ?_
          rotate_left
          · intro w'
            go_simp
            with_reducible rfl
          rotate_left
          · simp only [Act.put, List.setIfInBounds_toArray, List.set_cons_zero, List.set_cons_succ, i64_w, i32_w]
            rfl
          refine pure_ (i := 20) (N := (some 91)) (v := ?_) (a' := ?_) #[true, true, true, true, true, true, true, true, true, true, true, true, true, true, true, true, true, true, true, true, true, false, false, false, false, false, false, false] rfl rfl (any_of HT_.out (by kernel_rfl)) (fun _ _ _ h => h) (Or.inl ⟨by rfl, ?_⟩) ?_ ?_
          rotate_left
          · intro w'
            go_simp
            with_reducible rfl
          rotate_left
          · simp only [Act.put, List.setIfInBounds_toArray, List.set_cons_zero, List.set_cons_succ, i64_w, i32_w]
            rfl
          refine pure_ (i := 21) (N := (some 92)) (v := ?_) (a' := ?_) #[true, true, true, true, true, true, true, true, true, true, true, true, true, true, true, true, true, true, true, true, true, true, false, false, false, false, false, false] rfl rfl (any_of HT_.out (by kernel_rfl)) (fun _ _ _ h => h) (Or.inl ⟨by rfl, ?_⟩) ?_ ?_
          rotate_left
          · intro w'
            go_simp
            with_reducible rfl
          rotate_left
          · simp only [Act.put, List.setIfInBounds_toArray, List.set_cons_zero, List.set_cons_succ, i64_w, i32_w]
            rfl
          refine pure_ (i := 22) (N := (some 93)) (v := undef) (a' := ?_) #[true, true, true, true, true, true, true, true, true, true, true, true, true, true, true, true, true, true, true, true, true, true, true, false, false, false, false, false] rfl rfl (any_of HT_.out (by kernel_rfl)) (fun _ _ _ h => h) (Or.inr ⟨by rfl, rfl⟩) ?_ ?_
          rotate_left
          · simp only [Act.put, List.setIfInBounds_toArray, List.set_cons_zero, List.set_cons_succ, i64_w, i32_w]
            rfl
          refine pure_ (i := 23) (N := (some 94)) (v := undef) (a' := ?_) #[true, true, true, true, true, true, true, true, true, true, true, true, true, true, true, true, true, true, true, true, true, true, true, true, false, false, false, false] rfl rfl (any_of HT_.out (by kernel_rfl)) (fun _ _ _ h => h) (Or.inr ⟨by rfl, rfl⟩) ?_ ?_
          rotate_left
          · simp only [Act.put, List.setIfInBounds_toArray, List.set_cons_zero, List.set_cons_succ, i64_w, i32_w]
            rfl
          refine pure_ (i := 24) (N := (some 95)) (v := undef) (a' := ?_) #[true, true, true, true, true, true, true, true, true, true, true, true, true, true, true, true, true, true, true, true, true, true, true, true, true, false, false, false] rfl rfl (any_of HT_.out (by kernel_rfl)) (fun _ _ _ h => h) (Or.inr ⟨by rfl, rfl⟩) ?_ ?_
          rotate_left
          · simp only [Act.put, List.setIfInBounds_toArray, List.set_cons_zero, List.set_cons_succ, i64_w, i32_w]
            rfl
          refine pure_ (i := 25) (N := (some 96)) (v := undef) (a' := ?_) #[true, true, true, true, true, true, true, true, true, true, true, true, true, true, true, true, true, true, true, true, true, true, true, true, true, true, false, false] rfl rfl (any_of HT_.out (by kernel_rfl)) (fun _ _ _ h => h) (Or.inr ⟨by rfl, rfl⟩) ?_ ?_
          rotate_left
          · simp only [Act.put, List.setIfInBounds_toArray, List.set_cons_zero, List.set_cons_succ, i64_w, i32_w]
            rfl
          refine pure_ (i := 26) (N := (some 97)) (v := ?_) (a' := ?_) #[true, true, true, true, true, true, true, true, true, true, true, true, true, true, true, true, true, true, true, true, true, true, true, true, true, true, true, false] rfl rfl (any_of HT_.out (by kernel_rfl)) (fun _ _ _ h => h) (Or.inl ⟨by rfl, ?_⟩) ?_ ?_
          rotate_left
          · intro w'
            go_simp
            with_reducible rfl
          rotate_left
          · simp only [Act.put, List.setIfInBounds_toArray, List.set_cons_zero, List.set_cons_succ, i64_w, i32_w]
            rfl
          refine pure_ (i := 27) (N := (some 98)) (v := ?_) (a' := ?_) #[true, true, true, true, true, true, true, true, true, true, true, true, true, true, true, true, true, true, true, true, true, true, true, true, true, true, true, true] rfl rfl (any_of HT_.out (by kernel_rfl)) (fun _ _ _ h => h) (Or.inl ⟨by rfl, ?_⟩) ?_ ?_
          rotate_left
          · intro w'
            go_simp
            with_reducible rfl
          rotate_left
          · simp only [Act.put, List.setIfInBounds_toArray, List.set_cons_zero, List.set_cons_succ, i64_w, i32_w]
            rfl
          refine done_ (done_of HT_.out (by kernel_rfl)) ?_
          try clear b0 b1 b2 b3 b4 b5 b6 b7 b8
          try clear hb0
          go_wp2_with fail
          go_loopw [15] (fun i wl => ∃ k : Nat, i = .int .i64 k ∧ k ≤ x.f8.length ∧ Aside0 (KRow wo.heap.size wl w5.heap.size AK x.f8.length) ∧ Aside0 (wl.heap[w5.heap.size]? = some (.cells #[.int .i64 x.f0, .int .i64 x.f1, .int .i64 x.f2, .int .i64 x.f3, .int .i64 x.f4, .bool x.f5, .string x.f6, .string x.f7, .slice AK x.f8.length cK] 33 (0, 0))) ∧ Aside0 (Below wo.heap.size wo wl)) (fun i _ => x.f8.length - (intOf i).toNat)
          case atStart => exact ⟨0, rfl, by omega, HK7, HX7, HB7⟩
          case round =>
            clear HK7 HX7 HB7
            obtain ⟨k, rfl, hk, HK, HXb, HBw⟩ := hrel
            have q8 : _ = some _ := (blk_cell HXb.out 8).trans rfl
            by_cases hlt : k < x.f8.length
            · obtain ⟨b, ks, hAb, hbB, hbg, hks, hsz⟩ := HK.out (by omega)
              subst hAb
              have qk : _ = some (ks[k]'(by omega)) := (blk_cell hks k).trans (Array.getElem?_eq_getElem (by omega))
              have fk := blk_free hks k
              have p3 : (0 : Int) ≤ (k : Int) := by omega
              have p4 : (k : Int) < (x.f8.length : Int) := by omega
              have HK1 := Aside0.mk (HK.out.set b k (.int .i64 99))
              have HX1 := Aside0.mk (blk_far HXb.out (p := ⟨b, k, none⟩) (Ne.symm hbg) (.int .i64 99))
              have HB1 := Aside0.mk (HBw.out.setCell (p := ⟨b, k, none⟩) hbB (.int .i64 99))
              clear hks
              go_wp2
              go_round
              case rel => exact ⟨k + 1, by go_num, by omega, HK1, HX1, HB1⟩
              case measure => simp [intOf]; omega
            · have p4 : ¬ (k : Int) < (x.f8.length : Int) := by omega
              obtain ⟨wc, rfl⟩ : ∃ x, x = wr := ⟨_, rfl⟩
              have HL0 : Aside0 (L.length ≤ 128) := ⟨HG.out.len⟩
              go_wp2_with fail
              refine (all_any (HFw.out.below HBw.out) HG.out).mono ?_
              rintro e w8 ⟨va, rfl, hRa, hb8⟩
              have HB8 := Aside0.mk hb8
              have hB8' := HBw.out.trans (hb8.mono HBw.out.size)
              have HB8' := Aside0.mk hB8'
              obtain ⟨AA, cA, rfl⟩ := Kd.R_slice hRa
              have HSh : Aside0 (0 < L.length → ∃ ga, AA = some ⟨ga, 0, none⟩ ∧ ShapeA wc.heap.size w8 ga L) := ⟨fun hp => by
                obtain ⟨ga, cap, he, _, _, _⟩ := Kd.R_form hRa hp
                have hA : AA = some ⟨ga, 0, none⟩ := by injection he
                subst hA
                exact ⟨ga, rfl, ShapeA.of_R hRa rfl⟩⟩
              have HRa : Aside0 (RV (fun _ => True) w8 (.slice AA L.length cA) L) := ⟨Kd.N_lower (Kd.N_mono (Kd.R_N hRa) (fun _ _ => trivial)) (Nat.zero_le _)⟩
              clear hRa hb8 hB8'
              go_wp2_with fail
              refine (same_any HRa.out (HRw.out.below HB8'.out) HL0.out).mono ?_
              rintro e w9 ⟨rfl, hb9⟩
              have HB9 := Aside0.mk (HB8.out.trans (hb9.mono HB8.out.size))
              have HSh9 : Aside0 (0 < L.length → ∃ ga, AA = some ⟨ga, 0, none⟩ ∧ ShapeA wc.heap.size w9 ga L) := ⟨fun hp => by
                obtain ⟨ga, h1, h2⟩ := HSh.out hp
                exact ⟨ga, h1, h2.below hb9⟩⟩
              clear hb9 HSh HRa HB8'
              have hLn : L.length ≤ 128 := HL0.out
              go_wp2_with fail
              go_loopw [17] (fun i wl => ∃ k : Nat, i = .int .i64 k ∧ k ≤ L.length ∧ Aside0 (0 < L.length → ∃ ga, AA = some ⟨ga, 0, none⟩ ∧ ShapeA wc.heap.size wl ga L) ∧ Aside0 (Below wc.heap.size wc wl)) (fun i _ => L.length - (intOf i).toNat)
              case atStart => exact ⟨0, rfl, by omega, HSh9, HB9⟩
              case round =>
                clear HSh9 HB9
                obtain ⟨k, rfl, hk, HSh, HBl⟩ := hrel
                by_cases hlt : k < L.length
                · obtain ⟨ga, hA, hSA⟩ := HSh.out (by omega)
                  subst hA
                  have HSA := Aside0.mk hSA
                  obtain ⟨hgB, cs, hcs, hel⟩ := hSA
                  obtain ⟨⟨u0, hu0⟩, -⟩ := hel k hlt
                  have q0 : _ = some u0 := (blk_cell hcs (k * 9)).trans hu0
                  have f0 := blk_free hcs (k * 9)
                  have p1 : (0 : Int) ≤ (k : Int) := by omega
                  have p2 : (k : Int) < (L.length : Int) := by omega
                  have HS0 := Aside0.mk (HSA.out.set_own k (.int .i64 9))
                  have HB0 := Aside0.mk (HBl.out.setCell (p := ⟨ga, k * 9, none⟩) hgB (.int .i64 9))
                  obtain ⟨m, hm⟩ : ∃ m, m = (nd L ((k : Int) + 1)).f8.length := ⟨_, rfl⟩
                  have hm8 : m ≤ 128 := by rw [hm]; exact HG.out.kids_le ⟨by omega, by omega⟩
                  have HM := Aside0.mk hm
                  clear hel hcs hu0 HSA HSh hm
                  go_wp2_with fail
                  go_loopw [18] (fun i wl => ∃ k2 : Nat, i = .int .i64 k2 ∧ k2 ≤ m ∧ Aside0 (ShapeA wc.heap.size wl ga L) ∧ Aside0 (Below wc.heap.size wc wl)) (fun i _ => m - (intOf i).toNat)
                  case atStart => exact ⟨0, rfl, by omega, HS0, HB0⟩
                  case round =>
                    clear HS0 HB0 q0 f0 HBl
                    obtain ⟨k2, rfl, hk2, HSA, HBl⟩ := hrel
                    obtain ⟨hgB, cs, hcs, hel⟩ := HSA.out
                    obtain ⟨-, AK2, cK2, h8, hK2⟩ := hel k hlt
                    rw [← HM.out] at h8 hK2
                    have q8 : _ = some _ := (blk_cell hcs (k * 9 + 8)).trans h8
                    by_cases hlt2 : k2 < m
                    · obtain ⟨b, ks, hAb, hbB, hbg, hks, hsz⟩ := hK2 (by omega)
                      subst hAb
                      have qk : _ = some (ks[k2]'(by omega)) := (blk_cell hks k2).trans (Array.getElem?_eq_getElem (by omega))
                      have fk := blk_free hks k2
                      have p3 : (0 : Int) ≤ (k2 : Int) := by omega
                      have p4 : (k2 : Int) < (m : Int) := by omega
                      have HS1 := Aside0.mk (HSA.out.set_kid hbg k2 (.int .i64 99))
                      have HB1 := Aside0.mk (HBl.out.setCell (p := ⟨b, k2, none⟩) hbB (.int .i64 99))
                      clear hel hcs h8 hK2 hks
                      go_wp2
                      go_round
                      case rel => exact ⟨k2 + 1, by go_num, by omega, HS1, HB1⟩
                      case measure => simp [intOf]; omega
                    · have p4 : ¬ (k2 : Int) < (m : Int) := by omega
                      clear hel hcs h8 hK2
                      go_wp2
                      go_round
                      case rel => exact ⟨k + 1, by go_num, by omega, ⟨fun _ => ⟨ga, rfl, HSA.out⟩⟩, HBl⟩
                      case measure => simp [intOf]; omega
                · have p2 : ¬ (k : Int) < (L.length : Int) := by omega
                  go_wp2_with fail
                  have HFl := Aside0.mk ((HFw.out.below HBw.out).below HBl.out)
                  refine (all_any HFl.out HG.out).mono ?_
                  rintro e w10 ⟨va2, rfl, hR2, hb10⟩
                  have HR2 : Aside0 (RV (fun _ => True) w10 va2 L) := ⟨Kd.N_lower (Kd.N_mono (Kd.R_N hR2) (fun _ _ => trivial)) (Nat.zero_le _)⟩
                  have HB10 := Aside0.mk (HBl.out.trans (hb10.mono HBl.out.size))
                  have HRl := Aside0.mk ((HRw.out.below HBw.out).below HB10.out)
                  clear hR2 hb10
                  go_wp2_with fail
                  refine (same_any HR2.out HRl.out HL0.out).mono ?_
                  rintro e w11 ⟨rfl, hb11⟩
                  have HB11 := Aside0.mk (HB10.out.trans (hb11.mono HB10.out.size))
                  clear hb11
                  go_wp2
                  go_ret
                  exact ⟨rfl, HBw0.out.trans ((HBw.out.trans (HB11.out.mono HBw.out.size)).mono HBw0.out.size)⟩
        · skip
          have HT := Aside0.mk hT
          have HTH : Aside0 (¬ (1 ≤ id ∧ id ≤ (L.length : Int))) := ⟨hT⟩
          clear hT
          go_wp2_with fail
          refine (node_no HFw.out id HT.out).mono ?_
          rintro e w5 ⟨rfl, hb5⟩
          unfold nodeV z33
          have hbx := heap_alloc_new w5 (.cells #[.int .i64 0, .int .i64 0, .int .i64 0, .int .i64 0, .int .i64 0, .bool false, .string ⟨#[]⟩, .string ⟨#[]⟩, .slice none 0 0] 33)
          have hb0 := fun j => blk_cell hbx j
          have HB5 := Aside0.mk (hb5.alloc hb5.size (.cells #[.int .i64 0, .int .i64 0, .int .i64 0, .int .i64 0, .int .i64 0, .bool false, .string ⟨#[]⟩, .string ⟨#[]⟩, .slice none 0 0] 33))
          obtain ⟨Al, cl, rfl⟩ := HRw.out.slice
          clear hb5
          go_wp2
          generalize hW6 : w5.alloc (.cells #[.int .i64 0, .int .i64 0, .int .i64 0, .int .i64 0, .int .i64 0, .bool false, .string ⟨#[]⟩, .string ⟨#[]⟩, .slice none 0 0] 33) = w6 at hbx hb0 HB5 ⊢
          have HBX := Aside0.mk hbx
          clear hW6 hbx
          refine start_ (n := 28) (S := fun w' => w'.cell? ⟨w5.heap.size, 0, none⟩ = some (.int .i64 0) ∧ w'.cell? ⟨w5.heap.size, 1, none⟩ = some (.int .i64 0) ∧ w'.cell? ⟨w5.heap.size, 2, none⟩ = some (.int .i64 0) ∧ w'.cell? ⟨w5.heap.size, 3, none⟩ = some (.int .i64 0) ∧ w'.cell? ⟨w5.heap.size, 4, none⟩ = some (.int .i64 0) ∧ w'.cell? ⟨w5.heap.size, 5, none⟩ = some (.bool false) ∧ w'.cell? ⟨w5.heap.size, 6, none⟩ = some (.string ⟨#[]⟩) ∧ w'.cell? ⟨w5.heap.size, 7, none⟩ = some (.string ⟨#[]⟩) ∧ w'.cell? ⟨w5.heap.size, 8, none⟩ = some (.slice none 0 0)) (ds := [24]) #[false, false, false, false, false, false, false, false, false, false, false, false, false, false, false, false, false, false, false, false, false, false, false, false, false, false, false, false] (by kernel_rfl) rfl rfl ⟨(hb0 0).trans rfl, (hb0 1).trans rfl, (hb0 2).trans rfl, (hb0 3).trans rfl, (hb0 4).trans rfl, (hb0 5).trans rfl, (hb0 6).trans rfl, (hb0 7).trans rfl, (hb0 8).trans rfl⟩ (fun hHeld => ?_)
          refine with_tab (T := rtab .any (opsOf Try.f3 16)) (by rfl) (fun HT_ => ?_)
          refine pure_ (i := 0) (N := (some 71)) (v := ?_) (a' := ?_) #[true, false, false, false, false, false, false, false, false, false, false, false, false, false, false, false, false, false, false, false, false, false, false, false, false, false, false, false] rfl rfl (any_of HT_.out (by kernel_rfl)) (fun _ _ _ h => h) (Or.inl ⟨by rfl, ?_⟩) ?_ ?_
          rotate_left
          · intro w'
            go_simp
            with_reducible rfl
          rotate_left
          · simp only [Act.put, List.setIfInBounds_toArray, List.set_cons_zero, List.set_cons_succ, i64_w, i32_w]
            rfl
          refine pure_ (i := 1) (N := (some 72)) (v := ?_) (a' := ?_) #[true, true, false, false, false, false, false, false, false, false, false, false, false, false, false, false, false, false, false, false, false, false, false, false, false, false, false, false] rfl rfl (any_of HT_.out (by kernel_rfl)) (fun _ _ _ h => h) (Or.inl ⟨by rfl, ?_⟩) ?_ ?_
          rotate_left
          · intro w'
            go_simp
            with_reducible rfl
          rotate_left
          · simp only [Act.put, List.setIfInBounds_toArray, List.set_cons_zero, List.set_cons_succ, i64_w, i32_w]
            rfl
          refine pure_ (i := 2) (N := (some 73)) (v := ?_) (a' := ?_) #[true, true, true, false, false, false, false, false, false, false, false, false, false, false, false, false, false, false, false, false, false, false, false, false, false, false, false, false] rfl rfl (any_of HT_.out (by kernel_rfl)) (fun _ _ _ h => h) (Or.inl ⟨by rfl, ?_⟩) ?_ ?_
          rotate_left
          · intro w'
            go_simp
            with_reducible rfl
          rotate_left
          · simp only [Act.put, List.setIfInBounds_toArray, List.set_cons_zero, List.set_cons_succ, i64_w, i32_w]
            rfl
          refine one_ (i := 3) (N := (some 74)) #[true, true, true, true, false, false, false, false, false, false, false, false, false, false, false, false, false, false, false, false, false, false, false, false, false, false, false, false] rfl rfl (one_of HT_.out (by kernel_rfl)) (by decide) (fun K hK => ?_)
          refine goes_ Try.func23 (by kernel_rfl) rfl #[.slice Al L.length cl, .int .i64 id] (by rfl) rfl rfl (by simp only [List.map_toArray, List.map_cons, List.map_nil]; rfl) ?_
          with_reducible refine (there_no Al L.length cl id _ HTH.out).mono ?_
          rintro e w' ⟨rfl, rfl⟩
          refine ⟨_, rfl, ?_⟩
          refine hK.out _ _ hHeld (fun hHeld => ?_)
          clear hK K
          refine norm_ (a' := ?_) ?_ ?_
          rotate_left
          · show Act.put _ (some 74) _ = _
            simp only [Act.put, List.setIfInBounds_toArray, List.set_cons_zero, List.set_cons_succ, i64_w, i32_w]
            rfl
          refine pure_ (i := 4) (N := (some 75)) (v := ?_) (a' := ?_) #[true, true, true, true, true, false, false, false, false, false, false, false, false, false, false, false, false, false, false, false, false, false, false, false, false, false, false, false] rfl rfl (any_of HT_.out (by kernel_rfl)) (fun _ _ _ h => h) (Or.inl ⟨by rfl, ?_⟩) ?_ ?_
          rotate_left
          · intro w'
            go_simp
            with_reducible rfl
          rotate_left
          · simp only [Act.put, List.setIfInBounds_toArray, List.set_cons_zero, List.set_cons_succ, i64_w, i32_w]
            rfl
          refine pure_ (i := 5) (N := (some 76)) (v := ?_) (a' := ?_) #[true, true, true, true, true, true, false, false, false, false, false, false, false, false, false, false, false, false, false, false, false, false, false, false, false, false, false, false] rfl rfl (any_of HT_.out (by kernel_rfl)) (fun _ _ _ h => h) (Or.inl ⟨by rfl, ?_⟩) ?_ ?_
          rotate_left
          · intro w'
            go_simp
            with_reducible rfl
          rotate_left
          · simp only [Act.put, List.setIfInBounds_toArray, List.set_cons_zero, List.set_cons_succ, i64_w, i32_w]
            rfl
          refine pure_ (i := 6) (N := (some 77)) (v := ?_) (a' := ?_) #[true, true, true, true, true, true, true, false, false, false, false, false, false, false, false, false, false, false, false, false, false, false, false, false, false, false, false, false] rfl rfl (any_of HT_.out (by kernel_rfl)) (fun _ _ _ h => h) (Or.inl ⟨by rfl, ?_⟩) ?_ ?_
          rotate_left
          · intro w'
            go_simp
            with_reducible rfl
          rotate_left
          · simp only [Act.put, List.setIfInBounds_toArray, List.set_cons_zero, List.set_cons_succ, i64_w, i32_w]
            rfl
          refine pure_ (i := 7) (N := (some 78)) (v := ?_) (a' := ?_) #[true, true, true, true, true, true, true, true, false, false, false, false, false, false, false, false, false, false, false, false, false, false, false, false, false, false, false, false] rfl rfl (any_of HT_.out (by kernel_rfl)) (fun _ _ _ h => h) (Or.inl ⟨by rfl, ?_⟩) ?_ ?_
          rotate_left
          · intro w'
            go_simp
            with_reducible rfl
          rotate_left
          · simp only [Act.put, List.setIfInBounds_toArray, List.set_cons_zero, List.set_cons_succ, i64_w, i32_w]
            rfl
          refine pure_ (i := 8) (N := (some 79)) (v := undef) (a' := ?_) #[true, true, true, true, true, true, true, true, true, false, false, false, false, false, false, false, false, false, false, false, false, false, false, false, false, false, false, false] rfl rfl (any_of HT_.out (by kernel_rfl)) (fun _ _ _ h => h) (Or.inr ⟨by rfl, rfl⟩) ?_ ?_
          rotate_left
          · simp only [Act.put, List.setIfInBounds_toArray, List.set_cons_zero, List.set_cons_succ, i64_w, i32_w]
            rfl
          refine pure_ (i := 9) (N := (some 80)) (v := undef) (a' := ?_) #[true, true, true, true, true, true, true, true, true, true, false, false, false, false, false, false, false, false, false, false, false, false, false, false, false, false, false, false] rfl rfl (any_of HT_.out (by kernel_rfl)) (fun _ _ _ h => h) (Or.inr ⟨by rfl, rfl⟩) ?_ ?_
          rotate_left
          · simp only [Act.put, List.setIfInBounds_toArray, List.set_cons_zero, List.set_cons_succ, i64_w, i32_w]
            rfl
          refine pure_ (i := 10) (N := (some 81)) (v := undef) (a' := ?_) #[true, true, true, true, true, true, true, true, true, true, true, false, false, false, false, false, false, false, false, false, false, false, false, false, false, false, false, false] rfl rfl (any_of HT_.out (by kernel_rfl)) (fun _ _ _ h => h) (Or.inr ⟨by rfl, rfl⟩) ?_ ?_
          rotate_left
          · simp only [Act.put, List.setIfInBounds_toArray, List.set_cons_zero, List.set_cons_succ, i64_w, i32_w]
            rfl
          refine pure_ (i := 11) (N := (some 82)) (v := undef) (a' := ?_) #[true, true, true, true, true, true, true, true, true, true, true, true, false, false, false, false, false, false, false, false, false, false, false, false, false, false, false, false] rfl rfl (any_of HT_.out (by kernel_rfl)) (fun _ _ _ h => h) (Or.inr ⟨by rfl, rfl⟩) ?_ ?_
          rotate_left
          · simp only [Act.put, List.setIfInBounds_toArray, List.set_cons_zero, List.set_cons_succ, i64_w, i32_w]
            rfl
          refine pure_ (i := 12) (N := (some 83)) (v := undef) (a' := ?_) #[true, true, true, true, true, true, true, true, true, true, true, true, true, false, false, false, false, false, false, false, false, false, false, false, false, false, false, false] rfl rfl (any_of HT_.out (by kernel_rfl)) (fun _ _ _ h => h) (Or.inr ⟨by rfl, rfl⟩) ?_ ?_
          rotate_left
          · simp only [Act.put, List.setIfInBounds_toArray, List.set_cons_zero, List.set_cons_succ, i64_w, i32_w]
            rfl
          refine pure_ (i := 13) (N := (some 84)) (v := undef) (a' := ?_) #[true, true, true, true, true, true, true, true, true, true, true, true, true, true, false, false, false, false, false, false, false, false, false, false, false, false, false, false] rfl rfl (any_of HT_.out (by kernel_rfl)) (fun _ _ _ h => h) (Or.inr ⟨by rfl, rfl⟩) ?_ ?_
          rotate_left
          · simp only [Act.put, List.setIfInBounds_toArray, List.set_cons_zero, List.set_cons_succ, i64_w, i32_w]
            rfl
          refine pure_ (i := 14) (N := (some 85)) (v := undef) (a' := ?_) #[true, true, true, true, true, true, true, true, true, true, true, true, true, true, true, false, false, false, false, false, false, false, false, false, false, false, false, false] rfl rfl (any_of HT_.out (by kernel_rfl)) (fun _ _ _ h => h) (Or.inr ⟨by rfl, rfl⟩) ?_ ?_
          rotate_left
          · simp only [Act.put, List.setIfInBounds_toArray, List.set_cons_zero, List.set_cons_succ, i64_w, i32_w]
            rfl
          refine pure_ (i := 15) (N := (some 86)) (v := undef) (a' := ?_) #[true, true, true, true, true, true, true, true, true, true, true, true, true, true, true, true, false, false, false, false, false, false, false, false, false, false, false, false] rfl rfl (any_of HT_.out (by kernel_rfl)) (fun _ _ _ h => h) (Or.inr ⟨by rfl, rfl⟩) ?_ ?_
          rotate_left
          · simp only [Act.put, List.setIfInBounds_toArray, List.set_cons_zero, List.set_cons_succ, i64_w, i32_w]
            rfl
          refine pure_ (i := 16) (N := (some 87)) (v := ?_) (a' := ?_) #[true, true, true, true, true, true, true, true, true, true, true, true, true, true, true, true, true, false, false, false, false, false, false, false, false, false, false, false] rfl rfl (any_of HT_.out (by kernel_rfl)) (fun _ _ _ h => h) (Or.inl ⟨by rfl, ?_⟩) ?_ ?_
          rotate_left
          · intro w'
            go_simp
            with_reducible rfl
          rotate_left
          · simp only [Act.put, List.setIfInBounds_toArray, List.set_cons_zero, List.set_cons_succ, i64_w, i32_w]
            rfl
          refine pure_ (i := 17) (N := (some 88)) (v := ?_) (a' := ?_) #[true, true, true, true, true, true, true, true, true, true, true, true, true, true, true, true, true, true, false, false, false, false, false, false, false, false, false, false] rfl rfl (any_of HT_.out (by kernel_rfl)) (fun _ _ _ h => h) (Or.inl ⟨by rfl, ?_⟩) ?_ ?_
          rotate_left
          · intro w'
            go_simp
            with_reducible rfl
          rotate_left
          · simp only [Act.put, List.setIfInBounds_toArray, List.set_cons_zero, List.set_cons_succ, i64_w, i32_w]
            rfl
          refine pure_ (i := 18) (N := (some 89)) (v := ?_) (a' := ?_) #[true, true, true, true, true, true, true, true, true, true, true, true, true, true, true, true, true, true, true, false, false, false, false, false, false, false, false, false] rfl rfl (any_of HT_.out (by kernel_rfl)) (fun _ _ _ h => h) (Or.inl ⟨by rfl, ?_⟩) ?_ ?_
          rotate_left
          · intro w'
            go_simp
            with_reducible rfl
          rotate_left
          · simp only [Act.put, List.setIfInBounds_toArray, List.set_cons_zero, List.set_cons_succ, i64_w, i32_w]
            rfl
          refine pure_ (i := 19) (N := (some 90)) (v := ?_) (a' := ?_) #[true, true, true, true, true, true, true, true, true, true, true, true, true, true, true, true, true, true, true, true, false, false, false, false, false, false, false, false] rfl rfl (any_of HT_.out (by kernel_rfl)) (fun _ _ _ h => h) (Or.inl ⟨by rfl, ?_⟩) ?_ ?_
          rotate_left
          · intro w'
            go_simp
            with_reducible rfl
          rotate_left
          · simp only [Act.put, List.setIfInBounds_toArray, List.set_cons_zero, List.set_cons_succ, i64_w, i32_w]
            rfl
          refine pure_ (i := 20) (N := (some 91)) (v := ?_) (a' := ?_) #[true, true, true, true, true, true, true, true, true, true, true, true, true, true, true, true, true, true, true, true, true, false, false, false, false, false, false, false] rfl rfl (any_of HT_.out (by kernel_rfl)) (fun _ _ _ h => h) (Or.inl ⟨by rfl, ?_⟩) ?_ ?_
          rotate_left
          · intro w'
            go_simp
            with_reducible rfl
          rotate_left
          · simp only [Act.put, List.setIfInBounds_toArray, List.set_cons_zero, List.set_cons_succ, i64_w, i32_w]
            rfl
          refine pure_ (i := 21) (N := (some 92)) (v := ?_) (a' := ?_) #[true, true, true, true, true, true, true, true, true, true, true, true, true, true, true, true, true, true, true, true, true, true, false, false, false, false, false, false] rfl rfl (any_of HT_.out (by kernel_rfl)) (fun _ _ _ h => h) (Or.inl ⟨by rfl, ?_⟩) ?_ ?_
          rotate_left
          · intro w'
            go_simp
            with_reducible rfl
          rotate_left
          · simp only [Act.put, List.setIfInBounds_toArray, List.set_cons_zero, List.set_cons_succ, i64_w, i32_w]
            rfl
          refine take_ (i := 22) (N := (some 93)) (v := ?_) (a' := ?_) #[true, true, true, true, true, true, true, true, true, true, true, true, true, true, true, true, true, true, true, true, true, true, true, false, false, false, false, false] rfl rfl (take_of HT_.out (by kernel_rfl)) (fun _ _ _ h => h) (Or.inl ⟨by rfl, ?_⟩) hHeld ?_ ?_
          rotate_left
          · rintro w' ⟨s0_, s1_, s2_, s3_, s4_, s5_, s6_, s7_, s8_⟩
            go_simp
            with_reducible rfl
          rotate_left
          · simp only [Act.put, List.setIfInBounds_toArray, List.set_cons_zero, List.set_cons_succ, i64_w, i32_w]
            rfl
          refine pure_ (i := 23) (N := (some 94)) (v := ?_) (a' := ?_) #[true, true, true, true, true, true, true, true, true, true, true, true, true, true, true, true, true, true, true, true, true, true, true, true, false, false, false, false] rfl rfl (any_of HT_.out (by kernel_rfl)) (fun _ _ _ h => h) (Or.inl ⟨by rfl, ?_⟩) ?_ ?_
          rotate_left
          · intro w'
            go_simp
            with_reducible rfl
          rotate_left
          · simp only [Act.put, List.setIfInBounds_toArray, List.set_cons_zero, List.set_cons_succ, i64_w, i32_w]
            rfl
          refine last_ (i := 24) (N := (some 95)) #[true, true, true, true, true, true, true, true, true, true, true, true, true, true, true, true, true, true, true, true, true, true, true, true, true, false, false, false] rfl rfl (one_of HT_.out (by kernel_rfl)) (by decide) (fun K hK => ?_)
          refine goes_ Try.func24 (by kernel_rfl) rfl #[nodeV z33 (.slice none 0 0), nodeV z33 (.slice none 0 0)] (by rfl) rfl rfl (by simp only [List.map_toArray, List.map_cons, List.map_nil]; rfl) ?_
          with_reducible refine (one_same z33 none none 0 0 0 _ (Kd.C_nil _ _) (Kd.C_nil _ _)).mono ?_
          rintro e w7 ⟨rfl, hb7⟩
          refine ⟨_, rfl, ?_⟩
          have hb67 : Below w6.heap.size w6 w7 := (below_drew (Below.refl w6.heap.size w6)).trans hb7
          have HBw := Aside0.mk (HB5.out.trans (hb67.mono HB5.out.size))
          have hX7 := blk_below HBX.out hb67 (blk_lt' HBX.out)
          have q8 : _ = some _ := (blk_cell hX7 8).trans rfl
          clear hb7 hb67 hX7
          refine hK.out _ _ ?_
          clear hK K
          refine norm_ (a' := ?_) ?_ ?_
          rotate_left
          · show Act.put _ (some 95) _ = _
            simp only [Act.put, List.setIfInBounds_toArray, List.set_cons_zero, List.set_cons_succ, i64_w, i32_w]
            rfl
          refine pure_ (i := 25) (N := (some 96)) (v := ?_) (a' := ?_) #[true, true, true, true, true, true, true, true, true, true, true, true, true, true, true, true, true, true, true, true, true, true, true, true, true, true, false, false] rfl rfl (any_of HT_.out (by kernel_rfl)) (fun _ _ _ h => h) (Or.inl ⟨by rfl, ?_⟩) ?_ ?_
          rotate_left
          · intro w'
            go_simp
            with_reducible rfl
          rotate_left
          · simp only [Act.put, List.setIfInBounds_toArray, List.set_cons_zero, List.set_cons_succ, i64_w, i32_w]
            rfl
          refine pure_ (i := 26) (N := (some 97)) (v := ?_) (a' := ?_) #[true, true, true, true, true, true, true, true, true, true, true, true, true, true, true, true, true, true, true, true, true, true, true, true, true, true, true, false] rfl rfl (any_of HT_.out (by kernel_rfl)) (fun _ _ _ h => h) (Or.inl ⟨by rfl, ?_⟩) ?_ ?_
          rotate_left
          · intro w'
            go_simp
            with_reducible rfl
          rotate_left
          · simp only [Act.put, List.setIfInBounds_toArray, List.set_cons_zero, List.set_cons_succ, i64_w, i32_w]
            rfl
          refine pure_ (i := 27) (N := (some 98)) (v := ?_) (a' := ?_) #[true, true, true, true, true, true, true, true, true, true, true, true, true, true, true, true, true, true, true, true, true, true, true, true, true, true, true, true] rfl rfl (any_of HT_.out (by kernel_rfl)) (fun _ _ _ h => h) (Or.inl ⟨by rfl, ?_⟩) ?_ ?_
          rotate_left
          · intro w'
            go_simp
            with_reducible rfl
          rotate_left
          · simp only [Act.put, List.setIfInBounds_toArray, List.set_cons_zero, List.set_cons_succ, i64_w, i32_w]
            rfl
          refine done_ (done_of HT_.out (by kernel_rfl)) ?_
          try clear hb0
          go_wp2_with fail
          go_loop [15] (fun i => i = .int .i64 0) (fun _ => 0)
          case atStart => rfl
          case round =>
            subst hrel
            have HL0 : Aside0 (L.length ≤ 128) := ⟨HG.out.len⟩
            go_wp2_with fail
            refine (all_any (HFw.out.below HBw.out) HG.out).mono ?_
            rintro e w8 ⟨va, rfl, hRa, hb8⟩
            have HB8 := Aside0.mk hb8
            have hB8' := HBw.out.trans (hb8.mono HBw.out.size)
            have HB8' := Aside0.mk hB8'
            obtain ⟨AA, cA, rfl⟩ := Kd.R_slice hRa
            have HSh : Aside0 (0 < L.length → ∃ ga, AA = some ⟨ga, 0, none⟩ ∧ ShapeA w7.heap.size w8 ga L) := ⟨fun hp => by
              obtain ⟨ga, cap, he, _, _, _⟩ := Kd.R_form hRa hp
              have hA : AA = some ⟨ga, 0, none⟩ := by injection he
              subst hA
              exact ⟨ga, rfl, ShapeA.of_R hRa rfl⟩⟩
            have HRa : Aside0 (RV (fun _ => True) w8 (.slice AA L.length cA) L) := ⟨Kd.N_lower (Kd.N_mono (Kd.R_N hRa) (fun _ _ => trivial)) (Nat.zero_le _)⟩
            clear hRa hb8 hB8'
            go_wp2_with fail
            refine (same_any HRa.out (HRw.out.below HB8'.out) HL0.out).mono ?_
            rintro e w9 ⟨rfl, hb9⟩
            have HB9 := Aside0.mk (HB8.out.trans (hb9.mono HB8.out.size))
            have HSh9 : Aside0 (0 < L.length → ∃ ga, AA = some ⟨ga, 0, none⟩ ∧ ShapeA w7.heap.size w9 ga L) := ⟨fun hp => by
              obtain ⟨ga, h1, h2⟩ := HSh.out hp
              exact ⟨ga, h1, h2.below hb9⟩⟩
            clear hb9 HSh HRa HB8'
            have hLn : L.length ≤ 128 := HL0.out
            go_wp2_with fail
            go_loopw [17] (fun i wl => ∃ k : Nat, i = .int .i64 k ∧ k ≤ L.length ∧ Aside0 (0 < L.length → ∃ ga, AA = some ⟨ga, 0, none⟩ ∧ ShapeA w7.heap.size wl ga L) ∧ Aside0 (Below w7.heap.size w7 wl)) (fun i _ => L.length - (intOf i).toNat)
            case atStart => exact ⟨0, rfl, by omega, HSh9, HB9⟩
            case round =>
              clear HSh9 HB9
              obtain ⟨k, rfl, hk, HSh, HBl⟩ := hrel
              by_cases hlt : k < L.length
              · obtain ⟨ga, hA, hSA⟩ := HSh.out (by omega)
                subst hA
                have HSA := Aside0.mk hSA
                obtain ⟨hgB, cs, hcs, hel⟩ := hSA
                obtain ⟨⟨u0, hu0⟩, -⟩ := hel k hlt
                have q0 : _ = some u0 := (blk_cell hcs (k * 9)).trans hu0
                have f0 := blk_free hcs (k * 9)
                have p1 : (0 : Int) ≤ (k : Int) := by omega
                have p2 : (k : Int) < (L.length : Int) := by omega
                have HS0 := Aside0.mk (HSA.out.set_own k (.int .i64 9))
                have HB0 := Aside0.mk (HBl.out.setCell (p := ⟨ga, k * 9, none⟩) hgB (.int .i64 9))
                obtain ⟨m, hm⟩ : ∃ m, m = (nd L ((k : Int) + 1)).f8.length := ⟨_, rfl⟩
                have hm8 : m ≤ 128 := by rw [hm]; exact HG.out.kids_le ⟨by omega, by omega⟩
                have HM := Aside0.mk hm
                clear hel hcs hu0 HSA HSh hm
                go_wp2_with fail
                go_loopw [18] (fun i wl => ∃ k2 : Nat, i = .int .i64 k2 ∧ k2 ≤ m ∧ Aside0 (ShapeA w7.heap.size wl ga L) ∧ Aside0 (Below w7.heap.size w7 wl)) (fun i _ => m - (intOf i).toNat)
                case atStart => exact ⟨0, rfl, by omega, HS0, HB0⟩
                case round =>
                  clear HS0 HB0 q0 f0 HBl
                  obtain ⟨k2, rfl, hk2, HSA, HBl⟩ := hrel
                  obtain ⟨hgB, cs, hcs, hel⟩ := HSA.out
                  obtain ⟨-, AK2, cK2, h8, hK2⟩ := hel k hlt
                  rw [← HM.out] at h8 hK2
                  have q8 : _ = some _ := (blk_cell hcs (k * 9 + 8)).trans h8
                  by_cases hlt2 : k2 < m
                  · obtain ⟨b, ks, hAb, hbB, hbg, hks, hsz⟩ := hK2 (by omega)
                    subst hAb
                    have qk : _ = some (ks[k2]'(by omega)) := (blk_cell hks k2).trans (Array.getElem?_eq_getElem (by omega))
                    have fk := blk_free hks k2
                    have p3 : (0 : Int) ≤ (k2 : Int) := by omega
                    have p4 : (k2 : Int) < (m : Int) := by omega
                    have HS1 := Aside0.mk (HSA.out.set_kid hbg k2 (.int .i64 99))
                    have HB1 := Aside0.mk (HBl.out.setCell (p := ⟨b, k2, none⟩) hbB (.int .i64 99))
                    clear hel hcs h8 hK2 hks
                    go_wp2
                    go_round
                    case rel => exact ⟨k2 + 1, by go_num, by omega, HS1, HB1⟩
                    case measure => simp [intOf]; omega
                  · have p4 : ¬ (k2 : Int) < (m : Int) := by omega
                    clear hel hcs h8 hK2
                    go_wp2
                    go_round
                    case rel => exact ⟨k + 1, by go_num, by omega, ⟨fun _ => ⟨ga, rfl, HSA.out⟩⟩, HBl⟩
                    case measure => simp [intOf]; omega
              · have p2 : ¬ (k : Int) < (L.length : Int) := by omega
                go_wp2_with fail
                have HFl := Aside0.mk ((HFw.out.below HBw.out).below HBl.out)
                refine (all_any HFl.out HG.out).mono ?_
                rintro e w10 ⟨va2, rfl, hR2, hb10⟩
                have HR2 : Aside0 (RV (fun _ => True) w10 va2 L) := ⟨Kd.N_lower (Kd.N_mono (Kd.R_N hR2) (fun _ _ => trivial)) (Nat.zero_le _)⟩
                have HB10 := Aside0.mk (HBl.out.trans (hb10.mono HBl.out.size))
                have HRl := Aside0.mk ((HRw.out.below HBw.out).below HB10.out)
                clear hR2 hb10
                go_wp2_with fail
                refine (same_any HR2.out HRl.out HL0.out).mono ?_
                rintro e w11 ⟨rfl, hb11⟩
                have HB11 := Aside0.mk (HB10.out.trans (hb11.mono HB10.out.size))
                clear hb11
                go_wp2
                go_ret
                exact ⟨rfl, HBw0.out.trans ((HBw.out.trans (HB11.out.mono HBw.out.size)).mono HBw0.out.size)⟩
end Go.Proofs.Ytbkpgbhdfdifoaa
