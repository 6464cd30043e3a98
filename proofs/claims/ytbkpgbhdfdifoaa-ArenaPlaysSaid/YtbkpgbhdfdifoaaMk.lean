/- The document's Make. -/
import Derived.Test.YtbkpgbhdfdifoaaPt
namespace Go.Proofs.Ytbkpgbhdfdifoaa
open Go.RowKit Go.Proofs.YtbkpgbhdfdifoaaW.PrintWords Go.Proofs.YtbkpgbhdfdifoaaW.PrintLast Go.Proofs.YtbkpgbhdfdifoaaW.PrintMore
set_option linter.unusedVariables false
set_option linter.unusedSimpArgs false

def RMake (B : Nat → Prop) (w : World) (R : Int → Int → List S33 → Prop) (e : Ending) (w' : World) : Prop := ∃ id n L' v', R id n L' ∧ e = .returned (.tuple #[v', .int .i64 id, .int .i64 n]) ∧ RV B w' v' L' ∧ Below w.heap.size w w'
/-- Behind the kinds, modes and slots: the names tell. -/
def NamedPost (B : Nat → Prop) (w : World) (L : List S33) (k m : Int) (sl : Bool) (nm wa : ByteArray) : Ending → World → Prop :=
  RMake B w fun id n L' => ((namedB nm && namedB wa) = false ∧ id = 0 ∧ n = 1 ∧ L' = L) ∨ ((namedB nm && namedB wa) = true ∧ 128 ≤ L.length ∧ id = 0 ∧ n = 9 ∧ L' = L) ∨ ((namedB nm && namedB wa) = true ∧ L.length < 128 ∧ id = L.length + 1 ∧ n = 0 ∧ L' = L ++ [mkN k m sl nm wa])
theorem node_F {W : World} {b : Nat} {k m : Int} {sl : Bool} {nm wa : ByteArray} (hb : W.heap[b]? = some (.cells #[.int .i64 k, .int .i64 0, .int .i64 0, .int .i64 0, .int .i64 m, .bool sl, .string nm, .string wa, .slice none 0 0] 33 (0, 0))) (ok : Nat → Prop) (hok : ok b) :
    Kd.F k33 W ok (some ⟨b, 0, none⟩) 1 [mkN k m sl nm wa] := by
  intro W' hW
  have hb' := (hW b hok (blk_lt' hb)).trans hb
  refine ⟨rfl, by omega, fun _ => ⟨_, rfl, fun j x hj => ?_⟩⟩
  rcases j with _ | j
  · simp at hj
    subst hj
    refine ⟨[.int .i64 k, .int .i64 0, .int .i64 0, .int .i64 0, .int .i64 m, .bool sl, .string nm, .string wa, .slice none 0 0], rfl, k33_mk W' (mkN k m sl nm wa) (Nat.le_refl 0) (Kd.C_nil _ _), fun i u hi => ?_⟩
    have := blk_cell hb' i
    rw [Nat.zero_mul, Nat.zero_add, add_at, Nat.zero_add, this]
    simpa using hi
  · simp at hj

set_option maxRecDepth 100000 in
set_option maxHeartbeats 2000000 in
theorem make78_t {B : Nat → Prop} {w : World} {v : Value} {L : List S33} (h : RV B w v L) (hB : Up B w) (hg : Good L) (k pa ho sh m : Int) (nm wa : ByteArray) (kv : Value)
    (k1 : (1 : Int) ≤ k) (k4 : k ≤ 4) (hm : ((k == 3) = true ∧ (k != 3) = false ∧ (k != 2) = true ∧ (m != 1) = false) ∨ ((k == 3) = true ∧ (k != 3) = false ∧ (k != 2) = true ∧ (m != 1) = true ∧ (m != 2) = false) ∨ ((k == 3) = false ∧ (k != 3) = true ∧ (m != 0) = false ∧ (k != 2) = true) ∨ ((k == 3) = false ∧ (k != 3) = true ∧ (m != 0) = false ∧ (k != 2) = false))
    (hs : (k != 2) = false ∧ kv.oneCell' = true) : Calls Try.prog 78 #[v, .agg #[.int .i64 k, .int .i64 pa, .int .i64 ho, .int .i64 sh, .int .i64 m, .bool true, .string nm, .string wa, kv]] w (NamedPost B w L k m true nm wa) := by
  obtain ⟨A, c, rfl⟩ := h.slice
  have H := Aside0.mk h
  have HG := Aside0.mk hg
  have hn := hg.len
  clear h hg
  have hb0 := heap_alloc_new w (.cells #[.int .i64 k, .int .i64 pa, .int .i64 ho, .int .i64 sh, .int .i64 m, .bool true, .string nm, .string wa, kv] 33)
  have hb1 := fun j => blk_cell hb0 j
  have HB0 := Aside0.mk ((Below.refl w.heap.size w).alloc (Nat.le_refl _) (.cells #[.int .i64 k, .int .i64 pa, .int .i64 ho, .int .i64 sh, .int .i64 m, .bool true, .string nm, .string wa, kv] 33))
  have H1 := Aside0.mk (H.out.below HB0.out)
  clear hb0
  obtain ⟨q4, hkv⟩ := hs
  rcases hm with ⟨q1, q2, q3, _⟩ | ⟨q1, q2, q3, _, _⟩ | ⟨q1, q2, q3, q5⟩ | ⟨q1, q2, q3, _⟩
  · rw [q4] at q3; cases q3
  · rw [q4] at q3; cases q3
  · rw [q4] at q5; cases q5
  all_goals
    go_enter Try.func78, Try.ntmps78
    go_wp2_with fail
    refine (named102 nm _).mono ?_
    rintro e w' ⟨rfl, rfl⟩
    generalize hN1 : namedB nm = n1
    have HN1 := Aside0.mk hN1
    clear hN1
    cases n1
    · go_wp2
      go_ret3
      exact ⟨0, 1, L, _, .inl ⟨by rw [HN1.out]; rfl, rfl, rfl, rfl⟩, rfl, H1.out, HB0.out⟩
    go_wp2_with fail
    refine (named102 wa _).mono ?_
    rintro e w' ⟨rfl, rfl⟩
    generalize hN2 : namedB wa = n2
    have HN2 := Aside0.mk hN2
    clear hN2
    cases n2
    · go_wp2
      go_ret3
      exact ⟨0, 1, L, _, .inl ⟨by rw [HN1.out, HN2.out]; rfl, rfl, rfl, rfl⟩, rfl, H1.out, HB0.out⟩
    by_cases hl : L.length < 128
    · have hl' : ¬ (128 : Int) ≤ (L.length : Int) := by omega
      go_wp2
      generalize hW : w.alloc _ = w1 at H1 hb1 HB0 ⊢
      clear hW
      refine start_ (n := 16) (S := fun w' => w'.cell? ⟨w.heap.size, 0, none⟩ = some (.int .i64 k) ∧ w'.cell? ⟨w.heap.size, 4, none⟩ = some (.int .i64 m) ∧ w'.cell? ⟨w.heap.size, 5, none⟩ = some (.bool true) ∧ w'.cell? ⟨w.heap.size, 6, none⟩ = some (.string nm) ∧ w'.cell? ⟨w.heap.size, 7, none⟩ = some (.string wa)) (ds := []) #[false, false, false, false, false, false, false, false, false, false, false, false, false, false, false, false] (by kernel_rfl) rfl rfl ⟨(hb1 0).trans rfl, (hb1 4).trans rfl, (hb1 5).trans rfl, (hb1 6).trans rfl, (hb1 7).trans rfl⟩ (fun hHeld => ?_)
      refine with_tab (T := rtab .any (opsOf Try.f78 9)) (by rfl) (fun HT_ => ?_)
      refine pure_ (i := 0) (N := (some 79)) (v := ?_) (a' := ?_) #[true, false, false, false, false, false, false, false, false, false, false, false, false, false, false, false] rfl rfl (any_of HT_.out (by kernel_rfl)) (fun _ _ _ h => h) (Or.inl ⟨by rfl, ?_⟩) ?_ ?_
      rotate_left
      · intro w'
        go_simp
        with_reducible rfl
      rotate_left
      · simp only [Act.put, List.setIfInBounds_toArray, List.set_cons_zero, List.set_cons_succ, i64_w, i32_w]
        rfl
      refine pure_ (i := 2) (N := (some 81)) (v := ?_) (a' := ?_) #[true, false, true, false, false, false, false, false, false, false, false, false, false, false, false, false] rfl rfl (any_of HT_.out (by kernel_rfl)) (fun _ _ _ h => h) (Or.inl ⟨by rfl, ?_⟩) ?_ ?_
      rotate_left
      · intro w'
        go_simp
        with_reducible rfl
      rotate_left
      · simp only [Act.put, List.setIfInBounds_toArray, List.set_cons_zero, List.set_cons_succ, i64_w, i32_w]
        rfl
      refine take_ (i := 3) (N := (some 82)) (v := ?_) (a' := ?_) #[true, false, true, true, false, false, false, false, false, false, false, false, false, false, false, false] rfl rfl (take_of HT_.out (by kernel_rfl)) (fun _ _ _ h => h) (Or.inl ⟨by rfl, ?_⟩) hHeld ?_ ?_
      rotate_left
      · rintro w' ⟨s0_, s1_, s2_, s3_, s4_⟩
        go_simp
        with_reducible rfl
      rotate_left
      · simp only [Act.put, List.setIfInBounds_toArray, List.set_cons_zero, List.set_cons_succ, i64_w, i32_w]
        rfl
      refine pure_ (i := 4) (N := (some 83)) (v := ?_) (a' := ?_) #[true, false, true, true, true, false, false, false, false, false, false, false, false, false, false, false] rfl rfl (any_of HT_.out (by kernel_rfl)) (fun _ _ _ h => h) (Or.inl ⟨by rfl, ?_⟩) ?_ ?_
      rotate_left
      · intro w'
        go_simp
        with_reducible rfl
      rotate_left
      · simp only [Act.put, List.setIfInBounds_toArray, List.set_cons_zero, List.set_cons_succ, i64_w, i32_w]
        rfl
      refine take_ (i := 5) (N := (some 84)) (v := ?_) (a' := ?_) #[true, false, true, true, true, true, false, false, false, false, false, false, false, false, false, false] rfl rfl (take_of HT_.out (by kernel_rfl)) (fun _ _ _ h => h) (Or.inl ⟨by rfl, ?_⟩) hHeld ?_ ?_
      rotate_left
      · rintro w' ⟨s0_, s1_, s2_, s3_, s4_⟩
        go_simp
        with_reducible rfl
      rotate_left
      · simp only [Act.put, List.setIfInBounds_toArray, List.set_cons_zero, List.set_cons_succ, i64_w, i32_w]
        rfl
      refine pure_ (i := 6) (N := (some 85)) (v := ?_) (a' := ?_) #[true, false, true, true, true, true, true, false, false, false, false, false, false, false, false, false] rfl rfl (any_of HT_.out (by kernel_rfl)) (fun _ _ _ h => h) (Or.inl ⟨by rfl, ?_⟩) ?_ ?_
      rotate_left
      · intro w'
        go_simp
        with_reducible rfl
      rotate_left
      · simp only [Act.put, List.setIfInBounds_toArray, List.set_cons_zero, List.set_cons_succ, i64_w, i32_w]
        rfl
      refine take_ (i := 7) (N := (some 86)) (v := ?_) (a' := ?_) #[true, false, true, true, true, true, true, true, false, false, false, false, false, false, false, false] rfl rfl (take_of HT_.out (by kernel_rfl)) (fun _ _ _ h => h) (Or.inl ⟨by rfl, ?_⟩) hHeld ?_ ?_
      rotate_left
      · rintro w' ⟨s0_, s1_, s2_, s3_, s4_⟩
        go_simp
        with_reducible rfl
      rotate_left
      · simp only [Act.put, List.setIfInBounds_toArray, List.set_cons_zero, List.set_cons_succ, i64_w, i32_w]
        rfl
      refine pure_ (i := 8) (N := (some 87)) (v := ?_) (a' := ?_) #[true, false, true, true, true, true, true, true, true, false, false, false, false, false, false, false] rfl rfl (any_of HT_.out (by kernel_rfl)) (fun _ _ _ h => h) (Or.inl ⟨by rfl, ?_⟩) ?_ ?_
      rotate_left
      · intro w'
        go_simp
        with_reducible rfl
      rotate_left
      · simp only [Act.put, List.setIfInBounds_toArray, List.set_cons_zero, List.set_cons_succ, i64_w, i32_w]
        rfl
      refine take_ (i := 9) (N := (some 88)) (v := ?_) (a' := ?_) #[true, false, true, true, true, true, true, true, true, true, false, false, false, false, false, false] rfl rfl (take_of HT_.out (by kernel_rfl)) (fun _ _ _ h => h) (Or.inl ⟨by rfl, ?_⟩) hHeld ?_ ?_
      rotate_left
      · rintro w' ⟨s0_, s1_, s2_, s3_, s4_⟩
        go_simp
        with_reducible rfl
      rotate_left
      · simp only [Act.put, List.setIfInBounds_toArray, List.set_cons_zero, List.set_cons_succ, i64_w, i32_w]
        rfl
      refine pure_ (i := 10) (N := (some 89)) (v := ?_) (a' := ?_) #[true, false, true, true, true, true, true, true, true, true, true, false, false, false, false, false] rfl rfl (any_of HT_.out (by kernel_rfl)) (fun _ _ _ h => h) (Or.inl ⟨by rfl, ?_⟩) ?_ ?_
      rotate_left
      · intro w'
        go_simp
        with_reducible rfl
      rotate_left
      · simp only [Act.put, List.setIfInBounds_toArray, List.set_cons_zero, List.set_cons_succ, i64_w, i32_w]
        rfl
      refine take_ (i := 11) (N := (some 90)) (v := ?_) (a' := ?_) #[true, false, true, true, true, true, true, true, true, true, true, true, false, false, false, false] rfl rfl (take_of HT_.out (by kernel_rfl)) (fun _ _ _ h => h) (Or.inl ⟨by rfl, ?_⟩) hHeld ?_ ?_
      rotate_left
      · rintro w' ⟨s0_, s1_, s2_, s3_, s4_⟩
        go_simp
        with_reducible rfl
      rotate_left
      · simp only [Act.put, List.setIfInBounds_toArray, List.set_cons_zero, List.set_cons_succ, i64_w, i32_w]
        rfl
      refine pure_ (i := 12) (N := (some 91)) (v := ?_) (a' := ?_) #[true, false, true, true, true, true, true, true, true, true, true, true, true, false, false, false] rfl rfl (any_of HT_.out (by kernel_rfl)) (fun _ _ _ h => h) (Or.inl ⟨by rfl, ?_⟩) ?_ ?_
      rotate_left
      · intro w'
        go_simp
        with_reducible rfl
      rotate_left
      · simp only [Act.put, List.setIfInBounds_toArray, List.set_cons_zero, List.set_cons_succ, i64_w, i32_w]
        rfl
      refine two_ (i := 1) (j := 13) (Ni := (some 80)) (Nj := (some 92)) #[true, true, true, true, true, true, true, true, true, true, true, true, true, false, false, false] #[true, false, true, true, true, true, true, true, true, true, true, true, true, true, false, false] rfl rfl rfl rfl (two_of HT_.out (by kernel_rfl)) (by decide) (by decide) (fun K hK => ?_) (fun K hK => ?_)
      · skip
        refine goes_ Try.func103 (by kernel_rfl) rfl #[.slice A L.length c] (by rfl) rfl rfl (by simp only [List.map_toArray, List.map_cons, List.map_nil]; rfl) ?_
        with_reducible refine (copy_any (H1.out.below (below_drew (Below.refl _ _))) (Up.le (Up.le hB HB0.out.size) (below_drew (Below.refl w1.heap.size w1)).size) hn HG.out.kl).mono ?_
        rintro e w2 ⟨v2, rfl, hV2, hb2, hf2⟩
        refine ⟨_, rfl, ?_⟩
        have hb2' : Below w1.heap.size w1 w2 := (below_drew (Below.refl w1.heap.size w1)).trans hb2
        refine hK.out _ _ ⟨(pw_cell_below hb2' (hb1 0)).trans rfl, (pw_cell_below hb2' (hb1 4)).trans rfl, (pw_cell_below hb2' (hb1 5)).trans rfl, (pw_cell_below hb2' (hb1 6)).trans rfl, (pw_cell_below hb2' (hb1 7)).trans rfl⟩ (fun hHeld => ?_)
        clear hK K
        refine norm_ (a' := ?_) ?_ ?_
        rotate_left
        · show Act.put _ (some 80) _ = _
          simp only [Act.put, List.setIfInBounds_toArray, List.set_cons_zero, List.set_cons_succ, i64_w, i32_w]
          rfl
        refine one_ (i := 13) (N := (some 92)) #[true, true, true, true, true, true, true, true, true, true, true, true, true, true, false, false] rfl rfl (one_of HT_.out (by kernel_rfl)) (by decide) (fun K hK => ?_)
        refine value_ (v := .slice (some ⟨w2.heap.size, 0, none⟩) 1 1) (w1 := w2.alloc (.cells #[.int .i64 k, .int .i64 0, .int .i64 0, .int .i64 0, .int .i64 m, .bool true, .string nm, .string wa, .slice none 0 0] 33)) (by rfl) rfl (by go_simp; try rfl) ?_
        refine hK.out _ _ ⟨cell_alloc hHeld.1 _, cell_alloc hHeld.2.1 _, cell_alloc hHeld.2.2.1 _, cell_alloc hHeld.2.2.2.1 _, cell_alloc hHeld.2.2.2.2 _⟩ (fun hHeld => ?_)
        clear hK K
        refine norm_ (a' := ?_) ?_ ?_
        rotate_left
        · show Act.put _ (some 92) _ = _
          simp only [Act.put, List.setIfInBounds_toArray, List.set_cons_zero, List.set_cons_succ, i64_w, i32_w]
          rfl
        refine one_ (i := 14) (N := (some 93)) #[true, true, true, true, true, true, true, true, true, true, true, true, true, true, true, false] rfl rfl (one_of HT_.out (by kernel_rfl)) (by decide) (fun K hK => ?_)
        refine Kd.N_append_rows_step k33 (w0 := w1) (W := w2.alloc (.cells #[.int .i64 k, .int .i64 0, .int .i64 0, .int .i64 0, .int .i64 m, .bool true, .string nm, .string wa, .slice none 0 0] 33)) 0 (by rfl) (.tmp 80) (.tmp 92) 27 33 _ 104 rfl Try.underlying27 info33 rfl (by decide) (by omega) v2 L [mkN k m true nm wa] (some ⟨w2.heap.size, 0, none⟩) 1 1 B (fun j => j = w2.heap.size) rfl rfl (hV2.below (below_alloc (Below.refl _ _) _)) (node_F (heap_alloc_new _ _) _ rfl) ?hp ?hf ?hB ?hb ?hl ?_
        case hp => exact fun j hj => ⟨hB j (by have := HB0.out.size; have := hb2'.size; omega), fun e => by have := Kd.N_lt hV2 j e.symm; omega⟩
        case hf => exact fun j hj => hB j (by have := HB0.out.size; have := hb2'.size; simp at hj; omega)
        case hB => exact (hb2'.mono (Nat.zero_le _)).alloc (Nat.zero_le _) _
        case hb => exact Nat.zero_le _
        case hl => omega
        intro v3 w3 HN3 HB3 hg3 hat3
        have hb3 : Below w1.heap.size w1 w3 := by
          refine (hb2'.alloc hb2'.size _).grown hg3 (by have := hb2'.size; simp; omega) (fun j e => ?_)
          exact hf2 j e
        have HV3 : Aside0 (RV B w3 v3 (L ++ [mkN k m true nm wa])) := ⟨HN3⟩
        have HB4 := Aside0.mk (HB0.out.trans (hb3.mono HB0.out.size))
        clear hg3 hat3 HN3 HB3 hV2 hb2 hf2
        refine hK.out _ _ ⟨(pw_cell_below hb3 (hb1 0)).trans rfl, (pw_cell_below hb3 (hb1 4)).trans rfl, (pw_cell_below hb3 (hb1 5)).trans rfl, (pw_cell_below hb3 (hb1 6)).trans rfl, (pw_cell_below hb3 (hb1 7)).trans rfl⟩ (fun hHeld => ?_)
        clear hK K
        refine norm_ (a' := ?_) ?_ ?_
        rotate_left
        · show Act.put _ (some 93) _ = _
          simp only [Act.put, List.setIfInBounds_toArray, List.set_cons_zero, List.set_cons_succ, i64_w, i32_w]
          rfl
        refine pure_ (i := 15) (N := (some 0)) (v := ?_) (a' := ?_) #[true, true, true, true, true, true, true, true, true, true, true, true, true, true, true, true] rfl rfl (any_of HT_.out (by kernel_rfl)) (fun _ _ _ h => h) (Or.inl ⟨by rfl, ?_⟩) ?_ ?_
        rotate_left
        · intro w'
          go_simp
          with_reducible rfl
        rotate_left
        · simp only [Act.put, List.setIfInBounds_toArray, List.set_cons_zero, List.set_cons_succ, i64_w, i32_w]
          rfl
        refine done_ (done_of HT_.out (by kernel_rfl)) ?_
        clear hb3 hb2' hb1
        obtain ⟨A3, c3, rfl⟩ := HV3.out.slice
        have hle : (L ++ [mkN k m true nm wa]).length = L.length + 1 := by simp
        rw [hle] at HV3
        go_wp2
        go_ret3
        refine ⟨((L.length + 1 : Nat) : Int), 0, _, _, .inr (.inr ⟨by rw [HN1.out, HN2.out]; rfl, hl, by omega, rfl, rfl⟩), ?_, HV3.out, HB4.out⟩
        simp
      · skip
        refine value_ (v := .slice (some ⟨w1.drew.heap.size, 0, none⟩) 1 1) (w1 := w1.drew.alloc (.cells #[.int .i64 k, .int .i64 0, .int .i64 0, .int .i64 0, .int .i64 m, .bool true, .string nm, .string wa, .slice none 0 0] 33)) (by rfl) rfl (by go_simp; try rfl) ?_
        refine hK.out _ _ ⟨cell_alloc hHeld.1 _, cell_alloc hHeld.2.1 _, cell_alloc hHeld.2.2.1 _, cell_alloc hHeld.2.2.2.1 _, cell_alloc hHeld.2.2.2.2 _⟩ (fun hHeld => ?_)
        clear hK K
        refine norm_ (a' := ?_) ?_ ?_
        rotate_left
        · show Act.put _ (some 92) _ = _
          simp only [Act.put, List.setIfInBounds_toArray, List.set_cons_zero, List.set_cons_succ, i64_w, i32_w]
          rfl
        refine one_ (i := 1) (N := (some 80)) #[true, true, true, true, true, true, true, true, true, true, true, true, true, true, false, false] rfl rfl (one_of HT_.out (by kernel_rfl)) (by decide) (fun K hK => ?_)
        have hbx : Below w1.heap.size w1 (w1.drew.alloc (.cells #[.int .i64 k, .int .i64 0, .int .i64 0, .int .i64 0, .int .i64 m, .bool true, .string nm, .string wa, .slice none 0 0] 33)) := (below_drew (Below.refl _ w1)).alloc (Nat.le_refl _) _
        refine goes_ Try.func103 (by kernel_rfl) rfl #[.slice A L.length c] (by rfl) rfl rfl (by simp only [List.map_toArray, List.map_cons, List.map_nil]; rfl) ?_
        with_reducible refine (copy_any (H1.out.below hbx) (Up.le hB (Nat.le_trans HB0.out.size hbx.size)) hn HG.out.kl).mono ?_
        rintro e w2 ⟨v2, rfl, hV2, hb2, hf2⟩
        refine ⟨_, rfl, ?_⟩
        have hb2' : Below w1.heap.size w1 w2 := hbx.trans (hb2.mono hbx.size)
        have hnode := blk_below (heap_alloc_new w1.drew (.cells #[.int .i64 k, .int .i64 0, .int .i64 0, .int .i64 0, .int .i64 m, .bool true, .string nm, .string wa, .slice none 0 0] 33)) hb2 (by simp)
        refine hK.out _ _ ⟨(pw_cell_below hb2' (hb1 0)).trans rfl, (pw_cell_below hb2' (hb1 4)).trans rfl, (pw_cell_below hb2' (hb1 5)).trans rfl, (pw_cell_below hb2' (hb1 6)).trans rfl, (pw_cell_below hb2' (hb1 7)).trans rfl⟩ (fun hHeld => ?_)
        clear hK K
        refine norm_ (a' := ?_) ?_ ?_
        rotate_left
        · show Act.put _ (some 80) _ = _
          simp only [Act.put, List.setIfInBounds_toArray, List.set_cons_zero, List.set_cons_succ, i64_w, i32_w]
          rfl
        refine one_ (i := 14) (N := (some 93)) #[true, true, true, true, true, true, true, true, true, true, true, true, true, true, true, false] rfl rfl (one_of HT_.out (by kernel_rfl)) (by decide) (fun K hK => ?_)
        refine Kd.N_append_rows_step k33 (w0 := w1) (W := w2) 0 (by rfl) (.tmp 80) (.tmp 92) 27 33 _ 104 rfl Try.underlying27 info33 rfl (by decide) (by omega) v2 L [mkN k m true nm wa] (some ⟨w1.drew.heap.size, 0, none⟩) 1 1 B (fun j => j = w1.drew.heap.size) rfl rfl hV2 (node_F hnode _ rfl) ?hp ?hf ?hB ?hb ?hl ?_
        case hp =>
          intro j hj
          have h1 := HB0.out.size
          have hj' : j = w1.heap.size := hj
          refine ⟨hB j (by omega), fun e => ?_⟩
          have h2 := hf2 j e.symm
          have h3 : w1.heap.size + 1 ≤ j := by simpa using h2
          omega
        case hf => exact fun j hj => hB j (by have := HB0.out.size; have := hb2'.size; omega)
        case hB => exact hb2'.mono (Nat.zero_le _)
        case hb => exact Nat.zero_le _
        case hl => omega
        intro v3 w3 HN3 HB3 hg3 hat3
        have hb3 : Below w1.heap.size w1 w3 := by
          refine hb2'.grown hg3 hb2'.size (fun j e => ?_)
          have h2 := hf2 j e
          have h3 : w1.heap.size + 1 ≤ j := by simpa using h2
          omega
        have HV3 : Aside0 (RV B w3 v3 (L ++ [mkN k m true nm wa])) := ⟨HN3⟩
        have HB4 := Aside0.mk (HB0.out.trans (hb3.mono HB0.out.size))
        clear hg3 hat3 HN3 HB3 hV2 hb2 hf2
        refine hK.out _ _ ⟨(pw_cell_below hb3 (hb1 0)).trans rfl, (pw_cell_below hb3 (hb1 4)).trans rfl, (pw_cell_below hb3 (hb1 5)).trans rfl, (pw_cell_below hb3 (hb1 6)).trans rfl, (pw_cell_below hb3 (hb1 7)).trans rfl⟩ (fun hHeld => ?_)
        clear hK K
        refine norm_ (a' := ?_) ?_ ?_
        rotate_left
        · show Act.put _ (some 93) _ = _
          simp only [Act.put, List.setIfInBounds_toArray, List.set_cons_zero, List.set_cons_succ, i64_w, i32_w]
          rfl
        refine pure_ (i := 15) (N := (some 0)) (v := ?_) (a' := ?_) #[true, true, true, true, true, true, true, true, true, true, true, true, true, true, true, true] rfl rfl (any_of HT_.out (by kernel_rfl)) (fun _ _ _ h => h) (Or.inl ⟨by rfl, ?_⟩) ?_ ?_
        rotate_left
        · intro w'
          go_simp
          with_reducible rfl
        rotate_left
        · simp only [Act.put, List.setIfInBounds_toArray, List.set_cons_zero, List.set_cons_succ, i64_w, i32_w]
          rfl
        refine done_ (done_of HT_.out (by kernel_rfl)) ?_
        clear hb3 hb2' hb1 hbx hnode
        obtain ⟨A3, c3, rfl⟩ := HV3.out.slice
        have hle : (L ++ [mkN k m true nm wa]).length = L.length + 1 := by simp
        rw [hle] at HV3
        go_wp2
        go_ret3
        refine ⟨((L.length + 1 : Nat) : Int), 0, _, _, .inr (.inr ⟨by rw [HN1.out, HN2.out]; rfl, hl, by omega, rfl, rfl⟩), ?_, HV3.out, HB4.out⟩
        simp
    · have hl' : (128 : Int) ≤ (L.length : Int) := by omega
      go_wp2
      go_ret3
      exact ⟨0, 9, L, _, .inr (.inl ⟨by rw [HN1.out, HN2.out]; rfl, by omega, rfl, rfl, rfl⟩), rfl, H1.out, HB0.out⟩

set_option maxRecDepth 100000 in
set_option maxHeartbeats 2000000 in
theorem make78_f {B : Nat → Prop} {w : World} {v : Value} {L : List S33} (h : RV B w v L) (hB : Up B w) (hg : Good L) (k pa ho sh m : Int) (nm wa : ByteArray) (kv : Value)
    (k1 : (1 : Int) ≤ k) (k4 : k ≤ 4) (hm : ((k == 3) = true ∧ (k != 3) = false ∧ (k != 2) = true ∧ (m != 1) = false) ∨ ((k == 3) = true ∧ (k != 3) = false ∧ (k != 2) = true ∧ (m != 1) = true ∧ (m != 2) = false) ∨ ((k == 3) = false ∧ (k != 3) = true ∧ (m != 0) = false ∧ (k != 2) = true) ∨ ((k == 3) = false ∧ (k != 3) = true ∧ (m != 0) = false ∧ (k != 2) = false))
    (hs : ((k != 2) = false ∨ wa.toList.isEmpty = true) ∧ nm.toList.isEmpty = true ∧ kv.oneCell' = true) : Calls Try.prog 78 #[v, .agg #[.int .i64 k, .int .i64 pa, .int .i64 ho, .int .i64 sh, .int .i64 m, .bool false, .string nm, .string wa, kv]] w (NamedPost B w L k m false nm wa) := by
  obtain ⟨A, c, rfl⟩ := h.slice
  have H := Aside0.mk h
  have HG := Aside0.mk hg
  have hn := hg.len
  clear h hg
  have hb0 := heap_alloc_new w (.cells #[.int .i64 k, .int .i64 pa, .int .i64 ho, .int .i64 sh, .int .i64 m, .bool false, .string nm, .string wa, kv] 33)
  have hb1 := fun j => blk_cell hb0 j
  have HB0 := Aside0.mk ((Below.refl w.heap.size w).alloc (Nat.le_refl _) (.cells #[.int .i64 k, .int .i64 pa, .int .i64 ho, .int .i64 sh, .int .i64 m, .bool false, .string nm, .string wa, kv] 33))
  have H1 := Aside0.mk (H.out.below HB0.out)
  clear hb0
  obtain ⟨hs1, hs2, hkv⟩ := hs
  have hm2 : ((k == 3) = true ∧ (k != 3) = false ∧ (k != 2) = true ∧ (m != 1) = false ∧ wa.toList.isEmpty = true) ∨ ((k == 3) = true ∧ (k != 3) = false ∧ (k != 2) = true ∧ (m != 1) = true ∧ (m != 2) = false ∧ wa.toList.isEmpty = true) ∨ ((k == 3) = false ∧ (k != 3) = true ∧ (m != 0) = false ∧ (k != 2) = true ∧ wa.toList.isEmpty = true) ∨ ((k == 3) = false ∧ (k != 3) = true ∧ (m != 0) = false ∧ (k != 2) = false) := by
    rcases hm with ⟨q1, q2, q3, q4⟩ | ⟨q1, q2, q3, q4, q5⟩ | ⟨q1, q2, q3, q4⟩ | ⟨q1, q2, q3, q4⟩
    · exact .inl ⟨q1, q2, q3, q4, hs1.resolve_left (by rw [q3]; simp)⟩
    · exact .inr (.inl ⟨q1, q2, q3, q4, q5, hs1.resolve_left (by rw [q3]; simp)⟩)
    · exact .inr (.inr (.inl ⟨q1, q2, q3, q4, hs1.resolve_left (by rw [q4]; simp)⟩))
    · exact .inr (.inr (.inr ⟨q1, q2, q3, q4⟩))
  clear hm hs1
  rcases hm2 with ⟨q1, q2, q3, q4, q5⟩ | ⟨q1, q2, q3, q4, q5, q6⟩ | ⟨q1, q2, q3, q4, q5⟩ | ⟨q1, q2, q3, q4⟩
  all_goals
    go_enter Try.func78, Try.ntmps78
    go_wp2_with fail
    refine (named102 nm _).mono ?_
    rintro e w' ⟨rfl, rfl⟩
    generalize hN1 : namedB nm = n1
    have HN1 := Aside0.mk hN1
    clear hN1
    cases n1
    · go_wp2
      go_ret3
      exact ⟨0, 1, L, _, .inl ⟨by rw [HN1.out]; rfl, rfl, rfl, rfl⟩, rfl, H1.out, HB0.out⟩
    go_wp2_with fail
    refine (named102 wa _).mono ?_
    rintro e w' ⟨rfl, rfl⟩
    generalize hN2 : namedB wa = n2
    have HN2 := Aside0.mk hN2
    clear hN2
    cases n2
    · go_wp2
      go_ret3
      exact ⟨0, 1, L, _, .inl ⟨by rw [HN1.out, HN2.out]; rfl, rfl, rfl, rfl⟩, rfl, H1.out, HB0.out⟩
    by_cases hl : L.length < 128
    · have hl' : ¬ (128 : Int) ≤ (L.length : Int) := by omega
      go_wp2
      generalize hW : w.alloc _ = w1 at H1 hb1 HB0 ⊢
      clear hW
      refine start_ (n := 16) (S := fun w' => w'.cell? ⟨w.heap.size, 0, none⟩ = some (.int .i64 k) ∧ w'.cell? ⟨w.heap.size, 4, none⟩ = some (.int .i64 m) ∧ w'.cell? ⟨w.heap.size, 5, none⟩ = some (.bool false) ∧ w'.cell? ⟨w.heap.size, 6, none⟩ = some (.string nm) ∧ w'.cell? ⟨w.heap.size, 7, none⟩ = some (.string wa)) (ds := []) #[false, false, false, false, false, false, false, false, false, false, false, false, false, false, false, false] (by kernel_rfl) rfl rfl ⟨(hb1 0).trans rfl, (hb1 4).trans rfl, (hb1 5).trans rfl, (hb1 6).trans rfl, (hb1 7).trans rfl⟩ (fun hHeld => ?_)
      refine with_tab (T := rtab .any (opsOf Try.f78 9)) (by rfl) (fun HT_ => ?_)
      refine pure_ (i := 0) (N := (some 79)) (v := ?_) (a' := ?_) #[true, false, false, false, false, false, false, false, false, false, false, false, false, false, false, false] rfl rfl (any_of HT_.out (by kernel_rfl)) (fun _ _ _ h => h) (Or.inl ⟨by rfl, ?_⟩) ?_ ?_
      rotate_left
      · intro w'
        go_simp
        with_reducible rfl
      rotate_left
      · simp only [Act.put, List.setIfInBounds_toArray, List.set_cons_zero, List.set_cons_succ, i64_w, i32_w]
        rfl
      refine pure_ (i := 2) (N := (some 81)) (v := ?_) (a' := ?_) #[true, false, true, false, false, false, false, false, false, false, false, false, false, false, false, false] rfl rfl (any_of HT_.out (by kernel_rfl)) (fun _ _ _ h => h) (Or.inl ⟨by rfl, ?_⟩) ?_ ?_
      rotate_left
      · intro w'
        go_simp
        with_reducible rfl
      rotate_left
      · simp only [Act.put, List.setIfInBounds_toArray, List.set_cons_zero, List.set_cons_succ, i64_w, i32_w]
        rfl
      refine take_ (i := 3) (N := (some 82)) (v := ?_) (a' := ?_) #[true, false, true, true, false, false, false, false, false, false, false, false, false, false, false, false] rfl rfl (take_of HT_.out (by kernel_rfl)) (fun _ _ _ h => h) (Or.inl ⟨by rfl, ?_⟩) hHeld ?_ ?_
      rotate_left
      · rintro w' ⟨s0_, s1_, s2_, s3_, s4_⟩
        go_simp
        with_reducible rfl
      rotate_left
      · simp only [Act.put, List.setIfInBounds_toArray, List.set_cons_zero, List.set_cons_succ, i64_w, i32_w]
        rfl
      refine pure_ (i := 4) (N := (some 83)) (v := ?_) (a' := ?_) #[true, false, true, true, true, false, false, false, false, false, false, false, false, false, false, false] rfl rfl (any_of HT_.out (by kernel_rfl)) (fun _ _ _ h => h) (Or.inl ⟨by rfl, ?_⟩) ?_ ?_
      rotate_left
      · intro w'
        go_simp
        with_reducible rfl
      rotate_left
      · simp only [Act.put, List.setIfInBounds_toArray, List.set_cons_zero, List.set_cons_succ, i64_w, i32_w]
        rfl
      refine take_ (i := 5) (N := (some 84)) (v := ?_) (a' := ?_) #[true, false, true, true, true, true, false, false, false, false, false, false, false, false, false, false] rfl rfl (take_of HT_.out (by kernel_rfl)) (fun _ _ _ h => h) (Or.inl ⟨by rfl, ?_⟩) hHeld ?_ ?_
      rotate_left
      · rintro w' ⟨s0_, s1_, s2_, s3_, s4_⟩
        go_simp
        with_reducible rfl
      rotate_left
      · simp only [Act.put, List.setIfInBounds_toArray, List.set_cons_zero, List.set_cons_succ, i64_w, i32_w]
        rfl
      refine pure_ (i := 6) (N := (some 85)) (v := ?_) (a' := ?_) #[true, false, true, true, true, true, true, false, false, false, false, false, false, false, false, false] rfl rfl (any_of HT_.out (by kernel_rfl)) (fun _ _ _ h => h) (Or.inl ⟨by rfl, ?_⟩) ?_ ?_
      rotate_left
      · intro w'
        go_simp
        with_reducible rfl
      rotate_left
      · simp only [Act.put, List.setIfInBounds_toArray, List.set_cons_zero, List.set_cons_succ, i64_w, i32_w]
        rfl
      refine take_ (i := 7) (N := (some 86)) (v := ?_) (a' := ?_) #[true, false, true, true, true, true, true, true, false, false, false, false, false, false, false, false] rfl rfl (take_of HT_.out (by kernel_rfl)) (fun _ _ _ h => h) (Or.inl ⟨by rfl, ?_⟩) hHeld ?_ ?_
      rotate_left
      · rintro w' ⟨s0_, s1_, s2_, s3_, s4_⟩
        go_simp
        with_reducible rfl
      rotate_left
      · simp only [Act.put, List.setIfInBounds_toArray, List.set_cons_zero, List.set_cons_succ, i64_w, i32_w]
        rfl
      refine pure_ (i := 8) (N := (some 87)) (v := ?_) (a' := ?_) #[true, false, true, true, true, true, true, true, true, false, false, false, false, false, false, false] rfl rfl (any_of HT_.out (by kernel_rfl)) (fun _ _ _ h => h) (Or.inl ⟨by rfl, ?_⟩) ?_ ?_
      rotate_left
      · intro w'
        go_simp
        with_reducible rfl
      rotate_left
      · simp only [Act.put, List.setIfInBounds_toArray, List.set_cons_zero, List.set_cons_succ, i64_w, i32_w]
        rfl
      refine take_ (i := 9) (N := (some 88)) (v := ?_) (a' := ?_) #[true, false, true, true, true, true, true, true, true, true, false, false, false, false, false, false] rfl rfl (take_of HT_.out (by kernel_rfl)) (fun _ _ _ h => h) (Or.inl ⟨by rfl, ?_⟩) hHeld ?_ ?_
      rotate_left
      · rintro w' ⟨s0_, s1_, s2_, s3_, s4_⟩
        go_simp
        with_reducible rfl
      rotate_left
      · simp only [Act.put, List.setIfInBounds_toArray, List.set_cons_zero, List.set_cons_succ, i64_w, i32_w]
        rfl
      refine pure_ (i := 10) (N := (some 89)) (v := ?_) (a' := ?_) #[true, false, true, true, true, true, true, true, true, true, true, false, false, false, false, false] rfl rfl (any_of HT_.out (by kernel_rfl)) (fun _ _ _ h => h) (Or.inl ⟨by rfl, ?_⟩) ?_ ?_
      rotate_left
      · intro w'
        go_simp
        with_reducible rfl
      rotate_left
      · simp only [Act.put, List.setIfInBounds_toArray, List.set_cons_zero, List.set_cons_succ, i64_w, i32_w]
        rfl
      refine take_ (i := 11) (N := (some 90)) (v := ?_) (a' := ?_) #[true, false, true, true, true, true, true, true, true, true, true, true, false, false, false, false] rfl rfl (take_of HT_.out (by kernel_rfl)) (fun _ _ _ h => h) (Or.inl ⟨by rfl, ?_⟩) hHeld ?_ ?_
      rotate_left
      · rintro w' ⟨s0_, s1_, s2_, s3_, s4_⟩
        go_simp
        with_reducible rfl
      rotate_left
      · simp only [Act.put, List.setIfInBounds_toArray, List.set_cons_zero, List.set_cons_succ, i64_w, i32_w]
        rfl
      refine pure_ (i := 12) (N := (some 91)) (v := ?_) (a' := ?_) #[true, false, true, true, true, true, true, true, true, true, true, true, true, false, false, false] rfl rfl (any_of HT_.out (by kernel_rfl)) (fun _ _ _ h => h) (Or.inl ⟨by rfl, ?_⟩) ?_ ?_
      rotate_left
      · intro w'
        go_simp
        with_reducible rfl
      rotate_left
      · simp only [Act.put, List.setIfInBounds_toArray, List.set_cons_zero, List.set_cons_succ, i64_w, i32_w]
        rfl
      refine two_ (i := 1) (j := 13) (Ni := (some 80)) (Nj := (some 92)) #[true, true, true, true, true, true, true, true, true, true, true, true, true, false, false, false] #[true, false, true, true, true, true, true, true, true, true, true, true, true, true, false, false] rfl rfl rfl rfl (two_of HT_.out (by kernel_rfl)) (by decide) (by decide) (fun K hK => ?_) (fun K hK => ?_)
      · skip
        refine goes_ Try.func103 (by kernel_rfl) rfl #[.slice A L.length c] (by rfl) rfl rfl (by simp only [List.map_toArray, List.map_cons, List.map_nil]; rfl) ?_
        with_reducible refine (copy_any (H1.out.below (below_drew (Below.refl _ _))) (Up.le (Up.le hB HB0.out.size) (below_drew (Below.refl w1.heap.size w1)).size) hn HG.out.kl).mono ?_
        rintro e w2 ⟨v2, rfl, hV2, hb2, hf2⟩
        refine ⟨_, rfl, ?_⟩
        have hb2' : Below w1.heap.size w1 w2 := (below_drew (Below.refl w1.heap.size w1)).trans hb2
        refine hK.out _ _ ⟨(pw_cell_below hb2' (hb1 0)).trans rfl, (pw_cell_below hb2' (hb1 4)).trans rfl, (pw_cell_below hb2' (hb1 5)).trans rfl, (pw_cell_below hb2' (hb1 6)).trans rfl, (pw_cell_below hb2' (hb1 7)).trans rfl⟩ (fun hHeld => ?_)
        clear hK K
        refine norm_ (a' := ?_) ?_ ?_
        rotate_left
        · show Act.put _ (some 80) _ = _
          simp only [Act.put, List.setIfInBounds_toArray, List.set_cons_zero, List.set_cons_succ, i64_w, i32_w]
          rfl
        refine one_ (i := 13) (N := (some 92)) #[true, true, true, true, true, true, true, true, true, true, true, true, true, true, false, false] rfl rfl (one_of HT_.out (by kernel_rfl)) (by decide) (fun K hK => ?_)
        refine value_ (v := .slice (some ⟨w2.heap.size, 0, none⟩) 1 1) (w1 := w2.alloc (.cells #[.int .i64 k, .int .i64 0, .int .i64 0, .int .i64 0, .int .i64 m, .bool false, .string nm, .string wa, .slice none 0 0] 33)) (by rfl) rfl (by go_simp; try rfl) ?_
        refine hK.out _ _ ⟨cell_alloc hHeld.1 _, cell_alloc hHeld.2.1 _, cell_alloc hHeld.2.2.1 _, cell_alloc hHeld.2.2.2.1 _, cell_alloc hHeld.2.2.2.2 _⟩ (fun hHeld => ?_)
        clear hK K
        refine norm_ (a' := ?_) ?_ ?_
        rotate_left
        · show Act.put _ (some 92) _ = _
          simp only [Act.put, List.setIfInBounds_toArray, List.set_cons_zero, List.set_cons_succ, i64_w, i32_w]
          rfl
        refine one_ (i := 14) (N := (some 93)) #[true, true, true, true, true, true, true, true, true, true, true, true, true, true, true, false] rfl rfl (one_of HT_.out (by kernel_rfl)) (by decide) (fun K hK => ?_)
        refine Kd.N_append_rows_step k33 (w0 := w1) (W := w2.alloc (.cells #[.int .i64 k, .int .i64 0, .int .i64 0, .int .i64 0, .int .i64 m, .bool false, .string nm, .string wa, .slice none 0 0] 33)) 0 (by rfl) (.tmp 80) (.tmp 92) 27 33 _ 104 rfl Try.underlying27 info33 rfl (by decide) (by omega) v2 L [mkN k m false nm wa] (some ⟨w2.heap.size, 0, none⟩) 1 1 B (fun j => j = w2.heap.size) rfl rfl (hV2.below (below_alloc (Below.refl _ _) _)) (node_F (heap_alloc_new _ _) _ rfl) ?hp ?hf ?hB ?hb ?hl ?_
        case hp => exact fun j hj => ⟨hB j (by have := HB0.out.size; have := hb2'.size; omega), fun e => by have := Kd.N_lt hV2 j e.symm; omega⟩
        case hf => exact fun j hj => hB j (by have := HB0.out.size; have := hb2'.size; simp at hj; omega)
        case hB => exact (hb2'.mono (Nat.zero_le _)).alloc (Nat.zero_le _) _
        case hb => exact Nat.zero_le _
        case hl => omega
        intro v3 w3 HN3 HB3 hg3 hat3
        have hb3 : Below w1.heap.size w1 w3 := by
          refine (hb2'.alloc hb2'.size _).grown hg3 (by have := hb2'.size; simp; omega) (fun j e => ?_)
          exact hf2 j e
        have HV3 : Aside0 (RV B w3 v3 (L ++ [mkN k m false nm wa])) := ⟨HN3⟩
        have HB4 := Aside0.mk (HB0.out.trans (hb3.mono HB0.out.size))
        clear hg3 hat3 HN3 HB3 hV2 hb2 hf2
        refine hK.out _ _ ⟨(pw_cell_below hb3 (hb1 0)).trans rfl, (pw_cell_below hb3 (hb1 4)).trans rfl, (pw_cell_below hb3 (hb1 5)).trans rfl, (pw_cell_below hb3 (hb1 6)).trans rfl, (pw_cell_below hb3 (hb1 7)).trans rfl⟩ (fun hHeld => ?_)
        clear hK K
        refine norm_ (a' := ?_) ?_ ?_
        rotate_left
        · show Act.put _ (some 93) _ = _
          simp only [Act.put, List.setIfInBounds_toArray, List.set_cons_zero, List.set_cons_succ, i64_w, i32_w]
          rfl
        refine pure_ (i := 15) (N := (some 0)) (v := ?_) (a' := ?_) #[true, true, true, true, true, true, true, true, true, true, true, true, true, true, true, true] rfl rfl (any_of HT_.out (by kernel_rfl)) (fun _ _ _ h => h) (Or.inl ⟨by rfl, ?_⟩) ?_ ?_
        rotate_left
        · intro w'
          go_simp
          with_reducible rfl
        rotate_left
        · simp only [Act.put, List.setIfInBounds_toArray, List.set_cons_zero, List.set_cons_succ, i64_w, i32_w]
          rfl
        refine done_ (done_of HT_.out (by kernel_rfl)) ?_
        clear hb3 hb2' hb1
        obtain ⟨A3, c3, rfl⟩ := HV3.out.slice
        have hle : (L ++ [mkN k m false nm wa]).length = L.length + 1 := by simp
        rw [hle] at HV3
        go_wp2
        go_ret3
        refine ⟨((L.length + 1 : Nat) : Int), 0, _, _, .inr (.inr ⟨by rw [HN1.out, HN2.out]; rfl, hl, by omega, rfl, rfl⟩), ?_, HV3.out, HB4.out⟩
        simp
      · skip
        refine value_ (v := .slice (some ⟨w1.drew.heap.size, 0, none⟩) 1 1) (w1 := w1.drew.alloc (.cells #[.int .i64 k, .int .i64 0, .int .i64 0, .int .i64 0, .int .i64 m, .bool false, .string nm, .string wa, .slice none 0 0] 33)) (by rfl) rfl (by go_simp; try rfl) ?_
        refine hK.out _ _ ⟨cell_alloc hHeld.1 _, cell_alloc hHeld.2.1 _, cell_alloc hHeld.2.2.1 _, cell_alloc hHeld.2.2.2.1 _, cell_alloc hHeld.2.2.2.2 _⟩ (fun hHeld => ?_)
        clear hK K
        refine norm_ (a' := ?_) ?_ ?_
        rotate_left
        · show Act.put _ (some 92) _ = _
          simp only [Act.put, List.setIfInBounds_toArray, List.set_cons_zero, List.set_cons_succ, i64_w, i32_w]
          rfl
        refine one_ (i := 1) (N := (some 80)) #[true, true, true, true, true, true, true, true, true, true, true, true, true, true, false, false] rfl rfl (one_of HT_.out (by kernel_rfl)) (by decide) (fun K hK => ?_)
        have hbx : Below w1.heap.size w1 (w1.drew.alloc (.cells #[.int .i64 k, .int .i64 0, .int .i64 0, .int .i64 0, .int .i64 m, .bool false, .string nm, .string wa, .slice none 0 0] 33)) := (below_drew (Below.refl _ w1)).alloc (Nat.le_refl _) _
        refine goes_ Try.func103 (by kernel_rfl) rfl #[.slice A L.length c] (by rfl) rfl rfl (by simp only [List.map_toArray, List.map_cons, List.map_nil]; rfl) ?_
        with_reducible refine (copy_any (H1.out.below hbx) (Up.le hB (Nat.le_trans HB0.out.size hbx.size)) hn HG.out.kl).mono ?_
        rintro e w2 ⟨v2, rfl, hV2, hb2, hf2⟩
        refine ⟨_, rfl, ?_⟩
        have hb2' : Below w1.heap.size w1 w2 := hbx.trans (hb2.mono hbx.size)
        have hnode := blk_below (heap_alloc_new w1.drew (.cells #[.int .i64 k, .int .i64 0, .int .i64 0, .int .i64 0, .int .i64 m, .bool false, .string nm, .string wa, .slice none 0 0] 33)) hb2 (by simp)
        refine hK.out _ _ ⟨(pw_cell_below hb2' (hb1 0)).trans rfl, (pw_cell_below hb2' (hb1 4)).trans rfl, (pw_cell_below hb2' (hb1 5)).trans rfl, (pw_cell_below hb2' (hb1 6)).trans rfl, (pw_cell_below hb2' (hb1 7)).trans rfl⟩ (fun hHeld => ?_)
        clear hK K
        refine norm_ (a' := ?_) ?_ ?_
        rotate_left
        · show Act.put _ (some 80) _ = _
          simp only [Act.put, List.setIfInBounds_toArray, List.set_cons_zero, List.set_cons_succ, i64_w, i32_w]
          rfl
        refine one_ (i := 14) (N := (some 93)) #[true, true, true, true, true, true, true, true, true, true, true, true, true, true, true, false] rfl rfl (one_of HT_.out (by kernel_rfl)) (by decide) (fun K hK => ?_)
        refine Kd.N_append_rows_step k33 (w0 := w1) (W := w2) 0 (by rfl) (.tmp 80) (.tmp 92) 27 33 _ 104 rfl Try.underlying27 info33 rfl (by decide) (by omega) v2 L [mkN k m false nm wa] (some ⟨w1.drew.heap.size, 0, none⟩) 1 1 B (fun j => j = w1.drew.heap.size) rfl rfl hV2 (node_F hnode _ rfl) ?hp ?hf ?hB ?hb ?hl ?_
        case hp =>
          intro j hj
          have h1 := HB0.out.size
          have hj' : j = w1.heap.size := hj
          refine ⟨hB j (by omega), fun e => ?_⟩
          have h2 := hf2 j e.symm
          have h3 : w1.heap.size + 1 ≤ j := by simpa using h2
          omega
        case hf => exact fun j hj => hB j (by have := HB0.out.size; have := hb2'.size; omega)
        case hB => exact hb2'.mono (Nat.zero_le _)
        case hb => exact Nat.zero_le _
        case hl => omega
        intro v3 w3 HN3 HB3 hg3 hat3
        have hb3 : Below w1.heap.size w1 w3 := by
          refine hb2'.grown hg3 hb2'.size (fun j e => ?_)
          have h2 := hf2 j e
          have h3 : w1.heap.size + 1 ≤ j := by simpa using h2
          omega
        have HV3 : Aside0 (RV B w3 v3 (L ++ [mkN k m false nm wa])) := ⟨HN3⟩
        have HB4 := Aside0.mk (HB0.out.trans (hb3.mono HB0.out.size))
        clear hg3 hat3 HN3 HB3 hV2 hb2 hf2
        refine hK.out _ _ ⟨(pw_cell_below hb3 (hb1 0)).trans rfl, (pw_cell_below hb3 (hb1 4)).trans rfl, (pw_cell_below hb3 (hb1 5)).trans rfl, (pw_cell_below hb3 (hb1 6)).trans rfl, (pw_cell_below hb3 (hb1 7)).trans rfl⟩ (fun hHeld => ?_)
        clear hK K
        refine norm_ (a' := ?_) ?_ ?_
        rotate_left
        · show Act.put _ (some 93) _ = _
          simp only [Act.put, List.setIfInBounds_toArray, List.set_cons_zero, List.set_cons_succ, i64_w, i32_w]
          rfl
        refine pure_ (i := 15) (N := (some 0)) (v := ?_) (a' := ?_) #[true, true, true, true, true, true, true, true, true, true, true, true, true, true, true, true] rfl rfl (any_of HT_.out (by kernel_rfl)) (fun _ _ _ h => h) (Or.inl ⟨by rfl, ?_⟩) ?_ ?_
        rotate_left
        · intro w'
          go_simp
          with_reducible rfl
        rotate_left
        · simp only [Act.put, List.setIfInBounds_toArray, List.set_cons_zero, List.set_cons_succ, i64_w, i32_w]
          rfl
        refine done_ (done_of HT_.out (by kernel_rfl)) ?_
        clear hb3 hb2' hb1 hbx hnode
        obtain ⟨A3, c3, rfl⟩ := HV3.out.slice
        have hle : (L ++ [mkN k m false nm wa]).length = L.length + 1 := by simp
        rw [hle] at HV3
        go_wp2
        go_ret3
        refine ⟨((L.length + 1 : Nat) : Int), 0, _, _, .inr (.inr ⟨by rw [HN1.out, HN2.out]; rfl, hl, by omega, rfl, rfl⟩), ?_, HV3.out, HB4.out⟩
        simp
    · have hl' : (128 : Int) ≤ (L.length : Int) := by omega
      go_wp2
      go_ret3
      exact ⟨0, 9, L, _, .inr (.inl ⟨by rw [HN1.out, HN2.out]; rfl, by omega, rfl, rfl, rfl⟩), rfl, H1.out, HB0.out⟩
end Go.Proofs.Ytbkpgbhdfdifoaa
