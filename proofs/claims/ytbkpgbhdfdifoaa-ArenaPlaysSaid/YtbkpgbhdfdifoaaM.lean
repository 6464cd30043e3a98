/- Forest.Make makes a node. -/
import Derived.Test.YtbkpgbhdfdifoaaE
namespace Go.Proofs.Ytbkpgbhdfdifoaa
open Go.RowKit Go.Proofs.YtbkpgbhdfdifoaaW.PrintWords Go.Proofs.YtbkpgbhdfdifoaaW.PrintLast Go.Proofs.YtbkpgbhdfdifoaaW.PrintMore
set_option linter.unusedVariables false
set_option linter.unusedSimpArgs false

/-- What a call that changes the forest at p leaves: only p and the list's own block have turned; the list's block is the old one or a new one. -/
def FMoved (B : Nat) (w w' : World) (p : Nat) (v v' : Value) : Prop :=
  Kept w w' (fun k => k = p ∨ some k = v.ownBlock) ∧ Below B w w' ∧ (v'.ownBlock = v.ownBlock ∨ ∃ b, v'.ownBlock = some b ∧ w.heap.size ≤ b)
/-- A node as it is made. -/
def mkN (k m : Int) (sl : Bool) (nm wa : ByteArray) : S33 := ⟨k, 0, 0, 0, m, sl, nm, wa, []⟩
theorem FMoved.of_below {B : Nat} {w w' : World} {p : Nat} {v : Value} (hB : B ≤ w.heap.size) (h : Below w.heap.size w w') : FMoved B w w' p v v := ⟨Kept.of_below h _, h.mono hB, .inl rfl⟩

set_option maxRecDepth 100000 in
set_option maxHeartbeats 400000 in
theorem make_nil (x : S33) (kv : Value) (w : World) : Calls Try.prog 29 #[.pointer none, nodeV x kv] w fun e w' => e = .returned (.tuple #[.int .i64 0, .int .i64 1]) ∧ Below w.heap.size w w' := by
  go_enter Try.func29, Try.ntmps29
  go_wp2
  go_ret2
  exact ⟨rfl, (Below.refl _ _).alloc (Nat.le_refl _) _⟩

set_option maxRecDepth 100000 in
set_option maxHeartbeats 400000 in
theorem make_bad {B : Nat} {w : World} {p : Nat} {v : Value} {L : List S33} (h : FV B w p v L) (k pa ho sh m : Int) (sl : Bool) (nm wa : ByteArray) (kv : Value) (hk1 : kv.oneCell' = true) (hr : ¬ rightE k m sl nm wa = 0) :
    Calls Try.prog 29 #[.pointer (some ⟨p, 0, none⟩), .agg #[.int .i64 k, .int .i64 pa, .int .i64 ho, .int .i64 sh, .int .i64 m, .bool sl, .string nm, .string wa, kv]] w fun e w' => e = .returned (.tuple #[.int .i64 0, .int .i64 (rightE k m sl nm wa)]) ∧ Below w.heap.size w w' := by
  have hb := bneT hr
  clear hr
  go_enter Try.func29, Try.ntmps29
  go_wp2_with fail
  refine (right_any85 _ _ _ _ _ _ _ _ _ _).mono ?_
  rintro e w1 ⟨rfl, hb1⟩
  have HB := Lib.hid (below_step ((Below.refl w.heap.size w).alloc (Nat.le_refl _) _) hb1)
  clear hb1
  go_wp2
  go_ret2
  exact ⟨rfl, HB.out⟩

set_option maxRecDepth 100000 in
set_option maxHeartbeats 400000 in
theorem make_full {B : Nat} {w : World} {p : Nat} {v : Value} {L : List S33} (h : FV B w p v L) (k pa ho sh m : Int) (sl : Bool) (nm wa : ByteArray) (kv : Value) (hk1 : kv.oneCell' = true) (hr : rightE k m sl nm wa = 0) (hn : 128 ≤ L.length) :
    Calls Try.prog 29 #[.pointer (some ⟨p, 0, none⟩), .agg #[.int .i64 k, .int .i64 pa, .int .i64 ho, .int .i64 sh, .int .i64 m, .bool sl, .string nm, .string wa, kv]] w fun e w' => e = .returned (.tuple #[.int .i64 0, .int .i64 9]) ∧ Below w.heap.size w w' := by
  obtain ⟨A, c, rfl⟩ := h.slice
  have H := Aside0.mk h
  clear h
  have HR := Lib.hid hr
  clear hr
  go_enter Try.func29, Try.ntmps29
  go_wp2_with fail
  refine (right_any85 _ _ _ _ _ _ _ _ _ _).mono ?_
  rintro e w1 ⟨rfl, hb1⟩
  rw [HR.out]
  have HB := Lib.hid (below_step ((Below.refl w.heap.size w).alloc (Nat.le_refl _) _) hb1)
  clear hb1
  have hc := (H.out.below HB.out).cell
  go_wp2
  go_ret2
  exact ⟨rfl, HB.out⟩

set_option maxRecDepth 100000 in
set_option maxHeartbeats 1000000 in
theorem make_yes {B : Nat} {w : World} {p : Nat} {v : Value} {L : List S33} (h : FV B w p v L) (hB : B ≤ w.heap.size) (k pa ho sh m : Int) (sl : Bool) (nm wa : ByteArray) (kv : Value) (hk1 : kv.oneCell' = true) (hr : rightE k m sl nm wa = 0) (hn : L.length < 128) :
    Calls Try.prog 29 #[.pointer (some ⟨p, 0, none⟩), .agg #[.int .i64 k, .int .i64 pa, .int .i64 ho, .int .i64 sh, .int .i64 m, .bool sl, .string nm, .string wa, kv]] w fun e w' =>
      e = .returned (.tuple #[.int .i64 (L.length + 1 : Nat), .int .i64 0]) ∧ ∃ v', FV B w' p v' (L ++ [mkN k m sl nm wa]) ∧ FMoved B w w' p v v' := by
  obtain ⟨A, c, rfl⟩ := h.slice
  have H := Aside0.mk h
  clear h
  have HR := Lib.hid hr
  clear hr
  go_enter Try.func29, Try.ntmps29
  go_wp2_with fail
  refine (right_any85 _ _ _ _ _ _ _ _ _ _).mono ?_
  rintro e w1 ⟨rfl, hb1⟩
  rw [HR.out]
  have HX := blk_below (heap_alloc_new w _) hb1 (by simp)
  have HB1 := Lib.hid (below_step ((Below.refl w.heap.size w).alloc (Nat.le_refl _) _) hb1)
  clear hb1
  have H1 := Aside0.mk (H.out.below HB1.out)
  have hc := H1.out.cell
  have hbx := Lib.hid HX
  clear HX
  go_wp2
  refine start_ (n := 21) (S := fun w' => w'.cell? ⟨p, 0, none⟩ = some (.slice A L.length c) ∧ w'.cell? ⟨w.heap.size, 0, none⟩ = some (.int .i64 k) ∧ w'.cell? ⟨w.heap.size, 4, none⟩ = some (.int .i64 m) ∧ w'.cell? ⟨w.heap.size, 5, none⟩ = some (.bool sl) ∧ w'.cell? ⟨w.heap.size, 6, none⟩ = some (.string nm) ∧ w'.cell? ⟨w.heap.size, 7, none⟩ = some (.string wa)) (ds := [20]) #[false, false, false, false, false, false, false, false, false, false, false, false, false, false, false, false, false, false, false, false, false] (by kernel_rfl) rfl rfl ⟨hc, (blk_cell hbx.out 0).trans rfl, (blk_cell hbx.out 4).trans rfl, (blk_cell hbx.out 5).trans rfl, (blk_cell hbx.out 6).trans rfl, (blk_cell hbx.out 7).trans rfl⟩ (fun hHeld => ?_)
  refine with_tab (T := rtab .any (opsOf Try.f29 8)) (by rfl) (fun HT_ => ?_)
  refine pure_ (i := 0) (N := (some 20)) (v := ?_) (a' := ?_) #[true, false, false, false, false, false, false, false, false, false, false, false, false, false, false, false, false, false, false, false, false] rfl rfl (any_of HT_.out (by kernel_rfl)) (fun _ _ _ h => h) (Or.inl ⟨by rfl, ?_⟩) ?_ ?_
  rotate_left
  · intro w'
    go_simp
    with_reducible rfl
  rotate_left
  · simp only [Act.put, List.setIfInBounds_toArray, List.set_cons_zero, List.set_cons_succ, i64_w, i32_w]
    rfl
  refine pure_ (i := 1) (N := (some 21)) (v := ?_) (a' := ?_) #[true, true, false, false, false, false, false, false, false, false, false, false, false, false, false, false, false, false, false, false, false] rfl rfl (any_of HT_.out (by kernel_rfl)) (fun _ _ _ h => h) (Or.inl ⟨by rfl, ?_⟩) ?_ ?_
  rotate_left
  · intro w'
    go_simp
    with_reducible rfl
  rotate_left
  · simp only [Act.put, List.setIfInBounds_toArray, List.set_cons_zero, List.set_cons_succ, i64_w, i32_w]
    rfl
  refine pure_ (i := 2) (N := (some 22)) (v := ?_) (a' := ?_) #[true, true, true, false, false, false, false, false, false, false, false, false, false, false, false, false, false, false, false, false, false] rfl rfl (any_of HT_.out (by kernel_rfl)) (fun _ _ _ h => h) (Or.inl ⟨by rfl, ?_⟩) ?_ ?_
  rotate_left
  · intro w'
    go_simp
    with_reducible rfl
  rotate_left
  · simp only [Act.put, List.setIfInBounds_toArray, List.set_cons_zero, List.set_cons_succ, i64_w, i32_w]
    rfl
  refine pure_ (i := 3) (N := (some 23)) (v := ?_) (a' := ?_) #[true, true, true, true, false, false, false, false, false, false, false, false, false, false, false, false, false, false, false, false, false] rfl rfl (any_of HT_.out (by kernel_rfl)) (fun _ _ _ h => h) (Or.inl ⟨by rfl, ?_⟩) ?_ ?_
  rotate_left
  · intro w'
    go_simp
    with_reducible rfl
  rotate_left
  · simp only [Act.put, List.setIfInBounds_toArray, List.set_cons_zero, List.set_cons_succ, i64_w, i32_w]
    rfl
  refine take_ (i := 4) (N := (some 24)) (v := ?_) (a' := ?_) #[true, true, true, true, true, false, false, false, false, false, false, false, false, false, false, false, false, false, false, false, false] rfl rfl (take_of HT_.out (by kernel_rfl)) (fun _ _ _ h => h) (Or.inl ⟨by rfl, ?_⟩) hHeld ?_ ?_
  rotate_left
  · rintro w' ⟨s0_, s1_, s2_, s3_, s4_, s5_⟩
    go_simp
    with_reducible rfl
  rotate_left
  · simp only [Act.put, List.setIfInBounds_toArray, List.set_cons_zero, List.set_cons_succ, i64_w, i32_w]
    rfl
  refine pure_ (i := 5) (N := (some 25)) (v := ?_) (a' := ?_) #[true, true, true, true, true, true, false, false, false, false, false, false, false, false, false, false, false, false, false, false, false] rfl rfl (any_of HT_.out (by kernel_rfl)) (fun _ _ _ h => h) (Or.inl ⟨by rfl, ?_⟩) ?_ ?_
  rotate_left
  · intro w'
    go_simp
    with_reducible rfl
  rotate_left
  · simp only [Act.put, List.setIfInBounds_toArray, List.set_cons_zero, List.set_cons_succ, i64_w, i32_w]
    rfl
  refine take_ (i := 6) (N := (some 26)) (v := ?_) (a' := ?_) #[true, true, true, true, true, true, true, false, false, false, false, false, false, false, false, false, false, false, false, false, false] rfl rfl (take_of HT_.out (by kernel_rfl)) (fun _ _ _ h => h) (Or.inl ⟨by rfl, ?_⟩) hHeld ?_ ?_
  rotate_left
  · rintro w' ⟨s0_, s1_, s2_, s3_, s4_, s5_⟩
    go_simp
    with_reducible rfl
  rotate_left
  · simp only [Act.put, List.setIfInBounds_toArray, List.set_cons_zero, List.set_cons_succ, i64_w, i32_w]
    rfl
  refine pure_ (i := 7) (N := (some 27)) (v := ?_) (a' := ?_) #[true, true, true, true, true, true, true, true, false, false, false, false, false, false, false, false, false, false, false, false, false] rfl rfl (any_of HT_.out (by kernel_rfl)) (fun _ _ _ h => h) (Or.inl ⟨by rfl, ?_⟩) ?_ ?_
  rotate_left
  · intro w'
    go_simp
    with_reducible rfl
  rotate_left
  · simp only [Act.put, List.setIfInBounds_toArray, List.set_cons_zero, List.set_cons_succ, i64_w, i32_w]
    rfl
  refine take_ (i := 8) (N := (some 28)) (v := ?_) (a' := ?_) #[true, true, true, true, true, true, true, true, true, false, false, false, false, false, false, false, false, false, false, false, false] rfl rfl (take_of HT_.out (by kernel_rfl)) (fun _ _ _ h => h) (Or.inl ⟨by rfl, ?_⟩) hHeld ?_ ?_
  rotate_left
  · rintro w' ⟨s0_, s1_, s2_, s3_, s4_, s5_⟩
    go_simp
    with_reducible rfl
  rotate_left
  · simp only [Act.put, List.setIfInBounds_toArray, List.set_cons_zero, List.set_cons_succ, i64_w, i32_w]
    rfl
  refine pure_ (i := 9) (N := (some 29)) (v := ?_) (a' := ?_) #[true, true, true, true, true, true, true, true, true, true, false, false, false, false, false, false, false, false, false, false, false] rfl rfl (any_of HT_.out (by kernel_rfl)) (fun _ _ _ h => h) (Or.inl ⟨by rfl, ?_⟩) ?_ ?_
  rotate_left
  · intro w'
    go_simp
    with_reducible rfl
  rotate_left
  · simp only [Act.put, List.setIfInBounds_toArray, List.set_cons_zero, List.set_cons_succ, i64_w, i32_w]
    rfl
  refine take_ (i := 10) (N := (some 30)) (v := ?_) (a' := ?_) #[true, true, true, true, true, true, true, true, true, true, true, false, false, false, false, false, false, false, false, false, false] rfl rfl (take_of HT_.out (by kernel_rfl)) (fun _ _ _ h => h) (Or.inl ⟨by rfl, ?_⟩) hHeld ?_ ?_
  rotate_left
  · rintro w' ⟨s0_, s1_, s2_, s3_, s4_, s5_⟩
    go_simp
    with_reducible rfl
  rotate_left
  · simp only [Act.put, List.setIfInBounds_toArray, List.set_cons_zero, List.set_cons_succ, i64_w, i32_w]
    rfl
  refine pure_ (i := 11) (N := (some 31)) (v := ?_) (a' := ?_) #[true, true, true, true, true, true, true, true, true, true, true, true, false, false, false, false, false, false, false, false, false] rfl rfl (any_of HT_.out (by kernel_rfl)) (fun _ _ _ h => h) (Or.inl ⟨by rfl, ?_⟩) ?_ ?_
  rotate_left
  · intro w'
    go_simp
    with_reducible rfl
  rotate_left
  · simp only [Act.put, List.setIfInBounds_toArray, List.set_cons_zero, List.set_cons_succ, i64_w, i32_w]
    rfl
  refine take_ (i := 12) (N := (some 32)) (v := ?_) (a' := ?_) #[true, true, true, true, true, true, true, true, true, true, true, true, true, false, false, false, false, false, false, false, false] rfl rfl (take_of HT_.out (by kernel_rfl)) (fun _ _ _ h => h) (Or.inl ⟨by rfl, ?_⟩) hHeld ?_ ?_
  rotate_left
  · rintro w' ⟨s0_, s1_, s2_, s3_, s4_, s5_⟩
    go_simp
    with_reducible rfl
  rotate_left
  · simp only [Act.put, List.setIfInBounds_toArray, List.set_cons_zero, List.set_cons_succ, i64_w, i32_w]
    rfl
  refine pure_ (i := 13) (N := (some 33)) (v := ?_) (a' := ?_) #[true, true, true, true, true, true, true, true, true, true, true, true, true, true, false, false, false, false, false, false, false] rfl rfl (any_of HT_.out (by kernel_rfl)) (fun _ _ _ h => h) (Or.inl ⟨by rfl, ?_⟩) ?_ ?_
  rotate_left
  · intro w'
    go_simp
    with_reducible rfl
  rotate_left
  · simp only [Act.put, List.setIfInBounds_toArray, List.set_cons_zero, List.set_cons_succ, i64_w, i32_w]
    rfl
  refine take_ (i := 14) (N := (some 34)) (v := ?_) (a' := ?_) #[true, true, true, true, true, true, true, true, true, true, true, true, true, true, true, false, false, false, false, false, false] rfl rfl (take_of HT_.out (by kernel_rfl)) (fun _ _ _ h => h) (Or.inl ⟨by rfl, ?_⟩) hHeld ?_ ?_
  rotate_left
  · rintro w' ⟨s0_, s1_, s2_, s3_, s4_, s5_⟩
    go_simp
    with_reducible rfl
  rotate_left
  · simp only [Act.put, List.setIfInBounds_toArray, List.set_cons_zero, List.set_cons_succ, i64_w, i32_w]
    rfl
  refine pure_ (i := 15) (N := (some 35)) (v := ?_) (a' := ?_) #[true, true, true, true, true, true, true, true, true, true, true, true, true, true, true, true, false, false, false, false, false] rfl rfl (any_of HT_.out (by kernel_rfl)) (fun _ _ _ h => h) (Or.inl ⟨by rfl, ?_⟩) ?_ ?_
  rotate_left
  · intro w'
    go_simp
    with_reducible rfl
  rotate_left
  · simp only [Act.put, List.setIfInBounds_toArray, List.set_cons_zero, List.set_cons_succ, i64_w, i32_w]
    rfl
  refine one_ (i := 16) (N := (some 36)) #[true, true, true, true, true, true, true, true, true, true, true, true, true, true, true, true, true, false, false, false, false] rfl rfl (one_of HT_.out (by kernel_rfl)) (by decide) (fun K hK => ?_)
  refine value_ (v := .slice (some ⟨w1.drew.heap.size, 0, none⟩) 1 1) (w1 := w1.drew.alloc (.cells #[.int .i64 k, .int .i64 0, .int .i64 0, .int .i64 0, .int .i64 m, .bool sl, .string nm, .string wa, .slice none 0 0] 33)) (by rfl) rfl (by go_simp; try rfl) ?_
  refine hK.out _ _ ⟨(cell_alloc hHeld.1 _), (cell_alloc hHeld.2.1 _), (cell_alloc hHeld.2.2.1 _), (cell_alloc hHeld.2.2.2.1 _), (cell_alloc hHeld.2.2.2.2.1 _), (cell_alloc hHeld.2.2.2.2.2 _)⟩ (fun hHeld => ?_)
  clear hK K
  refine norm_ (a' := ?_) ?_ ?_
  rotate_left
  · show Act.put _ (some 36) _ = _
    simp only [Act.put, List.setIfInBounds_toArray, List.set_cons_zero, List.set_cons_succ, i64_w, i32_w]
    rfl
  refine one_ (i := 17) (N := (some 37)) #[true, true, true, true, true, true, true, true, true, true, true, true, true, true, true, true, true, true, false, false, false] rfl rfl (one_of HT_.out (by kernel_rfl)) (by decide) (fun K hK => ?_)
  have HN : Kd.N k33 33 w1.drew B (fun j => j ≠ p) (.slice A L.length c) L := Kd.N_drew H1.out.2.2
  have hpl : p < w1.heap.size := blk_lt' H1.out.1
  refine Kd.N_append_step k33 (w0 := w) (W := w1.drew) (cs := [.int .i64 k, .int .i64 0, .int .i64 0, .int .i64 0, .int .i64 m, .bool sl, .string nm, .string wa, .slice none 0 0]) B (by rfl) (.tmp 24) (.tmp 36) 27 33 _ 104 rfl Try.underlying27 info33 rfl (by decide) (by omega) (.slice A L.length c) L (mkN k m sl nm wa) (fun j => j ≠ p) (fun _ => False) rfl rfl ?hp (fun _ h => h.elim) ?hf HN ?hB ?hb ?hl ?_
  case hp => exact k33_mkF _ _ (mkN k m sl nm wa) (Nat.le_refl 0) (Kd.F_nil _ _ _)
  case hf => intro j hj e; subst e; exact absurd hj (Nat.not_le.2 hpl)
  case hB => exact (HB1.out.mono hB).drew
  case hb => exact Nat.le_trans hB HB1.out.size
  case hl => omega
  intro v2 w2 HN2 HB2 hg2 hat2
  have hpn : some p ≠ (Value.slice A L.length c).ownBlock := Kd.N_away HN (fun j hj => hj)
  have hgn : some w.heap.size ≠ (Value.slice A L.length c).ownBlock := fun e => by
    have := Kd.N_lt H.out.2.2 _ e.symm
    omega
  have hp2 : w2.heap[p]? = some (.cells #[.slice A L.length c] 53 (0, 0)) := (hg2.block p hpl hpn).trans H1.out.1
  have hx2 := (hg2.block w.heap.size (blk_lt' hbx.out) hgn).trans hbx.out
  obtain ⟨L2, hL2⟩ : ∃ L2, L2 = L ++ [mkN k m sl nm wa] := ⟨_, rfl⟩
  have hl2 : L2.length = L.length + 1 := by rw [hL2]; simp
  rw [← hL2] at HN2
  have HL2 := Lib.hid hL2
  have Hl2 := Lib.hid hl2
  clear hL2 hl2
  obtain ⟨A2, c2, rfl⟩ := Kd.N_slice HN2
  refine hK.out _ _ ⟨(blk_cell hp2 0).trans rfl, (blk_cell hx2 0).trans rfl, (blk_cell hx2 4).trans rfl, (blk_cell hx2 5).trans rfl, (blk_cell hx2 6).trans rfl, (blk_cell hx2 7).trans rfl⟩ (fun hHeld => ?_)
  clear hK K
  refine norm_ (a' := ?_) ?_ ?_
  rotate_left
  · show Act.put _ (some 37) _ = _
    simp only [Act.put, List.setIfInBounds_toArray, List.set_cons_zero, List.set_cons_succ, i64_w, i32_w]
    rfl
  refine pure_ (i := 18) (N := (some 38)) (v := ?_) (a' := ?_) #[true, true, true, true, true, true, true, true, true, true, true, true, true, true, true, true, true, true, true, false, false] rfl rfl (any_of HT_.out (by kernel_rfl)) (fun _ _ _ h => h) (Or.inl ⟨by rfl, ?_⟩) ?_ ?_
  rotate_left
  · intro w'
    go_simp
    with_reducible rfl
  rotate_left
  · simp only [Act.put, List.setIfInBounds_toArray, List.set_cons_zero, List.set_cons_succ, i64_w, i32_w]
    rfl
  refine pure_ (i := 19) (N := (some 39)) (v := ?_) (a' := ?_) #[true, true, true, true, true, true, true, true, true, true, true, true, true, true, true, true, true, true, true, true, false] rfl rfl (any_of HT_.out (by kernel_rfl)) (fun _ _ _ h => h) (Or.inl ⟨by rfl, ?_⟩) ?_ ?_
  rotate_left
  · intro w'
    go_simp
    with_reducible rfl
  rotate_left
  · simp only [Act.put, List.setIfInBounds_toArray, List.set_cons_zero, List.set_cons_succ, i64_w, i32_w]
    rfl
  refine last_ (i := 20) (N := none) #[true, true, true, true, true, true, true, true, true, true, true, true, true, true, true, true, true, true, true, true, true] rfl rfl (one_of HT_.out (by kernel_rfl)) (by decide) (fun K hK => ?_)
  have hc2 : w2.cell? ⟨p, 0, none⟩ = some (.slice A L.length c) := (blk_cell hp2 0).trans rfl
  have hf2 := blk_free hp2 0
  refine skip_ (w1 := w2.setCell ⟨p, 0, none⟩ (.slice A2 L2.length c2)) (by rfl) rfl (by go_simp) ?_
  refine hK.out _ _ ?_
  clear hK K
  refine done_ (done_of HT_.out (by kernel_rfl)) ?_
  have hp3 := blk_set hp2 0 (.slice A2 L2.length c2)
  have hc3 : (w2.setCell ⟨p, 0, none⟩ (.slice A2 L2.length c2)).cell? ⟨p, 0, none⟩ = some (.slice A2 L2.length c2) := (blk_cell hp3 0).trans rfl
  have HF : FV B (w2.setCell ⟨p, 0, none⟩ (.slice A2 L2.length c2)) p (.slice A2 L2.length c2) L2 :=
    ⟨hp3, H1.out.2.1, Kd.N_far HN2 (fun j hj => hj) _⟩
  have HM : FMoved B w (w2.setCell ⟨p, 0, none⟩ (.slice A2 L2.length c2)) p (.slice A L.length c) (.slice A2 L2.length c2) := by
    refine ⟨?_, HB2.setCell H1.out.2.1 _, ?_⟩
    · refine Kept.setCell ?_ (.inl (.inl rfl)) _
      exact Kept.of_grown hg2 ((Kept.of_below HB1.out _).drew) (fun j hj => .inl (.inr hj.symm))
    · rcases hat2 with h | ⟨b, h1, h2⟩
      · exact .inl h
      · exact .inr ⟨b, h1, Nat.le_trans HB1.out.size h2⟩
  have HF1 := Lib.hid HF
  have HM1 := Lib.hid HM
  clear HF HM hp3 hp2 hx2 HN2 HB2 hg2 hat2 hc2 hf2
  go_wp2
  go_ret2
  exact ⟨by simp [Hl2.out], _, by rw [← HL2.out]; exact HF1.out, HM1.out⟩
end Go.Proofs.Ytbkpgbhdfdifoaa
