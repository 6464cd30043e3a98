/- A call on a forest: Forest.Make, Put, Tie, Name, Want told as one; law04's do, great, made. -/
import Derived.Test.YtbkpgbhdfdifoaaQ
namespace Go.Proofs.Ytbkpgbhdfdifoaa
open Go.RowKit Go.Proofs.YtbkpgbhdfdifoaaW.PrintWords Go.Proofs.YtbkpgbhdfdifoaaW.PrintLast Go.Proofs.YtbkpgbhdfdifoaaW.PrintMore
set_option linter.unusedVariables false
set_option linter.unusedSimpArgs false

/-- What a call of Act x makes of the nodes: the number told, the error's number, the nodes then. -/
def DoR (L : List S33) (x : S35) (id n : Int) (L' : List S33) : Prop :=
  (x.f0 = 0 ∧ MakeR L x.f4 id n L') ∨ (x.f0 = 1 ∧ id = 0 ∧ PutR L x.f1 x.f5 n L') ∨ (x.f0 = 2 ∧ id = 0 ∧ TieR L x.f1 x.f2 n L') ∨ (x.f0 = 3 ∧ id = 0 ∧ NameR L x.f1 x.f3 n L') ∨
  (x.f0 = 4 ∧ id = 0 ∧ WantR L x.f1 x.f3 n L') ∨ ((x.f0 < 0 ∨ 4 < x.f0) ∧ id = 0 ∧ n = 0 ∧ L' = L)
theorem DoR.unique {L : List S33} {x : S35} {i i' n n' : Int} {L1 L2 : List S33} (h : DoR L x i n L1) (h' : DoR L x i' n' L2) : i = i' ∧ n = n' ∧ L1 = L2 := by
  rcases h with ⟨e, h⟩ | ⟨e, rfl, h⟩ | ⟨e, rfl, h⟩ | ⟨e, rfl, h⟩ | ⟨e, rfl, h⟩ | ⟨e, rfl, rfl, rfl⟩ <;>
  rcases h' with ⟨e', h'⟩ | ⟨e', rfl, h'⟩ | ⟨e', rfl, h'⟩ | ⟨e', rfl, h'⟩ | ⟨e', rfl, h'⟩ | ⟨e', rfl, rfl, rfl⟩ <;>
  first | exact ⟨rfl, rfl, rfl⟩ | exact h.unique h' | exact ⟨rfl, h.unique h'⟩ | omega
theorem MakeR.good {L : List S33} {x : S33} {id n : Int} {L' : List S33} (hg : Good L) (h : MakeR L x id n L') : Good L' := by
  rcases h with ⟨_, _, _, rfl⟩ | ⟨_, _, _, _, rfl⟩ | ⟨_, h, _, _, rfl⟩
  · exact hg
  · exact hg
  · exact hg.make h _ _ _ _ _
theorem PutR.good {L : List S33} {a : Int} {l : List Int} {n : Int} {L' : List S33} (hg : Good L) (h : PutR L a l n L') : Good L' := by
  rcases h with ⟨_, _, rfl⟩ | ⟨_, _, _, rfl⟩ | ⟨_, _, _, _, rfl⟩ | ⟨h1, h2, h3, _, rfl⟩
  · exact hg
  · exact hg
  · exact hg
  · exact hg.put h1 h2 h3
theorem TieR.good {L : List S33} {a b : Int} {n : Int} {L' : List S33} (hg : Good L) (h : TieR L a b n L') : Good L' := by
  rcases h with ⟨_, _, rfl⟩ | ⟨_, _, _, rfl⟩ | ⟨_, _, _, _, rfl⟩ | ⟨_, _, _, _, _, rfl⟩ | ⟨h1, h2, h3, h4, _, rfl⟩
  · exact hg
  · exact hg
  · exact hg
  · exact hg
  · exact hg.tie h1 h2 h3 h4
theorem NameR.good {L : List S33} {a : Int} {s : ByteArray} {n : Int} {L' : List S33} (hg : Good L) (h : NameR L a s n L') : Good L' := by
  rcases h with ⟨_, _, rfl⟩ | ⟨_, _, _, rfl⟩ | ⟨_, _, _, rfl⟩
  · exact hg
  · exact hg
  · exact hg.name a s
theorem WantR.good {L : List S33} {a : Int} {s : ByteArray} {n : Int} {L' : List S33} (hg : Good L) (h : WantR L a s n L') : Good L' := by
  rcases h with ⟨_, _, rfl⟩ | ⟨_, _, _, rfl⟩ | ⟨_, _, _, rfl⟩
  · exact hg
  · exact hg
  · exact hg.want a s
theorem DoR.good {L : List S33} {x : S35} {id n : Int} {L' : List S33} (hg : Good L) (h : DoR L x id n L') : Good L' := by
  rcases h with ⟨_, h⟩ | ⟨_, _, h⟩ | ⟨_, _, h⟩ | ⟨_, _, h⟩ | ⟨_, _, h⟩ | ⟨_, _, _, rfl⟩
  · exact h.good hg
  · exact h.good hg
  · exact h.good hg
  · exact h.good hg
  · exact h.good hg
  · exact hg

/-! ### each method, whatever it is asked -/
def MakePost (B : Nat) (w : World) (p : Nat) (v : Value) (R : Int → Int → List S33 → Prop) (e : Ending) (w' : World) : Prop :=
  ∃ id n L', R id n L' ∧ e = .returned (.tuple #[.int .i64 id, .int .i64 n]) ∧ ∃ v', FV B w' p v' L' ∧ FMoved B w w' p v v'
theorem make_any {B : Nat} {w : World} {p : Nat} {v : Value} {L : List S33} (h : FV B w p v L) (hB : B ≤ w.heap.size) (x : S33) (kv : Value) (hk1 : kv.oneCell' = true) :
    Calls Try.prog 29 #[.pointer (some ⟨p, 0, none⟩), nodeV x kv] w (MakePost B w p v (MakeR L x)) := by
  by_cases hr : rightE x.f0 x.f4 x.f5 x.f6 x.f7 = 0
  · by_cases hl : L.length < 128
    · refine (make_yes h hB x.f0 x.f1 x.f2 x.f3 x.f4 x.f5 x.f6 x.f7 kv hk1 hr hl).mono ?_
      rintro e w' ⟨rfl, v', h1, h2⟩
      exact ⟨_, _, _, .inr (.inr ⟨hr, hl, rfl, rfl, rfl⟩), by simp, v', h1, h2⟩
    · refine (make_full h x.f0 x.f1 x.f2 x.f3 x.f4 x.f5 x.f6 x.f7 kv hk1 hr (by omega)).mono ?_
      rintro e w' ⟨rfl, hb⟩
      exact ⟨_, _, _, .inr (.inl ⟨hr, by omega, rfl, rfl, rfl⟩), rfl, v, h.below hb, FMoved.of_below hB hb⟩
  · refine (make_bad h x.f0 x.f1 x.f2 x.f3 x.f4 x.f5 x.f6 x.f7 kv hk1 hr).mono ?_
    rintro e w' ⟨rfl, hb⟩
    exact ⟨_, _, _, .inl ⟨hr, rfl, rfl, rfl⟩, rfl, v, h.below hb, FMoved.of_below hB hb⟩
theorem put_any {B : Nat} {w : World} {p : Nat} {v : Value} {L : List S33} (h : FV B w p v L) (hB : B ≤ w.heap.size) (hg : Good L) (parent : Int)
    (A : Option Addr) (c : Nat) (kids : List Int) (ok : Nat → Prop) (hF : Kd.F (Kd.int .i64) w ok A kids.length kids) (hok : ∀ k, ok k → k ≠ p ∧ some k ≠ v.ownBlock) (hkl : kids.length ≤ 1000) (hcap : kids.length ≤ c) :
    Calls Try.prog 30 #[.pointer (some ⟨p, 0, none⟩), .int .i64 parent, .slice A kids.length c] w (EPost B w p v (PutR L parent kids)) := by
  by_cases hp : Th L parent
  · obtain ⟨g, cap, rfl, hgB, hgl⟩ := h.form (by obtain ⟨b1, b2⟩ := hp; omega)
    exact put_th h hB hg parent hp A c kids ok hF (fun k hk => ⟨(hok k hk).1, fun e => (hok k hk).2 (by simp [Value.ownBlock, e])⟩) hkl hcap
  · exact put_no h hB parent hp A kids.length c kids
theorem tie_any {B : Nat} {w : World} {p : Nat} {v : Value} {L : List S33} (h : FV B w p v L) (hB : B ≤ w.heap.size) (hg : Good L) (a b : Int) :
    Calls Try.prog 31 #[.pointer (some ⟨p, 0, none⟩), .int .i64 a, .int .i64 b] w (EPost B w p v (TieR L a b)) := by
  have hn : L.length ≤ 1000 := by have := hg.len; omega
  obtain ⟨r, hr⟩ := hg.rank
  by_cases hT : Th L a ∧ Th L b
  · obtain ⟨g, cap, rfl, hgB, hgl⟩ := h.form (by obtain ⟨b1, b2⟩ := hT.1; omega)
    exact tie_th h hB hn r hr a b hT.1 hT.2
  · exact tie_no h hB hn a b hT
theorem name_any {B : Nat} {w : World} {p : Nat} {v : Value} {L : List S33} (h : FV B w p v L) (hB : B ≤ w.heap.size) (hg : Good L) (a : Int) (s : ByteArray) :
    Calls Try.prog 32 #[.pointer (some ⟨p, 0, none⟩), .int .i64 a, .string s] w (EPost B w p v (NameR L a s)) := by
  have hn : L.length ≤ 1000 := by have := hg.len; omega
  by_cases hT : Th L a
  · obtain ⟨g, cap, rfl, hgB, hgl⟩ := h.form (by obtain ⟨b1, b2⟩ := hT; omega)
    exact name_th h hB hn a hT s
  · exact name_no h hB a hT s
theorem want_any {B : Nat} {w : World} {p : Nat} {v : Value} {L : List S33} (h : FV B w p v L) (hB : B ≤ w.heap.size) (hg : Good L) (a : Int) (s : ByteArray) :
    Calls Try.prog 33 #[.pointer (some ⟨p, 0, none⟩), .int .i64 a, .string s] w (EPost B w p v (WantR L a s)) := by
  have hn : L.length ≤ 1000 := by have := hg.len; omega
  by_cases hT : Th L a
  · obtain ⟨g, cap, rfl, hgB, hgl⟩ := h.form (by obtain ⟨b1, b2⟩ := hT; omega)
    exact want_th h hB hn a hT s
  · exact want_no h hB a hT s

/-! ### do -/
/-- An Act as a value. -/
def actV (x : S35) (k12 k13 : Value) : Value := .agg #[.int .i64 x.f0, .int .i64 x.f1, .int .i64 x.f2, .string x.f3, .int .i64 x.f4.f0, .int .i64 x.f4.f1, .int .i64 x.f4.f2, .int .i64 x.f4.f3, .int .i64 x.f4.f4, .bool x.f4.f5, .string x.f4.f6, .string x.f4.f7, k12, k13]
/-- The forest has moved behind more that was made. -/
theorem FMoved.after {B : Nat} {w w1 w' : World} {p : Nat} {v v' : Value} (hp : p < w.heap.size) (hv : ∀ k, v.ownBlock = some k → k < w.heap.size) (hb : Below w.heap.size w w1) (hB : B ≤ w.heap.size) (h : FMoved B w1 w' p v v') : FMoved B w w' p v v' :=
  ⟨(Kept.of_below hb _).then_ h.1 (fun k hk => .inl hk), (hb.mono hB).trans h.2.1, h.2.2.imp id fun ⟨b, h1, h2⟩ => ⟨b, h1, Nat.le_trans hb.size h2⟩⟩

set_option maxRecDepth 100000 in
set_option maxHeartbeats 1000000 in
theorem do_any {B : Nat} {w : World} {p : Nat} {v : Value} {L : List S33} (h : FV B w p v L) (hB : B ≤ w.heap.size) (hg : Good L) (x : S35) (A12 A13 : Option Addr) (n12 c12 c13 : Nat)
    (hC : (Kd.int .i64).C w A13 x.f5.length x.f5) (hl : x.f5.length ≤ 1000) (hc : x.f5.length ≤ c13) :
    Calls Try.prog 19 #[.pointer (some ⟨p, 0, none⟩), actV x (.slice A12 n12 c12) (.slice A13 x.f5.length c13)] w (MakePost B w p v (DoR L x)) := by
  have H := Aside0.mk h
  have HG := Aside0.mk hg
  have HC := Aside0.mk hC
  have hpl := blk_lt' h.1
  have hvl := Kd.N_lt h.2.2
  have HV := Aside0.mk hvl
  clear h hg hC hvl
  unfold actV
  have hb0 := heap_alloc_new w (.cells #[.int .i64 x.f0, .int .i64 x.f1, .int .i64 x.f2, .string x.f3, .int .i64 x.f4.f0, .int .i64 x.f4.f1, .int .i64 x.f4.f2, .int .i64 x.f4.f3, .int .i64 x.f4.f4, .bool x.f4.f5, .string x.f4.f6, .string x.f4.f7, .slice A12 n12 c12, .slice A13 x.f5.length c13] 35)
  have hb1 := fun j => blk_cell hb0 j
  have HB0 := Aside0.mk ((Below.refl w.heap.size w).alloc (Nat.le_refl _) (.cells #[.int .i64 x.f0, .int .i64 x.f1, .int .i64 x.f2, .string x.f3, .int .i64 x.f4.f0, .int .i64 x.f4.f1, .int .i64 x.f4.f2, .int .i64 x.f4.f3, .int .i64 x.f4.f4, .bool x.f4.f5, .string x.f4.f6, .string x.f4.f7, .slice A12 n12 c12, .slice A13 x.f5.length c13] 35))
  have H1 := Aside0.mk (H.out.below HB0.out)
  by_cases e0 : x.f0 = 0
  · have hE := Aside0.mk e0
    have t0 : (x.f0 == 0) = true := by simp [e0]
    clear e0
    go_enter Try.func19, Try.ntmps19
    go_wp2_with fail
    refine (make_any H1.out (Nat.le_trans hB HB0.out.size) x.f4 (.slice A12 n12 c12) rfl).mono ?_
    rintro e w' ⟨id, n, L', hR, rfl, v', h1, h2⟩
    have HR := Aside0.mk hR
    have H2 := Aside0.mk h1
    have M2 := Aside0.mk (h2.after hpl HV.out HB0.out hB)
    clear hR h1 h2
    go_wp2
    go_ret2
    exact ⟨id, n, L', .inl ⟨hE.out, HR.out⟩, rfl, v', H2.out, M2.out⟩
  have t0 := beqF e0
  by_cases e1 : x.f0 = 1
  · have hE := Aside0.mk e1
    have t1 : (x.f0 == 1) = true := by simp [e1]
    clear e0 e1
    go_enter Try.func19, Try.ntmps19
    go_wp2
    generalize hW : w.alloc (.cells #[.int .i64 x.f0, .int .i64 x.f1, .int .i64 x.f2, .string x.f3, .int .i64 x.f4.f0, .int .i64 x.f4.f1, .int .i64 x.f4.f2, .int .i64 x.f4.f3, .int .i64 x.f4.f4, .bool x.f4.f5, .string x.f4.f6, .string x.f4.f7, .slice A12 n12 c12, .slice A13 x.f5.length c13] 35) = w1 at H1 hb0 hb1 HB0 ⊢
    clear hW
    refine start_ (n := 10) (S := fun w' => w'.cell? ⟨w.heap.size, 1, none⟩ = some (.int .i64 x.f1) ∧ w'.cell? ⟨w.heap.size, 13, none⟩ = some (.slice A13 x.f5.length c13)) (ds := [7]) #[false, false, false, false, false, false, false, false, false, false] (by kernel_rfl) rfl rfl ⟨(hb1 1).trans rfl, (hb1 13).trans rfl⟩ (fun hHeld => ?_)
    refine with_tab (T := rtab .any (opsOf Try.f19 5)) (by rfl) (fun HT_ => ?_)
    refine pure_ (i := 0) (N := (some 18)) (v := ?_) (a' := ?_) #[true, false, false, false, false, false, false, false, false, false] rfl rfl (any_of HT_.out (by kernel_rfl)) (fun _ _ _ h => h) (Or.inl ⟨by rfl, ?_⟩) ?_ ?_
    rotate_left
    · intro w'
      go_simp
      with_reducible rfl
    rotate_left
    · simp only [Act.put, List.setIfInBounds_toArray, List.set_cons_zero, List.set_cons_succ, i64_w, i32_w]
      rfl
    refine pure_ (i := 1) (N := (some 19)) (v := ?_) (a' := ?_) #[true, true, false, false, false, false, false, false, false, false] rfl rfl (any_of HT_.out (by kernel_rfl)) (fun _ _ _ h => h) (Or.inl ⟨by rfl, ?_⟩) ?_ ?_
    rotate_left
    · intro w'
      go_simp
      with_reducible rfl
    rotate_left
    · simp only [Act.put, List.setIfInBounds_toArray, List.set_cons_zero, List.set_cons_succ, i64_w, i32_w]
      rfl
    refine take_ (i := 2) (N := (some 20)) (v := ?_) (a' := ?_) #[true, true, true, false, false, false, false, false, false, false] rfl rfl (take_of HT_.out (by kernel_rfl)) (fun _ _ _ h => h) (Or.inl ⟨by rfl, ?_⟩) hHeld ?_ ?_
    rotate_left
    · rintro w' ⟨s0_, s1_⟩
      go_simp
      with_reducible rfl
    rotate_left
    · simp only [Act.put, List.setIfInBounds_toArray, List.set_cons_zero, List.set_cons_succ, i64_w, i32_w]
      rfl
    refine pure_ (i := 4) (N := (some 22)) (v := ?_) (a' := ?_) #[true, true, true, false, true, false, false, false, false, false] rfl rfl (any_of HT_.out (by kernel_rfl)) (fun _ _ _ h => h) (Or.inl ⟨by rfl, ?_⟩) ?_ ?_
    rotate_left
    · intro w'
      go_simp
      with_reducible rfl
    rotate_left
    · simp only [Act.put, List.setIfInBounds_toArray, List.set_cons_zero, List.set_cons_succ, i64_w, i32_w]
      rfl
    refine take_ (i := 5) (N := (some 23)) (v := ?_) (a' := ?_) #[true, true, true, false, true, true, false, false, false, false] rfl rfl (take_of HT_.out (by kernel_rfl)) (fun _ _ _ h => h) (Or.inl ⟨by rfl, ?_⟩) hHeld ?_ ?_
    rotate_left
    · rintro w' ⟨s0_, s1_⟩
      go_simp
      with_reducible rfl
    rotate_left
    · simp only [Act.put, List.setIfInBounds_toArray, List.set_cons_zero, List.set_cons_succ, i64_w, i32_w]
      rfl
    refine one_ (i := 3) (N := (some 21)) #[true, true, true, true, true, true, false, false, false, false] rfl rfl (one_of HT_.out (by kernel_rfl)) (by decide) (fun K hK => ?_)
    refine value_ (v := .slice (some ⟨w1.drew.heap.size, 0, none⟩) 0 0) (w1 := w1.drew.alloc (.cells #[] 3)) (by rfl) rfl (by go_simp; try rfl) ?_
    refine hK.out _ _ ⟨cell_alloc hHeld.1 _, cell_alloc hHeld.2 _⟩ (fun hHeld => ?_)
    clear hK K
    refine norm_ (a' := ?_) ?_ ?_
    rotate_left
    · show Act.put _ (some 21) _ = _
      simp only [Act.put, List.setIfInBounds_toArray, List.set_cons_zero, List.set_cons_succ, i64_w, i32_w]
      rfl
    refine one_ (i := 6) (N := (some 24)) #[true, true, true, true, true, true, true, false, false, false] rfl rfl (one_of HT_.out (by kernel_rfl)) (by decide) (fun K hK => ?_)
    refine Kd.R_append_rows_step (Kd.int .i64) (w0 := w1) (W := w1.drew.alloc (.cells #[] 3)) w1.heap.size (by rfl) (.tmp 21) (.tmp 23) 31 3 (.int .i64 0) 8 rfl Try.underlying31 info3 rfl (by decide) (by omega) (.slice (some ⟨w1.drew.heap.size, 0, none⟩) 0 0) [] x.f5 A13 x.f5.length c13 (fun k => w1.heap.size ≤ k) (fun _ => False) rfl rfl (R_empty (Kd.int .i64) 3 w1.drew _ _ (Nat.le_refl _) (Nat.le_refl _)) (Kd.C_alloc (Kd.C_below HC.out ((HB0.out.drew))) _) (fun _ _ h => h) (fun _ h => h.elim) ?aF ?aB ?aS ?aL ?_
    case aF => intro j hj; simp at hj; show w1.heap.size ≤ j; omega
    case aB => exact ((Below.refl _ w1).drew).alloc (Nat.le_refl _) _
    case aS => simp
    case aL => simp; omega
    intro v2 w2 HR2 HB2 hg2 hat2
    rw [List.nil_append] at HR2
    obtain ⟨A2, c2, rfl, l2, -⟩ := Kd.R_reads HR2
    have hs1 := pw_cell_below HB2 (hb1 1)
    have hs2 := pw_cell_below HB2 (hb1 13)
    have H2 := Aside0.mk (H1.out.below HB2)
    have HF2 := Aside0.mk (Kd.N_F (Kd.R_N HR2))
    have HB2' := Aside0.mk (HB0.out.trans (HB2.mono HB0.out.size))
    clear hg2 hat2 HR2 HB2
    refine hK.out _ _ ⟨hs1.trans rfl, hs2.trans rfl⟩ (fun hHeld => ?_)
    clear hK K
    refine norm_ (a' := ?_) ?_ ?_
    rotate_left
    · show Act.put _ (some 24) _ = _
      simp only [Act.put, List.setIfInBounds_toArray, List.set_cons_zero, List.set_cons_succ, i64_w, i32_w]
      rfl
    refine last_ (i := 7) (N := (some 25)) #[true, true, true, true, true, true, true, true, false, false] rfl rfl (one_of HT_.out (by kernel_rfl)) (by decide) (fun K hK => ?_)
    refine goes_ Try.func30 (by kernel_rfl) rfl #[.pointer (some ⟨p, 0, none⟩), .int .i64 x.f1, .slice A2 x.f5.length c2] (by rfl) rfl rfl (by simp only [List.map_toArray, List.map_cons, List.map_nil]; rfl) ?_
    with_reducible refine (put_any H2.out (Nat.le_trans hB HB2'.out.size) HG.out x.f1 A2 c2 x.f5 _ HF2.out ?_ hl l2).mono ?_
    · intro k hk
      have hk1 : w1.heap.size ≤ k := hk
      have hw1 := HB0.out.size
      exact ⟨by omega, fun e => by have := HV.out k e.symm; omega⟩
    rintro e w3 ⟨n, L', hR, rfl, v', h1, h2⟩
    refine ⟨_, rfl, ?_⟩
    have HR := Aside0.mk hR
    have H3 := Aside0.mk h1
    have M3 := Aside0.mk (h2.after hpl HV.out HB2'.out hB)
    clear hR h1 h2
    refine hK.out _ _ ?_
    clear hK K
    refine norm_ (a' := ?_) ?_ ?_
    rotate_left
    · show Act.put _ (some 25) _ = _
      simp only [Act.put, List.setIfInBounds_toArray, List.set_cons_zero, List.set_cons_succ, i64_w, i32_w]
      rfl
    refine pure_ (i := 8) (N := (some 4)) (v := ?_) (a' := ?_) #[true, true, true, true, true, true, true, true, true, false] rfl rfl (any_of HT_.out (by kernel_rfl)) (fun _ _ _ h => h) (Or.inl ⟨by rfl, ?_⟩) ?_ ?_
    rotate_left
    · intro w'
      go_simp
      with_reducible rfl
    rotate_left
    · simp only [Act.put, List.setIfInBounds_toArray, List.set_cons_zero, List.set_cons_succ, i64_w, i32_w]
      rfl
    refine pure_ (i := 9) (N := (some 5)) (v := ?_) (a' := ?_) #[true, true, true, true, true, true, true, true, true, true] rfl rfl (any_of HT_.out (by kernel_rfl)) (fun _ _ _ h => h) (Or.inl ⟨by rfl, ?_⟩) ?_ ?_
    rotate_left
    · intro w'
      go_simp
      with_reducible rfl
    rotate_left
    · simp only [Act.put, List.setIfInBounds_toArray, List.set_cons_zero, List.set_cons_succ, i64_w, i32_w]
      rfl
    refine done_ (done_of HT_.out (by kernel_rfl)) ?_
    go_wp2
    go_ret2
    exact ⟨0, n, L', .inr (.inl ⟨hE.out, rfl, HR.out⟩), rfl, v', H3.out, M3.out⟩
  have t1 := beqF e1
  by_cases e2 : x.f0 = 2
  · have hE := Aside0.mk e2
    have t2 : (x.f0 == 2) = true := by simp [e2]
    clear e0 e1 e2
    go_enter Try.func19, Try.ntmps19
    go_wp2_with fail
    refine (tie_any H1.out (Nat.le_trans hB HB0.out.size) HG.out x.f1 x.f2).mono ?_
    rintro e w' ⟨n, L', hR, rfl, v', h1, h2⟩
    have HR := Aside0.mk hR
    have H2 := Aside0.mk h1
    have M2 := Aside0.mk (h2.after hpl HV.out HB0.out hB)
    clear hR h1 h2
    go_wp2
    go_ret2
    exact ⟨0, n, L', .inr (.inr (.inl ⟨hE.out, rfl, HR.out⟩)), rfl, v', H2.out, M2.out⟩
  have t2 := beqF e2
  by_cases e3 : x.f0 = 3
  · have hE := Aside0.mk e3
    have t3 : (x.f0 == 3) = true := by simp [e3]
    clear e0 e1 e2 e3
    go_enter Try.func19, Try.ntmps19
    go_wp2_with fail
    refine (name_any H1.out (Nat.le_trans hB HB0.out.size) HG.out x.f1 x.f3).mono ?_
    rintro e w' ⟨n, L', hR, rfl, v', h1, h2⟩
    have HR := Aside0.mk hR
    have H2 := Aside0.mk h1
    have M2 := Aside0.mk (h2.after hpl HV.out HB0.out hB)
    clear hR h1 h2
    go_wp2
    go_ret2
    exact ⟨0, n, L', .inr (.inr (.inr (.inl ⟨hE.out, rfl, HR.out⟩))), rfl, v', H2.out, M2.out⟩
  have t3 := beqF e3
  by_cases e4 : x.f0 = 4
  · have hE := Aside0.mk e4
    have t4 : (x.f0 == 4) = true := by simp [e4]
    clear e0 e1 e2 e3 e4
    go_enter Try.func19, Try.ntmps19
    go_wp2_with fail
    refine (want_any H1.out (Nat.le_trans hB HB0.out.size) HG.out x.f1 x.f3).mono ?_
    rintro e w' ⟨n, L', hR, rfl, v', h1, h2⟩
    have HR := Aside0.mk hR
    have H2 := Aside0.mk h1
    have M2 := Aside0.mk (h2.after hpl HV.out HB0.out hB)
    clear hR h1 h2
    go_wp2
    go_ret2
    exact ⟨0, n, L', .inr (.inr (.inr (.inr (.inl ⟨hE.out, rfl, HR.out⟩)))), rfl, v', H2.out, M2.out⟩
  have t4 := beqF e4
  have hE : Aside0 (x.f0 < 0 ∨ 4 < x.f0) := ⟨by omega⟩
  clear e0 e1 e2 e3 e4
  go_enter Try.func19, Try.ntmps19
  go_wp2
  go_ret2
  exact ⟨0, 0, L, .inr (.inr (.inr (.inr (.inr ⟨hE.out, rfl, rfl, rfl⟩)))), rfl, v, H1.out, FMoved.of_below hB HB0.out⟩
end Go.Proofs.Ytbkpgbhdfdifoaa
