/- Forest.Put sets the children of a node. -/
import Derived.Test.YtbkpgbhdfdifoaaG
import Derived.Laws.CopyOwn
namespace Go.Proofs.Ytbkpgbhdfdifoaa
open Go.RowKit Go.Proofs.YtbkpgbhdfdifoaaW.PrintWords Go.Proofs.YtbkpgbhdfdifoaaW.PrintLast Go.Proofs.YtbkpgbhdfdifoaaW.PrintMore
set_option linter.unusedVariables false
set_option linter.unusedSimpArgs false

theorem contains_n (A : Option Addr) (n c : Nat) (l : List Int) (hl : l.length = n) (x : Int) (w : World) (hr : (Kd.int .i64).C w A n l) (hn : n ≤ 1000) :
    Calls Try.prog 86 #[.slice A n c, .int .i64 x] w fun e w' => e = .returned (.bool (decide (x ∈ l))) ∧ w = w' := by
  subst hl
  exact contains_any A c l x w hr hn
theorem C_take {w : World} {A : Option Addr} {l : List Int} {n k : Nat} (h : (Kd.int .i64).C w A n l) (hk : k ≤ n) : (Kd.int .i64).C w A k (l.take k) := by
  obtain ⟨h1, h2, h3⟩ := h
  refine ⟨by rw [List.length_take]; omega, by omega, fun hp => ?_⟩
  obtain ⟨ad, e, hc⟩ := h3 (by omega)
  refine ⟨ad, e, fun j p hj => hc j p ?_⟩
  rw [List.getElem?_take] at hj
  split at hj
  · exact hj
  · cases hj

theorem at_n {B : Nat} {w : World} {p g n cap : Nat} {L : List S33} (h : FV B w p (.slice (some ⟨g, 0, none⟩) n cap) L) (hl : L.length = n) (id : Int) (hid : Th L id) (hn : n ≤ 1000) :
    Calls Try.prog 83 #[.pointer (some ⟨p, 0, none⟩), .int .i64 id] w fun e w' => e = .returned (.pointer (some ⟨g, (id.toNat - 1) * 9, none⟩)) ∧ w = w' := by
  subst hl
  exact at_yes h id hid hn
theorem FV.elem_n {B : Nat} {w : World} {p g n cap : Nat} {L : List S33} (h : FV B w p (.slice (some ⟨g, 0, none⟩) n cap) L) (hl : L.length = n) {id : Int} (hid : Th L id) :
    ∃ A8 c8, (nd L id).f8.length ≤ c8 ∧ Kd.F (Kd.int .i64) w (fun k => k ≠ p ∧ k ≠ g) A8 (nd L id).f8.length (nd L id).f8 ∧
      (∀ j u, ([.int .i64 (nd L id).f0, .int .i64 (nd L id).f1, .int .i64 (nd L id).f2, .int .i64 (nd L id).f3, .int .i64 (nd L id).f4, .bool (nd L id).f5, .string (nd L id).f6, .string (nd L id).f7, .slice A8 (nd L id).f8.length c8] : List Value)[j]? = some u → w.cell? ⟨g, (id.toNat - 1) * 9 + j, none⟩ = some u) ∧
      (∀ j, w.frozen? ⟨g, (id.toNat - 1) * 9 + j, none⟩ = false) := by
  subst hl
  exact h.elem hid
theorem FV.store1_n {B : Nat} {w : World} {p g n cap : Nat} {L : List S33} (h : FV B w p (.slice (some ⟨g, 0, none⟩) n cap) L) (hl : L.length = n) {id : Int} (hid : Th L id) (q : Int) :
    FV B (w.setCell ⟨g, (id.toNat - 1) * 9 + 1, none⟩ (.int .i64 q)) p (.slice (some ⟨g, 0, none⟩) n cap) (setN L id { nd L id with f1 := q }) ∧ w.grownBy (w.setCell ⟨g, (id.toNat - 1) * 9 + 1, none⟩ (.int .i64 q)) (some g) := by
  subst hl
  exact h.store1 hid q
theorem FV.store8_n {B : Nat} {w : World} {p g n cap : Nat} {L : List S33} (h : FV B w p (.slice (some ⟨g, 0, none⟩) n cap) L) (hl : L.length = n) {id : Int} (hid : Th L id)
    (A : Option Addr) (c : Nat) (l : List Int) (hlc : l.length ≤ c) (hF : Kd.F (Kd.int .i64) w (fun k => k ≠ p ∧ k ≠ g) A l.length l) :
    FV B (w.setCell ⟨g, (id.toNat - 1) * 9 + 8, none⟩ (.slice A l.length c)) p (.slice (some ⟨g, 0, none⟩) n cap) (setN L id { nd L id with f8 := l }) ∧ w.grownBy (w.setCell ⟨g, (id.toNat - 1) * 9 + 8, none⟩ (.slice A l.length c)) (some g) := by
  subst hl
  exact h.store8 hid A c l hlc hF
/-- Only p and g have turned. -/
def Only (B : Nat) (w w' : World) (p g : Nat) : Prop := Kept w w' (fun k => k = p ∨ k = g) ∧ Below B w w'
theorem Only.refl (B : Nat) (w : World) (p g : Nat) : Only B w w p g := ⟨Kept.refl _ _, Below.refl _ _⟩
theorem Only.set {B : Nat} {w w' : World} {p g : Nat} (h : Only B w w' p g) (hB : B ≤ g) (o : Nat) (u : Value) : Only B w (w'.setCell ⟨g, o, none⟩ u) p g :=
  ⟨h.1.setCell (.inl (.inr rfl)) _, h.2.setCell hB _⟩
theorem Only.F {B : Nat} {w w' : World} {p g : Nat} (h : Only B w w' p g) {ok : Nat → Prop} {A : Option Addr} {n : Nat} {l : List Int} (hF : Kd.F (Kd.int .i64) w ok A n l) (hok : ∀ k, ok k → k ≠ p ∧ k ≠ g) : Kd.F (Kd.int .i64) w' ok A n l :=
  Kd.F_kept hF h.1 (fun k hk => by have := hok k hk; omega)

theorem map_step {L : List S33} {K : List Int} {k : Nat} {x : Int} (hk : k < K.length) (hx : x = K[k]) (hT : Th L x) (a : Int) (f : Int → S33 → Int) :
    setN (mapN L fun id y => { y with f1 := if id ∈ K.take k then a else f id y }) x { nd (mapN L fun id y => { y with f1 := if id ∈ K.take k then a else f id y }) x with f1 := a } =
      mapN L fun id y => { y with f1 := if id ∈ K.take (k + 1) then a else f id y } := by
  rw [setN_mapN hT]
  refine mapN_congr fun id hid => ?_
  have hm : id ∈ K.take (k + 1) ↔ id ∈ K.take k ∨ id = x := by
    rw [List.take_add_one, List.getElem?_eq_getElem hk, List.mem_append, hx]; simp
  by_cases e : id = x
  · subst e
    have h2 : id ∈ K.take (k + 1) := hm.2 (.inr rfl)
    rw [if_pos rfl, nd_mapN hid, if_pos h2]
  · rw [if_neg e]
    by_cases h2 : id ∈ K.take k
    · rw [if_pos h2, if_pos (hm.2 (.inl h2))]
    · rw [if_neg h2, if_neg (fun h => (hm.1 h).elim h2 e)]

theorem make_ints (n : Nat) (hn : n ≤ 1000) (W : World) :
    (Instr.makeSlice 31 (.int .i64 (n : Int)) (.int .i64 (n : Int))).run Try.prog W = .ok (.slice (some ⟨W.heap.size, 0, none⟩) n n) (W.alloc (.cells (madeCells #[.int .i64 0] n) 3)) := by
  obtain ⟨i0, hi, hzz⟩ := Option.map_eq_some_iff.1 (show (Try.prog.info? 3).map (fun i => (i.zero, i.size, i.bytes)) = some (some (.int .i64 0), 1, 8) from by kernel_rfl)
  simp only [Prod.mk.injEq] at hzz
  obtain ⟨hz0, hz1, hz2⟩ := hzz
  have hr := run_make (P := Try.prog) W 31 3 i0 (.int .i64 0) Try.underlying31 hi hz0 .i64 .i64 (n : Int) (n : Int) (by omega) (by omega)
    (by rw [hz2]; omega) (by omega)
  simp only [Int.toNat_natCast] at hr
  rw [hz1, Nat.mul_one] at hr
  exact hr
theorem copy_ints {W : World} {b n : Nat} {cur : Array Value} (hb : W.heap[b]? = some (.cells cur 3 (0, 0))) (hcur : cur.size = n) (kids : List Int) (hl : kids.length = n) (A : Option Addr) (c : Nat) (hC : (Kd.int .i64).C W A n kids) :
    ∃ W6, (Builtin.copy_ #[31, 31] 3 #[.slice (some ⟨b, 0, none⟩) n n, .slice A n c]).run Try.prog W = .ok (.int .i64 (n : Int)) W6 ∧ W6.heap[b]? = some (.cells (kids.map (Value.int .i64)).toArray 3 (0, 0)) ∧ W.grownBy W6 (some b) := by
  rcases Nat.eq_zero_or_pos n with h0 | hp
  · subst h0
    refine ⟨W, run_copy_none W 31 31 3 3 _ _ 0 0 0 c Try.underlying31 (by kernel_rfl) rfl, ?_, World.grownBy.refl W _⟩
    rw [hb]
    have e1 : kids = [] := List.eq_nil_of_length_eq_zero hl
    have e2 : cur = #[] := Array.eq_empty_of_size_eq_zero hcur
    rw [e1, e2]
    rfl
  · obtain ⟨ad, rfl, hc⟩ := hC.2.2 hp
    have hkl : (kids.map (Value.int .i64)).length = n := by simp [hl]
    have hsrc : ∀ j u, (kids.map (Value.int .i64))[j]? = some u → W.cell? (ad.add j) = some u := by
      intro j u hu
      rw [List.getElem?_map] at hu
      obtain ⟨x, hx, rfl⟩ := Option.map_eq_some_iff.1 hu
      obtain ⟨cs, h1, h2, h3⟩ := hc j x hx
      have h2' : cs = [Value.int .i64 x] := h2
      subst h2'
      have := h3 0 _ rfl
      have e : (Kd.int .i64).sz = 1 := rfl
      rw [e, Nat.mul_one, Nat.add_zero] at this
      exact this
    have hr := run_copy_cells (P := Try.prog) W 31 31 3 3 b 0 n n ad n c (kids.map (Value.int .i64)) Try.underlying31 (by kernel_rfl) (by rw [hkl]; exact (Nat.min_self n).symm) hsrc
      (fun j hj => by rw [cell_of_row W b _ cur 3 (0, 0) hb]; simp; omega) (fun j _ => blk_frozen hb _) (by intro u hu; simp only [List.mem_map] at hu; obtain ⟨q, _, rfl⟩ := hu; rfl)
    obtain ⟨cur', h3, h4, h5⟩ := setCells_row (kids.map (Value.int .i64)) 0 W cur hb (by rw [hkl]; omega)
    obtain ⟨s1, s2, s3, s4⟩ := setCells_same b (kids.map (Value.int .i64)) 0 W
    rw [hkl] at hr
    refine ⟨_, hr, ?_, ⟨s1, s2, s3, by rw [s4]; exact Nat.le_refl _, fun k _ hk => setCells_far _ _ k (fun he => hk (by rw [he]))⟩⟩
    rw [h3]
    have e5 : cur'.toList = kids.map (Value.int .i64) := by
      rw [hkl] at h5
      rw [List.take_zero, List.nil_append, Nat.zero_add] at h5
      rw [← List.take_of_length_le (l := cur'.toList) (i := n) (by rw [Array.length_toList]; omega)]
      rw [h5, List.take_append_of_le_length (by rw [hkl]; omega), ← hkl, List.take_length]
    rw [← e5]
theorem FV.heap {B : Nat} {w w1 : World} {p : Nat} {v : Value} {L : List S33} (h : FV B w p v L) (he : ∀ k, k < w.heap.size → w1.heap[k]? = w.heap[k]?) : FV B w1 p v L :=
  ⟨(he p (blk_lt' h.1)).trans h.1, h.2.1, Kd.N_step h.2.2 (fun k _ hk => he k hk)⟩
theorem ints_F {W : World} {b : Nat} {l : List Int} {cs : Array Value} (hb : W.heap[b]? = some (.cells cs 3 (0, 0))) (hcs : cs = (l.map (Value.int .i64)).toArray) (hl : l.length ≤ 1000) (ok : Nat → Prop) (hok : ok b) :
    Kd.F (Kd.int .i64) W ok (some ⟨b, 0, none⟩) l.length l := by
  intro W' hW
  refine ⟨rfl, by omega, fun hp => ⟨_, rfl, fun j x hj => ⟨[.int .i64 x], rfl, rfl, fun i u hi => ?_⟩⟩⟩
  have hW' : W'.heap[b]? = some (.cells cs 3 (0, 0)) := (hW b hok (blk_lt' hb)).trans hb
  rcases i with _ | i
  · simp at hi
    subst hi
    subst hcs
    have := blk_cell hW' j
    have e : (Kd.int .i64).sz = 1 := rfl
    simpa [add_at, hj, e] using this
  · simp at hi

theorem relink_of {L : List S33} (hg : Good L) {parent : Int} (hp : Th L parent) (kids : List Int) {M : List S33}
    (hM : M = mapN L fun id x => { x with f1 := if id ∈ kids then parent else if id ∈ (nd L parent).f8 then 0 else x.f1 }) :
    setN M parent { nd M parent with f8 := kids } = relink L parent kids := by
  subst hM
  rw [setN_mapN hp]
  refine mapN_congr fun id hid => ?_
  have hm : id ∈ (nd L parent).f8 ↔ (nd L id).f1 = parent := by
    constructor
    · intro h; exact (hg.kid parent hp id h).2
    · intro h
      have := hg.par id hid (by rw [h]; have := hp.1; omega)
      rw [h] at this
      exact this.2
  by_cases e : id = parent
  · subst e
    rw [if_pos rfl, nd_mapN hid, if_pos rfl]
    simp only [hm]
  · rw [if_neg e, if_neg e]
    simp only [hm]
theorem put_heap {wr W6 : World} {g b off : Nat} {cs9 cz ck : Array Value} {v1 : Value} (hb : b = wr.heap.size) (hg : wr.heap[g]? = some (.cells cs9 33 (0, 0))) (hh : W6.heap[b]? = some (.cells ck 3 (0, 0)))
    (hgr : ((wr.alloc (.cells cz 3)).setCell ⟨g, off, none⟩ v1).grownBy W6 (some b)) (k : Nat) (hk : k < ((wr.alloc (.cells ck 3)).setCell ⟨g, off, none⟩ v1).heap.size) :
    W6.heap[k]? = ((wr.alloc (.cells ck 3)).setCell ⟨g, off, none⟩ v1).heap[k]? := by
  have hlt := blk_lt' hg
  have hk' : k < wr.heap.size + 1 := by simpa using hk
  by_cases e : k = b
  · subst e
    rw [hh]
    subst hb
    exact (blk_far (heap_alloc_new wr (.cells ck 3)) (by show wr.heap.size ≠ g; omega) v1).symm
  · rw [hgr.block k (by simpa using hk') (fun h => e (by simpa using h))]
    by_cases e2 : k = g
    · subst e2
      rw [blk_set (blk_alloc hg _), blk_set (blk_alloc hg _)]
    · rw [Below.heap_setCell _ ⟨g, off, none⟩ v1 k e2, Below.heap_setCell _ ⟨g, off, none⟩ v1 k e2]
      rw [Below.heap_alloc _ _ k (by omega), Below.heap_alloc _ _ k (by omega)]

def PutPost (B : Nat) (w : World) (p : Nat) (v : Value) (L : List S33) (parent : Int) (kids : List Int) (e : Ending) (w' : World) : Prop :=
  ∃ n L', PutR L parent kids n L' ∧ e = .returned (.int .i64 n) ∧ ∃ v', FV B w' p v' L' ∧ FMoved B w w' p v v'
theorem PutPost.same {B : Nat} {w : World} {p : Nat} {v : Value} {L : List S33} {parent : Int} {kids : List Int} {n : Int} (h : FV B w p v L) (hB : B ≤ w.heap.size) (hR : PutR L parent kids n L) :
    PutPost B w p v L parent kids (.returned (.int .i64 n)) w := ⟨n, L, hR, rfl, v, h, FMoved.of_below hB (Below.refl _ _)⟩

set_option maxRecDepth 100000 in
set_option maxHeartbeats 400000 in
theorem put_no {B : Nat} {w : World} {p : Nat} {v : Value} {L : List S33} (h : FV B w p v L) (hB : B ≤ w.heap.size) (parent : Int) (hp : ¬ Th L parent) (A : Option Addr) (n c : Nat) (kids : List Int) :
    Calls Try.prog 30 #[.pointer (some ⟨p, 0, none⟩), .int .i64 parent, .slice A n c] w (PutPost B w p v L parent kids) := by
  have HR := Aside0.mk (PutPost.same (kids := kids) h hB (.inl ⟨hp, rfl, rfl⟩))
  go_enter Try.func30, Try.ntmps30
  go_wp2_with fail
  refine (at_no h parent hp).mono ?_
  rintro e w' ⟨rfl, rfl⟩
  go_wp2
  go_ret
  exact HR.out

set_option maxRecDepth 100000 in
set_option maxHeartbeats 1000000 in
theorem put_th {B : Nat} {w : World} {p g cap : Nat} {L : List S33} (h : FV B w p (.slice (some ⟨g, 0, none⟩) L.length cap) L) (hB : B ≤ w.heap.size) (hg : Good L) (parent : Int) (hp : Th L parent)
    (A : Option Addr) (c : Nat) (kids : List Int) (ok : Nat → Prop) (hF : Kd.F (Kd.int .i64) w ok A kids.length kids) (hok : ∀ k, ok k → k ≠ p ∧ k ≠ g) (hkl : kids.length ≤ 1000) (hcap : kids.length ≤ c) :
    Calls Try.prog 30 #[.pointer (some ⟨p, 0, none⟩), .int .i64 parent, .slice A kids.length c] w (PutPost B w p (.slice (some ⟨g, 0, none⟩) L.length cap) L parent kids) := by
  have hn : L.length ≤ 1000 := by have := hg.len; omega
  obtain ⟨r, hr⟩ := hg.rank
  have H := Aside0.mk h
  have HG := Aside0.mk hg
  have HP := Aside0.mk hp
  have HF := Aside0.mk hF
  have HO := Aside0.mk hok
  have HRk := Aside0.mk hr
  clear h hg hp hF hok hr
  go_enter Try.func30, Try.ntmps30
  go_wp2_with fail
  refine (at_yes H.out parent HP.out hn).mono ?_
  rintro e w' ⟨rfl, rfl⟩
  go_wp2_with fail
  go_loop [24] (fun i => ∃ k : Nat, i = .int .i64 k ∧ k ≤ kids.length ∧ Aside0 (∀ j (hj : j < kids.length), j < k → Th L kids[j] ∧ kids[j] ∉ kids.take j)) (fun i => kids.length - (intOf i).toNat)
  case atStart => exact ⟨0, rfl, by omega, ⟨fun j hj h => absurd h (by omega)⟩⟩
  case round =>
    obtain ⟨k, rfl, hk, HI⟩ := hrel
    by_cases hlt : k < kids.length
    · obtain ⟨ad, eA, hc⟩ := int_at (Kd.F_now HF.out) hlt
      have p1 : (0 : Int) ≤ (k : Int) := by omega
      have p2 : (k : Int) < (kids.length : Int) := by omega
      have p3 : (k : Int) ≤ (c : Int) := by omega
      obtain ⟨x, hx⟩ : ∃ x, x = kids[k] := ⟨_, rfl⟩
      rw [← hx] at hc
      have HX := Aside0.mk hx
      clear hx
      have HCt := Aside0.mk (C_take (Kd.F_now HF.out) (show k ≤ kids.length by omega))
      subst eA
      by_cases hT : Th L x
      · have HT := Aside0.mk hT
        clear hT
        go_wp2_with fail
        refine (at_yes H.out x HT.out hn).mono ?_
        rintro e w' ⟨rfl, rfl⟩
        go_wp2_with fail
        refine (contains_n (some ad) k c (kids.take k) (by rw [List.length_take]; omega) x _ HCt.out (by omega)).mono ?_
        rintro e w' ⟨rfl, rfl⟩
        by_cases hm : x ∈ kids.take k
        · have HM := Aside0.mk hm
          have hd : decide (x ∈ kids.take k) = true := decide_eq_true hm
          clear hm
          go_wp2
          go_ret
          refine PutPost.same H.out hB (.inr (.inl ⟨HP.out, fun hk => ?_, rfl, rfl⟩))
          exact not_nodup_take hlt (by rw [← HX.out]; exact HM.out) hk.2
        · have HM := Aside0.mk hm
          have hd : decide (x ∈ kids.take k) = false := decide_eq_false hm
          clear hm
          go_wp2
          go_round
          case rel =>
            refine ⟨k + 1, by go_num, by omega, ⟨fun j hj h => ?_⟩⟩
            by_cases ej : j = k
            · subst ej; rw [← HX.out]; exact ⟨HT.out, HM.out⟩
            · exact HI.out j hj (by omega)
          case measure => simp [intOf]; omega
      · have HT := Aside0.mk hT
        clear hT
        go_wp2_with fail
        refine (at_no H.out x HT.out).mono ?_
        rintro e w' ⟨rfl, rfl⟩
        go_wp2
        go_ret
        refine PutPost.same H.out hB (.inr (.inl ⟨HP.out, fun hk => ?_, rfl, rfl⟩))
        exact HT.out (HX.out ▸ hk.1 _ (List.getElem_mem hlt))
    · have hko : KidsOk L kids := ⟨fun x hx => by
          obtain ⟨j, hj, rfl⟩ := List.mem_iff_getElem.1 hx
          exact (HI.out j hj (by omega)).1, nodup_take fun j hj => (HI.out j hj (by omega)).2⟩
      have HK := Aside0.mk hko
      clear hko HI
      go_wp2_with fail
      go_loop [43] (fun i => ∃ k : Nat, i = .int .i64 k ∧ k ≤ kids.length ∧ Aside0 (∀ j (hj : j < kids.length), j < k → KidOk L parent kids[j])) (fun i => kids.length - (intOf i).toNat)
      case atStart => exact ⟨0, rfl, by omega, ⟨fun j hj h => absurd h (by omega)⟩⟩
      case round =>
        obtain ⟨k2, rfl, hk2, HI⟩ := hrel
        by_cases hlt2 : k2 < kids.length
        · obtain ⟨ad, eA, hc⟩ := int_at (Kd.F_now HF.out) hlt2
          have p1 : (0 : Int) ≤ (k2 : Int) := by omega
          have p2 : (k2 : Int) < (kids.length : Int) := by omega
          have hT := HK.out.1 _ (List.getElem_mem hlt2)
          obtain ⟨x, hx⟩ : ∃ x, x = kids[k2] := ⟨_, rfl⟩
          rw [← hx] at hc hT
          have HX := Aside0.mk hx
          have HT := Aside0.mk hT
          clear hx hT
          subst eA
          obtain ⟨A8, c8, l8, F8, hcc, hfr⟩ := H.out.elem HT.out
          have e0 := hcc 0 _ rfl
          have e1 := hcc 1 _ rfl
          rw [Nat.add_zero] at e0
          clear hcc hfr l8 F8
          obtain ⟨y, hy⟩ : ∃ y, y = nd L x := ⟨_, rfl⟩
          rw [← hy] at e0 e1
          have HY := Aside0.mk hy
          clear hy
          go_wp2_with fail
          refine (at_yes H.out x HT.out hn).mono ?_
          rintro e w' ⟨rfl, rfl⟩
          go_wp2_with fail
          refine (at_yes H.out x HT.out hn).mono ?_
          rintro e w' ⟨rfl, rfl⟩
          go_wp2_with fail
          refine (rooted_any _ _ y _ e0).mono ?_
          rintro e w' ⟨rfl, rfl⟩
          have hbad : ¬ KidOk L parent x → PutPost B w p (.slice (some ⟨g, 0, none⟩) L.length cap) L parent kids (.returned (.int .i64 3)) w := fun hk =>
            PutPost.same H.out hB (.inr (.inr (.inl ⟨HP.out, HK.out, ⟨x, by rw [HX.out]; exact List.getElem_mem hlt2, hk⟩, rfl, rfl⟩)))
          have HBad := Aside0.mk hbad
          clear hbad
          cases hrt : rootedB y with
          | true =>
            have HRT := Aside0.mk hrt
            clear hrt
            go_wp2_with fail
            go_ret
            exact HBad.out (fun hk => by rw [KidOk, ← HY.out, HRT.out] at hk; exact absurd hk.1 (by decide))
          | false =>
            have HRT := Aside0.mk hrt
            clear hrt
            go_wp2_with fail
            refine (above_any H.out hn r HRk.out x parent HP.out).mono ?_
            rintro e w' ⟨bb, rfl, hbb, rfl⟩
            have HBB := Aside0.mk hbb
            clear hbb
            cases bb with
            | true =>
              go_wp2
              go_ret
              exact HBad.out (fun hk => hk.2.1 (HBB.out.1 (by simp)))
            | false =>
              by_cases f0 : y.f1 = 0
              · have HF0 := Aside0.mk f0
                have hb0 : (y.f1 != 0) = false := by simp [f0]
                clear f0
                go_wp2
                go_round
                case rel =>
                  refine ⟨k2 + 1, by go_num, by omega, ⟨fun j hj h => ?_⟩⟩
                  by_cases ej : j = k2
                  · subst ej
                    rw [← HX.out]
                    exact ⟨by rw [← HY.out]; exact HRT.out, fun hA => absurd (HBB.out.2 hA) (by decide), .inl (by rw [← HY.out]; exact HF0.out)⟩
                  · exact HI.out j hj (by omega)
                case measure => simp [intOf]; omega
              · have hb0 := bneT f0
                have HF0 := Aside0.mk f0
                clear f0
                by_cases f1 : y.f1 = parent
                · have HF1 := Aside0.mk f1
                  have hb1 : (y.f1 != parent) = false := by simp [f1]
                  clear f1
                  go_wp2
                  go_round
                  case rel =>
                    refine ⟨k2 + 1, by go_num, by omega, ⟨fun j hj h => ?_⟩⟩
                    by_cases ej : j = k2
                    · subst ej
                      rw [← HX.out]
                      exact ⟨by rw [← HY.out]; exact HRT.out, fun hA => absurd (HBB.out.2 hA) (by decide), .inr (by rw [← HY.out]; exact HF1.out)⟩
                    · exact HI.out j hj (by omega)
                  case measure => simp [intOf]; omega
                · have hb1 := bneT f1
                  have HF1 := Aside0.mk f1
                  clear f1
                  go_wp2
                  go_ret
                  refine HBad.out (fun hk => ?_)
                  rcases hk.2.2 with h | h
                  · exact HF0.out (by rw [HY.out]; exact h)
                  · exact HF1.out (by rw [HY.out]; exact h)
        · have hko2 : ∀ x ∈ kids, KidOk L parent x := fun x hx => by
            obtain ⟨j, hj, rfl⟩ := List.mem_iff_getElem.1 hx
            exact HI.out j hj (by omega)
          have HK2 := Aside0.mk hko2
          clear hko2 HI
          obtain ⟨A8, c8, l8, F8, hcc, hfr⟩ := H.out.elem HP.out
          have e8 := hcc 8 _ rfl
          clear hcc hfr
          obtain ⟨K0, hK0⟩ : ∃ K0, K0 = (nd L parent).f8 := ⟨_, rfl⟩
          rw [← hK0] at e8 l8 F8
          have HK0 := Aside0.mk hK0
          have HF8 := Aside0.mk F8
          have hl0 : K0.length ≤ 128 := by rw [hK0]; exact HG.out.kids_le HP.out
          have hgB : B ≤ g := Kd.N_base H.out.2.2 g (by simp [Value.ownBlock])
          clear hK0 F8
          go_wp2_with fail
          go_loopw [78] (fun i wr => ∃ k : Nat, i = .int .i64 k ∧ k ≤ K0.length ∧ Aside0 (FV B wr p (.slice (some ⟨g, 0, none⟩) L.length cap) (mapN L fun id x => { x with f1 := if id ∈ K0.take k then 0 else x.f1 })) ∧ Aside0 (Only B w wr p g)) (fun i _ => K0.length - (intOf i).toNat)
          case atStart => exact ⟨0, rfl, by omega, ⟨by simp only [List.take_zero, List.not_mem_nil, if_false]; rw [mapN_id]; exact H.out⟩, ⟨Only.refl _ _ _ _⟩⟩
          case round =>
            obtain ⟨k3, rfl, hk3, HFV, HOn⟩ := hrel
            have HFl := Aside0.mk (HOn.out.F HF8.out (fun _ h => h))
            by_cases hlt3 : k3 < K0.length
            · obtain ⟨ad, eA, hc⟩ := int_at (Kd.F_now HFl.out) hlt3
              have p1 : (0 : Int) ≤ (k3 : Int) := by omega
              have p2 : (k3 : Int) < (K0.length : Int) := by omega
              obtain ⟨x, hx⟩ : ∃ x, x = K0[k3] := ⟨_, rfl⟩
              rw [← hx] at hc
              have hT : Th L x := (HG.out.kid parent HP.out x (by rw [hx, ← HK0.out]; exact List.getElem_mem hlt3)).1
              have HT := Aside0.mk hT
              have HX := Aside0.mk hx
              clear hx hT
              subst eA
              have hS := HFV.out.store1_n (length_mapN _ _) (Th_mapN.2 HT.out) 0
              obtain ⟨A9, c9, l9, F9, hcc, hfr⟩ := HFV.out.elem_n (length_mapN _ _) (Th_mapN.2 HT.out)
              have y1 := hcc 1 _ rfl
              have f1 := hfr 1
              have HS := Aside0.mk (hS.1)
              clear hS hcc hfr l9 F9
              go_wp2_with fail
              refine (at_n HFV.out (length_mapN _ _) x (Th_mapN.2 HT.out) hn).mono ?_
              rintro e w' ⟨rfl, rfl⟩
              go_wp2
              go_round
              case rel =>
                refine ⟨k3 + 1, by go_num, by omega, ⟨?_⟩, ⟨HOn.out.set hgB _ _⟩⟩
                exact (congrArg (fun l => FV B _ p _ l) (map_step hlt3 HX.out HT.out 0 (fun _ y => y.f1))).mp HS.out
              case measure => simp [intOf]; omega
            · have hkk : k3 = K0.length := by omega
              subst hkk
              rw [List.take_length] at HFV
              go_wp2_with fail
              go_loopw [90] (fun i wr => ∃ k : Nat, i = .int .i64 k ∧ k ≤ kids.length ∧ Aside0 (FV B wr p (.slice (some ⟨g, 0, none⟩) L.length cap) (mapN L fun id x => { x with f1 := if id ∈ kids.take k then parent else if id ∈ K0 then 0 else x.f1 })) ∧ Aside0 (Only B w wr p g)) (fun i _ => kids.length - (intOf i).toNat)
              case atStart => exact ⟨0, rfl, by omega, ⟨by simp only [List.take_zero, List.not_mem_nil, if_false]; exact HFV.out⟩, HOn⟩
              case round =>
                clear HFV HOn HFl
                obtain ⟨k4, rfl, hk4, HFV, HOn⟩ := hrel
                have HFl := Aside0.mk (HOn.out.F HF.out HO.out)
                by_cases hlt4 : k4 < kids.length
                · obtain ⟨ad, eA, hc⟩ := int_at (Kd.F_now HFl.out) hlt4
                  have p1 : (0 : Int) ≤ (k4 : Int) := by omega
                  have p2 : (k4 : Int) < (kids.length : Int) := by omega
                  have hT := HK.out.1 _ (List.getElem_mem hlt4)
                  obtain ⟨x, hx⟩ : ∃ x, x = kids[k4] := ⟨_, rfl⟩
                  rw [← hx] at hc hT
                  have HT := Aside0.mk hT
                  have HX := Aside0.mk hx
                  clear hx hT
                  subst eA
                  have hS := HFV.out.store1_n (length_mapN _ _) (Th_mapN.2 HT.out) parent
                  obtain ⟨A9, c9, l9, F9, hcc, hfr⟩ := HFV.out.elem_n (length_mapN _ _) (Th_mapN.2 HT.out)
                  have y1 := hcc 1 _ rfl
                  have f1 := hfr 1
                  have HS := Aside0.mk (hS.1)
                  clear hS hcc hfr l9 F9
                  go_wp2_with fail
                  refine (at_n HFV.out (length_mapN _ _) x (Th_mapN.2 HT.out) hn).mono ?_
                  rintro e w' ⟨rfl, rfl⟩
                  go_wp2
                  go_round
                  case rel =>
                    refine ⟨k4 + 1, by go_num, by omega, ⟨?_⟩, ⟨HOn.out.set hgB _ _⟩⟩
                    exact (congrArg (fun l => FV B _ p _ l) (map_step hlt4 HX.out HT.out parent (fun id y => if id ∈ K0 then 0 else y.f1))).mp HS.out
                  case measure => simp [intOf]; omega
                · have hkk : k4 = kids.length := by omega
                  subst hkk
                  rw [List.take_length] at HFV
                  have hg3 := HFV.out.2.2
                  obtain ⟨cs9, hcs9⟩ := Kd.N_typed hg3 g (by simp [Value.ownBlock])
                  have hmk := make_ints kids.length hkl
                  obtain ⟨A9, c9, l9, F9, hcc, hfr⟩ := HFV.out.elem_n (length_mapN _ _) (Th_mapN.2 HP.out)
                  have q8 := cell_alloc (hcc 8 _ rfl) (.cells (madeCells #[.int .i64 0] kids.length) 3)
                  have r8 := blk_free (blk_alloc hcs9 (.cells (madeCells #[.int .i64 0] kids.length) 3)) ((parent.toNat - 1) * 9 + 8)
                  clear hcc hfr F9 l9 hg3
                  have hne9 : wr.heap.size ≠ g := by have := blk_lt' hcs9; omega
                  have hne8 : g ≠ wr.heap.size := Ne.symm hne9
                  have hb5 := blk_far (heap_alloc_new wr (.cells (madeCells #[.int .i64 0] kids.length) 3)) (p := ⟨g, (parent.toNat - 1) * 9 + 8, none⟩) hne9 (.slice (some ⟨wr.heap.size, 0, none⟩) kids.length kids.length)
                  have hF5 : Kd.F (Kd.int .i64) ((wr.alloc (.cells (madeCells #[.int .i64 0] kids.length) 3)).setCell ⟨g, (parent.toNat - 1) * 9 + 8, none⟩ (.slice (some ⟨wr.heap.size, 0, none⟩) kids.length kids.length)) ok A kids.length kids :=
                    Kd.F_far (Kd.F_alloc HFl.out _) (fun k hk => (HO.out k hk).2) _
                  obtain ⟨W6, hcp, hh6, hg6⟩ := copy_ints hb5 (by simp [madeCells]) kids rfl A c (Kd.F_now hF5)
                  have HH6 := Aside0.mk hh6
                  have HG6 := Aside0.mk hg6
                  have HB5 := Aside0.mk hb5
                  have HCS9 := Aside0.mk hcs9
                  clear hh6 hg6 hF5 hb5 hcs9
                  go_wp2
                  go_ret
                  refine ⟨0, _, .inr (.inr (.inr ⟨HP.out, HK.out, HK2.out, rfl, rfl⟩)), rfl, .slice (some ⟨g, 0, none⟩) L.length cap, ?_, ?_⟩
                  · have hX := HFV.out.below (w' := wr.alloc (.cells (kids.map (Value.int .i64)).toArray 3)) (below_alloc (Below.refl _ _) _)
                    have hFx : Kd.F (Kd.int .i64) (wr.alloc (.cells (kids.map (Value.int .i64)).toArray 3)) (fun k => k ≠ p ∧ k ≠ g) (some ⟨wr.heap.size, 0, none⟩) kids.length kids :=
                      ints_F (heap_alloc_new wr _) rfl hkl _ ⟨by have := blk_lt' HFV.out.1; omega, hne9⟩
                    have hY := (hX.store8_n (length_mapN _ _) (Th_mapN.2 HP.out) (some ⟨wr.heap.size, 0, none⟩) kids.length kids (Nat.le_refl _) hFx).1
                    rw [relink_of HG.out HP.out kids (by rw [HK0.out])] at hY
                    exact hY.heap (put_heap rfl HCS9.out HH6.out HG6.out)
                  · have hsz := HOn.out.1.1
                    refine ⟨(Kept.of_grown HG6.out ((HOn.out.1.alloc _).setCell (.inl (.inr rfl)) _) (fun k e => .inr (by cases e; exact hsz))).mono (fun k hk => ?_), ((HOn.out.2.alloc (by omega) _).setCell hgB _).grown HG6.out (by simp; omega) (fun k e => by cases e; omega), .inl rfl⟩
                    rcases hk with h | h
                    · exact .inl h
                    · exact .inr (by simp [Value.ownBlock, h])
end Go.Proofs.Ytbkpgbhdfdifoaa
