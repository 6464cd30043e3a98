/- The document's lists of nodes in memory; its There, Has, Right, named; who is above, told as a chain; Over. -/
import Derived.Test.YtbkpgbhdfdifoaaL
namespace Go.Proofs.Ytbkpgbhdfdifoaa
open Go.RowKit Go.Proofs.YtbkpgbhdfdifoaaW.PrintWords Go.Proofs.YtbkpgbhdfdifoaaW.PrintLast Go.Proofs.YtbkpgbhdfdifoaaW.PrintMore
set_option linter.unusedVariables false
set_option linter.unusedSimpArgs false

/-- A list of nodes in blocks of B. -/
def RV (B : Nat → Prop) (w : World) (v : Value) (L : List S33) : Prop := Kd.N k33 33 w 0 B v L
/-- Every new block may be taken. -/
def Up (B : Nat → Prop) (w : World) : Prop := ∀ k, w.heap.size ≤ k → B k
theorem Up.le {B : Nat → Prop} {w w1 : World} (h : Up B w) (hs : w.heap.size ≤ w1.heap.size) : Up B w1 := fun k hk => h k (Nat.le_trans hs hk)
theorem RV.below {B : Nat → Prop} {w w' : World} {v : Value} {L : List S33} (h : RV B w v L) (hb : Below w.heap.size w w') : RV B w' v L := Kd.N_below h hb
theorem RV.slice {B : Nat → Prop} {w : World} {v : Value} {L : List S33} (h : RV B w v L) : ∃ A c, v = .slice A L.length c := Kd.N_slice h
theorem RV.form {B : Nat → Prop} {w : World} {v : Value} {L : List S33} (h : RV B w v L) (hp : 0 < L.length) : ∃ g cap, v = .slice (some ⟨g, 0, none⟩) L.length cap ∧ B g ∧ g < w.heap.size := by
  obtain ⟨g, cap, h1, h2, h3, _⟩ := Kd.N_form h hp
  exact ⟨g, cap, h1, h.1 g (by rw [h1]; simp [Value.ownBlock]), h3⟩
theorem RV.elem {B : Nat → Prop} {w : World} {g cap n : Nat} {L : List S33} (h : RV B w (.slice (some ⟨g, 0, none⟩) n cap) L) (hl : L.length = n) {id : Int} (hid : Th L id) :
    ∃ A8 c8, (nd L id).f8.length ≤ c8 ∧ Kd.F (Kd.int .i64) w (fun k => B k ∧ k ≠ g) A8 (nd L id).f8.length (nd L id).f8 ∧
      (∀ j u, ([.int .i64 (nd L id).f0, .int .i64 (nd L id).f1, .int .i64 (nd L id).f2, .int .i64 (nd L id).f3, .int .i64 (nd L id).f4, .bool (nd L id).f5, .string (nd L id).f6, .string (nd L id).f7, .slice A8 (nd L id).f8.length c8] : List Value)[j]? = some u → w.cell? ⟨g, (id.toNat - 1) * 9 + j, none⟩ = some u) ∧
      (∀ j, w.frozen? ⟨g, (id.toNat - 1) * 9 + j, none⟩ = false) := by
  subst hl
  obtain ⟨h1, h2⟩ := hid
  have e : id.toNat - 1 = (id - 1).toNat := by omega
  rw [e]
  obtain ⟨cs, hcl, hM, hcc, hfr⟩ := Kd.N_elem h z33 (id - 1) (by omega) (by omega)
  obtain ⟨A8, c8, rfl, l8, g8⟩ := k33_openF hM
  exact ⟨A8, c8, l8, g8, hcc, hfr⟩
theorem RV.store {B : Nat → Prop} {w : World} {g cap n : Nat} {L : List S33} (h : RV B w (.slice (some ⟨g, 0, none⟩) n cap) L) (hl : L.length = n) {id : Int} (hid : Th L id) (j : Nat) (u : Value) (x' : S33) (hj : j < 9)
    (hM : ∀ c, c.length = 9 → Kd.FK k33 w (fun k => B k ∧ k ≠ g) (nd L id) c → Kd.FK k33 w (fun k => B k ∧ k ≠ g) x' (c.take j ++ [u] ++ c.drop (j + 1))) :
    RV B (w.setCell ⟨g, (id.toNat - 1) * 9 + j, none⟩ u) (.slice (some ⟨g, 0, none⟩) n cap) (setN L id x') := by
  subst hl
  obtain ⟨h1, h2⟩ := hid
  obtain ⟨cs, hcl, hK, hcc, hfr⟩ := Kd.N_elem h z33 (id - 1) (by omega) (by omega)
  have hP := Kd.N_seg h (id - 1) (by omega) (by omega) (seg := [u]) (j := j) hcl hcc (show j + 1 ≤ 9 by omega) (x' := x') (okp := fun k => B k ∧ k ≠ g) (hM cs hcl hK) (fun _ hk => hk)
  have e : (id - 1).toNat = id.toNat - 1 := by omega
  rw [e] at hP
  exact hP.1
section
variable {B : Nat → Prop} {w : World} {g cap n : Nat} {L : List S33} {id : Int}
theorem RV.store1 (h : RV B w (.slice (some ⟨g, 0, none⟩) n cap) L) (hl : L.length = n) (hid : Th L id) (q : Int) : RV B (w.setCell ⟨g, (id.toNat - 1) * 9 + 1, none⟩ (.int .i64 q)) (.slice (some ⟨g, 0, none⟩) n cap) (setN L id { nd L id with f1 := q }) := by
  refine h.store hl hid 1 _ _ (by omega) fun c hc hK => ?_
  obtain ⟨A8, c8, rfl, l8, g8⟩ := k33_openF hK
  exact k33_mkF _ _ { nd L id with f1 := q } l8 g8
theorem RV.store2 (h : RV B w (.slice (some ⟨g, 0, none⟩) n cap) L) (hl : L.length = n) (hid : Th L id) (q : Int) : RV B (w.setCell ⟨g, (id.toNat - 1) * 9 + 2, none⟩ (.int .i64 q)) (.slice (some ⟨g, 0, none⟩) n cap) (setN L id { nd L id with f2 := q }) := by
  refine h.store hl hid 2 _ _ (by omega) fun c hc hK => ?_
  obtain ⟨A8, c8, rfl, l8, g8⟩ := k33_openF hK
  exact k33_mkF _ _ { nd L id with f2 := q } l8 g8
theorem RV.store3 (h : RV B w (.slice (some ⟨g, 0, none⟩) n cap) L) (hl : L.length = n) (hid : Th L id) (q : Int) : RV B (w.setCell ⟨g, (id.toNat - 1) * 9 + 3, none⟩ (.int .i64 q)) (.slice (some ⟨g, 0, none⟩) n cap) (setN L id { nd L id with f3 := q }) := by
  refine h.store hl hid 3 _ _ (by omega) fun c hc hK => ?_
  obtain ⟨A8, c8, rfl, l8, g8⟩ := k33_openF hK
  exact k33_mkF _ _ { nd L id with f3 := q } l8 g8
theorem RV.store6 (h : RV B w (.slice (some ⟨g, 0, none⟩) n cap) L) (hl : L.length = n) (hid : Th L id) (q : ByteArray) : RV B (w.setCell ⟨g, (id.toNat - 1) * 9 + 6, none⟩ (.string q)) (.slice (some ⟨g, 0, none⟩) n cap) (setN L id { nd L id with f6 := q }) := by
  refine h.store hl hid 6 _ _ (by omega) fun c hc hK => ?_
  obtain ⟨A8, c8, rfl, l8, g8⟩ := k33_openF hK
  exact k33_mkF _ _ { nd L id with f6 := q } l8 g8
theorem RV.store7 (h : RV B w (.slice (some ⟨g, 0, none⟩) n cap) L) (hl : L.length = n) (hid : Th L id) (q : ByteArray) : RV B (w.setCell ⟨g, (id.toNat - 1) * 9 + 7, none⟩ (.string q)) (.slice (some ⟨g, 0, none⟩) n cap) (setN L id { nd L id with f7 := q }) := by
  refine h.store hl hid 7 _ _ (by omega) fun c hc hK => ?_
  obtain ⟨A8, c8, rfl, l8, g8⟩ := k33_openF hK
  exact k33_mkF _ _ { nd L id with f7 := q } l8 g8
theorem RV.store8 (h : RV B w (.slice (some ⟨g, 0, none⟩) n cap) L) (hl : L.length = n) (hid : Th L id) (A : Option Addr) (c : Nat) (l : List Int) (hlc : l.length ≤ c) (hF : Kd.F (Kd.int .i64) w (fun k => B k ∧ k ≠ g) A l.length l) :
    RV B (w.setCell ⟨g, (id.toNat - 1) * 9 + 8, none⟩ (.slice A l.length c)) (.slice (some ⟨g, 0, none⟩) n cap) (setN L id { nd L id with f8 := l }) := by
  refine h.store hl hid 8 _ _ (by omega) fun c' hc hK => ?_
  obtain ⟨A8, c8, rfl, l8, g8⟩ := k33_openF hK
  exact k33_mkF _ _ { nd L id with f8 := l } hlc hF
end

/-! ### There, Has -/
set_option maxHeartbeats 400000 in
theorem there_yes (A : Option Addr) (n c : Nat) (id : Int) (w : World) (h : 1 ≤ id ∧ id ≤ (n : Int)) : Calls Try.prog 23 #[.slice A n c, .int .i64 id] w fun e w' => e = .returned (.bool true) ∧ w = w' := by
  obtain ⟨h1, h2⟩ := h
  go_enter Try.func23, Try.ntmps23
  go_wp2
  go_ret
  exact ⟨rfl, rfl⟩
set_option maxHeartbeats 400000 in
theorem there_no (A : Option Addr) (n c : Nat) (id : Int) (w : World) (h : ¬ (1 ≤ id ∧ id ≤ (n : Int))) : Calls Try.prog 23 #[.slice A n c, .int .i64 id] w fun e w' => e = .returned (.bool false) ∧ w = w' := by
  by_cases h1 : 1 ≤ id
  · have h2 : ¬ id ≤ (n : Int) := by omega
    have h3 : decide (id ≤ (n : Int)) = false := decide_eq_false h2
    clear h h2
    go_enter Try.func23, Try.ntmps23
    go_wp2
    go_ret
    exact ⟨by simp [h3], rfl⟩
  · clear h
    go_enter Try.func23, Try.ntmps23
    go_wp2
    go_ret
    exact ⟨rfl, rfl⟩
set_option maxHeartbeats 400000 in
theorem has_any (A : Option Addr) (n c : Nat) (l : List Int) (x : Int) (w : World) (hr : (Kd.int .i64).C w A n l) :
    Calls Try.prog 95 #[.slice A n c, .int .i64 x] w fun e w' => e = .returned (.bool (decide (x ∈ l))) ∧ w = w' := by
  have hl : l.length = n := hr.1
  subst hl
  have hmax := hr.2.1
  have HR := Aside0.mk hr
  clear hr
  go_enter Try.func95, Try.ntmps95
  go_wp2_with fail
  go_loop [5] (fun i => ∃ k : Nat, i = .int .i64 k ∧ k ≤ l.length ∧ Aside0 (∀ j (hj : j < l.length), j < k → l[j] ≠ x)) (fun i => l.length - (intOf i).toNat)
  case atStart => exact ⟨0, rfl, by omega, ⟨fun j hj h => absurd h (by omega)⟩⟩
  case round =>
    obtain ⟨k, rfl, hk, HI⟩ := hrel
    by_cases hlt : k < l.length
    · obtain ⟨ad, rfl, hc⟩ := int_at HR.out hlt
      have p1 : (0 : Int) ≤ (k : Int) := by omega
      have p2 : (k : Int) < (l.length : Int) := by omega
      by_cases e : l[k] = x
      · have hm : decide (x ∈ l) = true := decide_eq_true (e ▸ List.getElem_mem hlt)
        have HE := Lib.hid hm
        clear hm
        have hb : (l[k] == x) = true := by simpa using e
        clear e
        go_wp2
        go_ret
        exact ⟨by simp [HE.out], rfl⟩
      · have hb : (l[k] == x) = false := by simpa using e
        have HE := Aside0.mk e
        clear e
        go_wp2
        go_round
        case rel =>
          refine ⟨k + 1, by go_num, by omega, ⟨fun j hj h => ?_⟩⟩
          by_cases ej : j = k
          · subst ej; exact HE.out
          · exact HI.out j hj (by omega)
        case measure => simp [intOf]; omega
    · have hm : decide (x ∈ l) = false := decide_eq_false (fun hx => by
        obtain ⟨j, hj, e⟩ := List.mem_iff_getElem.1 hx
        exact HI.out j hj (by omega) e)
      have HE := Lib.hid hm
      clear hm
      go_wp2
      go_ret
      exact ⟨by simp [HE.out], rfl⟩

/-! ### Right, named -/
set_option maxHeartbeats 400000 in
theorem right108 (s : ByteArray) (w : World) : Calls Try.prog 108 #[.string s] w fun e w' => e = .returned (.bool (rightB s)) ∧ w = w' := by
  by_cases h0 : s.size = 0
  · have hr := rightB_empty h0
    rw [hr]
    have h1 : (s.size : Int) < 1 := by omega
    clear hr h0
    go_enter Try.func108, Try.ntmps108
    go_wp2
    go_ret
    exact ⟨rfl, rfl⟩
  have h1 : ¬ (s.size : Int) < 1 := by omega
  by_cases h8 : s.size ≤ 8
  · have h9 : ¬ (8 : Int) < (s.size : Int) := by omega
    go_enter Try.func108, Try.ntmps108
    go_wp2_with fail
    go_loop [3] (fun i => ∃ k : Nat, i = .int .i64 k ∧ k ≤ s.size ∧ Aside0 (∀ j (hj : j < s.size), j < k → okByte (s[j]'hj).toNat = true)) (fun i => s.size - (intOf i).toNat)
    case atStart => exact ⟨0, rfl, by omega, ⟨fun j hj h => absurd h (by omega)⟩⟩
    case round =>
      obtain ⟨k, rfl, hk, HI⟩ := hrel
      by_cases hlt : k < s.size
      · have p1 : (0 : Int) ≤ (k : Int) := by omega
        have p2 : (k : Int) < (s.size : Int) := by omega
        have hcase : ((97 : Int) ≤ ((s[k]'hlt).toNat : Int) ∧ ((s[k]'hlt).toNat : Int) ≤ 122) ∨ (decide ((97 : Int) ≤ ((s[k]'hlt).toNat : Int)) = false ∧ (48 : Int) ≤ ((s[k]'hlt).toNat : Int) ∧ ((s[k]'hlt).toNat : Int) ≤ 57) ∨ (decide ((97 : Int) ≤ ((s[k]'hlt).toNat : Int)) = false ∧ (48 : Int) ≤ ((s[k]'hlt).toNat : Int) ∧ decide (((s[k]'hlt).toNat : Int) ≤ 57) = false) ∨
            (decide ((97 : Int) ≤ ((s[k]'hlt).toNat : Int)) = false ∧ decide ((48 : Int) ≤ ((s[k]'hlt).toNat : Int)) = false) ∨ ((97 : Int) ≤ ((s[k]'hlt).toNat : Int) ∧ decide (((s[k]'hlt).toNat : Int) ≤ 122) = false ∧ (48 : Int) ≤ ((s[k]'hlt).toNat : Int) ∧ decide (((s[k]'hlt).toNat : Int) ≤ 57) = false) := by
          simp only [decide_eq_false_iff_not]
          omega
        rcases hcase with ⟨c1, c2⟩ | ⟨c1, c2, c3⟩ | ⟨c1, c2, c3⟩ | ⟨c1, c2⟩ | ⟨c1, c2, c3, c4⟩
        · have hok := Aside0.mk (okByte_true (n := (s[k]'hlt).toNat) (by omega))
          go_wp2
          go_round
          case rel =>
            refine ⟨k + 1, by go_num, by omega, ⟨fun j hj h => ?_⟩⟩
            by_cases ej : j = k
            · subst ej; exact hok.out
            · exact HI.out j hj (by omega)
          case measure => simp [intOf]; omega
        · have hok := Aside0.mk (okByte_true (n := (s[k]'hlt).toNat) (by omega))
          go_wp2
          go_round
          case rel =>
            refine ⟨k + 1, by go_num, by omega, ⟨fun j hj h => ?_⟩⟩
            by_cases ej : j = k
            · subst ej; exact hok.out
            · exact HI.out j hj (by omega)
          case measure => simp [intOf]; omega
        · have hok := Lib.hid (rightB_false k hlt (okByte_false (n := (s[k]'hlt).toNat) (by simp only [decide_eq_false_iff_not] at c1 c3; omega)))
          go_wp2
          go_ret
          exact ⟨by simp [hok.out], rfl⟩
        · have hok := Lib.hid (rightB_false k hlt (okByte_false (n := (s[k]'hlt).toNat) (by simp only [decide_eq_false_iff_not] at c1 c2; omega)))
          go_wp2
          go_ret
          exact ⟨by simp [hok.out], rfl⟩
        · have hok := Lib.hid (rightB_false k hlt (okByte_false (n := (s[k]'hlt).toNat) (by simp only [decide_eq_false_iff_not] at c2 c4; omega)))
          go_wp2
          go_ret
          exact ⟨by simp [hok.out], rfl⟩
      · have hr := Lib.hid (rightB_true h0 h8 (fun j hj => HI.out j hj (by omega)))
        go_wp2
        go_ret
        exact ⟨by simp [hr.out], rfl⟩
  · have hr := rightB_long h8
    rw [hr]
    have h9 : (8 : Int) < (s.size : Int) := by omega
    clear hr h8
    go_enter Try.func108, Try.ntmps108
    go_wp2
    go_ret
    exact ⟨rfl, rfl⟩

set_option maxHeartbeats 400000 in
theorem named102 (s : ByteArray) (w : World) : Calls Try.prog 102 #[.string s] w fun e w' => e = .returned (.bool (namedB s)) ∧ w = w' := by
  by_cases h0 : s.size = 0
  · have hs := empty_of_size h0
    have hn : namedB s = true := by unfold namedB; simp [h0]
    rw [hn]
    clear h0 hn
    go_enter Try.func102, Try.ntmps102
    go_wp2
    go_ret
    exact ⟨rfl, rfl⟩
  · have hs := nonempty_of_size h0
    have hn : namedB s = rightB s := by unfold namedB; simp [h0]
    rw [hn]
    clear h0 hn
    go_enter Try.func102, Try.ntmps102
    go_wp2_with fail
    refine (right108 s _).mono ?_
    rintro e w' ⟨rfl, rfl⟩
    go_wp2
    go_ret
    exact ⟨rfl, rfl⟩
end Go.Proofs.Ytbkpgbhdfdifoaa
