/- slices.Index and slices.Contains at ints; rooted; above. -/
import Derived.Test.YtbkpgbhdfdifoaaF
namespace Go.Proofs.Ytbkpgbhdfdifoaa
open Go.RowKit Go.Proofs.YtbkpgbhdfdifoaaW.PrintWords Go.Proofs.YtbkpgbhdfdifoaaW.PrintLast Go.Proofs.YtbkpgbhdfdifoaaW.PrintMore
set_option linter.unusedVariables false
set_option linter.unusedSimpArgs false

/-- The first place of a number; -1: it isn't there. -/
def idxF : List Int → Int → Int
  | [], _ => -1
  | y :: l, x => if y = x then 0 else if idxF l x < 0 then -1 else idxF l x + 1
theorem idxF_ge (l : List Int) (x : Int) : -1 ≤ idxF l x ∧ idxF l x < l.length := by
  induction l with
  | nil => simp [idxF]
  | cons y l ih =>
    unfold idxF
    split
    · simp
    · split
      · simp; omega
      · simp; omega
theorem idxF_none {l : List Int} {x : Int} (h : ∀ j (hj : j < l.length), l[j] ≠ x) : idxF l x = -1 := by
  induction l with
  | nil => rfl
  | cons y l ih =>
    have h0 : y ≠ x := h 0 (by simp)
    have h1 := ih (fun j hj => h (j + 1) (by simpa using hj))
    unfold idxF
    rw [if_neg h0, h1]
    rfl
theorem idxF_some {l : List Int} {x : Int} : ∀ {k : Nat} (hk : k < l.length), l[k] = x → (∀ j (hj : j < l.length), j < k → l[j] ≠ x) → idxF l x = k := by
  induction l with
  | nil => intro k hk; simp at hk
  | cons y l ih =>
    intro k hk e h
    cases k with
    | zero =>
      unfold idxF
      rw [if_pos (by simpa using e)]
      rfl
    | succ k =>
      have h0 : y ≠ x := h 0 (by simp) (by omega)
      have h1 := ih (k := k) (by simpa using hk) (by simpa using e) (fun j hj hlt => h (j + 1) (by simpa using hj) (by omega))
      unfold idxF
      rw [if_neg h0, h1, if_neg (by omega)]
      omega
theorem idxF_mem (l : List Int) (x : Int) : 0 ≤ idxF l x ↔ x ∈ l := by
  constructor
  · intro h
    apply Classical.byContradiction
    intro hn
    have : idxF l x = -1 := idxF_none (fun j hj e => hn (e ▸ List.getElem_mem hj))
    omega
  · intro h
    apply Classical.byContradiction
    intro hn
    have hge := idxF_ge l x
    have e : idxF l x = -1 := by omega
    clear hn hge
    induction l with
    | nil => simp at h
    | cons y l ih =>
      unfold idxF at e
      split at e
      · omega
      · rename_i hne
        split at e
        · rename_i hlt
          have hm : x ∈ l := by
            rcases List.mem_cons.1 h with h | h
            · exact absurd h.symm hne
            · exact h
          have := idxF_ge l x
          exact ih hm (by omega)
        · omega

theorem int_at {w : World} {A : Option Addr} {l : List Int} (h : (Kd.int .i64).C w A l.length l) {k : Nat} (hk : k < l.length) : ∃ ad, A = some ad ∧ w.cell? (ad.add k) = some (.int .i64 l[k]) := by
  obtain ⟨ad, e, hc⟩ := h.2.2 (by omega)
  obtain ⟨c, hcl, hK, hcc⟩ := hc k l[k] (List.getElem?_eq_getElem hk)
  have hK' : c = [.int .i64 l[k]] := hK
  subst hK'
  refine ⟨ad, e, ?_⟩
  have := hcc 0 _ rfl
  simpa [Kd.int, Kd.scalar] using this

set_option maxHeartbeats 400000 in
theorem index_any (A : Option Addr) (c : Nat) (l : List Int) (x : Int) (w : World) (hr : (Kd.int .i64).C w A l.length l) (hn : l.length ≤ 1000) :
    Calls Try.prog 104 #[.slice A l.length c, .int .i64 x] w fun e w' => e = .returned (.int .i64 (idxF l x)) ∧ w = w' := by
  have HR := Aside0.mk hr
  clear hr
  go_enter Try.func104, Try.ntmps104
  go_wp2
  go_loop [8] (fun i => ∃ k : Nat, i = .int .i64 k ∧ k ≤ l.length ∧ Aside0 (∀ j (hj : j < l.length), j < k → l[j] ≠ x)) (fun i => l.length - (intOf i).toNat)
  case atStart => exact ⟨0, rfl, by omega, ⟨fun j hj h => absurd h (by omega)⟩⟩
  case round =>
    obtain ⟨k, rfl, hk, HI⟩ := hrel
    by_cases hlt : k < l.length
    · obtain ⟨ad, rfl, hc⟩ := int_at HR.out hlt
      have p1 : (0 : Int) ≤ (k : Int) := by omega
      have p2 : (k : Int) < (l.length : Int) := by omega
      by_cases e : x = l[k]
      · have he := idxF_some hlt e.symm HI.out
        have HE := Lib.hid he
        clear he
        have hb : (x == l[k]) = true := by simpa using e
        clear e
        go_wp2
        go_ret
        exact ⟨by simp [HE.out], rfl⟩
      · have hb : (x == l[k]) = false := by simpa using e
        have HE := Aside0.mk e
        clear e
        go_wp2
        go_round
        case rel =>
          refine ⟨k + 1, by go_num, by omega, ⟨fun j hj h => ?_⟩⟩
          by_cases ej : j = k
          · subst ej; exact fun h2 => HE.out h2.symm
          · exact HI.out j hj (by omega)
        case measure => simp [intOf]; omega
    · have he : idxF l x = -1 := idxF_none (fun j hj => HI.out j hj (by omega))
      have HE := Lib.hid he
      clear he
      go_wp2
      go_ret
      exact ⟨by simp [HE.out], rfl⟩

set_option maxHeartbeats 400000 in
theorem contains_any (A : Option Addr) (c : Nat) (l : List Int) (x : Int) (w : World) (hr : (Kd.int .i64).C w A l.length l) (hn : l.length ≤ 1000) :
    Calls Try.prog 86 #[.slice A l.length c, .int .i64 x] w fun e w' => e = .returned (.bool (decide (x ∈ l))) ∧ w = w' := by
  have hm : decide (x ∈ l) = decide (0 ≤ idxF l x) := by
    rw [Bool.eq_iff_iff]
    simp [idxF_mem]
  rw [hm]
  go_enter Try.func86, Try.ntmps86
  go_wp2_with fail
  refine (index_any A c l x _ hr hn).mono ?_
  rintro e w' ⟨rfl, rfl⟩
  go_wp2
  go_ret
  exact ⟨rfl, rfl⟩
end Go.Proofs.Ytbkpgbhdfdifoaa
