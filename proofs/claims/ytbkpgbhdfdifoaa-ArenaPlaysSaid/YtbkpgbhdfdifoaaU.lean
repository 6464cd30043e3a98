/- rooted and above. -/
import Derived.Test.YtbkpgbhdfdifoaaI
namespace Go.Proofs.Ytbkpgbhdfdifoaa
open Go.RowKit Go.Proofs.YtbkpgbhdfdifoaaW.PrintWords Go.Proofs.YtbkpgbhdfdifoaaW.PrintLast Go.Proofs.YtbkpgbhdfdifoaaW.PrintMore
set_option linter.unusedVariables false
set_option linter.unusedSimpArgs false

/-- A node that is in no list of children. -/
def rootedB (x : S33) : Bool := decide (x.f0 = 1) || decide (x.f0 = 3)

set_option maxHeartbeats 400000 in
theorem rooted_any (g o : Nat) (x : S33) (w : World) (hc : w.cell? ⟨g, o, none⟩ = some (.int .i64 x.f0)) :
    Calls Try.prog 87 #[.pointer (some ⟨g, o, none⟩)] w fun e w' => e = .returned (.bool (rootedB x)) ∧ w = w' := by
  by_cases h1 : x.f0 = 1
  · have hr : rootedB x = true := by unfold rootedB; simp [h1]
    rw [hr]
    rw [h1] at hc
    clear hr h1
    go_enter Try.func87, Try.ntmps87
    go_wp2
    go_ret
    exact ⟨rfl, rfl⟩
  · by_cases h3 : x.f0 = 3
    · have hr : rootedB x = true := by unfold rootedB; simp [h3]
      rw [hr]
      rw [h3] at hc
      clear hr h1 h3
      go_enter Try.func87, Try.ntmps87
      go_wp2
      go_ret
      exact ⟨rfl, rfl⟩
    · have hr : rootedB x = false := by unfold rootedB; simp [h1, h3]
      rw [hr]
      have b1 := beqF h1
      have b3 := beqF h3
      clear hr h1 h3
      go_enter Try.func87, Try.ntmps87
      go_wp2
      go_ret
      exact ⟨rfl, rfl⟩

/-- A measure: none is the least. -/
def mz (r : Int → Nat) (z : Int) : Nat := if z = 0 then 0 else r z + 1
theorem mz_lt {r : Int → Nat} {z c : Int} {L : List S33} (hc : 0 < c) (h : z = 0 ∨ (Th L z ∧ r z < r c)) : mz r z < mz r c := by
  unfold mz
  rw [if_neg (show ¬ c = 0 by omega)]
  rcases h with h | h
  · rw [if_pos h]; omega
  · rw [if_neg (show ¬ z = 0 by have := h.1.1; omega)]; omega
def BoolIs (P : Prop) (w : World) (e : Ending) (w' : World) : Prop := ∃ b : Bool, e = .returned (.bool b) ∧ (b = true ↔ P) ∧ w = w'

set_option maxHeartbeats 1000000 in
theorem above_any {B : Nat} {w : World} {p : Nat} {v : Value} {L : List S33} (h : FV B w p v L) (hn : L.length ≤ 1000) (r : Int → Nat) (hr : Ranked L upO r) (a b : Int) (hb : Th L b) :
    Calls Try.prog 88 #[.pointer (some ⟨p, 0, none⟩), .int .i64 a, .int .i64 b] w (BoolIs (Anc L upO a b) w) := by
  obtain ⟨g, cap, rfl, hgB, hgl⟩ := h.form (by obtain ⟨b1, b2⟩ := hb; omega)
  have H := Aside0.mk h
  have HR := Aside0.mk hr
  have HB := Aside0.mk hb
  clear h hr hb
  go_enter Try.func88, Try.ntmps88
  go_wp2
  go_loop [2] (fun i => ∃ c : Int, i = .int .i64 c ∧ Aside0 (Th L c ∨ c = 0) ∧ Aside0 (Anc L upO a b ↔ (Th L c ∧ Anc L upO a c))) (fun i => mz r (intOf i))
  case atStart => exact ⟨b, rfl, ⟨.inl HB.out⟩, ⟨⟨fun h => ⟨HB.out, h⟩, fun h => h.2⟩⟩⟩
  case round =>
    obtain ⟨c, rfl, HC, HA⟩ := hrel
    by_cases hc : Th L c
    · have hc0 : 0 < c := by obtain ⟨c1, _⟩ := hc; omega
      have HC1 := Aside0.mk hc
      clear hc HC
      by_cases e : a = c
      · have HE := Aside0.mk e
        have hbq : (a == c) = true := by simpa using e
        clear e
        go_wp2_with fail
        go_ret
        exact ⟨true, rfl, by simp; exact HA.out.2 ⟨HC1.out, by rw [HE.out]; exact .refl HC1.out⟩, rfl⟩
      · have HE := Aside0.mk e
        have hbq : (a == c) = false := by simpa using e
        clear e
        obtain ⟨A8, c8, l8, F8, hcc, hfr⟩ := H.out.elem HC1.out
        have e1 := hcc 1 _ rfl
        have e2 := hcc 2 _ rfl
        clear hcc hfr l8 F8
        obtain ⟨x, hx⟩ : ∃ x, x = nd L c := ⟨_, rfl⟩
        rw [← hx] at e1 e2
        have HX := Aside0.mk hx
        clear hx
        have hup := HR.out c HC1.out
        rw [← HX.out] at hup
        have hnot : Anc L upO a c ↔ Th L (upO x) ∧ Anc L upO a (upO x) := by
          constructor
          · intro h
            cases h with
            | refl _ => exact absurd rfl HE.out
            | step _ h => rw [← HX.out] at h; exact ⟨h.right, h⟩
          · intro h
            refine .step HC1.out ?_
            rw [← HX.out]; exact h.2
        have HN := Aside0.mk hnot
        have HU := Aside0.mk hup
        clear hnot hup
        by_cases f0 : x.f1 = 0
        · have hu : upO x = x.f2 := by unfold upO; rw [if_pos f0]
          have HUU := Aside0.mk hu
          have hbz : (x.f1 == 0) = true := by simpa using f0
          clear hu f0
          go_wp2_with fail
          refine (at_yes H.out c HC1.out hn).mono ?_
          rintro e w' ⟨rfl, rfl⟩
          go_wp2
          go_round
          case rel =>
            refine ⟨x.f2, rfl, ⟨?_⟩, ⟨?_⟩⟩
            · rw [← HUU.out]; rcases HU.out with h | h
              · exact .inr h
              · exact .inl h.1
            · rw [← HUU.out]
              constructor
              · intro h; exact HN.out.1 (HA.out.1 h).2
              · intro h; exact HA.out.2 ⟨HC1.out, HN.out.2 h⟩
          case measure =>
            have hu := HU.out
            rw [HUU.out] at hu
            exact mz_lt hc0 hu
        · have hu : upO x = x.f1 := by unfold upO; rw [if_neg f0]
          have HUU := Aside0.mk hu
          have hbz : (x.f1 == 0) = false := by simpa using f0
          clear hu f0
          go_wp2_with fail
          refine (at_yes H.out c HC1.out hn).mono ?_
          rintro e w' ⟨rfl, rfl⟩
          go_wp2
          go_round
          case rel =>
            refine ⟨x.f1, rfl, ⟨?_⟩, ⟨?_⟩⟩
            · rw [← HUU.out]; rcases HU.out with h | h
              · exact .inr h
              · exact .inl h.1
            · rw [← HUU.out]
              constructor
              · intro h; exact HN.out.1 (HA.out.1 h).2
              · intro h; exact HA.out.2 ⟨HC1.out, HN.out.2 h⟩
          case measure =>
            have hu := HU.out
            rw [HUU.out] at hu
            exact mz_lt hc0 hu
    · have hc0 : c = 0 := HC.out.resolve_left hc
      subst hc0
      go_wp2
      go_ret
      exact ⟨false, rfl, by simp; exact fun h => absurd (HA.out.1 h).1.1 (by omega), rfl⟩
end Go.Proofs.Ytbkpgbhdfdifoaa
