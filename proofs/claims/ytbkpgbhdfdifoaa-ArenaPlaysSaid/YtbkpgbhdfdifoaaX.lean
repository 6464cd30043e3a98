/- law04's great and made: what a list of calls makes of the empty forest. -/
import Derived.Test.YtbkpgbhdfdifoaaD
namespace Go.Proofs.Ytbkpgbhdfdifoaa
open Go.RowKit Go.Proofs.YtbkpgbhdfdifoaaW.PrintWords Go.Proofs.YtbkpgbhdfdifoaaW.PrintLast Go.Proofs.YtbkpgbhdfdifoaaW.PrintMore
set_option linter.unusedVariables false
set_option linter.unusedSimpArgs false

/-- What calls, one behind the other, make. -/
inductive PlayR (L : List S33) : List S35 → List S33 → Prop
  | nil : PlayR L [] L
  | snoc {L1 L2 : List S33} {l : List S35} {x : S35} {id n : Int} : PlayR L l L1 → DoR L1 x id n L2 → PlayR L (l ++ [x]) L2
theorem PlayR.good {L : List S33} {l : List S35} {L' : List S33} (hg : Good L) (h : PlayR L l L') : Good L' := by
  induction h with
  | nil => exact hg
  | snoc _ hd ih => exact hd.good ih
theorem PlayR.unique {L : List S33} {l : List S35} {L1 L2 : List S33} (h : PlayR L l L1) (h2 : PlayR L l L2) : L1 = L2 := by
  induction h generalizing L2 with
  | nil =>
    generalize hl : ([] : List S35) = l at h2
    cases h2 with
    | nil => rfl
    | snoc _ _ => simp at hl
  | @snoc La Lb l x id n h1 hd ih =>
    generalize hl : l ++ [x] = l' at h2
    cases h2 with
    | nil => simp at hl
    | snoc h1' hd' =>
      obtain ⟨e1, e2⟩ := List.append_inj' hl rfl
      subst e1
      injection e2 with e2 _
      subst e2
      have := ih h1'
      subst this
      exact (hd.unique hd').2.2

/-- Not more than is looked at. -/
def Small (acts : List S35) : Prop := acts.length ≤ 300 ∧ ∀ x ∈ acts, x.f5.length ≤ 200
def GreatPost (acts : List S35) (w : World) (e : Ending) (w' : World) : Prop := ∃ b, e = .returned (.bool b) ∧ w = w' ∧ (b = false → Small acts)
set_option maxRecDepth 100000 in
set_option maxHeartbeats 400000 in
theorem great17 (A : Option Addr) (n c : Nat) (acts : List S35) (w : World) (hC : k35.C w A n acts) : Calls Try.prog 17 #[.slice A n c] w (GreatPost acts w) := by
  have hl : acts.length = n := hC.1
  subst hl
  have hmax := hC.2.1
  have H := Aside0.mk hC
  clear hC
  by_cases h3 : 300 < acts.length
  · go_enter Try.func17, Try.ntmps17
    go_wp2
    go_ret
    exact ⟨true, rfl, rfl, fun h => by cases h⟩
  · go_enter Try.func17, Try.ntmps17
    go_wp2_with fail
    go_loop [3] (fun i => ∃ k : Nat, i = .int .i64 k ∧ k ≤ acts.length ∧ Aside0 (∀ j (hj : j < acts.length), j < k → acts[j].f5.length ≤ 200)) (fun i => acts.length - (intOf i).toNat)
    case atStart => exact ⟨0, rfl, by omega, ⟨fun j hj h => absurd h (by omega)⟩⟩
    case round =>
      obtain ⟨k, rfl, hk, HI⟩ := hrel
      by_cases hlt : k < acts.length
      · obtain ⟨ad, A12, c12, A13, c13, eA, hx0, hx1, hx2, hx3, hx4, hx5, hx6, hx7, hx8, hx9, hx10, hx11, hx12, hx13, hxr⟩ := at_T35 H.out (k : Int) (by omega) (by omega)
        have p1 : (0 : Int) ≤ (k : Int) := by omega
        have p2 : (k : Int) < (acts.length : Int) := by omega
        have hrd : rd_T35 acts (k : Int) = acts[k] := by simp [rd_T35, hlt]
        rw [hrd] at hx13
        obtain ⟨x, hx⟩ : ∃ x, x = acts[k] := ⟨_, rfl⟩
        rw [← hx] at hx13
        have HX := Aside0.mk hx
        simp only [Int.toNat_natCast] at hx13
        clear hx0 hx1 hx2 hx3 hx4 hx5 hx6 hx7 hx8 hx9 hx10 hx11 hx12 hxr hrd hx
        subst eA
        by_cases h2 : 200 < x.f5.length
        · have h2' : (200 : Int) < (x.f5.length : Int) := by omega
          go_wp2
          go_ret
          exact ⟨true, rfl, rfl, fun h => by cases h⟩
        · have h2' : ¬ (200 : Int) < (x.f5.length : Int) := by omega
          go_wp2
          go_round
          case rel =>
            refine ⟨k + 1, by go_num, by omega, ⟨fun j hj h => ?_⟩⟩
            by_cases ej : j = k
            · subst ej; rw [← HX.out]; omega
            · exact HI.out j hj (by omega)
          case measure => simp [intOf]; omega
      · go_wp2
        go_ret
        exact ⟨false, rfl, rfl, fun _ => ⟨by omega, fun x hx => by obtain ⟨j, hj, rfl⟩ := List.mem_iff_getElem.1 hx; exact HI.out j hj (by omega)⟩⟩
theorem take_snoc {α : Type} {l : List α} {k : Nat} (h : k < l.length) : l.take (k + 1) = l.take k ++ [l[k]] := by rw [List.take_add_one, List.getElem?_eq_getElem h]; rfl
def MadePost (B : Nat) (acts : List S35) (w : World) (e : Ending) (w' : World) : Prop :=
  ∃ p v L, e = .returned (.pointer (some ⟨p, 0, none⟩)) ∧ FV B w' p v L ∧ PlayR [] acts L ∧ Below B w w'
set_option maxRecDepth 100000 in
set_option maxHeartbeats 400000 in
theorem made27 (A : Option Addr) (n c : Nat) (acts : List S35) (w : World) (hC : k35.C w A n acts) (hs : Small acts) : Calls Try.prog 27 #[.slice A n c] w (MadePost w.heap.size acts w) := by
  have hl : acts.length = n := hC.1
  subst hl
  have hmax := hC.2.1
  have H := Aside0.mk hC
  have HS := Aside0.mk hs
  clear hC hs
  go_enter Try.func27, Try.ntmps27
  go_wp2_with fail
  refine (new_any _).mono ?_
  rintro e w1 ⟨rfl, rfl⟩
  have H0 := Aside0.mk (FV.new w.heap.size w (Nat.le_refl _))
  have B0 := Aside0.mk ((Below.refl w.heap.size w).alloc (Nat.le_refl _) (.cells #[.slice none 0 0] 53))
  go_wp2_with fail
  go_loopw [4] (fun i wr => ∃ k : Nat, i = .int .i64 k ∧ k ≤ acts.length ∧ ∃ v L, Aside0 (FV w.heap.size wr w.heap.size v L) ∧ Aside0 (PlayR [] (acts.take k) L) ∧ Aside0 (Below w.heap.size w wr)) (fun i _ => acts.length - (intOf i).toNat)
  case atStart => exact ⟨0, rfl, by omega, _, _, H0, ⟨PlayR.nil⟩, B0⟩
  case round =>
    obtain ⟨k, rfl, hk, v, L, HFV, HPl, HBl⟩ := hrel
    by_cases hlt : k < acts.length
    · have HCr := Kd.C_below H.out HBl.out
      obtain ⟨ad, A12, c12, A13, c13, eA, hx0, hx1, hx2, hx3, hx4, hx5, hx6, hx7, hx8, hx9, hx10, hx11, hx12, hx13, -, -, l13, g13⟩ := at_T35 HCr (k : Int) (by omega) (by omega)
      have p1 : (0 : Int) ≤ (k : Int) := by omega
      have p2 : (k : Int) < (acts.length : Int) := by omega
      have hrd : rd_T35 acts (k : Int) = acts[k] := by simp [rd_T35, hlt]
      rw [hrd] at hx0 hx1 hx2 hx3 hx4 hx5 hx6 hx7 hx8 hx9 hx10 hx11 hx12 hx13 l13 g13
      obtain ⟨x, hx⟩ : ∃ x, x = acts[k] := ⟨_, rfl⟩
      rw [← hx] at hx0 hx1 hx2 hx3 hx4 hx5 hx6 hx7 hx8 hx9 hx10 hx11 hx12 hx13 l13 g13
      simp only [Int.toNat_natCast] at hx0 hx1 hx2 hx3 hx4 hx5 hx6 hx7 hx8 hx9 hx10 hx11 hx12 hx13
      have HX := Aside0.mk hx
      have HG13 := Aside0.mk g13
      have hl5 : x.f5.length ≤ 1000 := by have := HS.out.2 x (by rw [hx]; exact List.getElem_mem hlt); omega
      clear hrd hx g13 HCr
      subst eA
      go_wp2_with fail
      refine (do_any HFV.out HBl.out.size (HPl.out.good Good.nil) x A12 A13 x.f4.f8.length c12 c13 HG13.out hl5 l13).mono ?_
      rintro e w2 ⟨id, m, L', hR, rfl, v', h1, h2⟩
      have HR := Aside0.mk hR
      have H2 := Aside0.mk h1
      have B2 := Aside0.mk (HBl.out.trans h2.2.1)
      clear hR h1 h2 hx0 hx1 hx2 hx3 hx4 hx5 hx6 hx7 hx8 hx9 hx10 hx11 hx12 hx13
      go_wp2
      go_round
      case rel => exact ⟨k + 1, by go_num, by omega, v', L', H2, ⟨by rw [take_snoc hlt, ← HX.out]; exact .snoc HPl.out HR.out⟩, B2⟩
      case measure => simp [intOf]; omega
    · have hkk : k = acts.length := by omega
      subst hkk
      rw [List.take_length] at HPl
      go_wp2
      go_ret
      exact ⟨_, v, L, rfl, HFV.out, HPl.out, HBl.out⟩
end Go.Proofs.Ytbkpgbhdfdifoaa
