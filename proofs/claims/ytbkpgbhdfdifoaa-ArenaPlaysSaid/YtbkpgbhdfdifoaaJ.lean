/- Forest.Name, Forest.Want. -/
import Derived.Test.YtbkpgbhdfdifoaaH
import Derived.Test.YtbkpgbhdfdifoaaT
namespace Go.Proofs.Ytbkpgbhdfdifoaa
open Go.RowKit Go.Proofs.YtbkpgbhdfdifoaaW.PrintWords Go.Proofs.YtbkpgbhdfdifoaaW.PrintLast Go.Proofs.YtbkpgbhdfdifoaaW.PrintMore
set_option linter.unusedVariables false
set_option linter.unusedSimpArgs false

/-- What a call on a forest leaves: R tells the error's number and the nodes then. -/
def EPost (B : Nat) (w : World) (p : Nat) (v : Value) (R : Int → List S33 → Prop) (e : Ending) (w' : World) : Prop :=
  ∃ n L', R n L' ∧ e = .returned (.int .i64 n) ∧ ∃ v', FV B w' p v' L' ∧ FMoved B w w' p v v'
theorem EPost.same {B : Nat} {w w' : World} {p : Nat} {v : Value} {L : List S33} {R : Int → List S33 → Prop} {n : Int} (h : FV B w p v L) (hB : B ≤ w.heap.size) (hb : Below w.heap.size w w') (hR : R n L) :
    EPost B w p v R (.returned (.int .i64 n)) w' := ⟨n, L, hR, rfl, v, h.below hb, FMoved.of_below hB hb⟩
theorem FMoved.set {B : Nat} {w w' : World} {p g n c o : Nat} {u : Value} (hB : B ≤ w.heap.size) (hg : B ≤ g) (h : Below w.heap.size w w') : FMoved B w (w'.setCell ⟨g, o, none⟩ u) p (.slice (some ⟨g, 0, none⟩) n c) (.slice (some ⟨g, 0, none⟩) n c) :=
  ⟨(Kept.of_below h _).setCell (.inl (.inr (by simp [Value.ownBlock]))) _, (h.mono hB).setCell hg _, .inl rfl⟩

set_option maxHeartbeats 400000 in
theorem name_nil (id : Int) (s : ByteArray) (w : World) : Calls Try.prog 32 #[.pointer none, .int .i64 id, .string s] w fun e w' => e = .returned (.int .i64 1) ∧ w = w' := by
  go_enter Try.func32, Try.ntmps32
  go_wp2_with fail
  refine (at_nil id _).mono ?_
  rintro e w' ⟨rfl, rfl⟩
  go_wp2
  go_ret
  exact ⟨rfl, rfl⟩
set_option maxHeartbeats 400000 in
theorem want_nil (id : Int) (s : ByteArray) (w : World) : Calls Try.prog 33 #[.pointer none, .int .i64 id, .string s] w fun e w' => e = .returned (.int .i64 1) ∧ w = w' := by
  go_enter Try.func33, Try.ntmps33
  go_wp2_with fail
  refine (at_nil id _).mono ?_
  rintro e w' ⟨rfl, rfl⟩
  go_wp2
  go_ret
  exact ⟨rfl, rfl⟩
set_option maxHeartbeats 400000 in
theorem name_no {B : Nat} {w : World} {p : Nat} {v : Value} {L : List S33} (h : FV B w p v L) (hB : B ≤ w.heap.size) (id : Int) (hid : ¬ Th L id) (s : ByteArray) :
    Calls Try.prog 32 #[.pointer (some ⟨p, 0, none⟩), .int .i64 id, .string s] w (EPost B w p v (NameR L id s)) := by
  have HR := Aside0.mk (EPost.same (R := NameR L id s) h hB (Below.refl _ _) (.inl ⟨fun h => hid h.1, rfl, rfl⟩))
  go_enter Try.func32, Try.ntmps32
  go_wp2_with fail
  refine (at_no h id hid).mono ?_
  rintro e w' ⟨rfl, rfl⟩
  go_wp2
  go_ret
  exact HR.out
set_option maxHeartbeats 400000 in
theorem want_no {B : Nat} {w : World} {p : Nat} {v : Value} {L : List S33} (h : FV B w p v L) (hB : B ≤ w.heap.size) (id : Int) (hid : ¬ Th L id) (s : ByteArray) :
    Calls Try.prog 33 #[.pointer (some ⟨p, 0, none⟩), .int .i64 id, .string s] w (EPost B w p v (WantR L id s)) := by
  have HR := Aside0.mk (EPost.same (R := WantR L id s) h hB (Below.refl _ _) (.inl ⟨fun h => hid h.1, rfl, rfl⟩))
  go_enter Try.func33, Try.ntmps33
  go_wp2_with fail
  refine (at_no h id hid).mono ?_
  rintro e w' ⟨rfl, rfl⟩
  go_wp2
  go_ret
  exact HR.out

set_option maxRecDepth 100000 in
set_option maxHeartbeats 400000 in
theorem name_th {B : Nat} {w : World} {p g cap : Nat} {L : List S33} (h : FV B w p (.slice (some ⟨g, 0, none⟩) L.length cap) L) (hB : B ≤ w.heap.size) (hn : L.length ≤ 1000) (id : Int) (hid : Th L id) (s : ByteArray) :
    Calls Try.prog 32 #[.pointer (some ⟨p, 0, none⟩), .int .i64 id, .string s] w (EPost B w p (.slice (some ⟨g, 0, none⟩) L.length cap) (NameR L id s)) := by
  have H := Aside0.mk h
  have HT := Aside0.mk hid
  have hgB : B ≤ g := Kd.N_base h.2.2 g (by simp [Value.ownBlock])
  clear h hid
  go_enter Try.func32, Try.ntmps32
  go_wp2_with fail
  refine (at_yes H.out id HT.out hn).mono ?_
  rintro e w' ⟨rfl, rfl⟩
  go_wp2_with fail
  refine (named_any s _).mono ?_
  rintro e w1 ⟨rfl, hb1⟩
  obtain ⟨y, hy⟩ : ∃ y, y = nd L id := ⟨_, rfl⟩
  have H1 := Aside0.mk (H.out.below hb1)
  obtain ⟨A8, c8, l8, F8, hcc, hfr⟩ := H1.out.elem HT.out
  rw [← hy] at hcc
  have e5 := hcc 5 _ rfl
  have e6 := hcc 6 _ rfl
  have f6 := hfr 6
  have HY := Aside0.mk hy
  have HB1 := Aside0.mk hb1
  clear hcc hfr F8 l8 hy hb1
  by_cases hs : namedB s = true
  · have HS := Aside0.mk hs
    by_cases h5 : y.f5 = true
    · have HS5 := Aside0.mk (H1.out.store6 HT.out s)
      have H5 := Aside0.mk h5
      go_wp2
      go_ret
      refine ⟨0, nameL L id s, .inr (.inr ⟨⟨HT.out, HS.out⟩, by rw [← HY.out]; exact H5.out, rfl, rfl⟩), rfl, _, ?_, FMoved.set hB hgB HB1.out⟩
      have := HS5.out.1
      rw [setN_eq HT.out] at this
      exact (congrArg (fun l => FV B _ p _ l) (mapN_congr (g' := fun j x => { x with f6 := if j = id then s else x.f6 }) fun j hj => by by_cases e : j = id <;> simp [e])).mp this
    · have h5f : y.f5 = false := by simpa using h5
      have H5 := Aside0.mk h5f
      clear h5
      go_wp2
      go_ret
      exact EPost.same H.out hB HB1.out (.inr (.inl ⟨⟨HT.out, HS.out⟩, by rw [← HY.out, H5.out]; simp, rfl, rfl⟩))
  · have hsf : namedB s = false := by simpa using hs
    have HS := Aside0.mk hsf
    clear hs
    go_wp2
    go_ret
    exact EPost.same H.out hB HB1.out (.inl ⟨fun h => by rw [HS.out] at h; simp at h, rfl, rfl⟩)

set_option maxRecDepth 100000 in
set_option maxHeartbeats 400000 in
theorem want_th {B : Nat} {w : World} {p g cap : Nat} {L : List S33} (h : FV B w p (.slice (some ⟨g, 0, none⟩) L.length cap) L) (hB : B ≤ w.heap.size) (hn : L.length ≤ 1000) (id : Int) (hid : Th L id) (s : ByteArray) :
    Calls Try.prog 33 #[.pointer (some ⟨p, 0, none⟩), .int .i64 id, .string s] w (EPost B w p (.slice (some ⟨g, 0, none⟩) L.length cap) (WantR L id s)) := by
  have H := Aside0.mk h
  have HT := Aside0.mk hid
  have hgB : B ≤ g := Kd.N_base h.2.2 g (by simp [Value.ownBlock])
  clear h hid
  go_enter Try.func33, Try.ntmps33
  go_wp2_with fail
  refine (at_yes H.out id HT.out hn).mono ?_
  rintro e w' ⟨rfl, rfl⟩
  go_wp2_with fail
  refine (named_any s _).mono ?_
  rintro e w1 ⟨rfl, hb1⟩
  obtain ⟨y, hy⟩ : ∃ y, y = nd L id := ⟨_, rfl⟩
  have H1 := Aside0.mk (H.out.below hb1)
  obtain ⟨A8, c8, l8, F8, hcc, hfr⟩ := H1.out.elem HT.out
  rw [← hy] at hcc
  have e0 := hcc 0 _ rfl
  rw [Nat.add_zero] at e0
  have e7 := hcc 7 _ rfl
  have f7 := hfr 7
  have HY := Aside0.mk hy
  have HB1 := Aside0.mk hb1
  clear hcc hfr F8 l8 hy hb1
  by_cases hs : namedB s = true
  · have HS := Aside0.mk hs
    by_cases h0 : y.f0 = 2
    · have HS5 := Aside0.mk (H1.out.store7 HT.out s)
      have H0 := Aside0.mk h0
      go_wp2
      go_ret
      refine ⟨0, wantL L id s, .inr (.inr ⟨⟨HT.out, HS.out⟩, by rw [← HY.out]; exact H0.out, rfl, rfl⟩), rfl, _, ?_, FMoved.set hB hgB HB1.out⟩
      have := HS5.out.1
      rw [setN_eq HT.out] at this
      exact (congrArg (fun l => FV B _ p _ l) (mapN_congr (g' := fun j x => { x with f7 := if j = id then s else x.f7 }) fun j hj => by by_cases e : j = id <;> simp [e])).mp this
    · have hb0 := bneT h0
      have H0 := Aside0.mk h0
      clear h0
      go_wp2
      go_ret
      exact EPost.same H.out hB HB1.out (.inr (.inl ⟨⟨HT.out, HS.out⟩, by rw [← HY.out]; exact H0.out, rfl, rfl⟩))
  · have hsf : namedB s = false := by simpa using hs
    have HS := Aside0.mk hsf
    clear hs
    go_wp2
    go_ret
    exact EPost.same H.out hB HB1.out (.inl ⟨fun h => by rw [HS.out] at h; simp at h, rfl, rfl⟩)
end Go.Proofs.Ytbkpgbhdfdifoaa
