/- A list of Acts that came in, read. -/
import Derived.Test.YtbkpgbhdfdifoaaSm
import Derived.Deep.Slices
import Derived.ChangeSame
import Derived.OpenShut
namespace Go.Proofs.Ytbkpgbhdfdifoaa
open Go.RowKit Go.Proofs.YtbkpgbhdfdifoaaW.PrintWords Go.Proofs.YtbkpgbhdfdifoaaW.PrintLast Go.Proofs.YtbkpgbhdfdifoaaW.PrintMore
open Go.ChangeShapes Go.WideShapes
set_option linter.unusedVariables false
set_option linter.unusedSimpArgs false

theorem list_of {α : Type} (p : Nat → α → Prop) : ∀ n : Nat, (∀ i, i < n → ∃ y, p i y) → ∃ l : List α, l.length = n ∧ ∀ i y, l[i]? = some y → p i y := by
  intro n
  induction n with
  | zero => exact fun _ => ⟨[], rfl, fun i y h => by simp at h⟩
  | succ n ih =>
    intro h
    obtain ⟨l, h1, h2⟩ := ih (fun i hi => h i (by omega))
    obtain ⟨y, hy⟩ := h n (by omega)
    refine ⟨l ++ [y], by simp [h1], fun i z hz => ?_⟩
    rw [List.getElem?_append] at hz
    split at hz
    · exact h2 i z hz
    · have e : i - l.length = 0 := by
        rcases Nat.eq_zero_or_pos (i - l.length) with e | e
        · exact e
        · rw [List.getElem?_eq_none (by simp; omega)] at hz
          cases hz
      rw [e] at hz
      simp at hz
      subst hz
      have : i = n := by omega
      subst this
      exact hy
theorem len9 {α : Type} {l : List α} (h : l.length = 9) : ∃ c0 c1 c2 c3 c4 c5 c6 c7 c8, l = [c0, c1, c2, c3, c4, c5, c6, c7, c8] := by
  rcases l with _ | ⟨c0, _ | ⟨c1, _ | ⟨c2, _ | ⟨c3, _ | ⟨c4, _ | ⟨c5, _ | ⟨c6, _ | ⟨c7, _ | ⟨c8, _ | ⟨c9, l⟩⟩⟩⟩⟩⟩⟩⟩⟩⟩ <;> first | exact ⟨_, _, _, _, _, _, _, _, _, rfl⟩ | (simp at h)
theorem len14 {α : Type} {l : List α} (h : l.length = 14) : ∃ c0 c1 c2 c3 c4 c5 c6 c7 c8 c9 c10 c11 c12 c13, l = [c0, c1, c2, c3, c4, c5, c6, c7, c8, c9, c10, c11, c12, c13] := by
  rcases l with _ | ⟨c0, _ | ⟨c1, _ | ⟨c2, _ | ⟨c3, _ | ⟨c4, l⟩⟩⟩⟩⟩
  · simp at h
  · simp at h
  · simp at h
  · simp at h
  · simp at h
  · obtain ⟨d0, d1, d2, d3, d4, d5, d6, d7, d8, rfl⟩ := len9 (l := l) (by simpa using h)
    exact ⟨_, _, _, _, _, _, _, _, _, _, _, _, _, _, rfl⟩
section
variable {H : Type} {enc : TypeId × Value → H} {W : World} {base : Nat} {spare : Nat → Bool} {held : Bool}
/-- What of type t came in reads as an element of kind d. -/
def Opens (enc : TypeId × Value → H) (W : World) (base : Nat) (spare : Nat → Bool) (held : Bool) {α : Type} (d : Kd α) (t : TypeId) : Prop :=
  ∀ fuel cs x, DataW.trod enc Try.prog W base spare held fuel t cs = some x → ∃ y, d.K W y cs
theorem opens_int : Opens enc W base spare held (Kd.int .i64) 3 := fun fuel cs x h => by
  obtain ⟨n, rfl, _, _⟩ := DataW.trod_int Try.underlying3 h
  exact ⟨n, rfl⟩
theorem opens_bool : Opens enc W base spare held Kd.bool 4 := fun fuel cs x h => by
  obtain ⟨n, rfl, _⟩ := DataW.trod_bool Try.underlying4 h
  exact ⟨n, rfl⟩
theorem opens_string : Opens enc W base spare held Kd.string 9 := fun fuel cs x h => by
  obtain ⟨n, rfl, _, _⟩ := DataW.trod_string Try.underlying9 h
  exact ⟨n, rfl⟩
theorem opens_row {α : Type} {d : Kd α} {t e : TypeId} (ht : Try.prog.underlying t = some (.slice e)) (hs : Try.prog.cellsOf e = d.sz) (he : Opens enc W base spare held d e) (fuel : Nat) (cs : List Value) (x : DataW H × List MemPlace)
    (h : DataW.trod enc Try.prog W base spare held fuel t cs = some x) : ∃ A n c xs, cs = [.slice A n c] ∧ n ≤ c ∧ d.C W A n xs := by
  rcases DataW.trod_slice ht h with ⟨rfl, _⟩ | ⟨a, len, cap, elems, rest, m, _, rfl, _, _, hl, hm, hlen, hel, _, _⟩
  · exact ⟨none, 0, 0, [], rfl, Nat.le_refl _, Kd.C_nil _ _⟩
  · have hex : ∀ i, i < len → ∃ y, ∃ c, c.length = d.sz ∧ d.K W y c ∧ ∀ j u, c[j]? = some u → W.cell? (a.add (i * d.sz + j)) = some u := by
      intro i hi
      have h1 := hel i hi
      rw [List.getElem?_eq_getElem (by omega)] at h1
      obtain ⟨cs', h2, h3⟩ := Option.bind_eq_some_iff.1 h1
      obtain ⟨_, h4, h5⟩ := World.cells?_some h2
      obtain ⟨y, hy⟩ := he m cs' _ h3
      rw [hs] at h4 h5
      refine ⟨y, cs', h4, hy, fun j u hj => ?_⟩
      have hjl : j < d.sz := by
        rcases Nat.lt_or_ge j cs'.length with h | h
        · omega
        · rw [List.getElem?_eq_none h] at hj; cases hj
      have := h5 j hjl
      rw [hj] at this
      rw [← this]
      exact congrArg W.cell? (Addr.add_add a _ _).symm
    obtain ⟨xs, h6, h7⟩ := list_of _ len hex
    refine ⟨some a, len, cap, xs, rfl, hl, h6, ?_, fun _ => ⟨a, rfl, h7⟩⟩
    exact Nat.le_trans hl (Nat.le_trans hm (by decide))
theorem opens_ints : Opens enc W base spare held (Kd.slice 3 (Kd.int .i64)) 31 := fun fuel cs x h => by
  obtain ⟨A, n, c, xs, rfl, hl, hC⟩ := opens_row Try.underlying31 (by kernel_rfl) opens_int fuel cs x h
  have : xs.length = n := hC.1
  subst this
  exact ⟨xs, A, c, rfl, hl, hC⟩
theorem opens_33 : Opens enc W base spare held k33 33 := fun fuel cs x h => by
  obtain ⟨xs, n, _, rfl, hl, hlen, hf⟩ := DataW.trod_struct Try.underlying33 h
  have h9 : Try.prog.cellsOf 33 = 9 := by kernel_rfl
  rw [h9] at hl
  obtain ⟨c0, c1, c2, c3, c4, c5, c6, c7, c8, rfl⟩ := len9 hl
  have hx : ∀ i : Nat, i < 9 → ∃ y, xs[i]? = some y := fun i hi => ⟨_, List.getElem?_eq_getElem (by rw [hlen]; exact hi)⟩
  obtain ⟨x0, j0⟩ := hx 0 (by decide)
  obtain ⟨x1, j1⟩ := hx 1 (by decide)
  obtain ⟨x2, j2⟩ := hx 2 (by decide)
  obtain ⟨x3, j3⟩ := hx 3 (by decide)
  obtain ⟨x4, j4⟩ := hx 4 (by decide)
  obtain ⟨x5, j5⟩ := hx 5 (by decide)
  obtain ⟨x6, j6⟩ := hx 6 (by decide)
  obtain ⟨x7, j7⟩ := hx 7 (by decide)
  obtain ⟨x8, j8⟩ := hx 8 (by decide)
  have e3 : Try.prog.cellsOf 3 = 1 := by kernel_rfl
  have e4 : Try.prog.cellsOf 4 = 1 := by kernel_rfl
  have e9 : Try.prog.cellsOf 9 = 1 := by kernel_rfl
  have e31 : Try.prog.cellsOf 31 = 1 := by kernel_rfl
  have g0 := (hf 0 _ rfl).trans j0
  have g1 := (hf 1 _ rfl).trans j1
  have g2 := (hf 2 _ rfl).trans j2
  have g3 := (hf 3 _ rfl).trans j3
  have g4 := (hf 4 _ rfl).trans j4
  have g5 := (hf 5 _ rfl).trans j5
  have g6 := (hf 6 _ rfl).trans j6
  have g7 := (hf 7 _ rfl).trans j7
  have g8 := (hf 8 _ rfl).trans j8
  simp [e3, e4, e9, e31] at g0 g1 g2 g3 g4 g5 g6 g7 g8
  obtain ⟨y0, r0⟩ := opens_int _ _ _ g0
  obtain ⟨y1, r1⟩ := opens_int _ _ _ g1
  obtain ⟨y2, r2⟩ := opens_int _ _ _ g2
  obtain ⟨y3, r3⟩ := opens_int _ _ _ g3
  obtain ⟨y4, r4⟩ := opens_int _ _ _ g4
  obtain ⟨y5, r5⟩ := opens_bool _ _ _ g5
  obtain ⟨y6, r6⟩ := opens_string _ _ _ g6
  obtain ⟨y7, r7⟩ := opens_string _ _ _ g7
  obtain ⟨y8, A8, q8, r8, l8, C8⟩ := opens_ints _ _ _ g8
  have z0 : [c0] = [Value.int .i64 y0] := r0
  have z1 : [c1] = [Value.int .i64 y1] := r1
  have z2 : [c2] = [Value.int .i64 y2] := r2
  have z3 : [c3] = [Value.int .i64 y3] := r3
  have z4 : [c4] = [Value.int .i64 y4] := r4
  have z5 : [c5] = [Value.bool y5] := r5
  have z6 : [c6] = [Value.string y6] := r6
  have z7 : [c7] = [Value.string y7] := r7
  simp at z0 z1 z2 z3 z4 z5 z6 z7 r8
  subst z0 z1 z2 z3 z4 z5 z6 z7 r8
  exact ⟨⟨y0, y1, y2, y3, y4, y5, y6, y7, y8⟩, k33_mk W ⟨y0, y1, y2, y3, y4, y5, y6, y7, y8⟩ l8 C8⟩
theorem opens_35 : Opens enc W base spare held k35 35 := fun fuel cs x h => by
  obtain ⟨xs, n, _, rfl, hl, hlen, hf⟩ := DataW.trod_struct Try.underlying35 h
  have h9 : Try.prog.cellsOf 35 = 14 := by kernel_rfl
  rw [h9] at hl
  obtain ⟨c0, c1, c2, c3, c4, c5, c6, c7, c8, c9, c10, c11, c12, c13, rfl⟩ := len14 hl
  have hx : ∀ i : Nat, i < 6 → ∃ y, xs[i]? = some y := fun i hi => ⟨_, List.getElem?_eq_getElem (by rw [hlen]; exact hi)⟩
  obtain ⟨x0, j0⟩ := hx 0 (by decide)
  obtain ⟨x1, j1⟩ := hx 1 (by decide)
  obtain ⟨x2, j2⟩ := hx 2 (by decide)
  obtain ⟨x3, j3⟩ := hx 3 (by decide)
  obtain ⟨x4, j4⟩ := hx 4 (by decide)
  obtain ⟨x5, j5⟩ := hx 5 (by decide)
  have e3 : Try.prog.cellsOf 3 = 1 := by kernel_rfl
  have e9 : Try.prog.cellsOf 9 = 1 := by kernel_rfl
  have e31 : Try.prog.cellsOf 31 = 1 := by kernel_rfl
  have e33 : Try.prog.cellsOf 33 = 9 := by kernel_rfl
  have g0 := (hf 0 _ rfl).trans j0
  have g1 := (hf 1 _ rfl).trans j1
  have g2 := (hf 2 _ rfl).trans j2
  have g3 := (hf 3 _ rfl).trans j3
  have g4 := (hf 4 _ rfl).trans j4
  have g5 := (hf 5 _ rfl).trans j5
  simp [e3, e9, e31, e33] at g0 g1 g2 g3 g4 g5
  obtain ⟨y0, r0⟩ := opens_int _ _ _ g0
  obtain ⟨y1, r1⟩ := opens_int _ _ _ g1
  obtain ⟨y2, r2⟩ := opens_int _ _ _ g2
  obtain ⟨y3, r3⟩ := opens_string _ _ _ g3
  obtain ⟨y4, r4⟩ := opens_33 _ _ _ g4
  obtain ⟨A12, q12, r12, l12, C12⟩ := k33_open r4
  obtain ⟨y5, A13, q13, r13, l13, C13⟩ := opens_ints _ _ _ g5
  have z0 : [c0] = [Value.int .i64 y0] := r0
  have z1 : [c1] = [Value.int .i64 y1] := r1
  have z2 : [c2] = [Value.int .i64 y2] := r2
  have z3 : [c3] = [Value.string y3] := r3
  simp at z0 z1 z2 z3 r13 r12
  obtain ⟨u0, u1, u2, u3, u4, u5, u6, u7, u8⟩ := r12
  subst z0 z1 z2 z3 r13 u0 u1 u2 u3 u4 u5 u6 u7 u8
  exact ⟨⟨y0, y1, y2, y3, y4, y5⟩, k35_mk W ⟨y0, y1, y2, y3, y4, y5⟩ l12 C12 l13 C13⟩
theorem open_acts {fuel : Nat} {A : Option Addr} {n c : Nat} {x : DataW H × List MemPlace} (h : DataW.trod enc Try.prog W base spare held fuel 22 [.slice A n c] = some x) : ∃ acts, k35.C W A n acts := by
  obtain ⟨A', n', c', xs, he, _, hC⟩ := opens_row Try.underlying22 (by kernel_rfl) opens_35 _ _ _ h
  simp at he
  obtain ⟨rfl, rfl, rfl⟩ := he
  exact ⟨xs, hC⟩
end
end Go.Proofs.Ytbkpgbhdfdifoaa
