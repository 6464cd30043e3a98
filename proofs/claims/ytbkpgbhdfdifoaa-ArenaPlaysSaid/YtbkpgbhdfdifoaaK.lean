/- The kinds of values of the forest seat: a node (S33), a call on a forest (S35), a step of a path (S96), and how their cells read. Written by the print program of the kit in its joint mode, then cut. -/
import Derived.Test.YtbkpgbhdfdifoaaProg
import Derived.Below
import Derived.Deep.Draws
import Derived.Deep.AppendLies
import Derived.Maps.AppendAt
import Derived.OwnWalk
import Derived.Laws.BytesArg
import Derived.Laws.MakeOwn
import Derived.Laws.OwnMore
import Derived.Deep.OwnRows
import Derived.Tactics
import Derived.Lib.ConvBytes
import Derived.Laws.Slices
import Derived.WalkKit
import Derived.KernelRfl
import Derived.RowKit3
import Derived.Deep.LoopGhost
import Derived.Deep.QuietTactic
import Derived.BigQuiet
import Derived.WideLaws
import Derived.Deep.DeepCutAuto
import Derived.Deep.CutBlock
import Derived.Deep.RegionHeld3
import Derived.Laws.Rows
import Derived.Lib.AppendStr
import Derived.ArgAppend
import Derived.Laws.IdiomCopy
import Derived.OrdersHeld
import Derived.Laws.BitsLemmas
import Derived.RowKit
import Derived.Test.YtbkpgbhdfdifoaaWWords
import Derived.Test.YtbkpgbhdfdifoaaWLast
import Derived.Test.YtbkpgbhdfdifoaaWTab
import Derived.Test.YtbkpgbhdfdifoaaWFour
import Derived.Test.YtbkpgbhdfdifoaaWQPut
import Derived.Test.YtbkpgbhdfdifoaaWApart
import Derived.Test.YtbkpgbhdfdifoaaWArr
import Derived.Test.YtbkpgbhdfdifoaaWZeros
import Derived.Test.YtbkpgbhdfdifoaaWFoot
import Derived.Test.YtbkpgbhdfdifoaaWKept
import Derived.Test.YtbkpgbhdfdifoaaWShare
import Derived.Test.YtbkpgbhdfdifoaaWN
import Derived.Test.YtbkpgbhdfdifoaaWFootNe
import Derived.Test.YtbkpgbhdfdifoaaWAt
import Derived.Test.YtbkpgbhdfdifoaaWEqStruct
import Derived.Test.YtbkpgbhdfdifoaaWRepsOne
import Derived.Test.YtbkpgbhdfdifoaaWInv
import Derived.Test.YtbkpgbhdfdifoaaWInvWords
import Derived.Test.YtbkpgbhdfdifoaaWGuard
import Derived.Test.YtbkpgbhdfdifoaaWNEv
import Derived.Test.YtbkpgbhdfdifoaaWMore
namespace Go.Proofs.Ytbkpgbhdfdifoaa
open Go.RowKit Go.Proofs.YtbkpgbhdfdifoaaW.PrintWords Go.Proofs.YtbkpgbhdfdifoaaW.PrintLast Go.Proofs.YtbkpgbhdfdifoaaW.PrintMore
set_option linter.unusedVariables false
set_option linter.unusedSimpArgs false



theorem info3 : (Try.prog.info? 3).map (fun i => (i.zero, i.size, i.bytes)) = some (some (.int .i64 0), 1, 8) := by kernel_rfl
theorem info33 : (Try.prog.info? 33).map (fun i => (i.zero, i.size, i.bytes)) = some (some (.agg #[(.int .i64 0), (.int .i64 0), (.int .i64 0), (.int .i64 0), (.int .i64 0), (.bool false), (.string ⟨#[]⟩), (.string ⟨#[]⟩), (.slice none 0 0)]), 9, 104) := by kernel_rfl
-- the values' own types
/-! #### struct type 33 -/
structure S33 where
  f0 : Int
  f1 : Int
  f2 : Int
  f3 : Int
  f4 : Int
  f5 : Bool
  f6 : ByteArray
  f7 : ByteArray
  f8 : (List Int)
def z33 : S33 := ⟨(0 : Int), (0 : Int), (0 : Int), (0 : Int), (0 : Int), false, (⟨#[]⟩ : ByteArray), (⟨#[]⟩ : ByteArray), ([] : List Int)⟩
def k33 : Kd S33 := Kd.iso (Kd.pair (Kd.int .i64) (Kd.pair (Kd.int .i64) (Kd.pair (Kd.int .i64) (Kd.pair (Kd.int .i64) (Kd.pair (Kd.int .i64) (Kd.pair Kd.bool (Kd.pair Kd.string (Kd.pair Kd.string (Kd.slice 3 (Kd.int .i64)))))))))) (fun x : S33 => (x.f0, x.f1, x.f2, x.f3, x.f4, x.f5, x.f6, x.f7, x.f8))
theorem k33_open {w : World} {x : S33} {cs : List Value} (h : k33.K w x cs) : ∃ A8 c8, cs = [.int .i64 x.f0, .int .i64 x.f1, .int .i64 x.f2, .int .i64 x.f3, .int .i64 x.f4, .bool x.f5, .string x.f6, .string x.f7, .slice A8 x.f8.length c8] ∧ x.f8.length ≤ c8 ∧ (Kd.int .i64).C w A8 x.f8.length x.f8 := by
  obtain ⟨_, _, rfl, rfl, ⟨_, _, rfl, rfl, ⟨_, _, rfl, rfl, ⟨_, _, rfl, rfl, ⟨_, _, rfl, rfl, ⟨_, _, rfl, rfl, ⟨_, _, rfl, rfl, ⟨_, _, rfl, rfl, ⟨A8, c8, rfl, l8, g8⟩⟩⟩⟩⟩⟩⟩⟩⟩ := h
  exact ⟨A8, c8, rfl, l8, g8⟩
theorem k33_openM {w : World} {base : Nat} {ok : Nat → Prop} {x : S33} {cs : List Value} (h : k33.M w base ok x cs) : ∃ v8, cs = [.int .i64 x.f0, .int .i64 x.f1, .int .i64 x.f2, .int .i64 x.f3, .int .i64 x.f4, .bool x.f5, .string x.f6, .string x.f7, v8] ∧ (Kd.int .i64).R 3 w base ok v8 x.f8 := by
  obtain ⟨_, _, rfl, rfl, ⟨_, _, rfl, rfl, ⟨_, _, rfl, rfl, ⟨_, _, rfl, rfl, ⟨_, _, rfl, rfl, ⟨_, _, rfl, rfl, ⟨_, _, rfl, rfl, ⟨_, _, rfl, rfl, ⟨v8, rfl, g8⟩⟩⟩⟩⟩⟩⟩⟩⟩ := h
  exact ⟨v8, rfl, g8⟩
theorem k33_mk (w : World) (x : S33) {A8 : Option Addr} {c8 : Nat} (l8 : x.f8.length ≤ c8) (g8 : (Kd.int .i64).C w A8 x.f8.length x.f8) : k33.K w x [.int .i64 x.f0, .int .i64 x.f1, .int .i64 x.f2, .int .i64 x.f3, .int .i64 x.f4, .bool x.f5, .string x.f6, .string x.f7, .slice A8 x.f8.length c8] := ⟨[.int .i64 x.f0], [.int .i64 x.f1, .int .i64 x.f2, .int .i64 x.f3, .int .i64 x.f4, .bool x.f5, .string x.f6, .string x.f7, .slice A8 x.f8.length c8], rfl, rfl, ⟨[.int .i64 x.f1], [.int .i64 x.f2, .int .i64 x.f3, .int .i64 x.f4, .bool x.f5, .string x.f6, .string x.f7, .slice A8 x.f8.length c8], rfl, rfl, ⟨[.int .i64 x.f2], [.int .i64 x.f3, .int .i64 x.f4, .bool x.f5, .string x.f6, .string x.f7, .slice A8 x.f8.length c8], rfl, rfl, ⟨[.int .i64 x.f3], [.int .i64 x.f4, .bool x.f5, .string x.f6, .string x.f7, .slice A8 x.f8.length c8], rfl, rfl, ⟨[.int .i64 x.f4], [.bool x.f5, .string x.f6, .string x.f7, .slice A8 x.f8.length c8], rfl, rfl, ⟨[.bool x.f5], [.string x.f6, .string x.f7, .slice A8 x.f8.length c8], rfl, rfl, ⟨[.string x.f6], [.string x.f7, .slice A8 x.f8.length c8], rfl, rfl, ⟨[.string x.f7], [.slice A8 x.f8.length c8], rfl, rfl, ⟨A8, c8, rfl, l8, g8⟩⟩⟩⟩⟩⟩⟩⟩⟩
theorem k33_mkM (w : World) (base : Nat) (ok : Nat → Prop) (x : S33) {v8 : Value} (g8 : (Kd.int .i64).R 3 w base ok v8 x.f8) : k33.M w base ok x [.int .i64 x.f0, .int .i64 x.f1, .int .i64 x.f2, .int .i64 x.f3, .int .i64 x.f4, .bool x.f5, .string x.f6, .string x.f7, v8] := ⟨[.int .i64 x.f0], [.int .i64 x.f1, .int .i64 x.f2, .int .i64 x.f3, .int .i64 x.f4, .bool x.f5, .string x.f6, .string x.f7, v8], rfl, rfl, ⟨[.int .i64 x.f1], [.int .i64 x.f2, .int .i64 x.f3, .int .i64 x.f4, .bool x.f5, .string x.f6, .string x.f7, v8], rfl, rfl, ⟨[.int .i64 x.f2], [.int .i64 x.f3, .int .i64 x.f4, .bool x.f5, .string x.f6, .string x.f7, v8], rfl, rfl, ⟨[.int .i64 x.f3], [.int .i64 x.f4, .bool x.f5, .string x.f6, .string x.f7, v8], rfl, rfl, ⟨[.int .i64 x.f4], [.bool x.f5, .string x.f6, .string x.f7, v8], rfl, rfl, ⟨[.bool x.f5], [.string x.f6, .string x.f7, v8], rfl, rfl, ⟨[.string x.f6], [.string x.f7, v8], rfl, rfl, ⟨[.string x.f7], [v8], rfl, rfl, ⟨v8, rfl, g8⟩⟩⟩⟩⟩⟩⟩⟩⟩
theorem k33_openF {W : World} {ok : Nat → Prop} {x : S33} {cs : List Value} (h : Kd.FK k33 W ok x cs) : ∃ A8 c8, cs = [.int .i64 x.f0, .int .i64 x.f1, .int .i64 x.f2, .int .i64 x.f3, .int .i64 x.f4, .bool x.f5, .string x.f6, .string x.f7, .slice A8 x.f8.length c8] ∧ x.f8.length ≤ c8 ∧ Kd.F (Kd.int .i64) W ok A8 x.f8.length x.f8 := by
  obtain ⟨A8, c8, rfl, l8, _⟩ := k33_open (Kd.FK_now h)
  exact ⟨A8, c8, rfl, l8, (fun W' hW => by obtain ⟨A8_, c8_, he, l8_, g8_⟩ := k33_open (h W' hW); injection (Option.some.inj (show some (Value.slice A8 x.f8.length c8) = some (Value.slice A8_ x.f8.length c8_) from congrArg (fun l => l[8]?) he)) with ha_ _ _; rw [ha_]; exact g8_)⟩
theorem k33_mkF (W : World) (ok : Nat → Prop) (x : S33) {A8 : Option Addr} {c8 : Nat} (l8 : x.f8.length ≤ c8) (g8 : Kd.F (Kd.int .i64) W ok A8 x.f8.length x.f8) : Kd.FK k33 W ok x [.int .i64 x.f0, .int .i64 x.f1, .int .i64 x.f2, .int .i64 x.f3, .int .i64 x.f4, .bool x.f5, .string x.f6, .string x.f7, .slice A8 x.f8.length c8] := fun W2 hW => k33_mk W2 x l8 (g8 W2 hW)
def rd_T33 (xs : List S33) (i : Int) : S33 := xs.getD i.toNat z33
theorem at_T33 {w : World} {A : Option Addr} {n : Nat} {xs : List S33} (h : Kd.C k33 w A n xs) (i : Int) (h0 : 0 ≤ i) (h1 : i < n) : ∃ ad A8 c8, A = some ad ∧ w.cell? (ad.add (i.toNat * 9)) = some (.int .i64 (rd_T33 xs i).f0) ∧ w.cell? ⟨(ad.add (i.toNat * 9)).block, (ad.add (i.toNat * 9)).off + 1, none⟩ = some (.int .i64 (rd_T33 xs i).f1) ∧ w.cell? ⟨(ad.add (i.toNat * 9)).block, (ad.add (i.toNat * 9)).off + 2, none⟩ = some (.int .i64 (rd_T33 xs i).f2) ∧ w.cell? ⟨(ad.add (i.toNat * 9)).block, (ad.add (i.toNat * 9)).off + 3, none⟩ = some (.int .i64 (rd_T33 xs i).f3) ∧ w.cell? ⟨(ad.add (i.toNat * 9)).block, (ad.add (i.toNat * 9)).off + 4, none⟩ = some (.int .i64 (rd_T33 xs i).f4) ∧ w.cell? ⟨(ad.add (i.toNat * 9)).block, (ad.add (i.toNat * 9)).off + 5, none⟩ = some (.bool (rd_T33 xs i).f5) ∧ w.cell? ⟨(ad.add (i.toNat * 9)).block, (ad.add (i.toNat * 9)).off + 6, none⟩ = some (.string (rd_T33 xs i).f6) ∧ w.cell? ⟨(ad.add (i.toNat * 9)).block, (ad.add (i.toNat * 9)).off + 7, none⟩ = some (.string (rd_T33 xs i).f7) ∧ w.cell? ⟨(ad.add (i.toNat * 9)).block, (ad.add (i.toNat * 9)).off + 8, none⟩ = some (.slice A8 (rd_T33 xs i).f8.length c8) ∧ (rd_T33 xs i).f8.length ≤ c8 ∧ (Kd.int .i64).C w A8 (rd_T33 xs i).f8.length (rd_T33 xs i).f8 := by
  obtain ⟨ad, c, e, _, hK, hc0⟩ := Kd.C_get h z33 i h0 h1
  have hc : ∀ j u, c[j]? = some u → w.cell? (ad.add (i.toNat * 9 + j)) = some u := hc0
  obtain ⟨A8, c8, rfl, l8, g8⟩ := k33_open hK
  exact ⟨ad, A8, c8, e, hc 0 _ rfl, by rw [← add_field _ _ 1 (by omega)]; exact hc 1 _ rfl, by rw [← add_field _ _ 2 (by omega)]; exact hc 2 _ rfl, by rw [← add_field _ _ 3 (by omega)]; exact hc 3 _ rfl, by rw [← add_field _ _ 4 (by omega)]; exact hc 4 _ rfl, by rw [← add_field _ _ 5 (by omega)]; exact hc 5 _ rfl, by rw [← add_field _ _ 6 (by omega)]; exact hc 6 _ rfl, by rw [← add_field _ _ 7 (by omega)]; exact hc 7 _ rfl, by rw [← add_field _ _ 8 (by omega)]; exact hc 8 _ rfl, l8, g8⟩

/-! #### struct type 35 -/
structure S35 where
  f0 : Int
  f1 : Int
  f2 : Int
  f3 : ByteArray
  f4 : S33
  f5 : (List Int)
def z35 : S35 := ⟨(0 : Int), (0 : Int), (0 : Int), (⟨#[]⟩ : ByteArray), z33, ([] : List Int)⟩
def k35 : Kd S35 := Kd.iso (Kd.pair (Kd.int .i64) (Kd.pair (Kd.int .i64) (Kd.pair (Kd.int .i64) (Kd.pair Kd.string (Kd.pair k33 (Kd.slice 3 (Kd.int .i64))))))) (fun x : S35 => (x.f0, x.f1, x.f2, x.f3, x.f4, x.f5))
theorem k35_open {w : World} {x : S35} {cs : List Value} (h : k35.K w x cs) : ∃ A12 c12 A13 c13, cs = [.int .i64 x.f0, .int .i64 x.f1, .int .i64 x.f2, .string x.f3, .int .i64 x.f4.f0, .int .i64 x.f4.f1, .int .i64 x.f4.f2, .int .i64 x.f4.f3, .int .i64 x.f4.f4, .bool x.f4.f5, .string x.f4.f6, .string x.f4.f7, .slice A12 x.f4.f8.length c12, .slice A13 x.f5.length c13] ∧ x.f4.f8.length ≤ c12 ∧ (Kd.int .i64).C w A12 x.f4.f8.length x.f4.f8 ∧ x.f5.length ≤ c13 ∧ (Kd.int .i64).C w A13 x.f5.length x.f5 := by
  obtain ⟨_, _, rfl, rfl, ⟨_, _, rfl, rfl, ⟨_, _, rfl, rfl, ⟨_, _, rfl, rfl, ⟨_, _, rfl, s4, ⟨A13, c13, rfl, l13, g13⟩⟩⟩⟩⟩⟩ := h
  obtain ⟨A12, c12, rfl, l12, g12⟩ := k33_open s4
  exact ⟨A12, c12, A13, c13, rfl, l12, g12, l13, g13⟩
theorem k35_openM {w : World} {base : Nat} {ok : Nat → Prop} {x : S35} {cs : List Value} (h : k35.M w base ok x cs) : ∃ v12 v13, cs = [.int .i64 x.f0, .int .i64 x.f1, .int .i64 x.f2, .string x.f3, .int .i64 x.f4.f0, .int .i64 x.f4.f1, .int .i64 x.f4.f2, .int .i64 x.f4.f3, .int .i64 x.f4.f4, .bool x.f4.f5, .string x.f4.f6, .string x.f4.f7, v12, v13] ∧ (Kd.int .i64).R 3 w base ok v12 x.f4.f8 ∧ (Kd.int .i64).R 3 w base ok v13 x.f5 := by
  obtain ⟨_, _, rfl, rfl, ⟨_, _, rfl, rfl, ⟨_, _, rfl, rfl, ⟨_, _, rfl, rfl, ⟨_, _, rfl, s4, ⟨v13, rfl, g13⟩⟩⟩⟩⟩⟩ := h
  obtain ⟨v12, rfl, g12⟩ := k33_openM s4
  exact ⟨v12, v13, rfl, g12, g13⟩
theorem k35_mk (w : World) (x : S35) {A12 : Option Addr} {c12 : Nat} (l12 : x.f4.f8.length ≤ c12) (g12 : (Kd.int .i64).C w A12 x.f4.f8.length x.f4.f8) {A13 : Option Addr} {c13 : Nat} (l13 : x.f5.length ≤ c13) (g13 : (Kd.int .i64).C w A13 x.f5.length x.f5) : k35.K w x [.int .i64 x.f0, .int .i64 x.f1, .int .i64 x.f2, .string x.f3, .int .i64 x.f4.f0, .int .i64 x.f4.f1, .int .i64 x.f4.f2, .int .i64 x.f4.f3, .int .i64 x.f4.f4, .bool x.f4.f5, .string x.f4.f6, .string x.f4.f7, .slice A12 x.f4.f8.length c12, .slice A13 x.f5.length c13] := ⟨[.int .i64 x.f0], [.int .i64 x.f1, .int .i64 x.f2, .string x.f3, .int .i64 x.f4.f0, .int .i64 x.f4.f1, .int .i64 x.f4.f2, .int .i64 x.f4.f3, .int .i64 x.f4.f4, .bool x.f4.f5, .string x.f4.f6, .string x.f4.f7, .slice A12 x.f4.f8.length c12, .slice A13 x.f5.length c13], rfl, rfl, ⟨[.int .i64 x.f1], [.int .i64 x.f2, .string x.f3, .int .i64 x.f4.f0, .int .i64 x.f4.f1, .int .i64 x.f4.f2, .int .i64 x.f4.f3, .int .i64 x.f4.f4, .bool x.f4.f5, .string x.f4.f6, .string x.f4.f7, .slice A12 x.f4.f8.length c12, .slice A13 x.f5.length c13], rfl, rfl, ⟨[.int .i64 x.f2], [.string x.f3, .int .i64 x.f4.f0, .int .i64 x.f4.f1, .int .i64 x.f4.f2, .int .i64 x.f4.f3, .int .i64 x.f4.f4, .bool x.f4.f5, .string x.f4.f6, .string x.f4.f7, .slice A12 x.f4.f8.length c12, .slice A13 x.f5.length c13], rfl, rfl, ⟨[.string x.f3], [.int .i64 x.f4.f0, .int .i64 x.f4.f1, .int .i64 x.f4.f2, .int .i64 x.f4.f3, .int .i64 x.f4.f4, .bool x.f4.f5, .string x.f4.f6, .string x.f4.f7, .slice A12 x.f4.f8.length c12, .slice A13 x.f5.length c13], rfl, rfl, ⟨[.int .i64 x.f4.f0, .int .i64 x.f4.f1, .int .i64 x.f4.f2, .int .i64 x.f4.f3, .int .i64 x.f4.f4, .bool x.f4.f5, .string x.f4.f6, .string x.f4.f7, .slice A12 x.f4.f8.length c12], [.slice A13 x.f5.length c13], rfl, (k33_mk w x.f4 l12 g12), ⟨A13, c13, rfl, l13, g13⟩⟩⟩⟩⟩⟩
theorem k35_mkM (w : World) (base : Nat) (ok : Nat → Prop) (x : S35) {v12 : Value} (g12 : (Kd.int .i64).R 3 w base ok v12 x.f4.f8) {v13 : Value} (g13 : (Kd.int .i64).R 3 w base ok v13 x.f5) : k35.M w base ok x [.int .i64 x.f0, .int .i64 x.f1, .int .i64 x.f2, .string x.f3, .int .i64 x.f4.f0, .int .i64 x.f4.f1, .int .i64 x.f4.f2, .int .i64 x.f4.f3, .int .i64 x.f4.f4, .bool x.f4.f5, .string x.f4.f6, .string x.f4.f7, v12, v13] := ⟨[.int .i64 x.f0], [.int .i64 x.f1, .int .i64 x.f2, .string x.f3, .int .i64 x.f4.f0, .int .i64 x.f4.f1, .int .i64 x.f4.f2, .int .i64 x.f4.f3, .int .i64 x.f4.f4, .bool x.f4.f5, .string x.f4.f6, .string x.f4.f7, v12, v13], rfl, rfl, ⟨[.int .i64 x.f1], [.int .i64 x.f2, .string x.f3, .int .i64 x.f4.f0, .int .i64 x.f4.f1, .int .i64 x.f4.f2, .int .i64 x.f4.f3, .int .i64 x.f4.f4, .bool x.f4.f5, .string x.f4.f6, .string x.f4.f7, v12, v13], rfl, rfl, ⟨[.int .i64 x.f2], [.string x.f3, .int .i64 x.f4.f0, .int .i64 x.f4.f1, .int .i64 x.f4.f2, .int .i64 x.f4.f3, .int .i64 x.f4.f4, .bool x.f4.f5, .string x.f4.f6, .string x.f4.f7, v12, v13], rfl, rfl, ⟨[.string x.f3], [.int .i64 x.f4.f0, .int .i64 x.f4.f1, .int .i64 x.f4.f2, .int .i64 x.f4.f3, .int .i64 x.f4.f4, .bool x.f4.f5, .string x.f4.f6, .string x.f4.f7, v12, v13], rfl, rfl, ⟨[.int .i64 x.f4.f0, .int .i64 x.f4.f1, .int .i64 x.f4.f2, .int .i64 x.f4.f3, .int .i64 x.f4.f4, .bool x.f4.f5, .string x.f4.f6, .string x.f4.f7, v12], [v13], rfl, (k33_mkM w base ok x.f4 g12), ⟨v13, rfl, g13⟩⟩⟩⟩⟩⟩
theorem k35_openF {W : World} {ok : Nat → Prop} {x : S35} {cs : List Value} (h : Kd.FK k35 W ok x cs) : ∃ A12 c12 A13 c13, cs = [.int .i64 x.f0, .int .i64 x.f1, .int .i64 x.f2, .string x.f3, .int .i64 x.f4.f0, .int .i64 x.f4.f1, .int .i64 x.f4.f2, .int .i64 x.f4.f3, .int .i64 x.f4.f4, .bool x.f4.f5, .string x.f4.f6, .string x.f4.f7, .slice A12 x.f4.f8.length c12, .slice A13 x.f5.length c13] ∧ x.f4.f8.length ≤ c12 ∧ Kd.F (Kd.int .i64) W ok A12 x.f4.f8.length x.f4.f8 ∧ x.f5.length ≤ c13 ∧ Kd.F (Kd.int .i64) W ok A13 x.f5.length x.f5 := by
  obtain ⟨A12, c12, A13, c13, rfl, l12, _, l13, _⟩ := k35_open (Kd.FK_now h)
  exact ⟨A12, c12, A13, c13, rfl, l12, (fun W' hW => by obtain ⟨A12_, c12_, A13_, c13_, he, l12_, g12_, l13_, g13_⟩ := k35_open (h W' hW); injection (Option.some.inj (show some (Value.slice A12 x.f4.f8.length c12) = some (Value.slice A12_ x.f4.f8.length c12_) from congrArg (fun l => l[12]?) he)) with ha_ _ _; rw [ha_]; exact g12_), l13, (fun W' hW => by obtain ⟨A12_, c12_, A13_, c13_, he, l12_, g12_, l13_, g13_⟩ := k35_open (h W' hW); injection (Option.some.inj (show some (Value.slice A13 x.f5.length c13) = some (Value.slice A13_ x.f5.length c13_) from congrArg (fun l => l[13]?) he)) with ha_ _ _; rw [ha_]; exact g13_)⟩
theorem k35_mkF (W : World) (ok : Nat → Prop) (x : S35) {A12 : Option Addr} {c12 : Nat} (l12 : x.f4.f8.length ≤ c12) (g12 : Kd.F (Kd.int .i64) W ok A12 x.f4.f8.length x.f4.f8) {A13 : Option Addr} {c13 : Nat} (l13 : x.f5.length ≤ c13) (g13 : Kd.F (Kd.int .i64) W ok A13 x.f5.length x.f5) : Kd.FK k35 W ok x [.int .i64 x.f0, .int .i64 x.f1, .int .i64 x.f2, .string x.f3, .int .i64 x.f4.f0, .int .i64 x.f4.f1, .int .i64 x.f4.f2, .int .i64 x.f4.f3, .int .i64 x.f4.f4, .bool x.f4.f5, .string x.f4.f6, .string x.f4.f7, .slice A12 x.f4.f8.length c12, .slice A13 x.f5.length c13] := fun W2 hW => k35_mk W2 x l12 (g12 W2 hW) l13 (g13 W2 hW)
def rd_T35 (xs : List S35) (i : Int) : S35 := xs.getD i.toNat z35
theorem at_T35 {w : World} {A : Option Addr} {n : Nat} {xs : List S35} (h : Kd.C k35 w A n xs) (i : Int) (h0 : 0 ≤ i) (h1 : i < n) : ∃ ad A12 c12 A13 c13, A = some ad ∧ w.cell? (ad.add (i.toNat * 14)) = some (.int .i64 (rd_T35 xs i).f0) ∧ w.cell? ⟨(ad.add (i.toNat * 14)).block, (ad.add (i.toNat * 14)).off + 1, none⟩ = some (.int .i64 (rd_T35 xs i).f1) ∧ w.cell? ⟨(ad.add (i.toNat * 14)).block, (ad.add (i.toNat * 14)).off + 2, none⟩ = some (.int .i64 (rd_T35 xs i).f2) ∧ w.cell? ⟨(ad.add (i.toNat * 14)).block, (ad.add (i.toNat * 14)).off + 3, none⟩ = some (.string (rd_T35 xs i).f3) ∧ w.cell? ⟨(ad.add (i.toNat * 14)).block, (ad.add (i.toNat * 14)).off + 4, none⟩ = some (.int .i64 (rd_T35 xs i).f4.f0) ∧ w.cell? ⟨(ad.add (i.toNat * 14)).block, (ad.add (i.toNat * 14)).off + 5, none⟩ = some (.int .i64 (rd_T35 xs i).f4.f1) ∧ w.cell? ⟨(ad.add (i.toNat * 14)).block, (ad.add (i.toNat * 14)).off + 6, none⟩ = some (.int .i64 (rd_T35 xs i).f4.f2) ∧ w.cell? ⟨(ad.add (i.toNat * 14)).block, (ad.add (i.toNat * 14)).off + 7, none⟩ = some (.int .i64 (rd_T35 xs i).f4.f3) ∧ w.cell? ⟨(ad.add (i.toNat * 14)).block, (ad.add (i.toNat * 14)).off + 8, none⟩ = some (.int .i64 (rd_T35 xs i).f4.f4) ∧ w.cell? ⟨(ad.add (i.toNat * 14)).block, (ad.add (i.toNat * 14)).off + 9, none⟩ = some (.bool (rd_T35 xs i).f4.f5) ∧ w.cell? ⟨(ad.add (i.toNat * 14)).block, (ad.add (i.toNat * 14)).off + 10, none⟩ = some (.string (rd_T35 xs i).f4.f6) ∧ w.cell? ⟨(ad.add (i.toNat * 14)).block, (ad.add (i.toNat * 14)).off + 11, none⟩ = some (.string (rd_T35 xs i).f4.f7) ∧ w.cell? ⟨(ad.add (i.toNat * 14)).block, (ad.add (i.toNat * 14)).off + 12, none⟩ = some (.slice A12 (rd_T35 xs i).f4.f8.length c12) ∧ w.cell? ⟨(ad.add (i.toNat * 14)).block, (ad.add (i.toNat * 14)).off + 13, none⟩ = some (.slice A13 (rd_T35 xs i).f5.length c13) ∧ (rd_T35 xs i).f4.f8.length ≤ c12 ∧ (Kd.int .i64).C w A12 (rd_T35 xs i).f4.f8.length (rd_T35 xs i).f4.f8 ∧ (rd_T35 xs i).f5.length ≤ c13 ∧ (Kd.int .i64).C w A13 (rd_T35 xs i).f5.length (rd_T35 xs i).f5 := by
  obtain ⟨ad, c, e, _, hK, hc0⟩ := Kd.C_get h z35 i h0 h1
  have hc : ∀ j u, c[j]? = some u → w.cell? (ad.add (i.toNat * 14 + j)) = some u := hc0
  obtain ⟨A12, c12, A13, c13, rfl, l12, g12, l13, g13⟩ := k35_open hK
  exact ⟨ad, A12, c12, A13, c13, e, hc 0 _ rfl, by rw [← add_field _ _ 1 (by omega)]; exact hc 1 _ rfl, by rw [← add_field _ _ 2 (by omega)]; exact hc 2 _ rfl, by rw [← add_field _ _ 3 (by omega)]; exact hc 3 _ rfl, by rw [← add_field _ _ 4 (by omega)]; exact hc 4 _ rfl, by rw [← add_field _ _ 5 (by omega)]; exact hc 5 _ rfl, by rw [← add_field _ _ 6 (by omega)]; exact hc 6 _ rfl, by rw [← add_field _ _ 7 (by omega)]; exact hc 7 _ rfl, by rw [← add_field _ _ 8 (by omega)]; exact hc 8 _ rfl, by rw [← add_field _ _ 9 (by omega)]; exact hc 9 _ rfl, by rw [← add_field _ _ 10 (by omega)]; exact hc 10 _ rfl, by rw [← add_field _ _ 11 (by omega)]; exact hc 11 _ rfl, by rw [← add_field _ _ 12 (by omega)]; exact hc 12 _ rfl, by rw [← add_field _ _ 13 (by omega)]; exact hc 13 _ rfl, l12, g12, l13, g13⟩

/-! #### struct type 96 -/
structure S96 where
  f0 : Int
  f1 : Int
  f2 : Int
  f3 : Bool
  f4 : Bool
def z96 : S96 := ⟨(0 : Int), (0 : Int), (0 : Int), false, false⟩
def k96 : Kd S96 := Kd.iso (Kd.pair (Kd.int .i64) (Kd.pair (Kd.int .i64) (Kd.pair (Kd.int .i64) (Kd.pair Kd.bool Kd.bool)))) (fun x : S96 => (x.f0, x.f1, x.f2, x.f3, x.f4))
theorem k96_open {w : World} {x : S96} {cs : List Value} (h : k96.K w x cs) : cs = [.int .i64 x.f0, .int .i64 x.f1, .int .i64 x.f2, .bool x.f3, .bool x.f4] := by
  obtain ⟨_, _, rfl, rfl, ⟨_, _, rfl, rfl, ⟨_, _, rfl, rfl, ⟨_, _, rfl, rfl, rfl⟩⟩⟩⟩ := h
  exact rfl
theorem k96_openM {w : World} {base : Nat} {ok : Nat → Prop} {x : S96} {cs : List Value} (h : k96.M w base ok x cs) : cs = [.int .i64 x.f0, .int .i64 x.f1, .int .i64 x.f2, .bool x.f3, .bool x.f4] := by
  obtain ⟨_, _, rfl, rfl, ⟨_, _, rfl, rfl, ⟨_, _, rfl, rfl, ⟨_, _, rfl, rfl, rfl⟩⟩⟩⟩ := h
  exact rfl
theorem k96_mk (w : World) (x : S96)  : k96.K w x [.int .i64 x.f0, .int .i64 x.f1, .int .i64 x.f2, .bool x.f3, .bool x.f4] := ⟨[.int .i64 x.f0], [.int .i64 x.f1, .int .i64 x.f2, .bool x.f3, .bool x.f4], rfl, rfl, ⟨[.int .i64 x.f1], [.int .i64 x.f2, .bool x.f3, .bool x.f4], rfl, rfl, ⟨[.int .i64 x.f2], [.bool x.f3, .bool x.f4], rfl, rfl, ⟨[.bool x.f3], [.bool x.f4], rfl, rfl, rfl⟩⟩⟩⟩
theorem k96_mkM (w : World) (base : Nat) (ok : Nat → Prop) (x : S96)  : k96.M w base ok x [.int .i64 x.f0, .int .i64 x.f1, .int .i64 x.f2, .bool x.f3, .bool x.f4] := ⟨[.int .i64 x.f0], [.int .i64 x.f1, .int .i64 x.f2, .bool x.f3, .bool x.f4], rfl, rfl, ⟨[.int .i64 x.f1], [.int .i64 x.f2, .bool x.f3, .bool x.f4], rfl, rfl, ⟨[.int .i64 x.f2], [.bool x.f3, .bool x.f4], rfl, rfl, ⟨[.bool x.f3], [.bool x.f4], rfl, rfl, rfl⟩⟩⟩⟩
theorem k96_mkF (W : World) (ok : Nat → Prop) (x : S96) : Kd.FK k96 W ok x [.int .i64 x.f0, .int .i64 x.f1, .int .i64 x.f2, .bool x.f3, .bool x.f4] := fun W2 _ => k96_mk W2 x
def rd_T96 (xs : List S96) (i : Int) : S96 := xs.getD i.toNat z96
theorem at_T96 {w : World} {A : Option Addr} {n : Nat} {xs : List S96} (h : Kd.C k96 w A n xs) (i : Int) (h0 : 0 ≤ i) (h1 : i < n) : ∃ ad , A = some ad ∧ w.cell? (ad.add (i.toNat * 5)) = some (.int .i64 (rd_T96 xs i).f0) ∧ w.cell? ⟨(ad.add (i.toNat * 5)).block, (ad.add (i.toNat * 5)).off + 1, none⟩ = some (.int .i64 (rd_T96 xs i).f1) ∧ w.cell? ⟨(ad.add (i.toNat * 5)).block, (ad.add (i.toNat * 5)).off + 2, none⟩ = some (.int .i64 (rd_T96 xs i).f2) ∧ w.cell? ⟨(ad.add (i.toNat * 5)).block, (ad.add (i.toNat * 5)).off + 3, none⟩ = some (.bool (rd_T96 xs i).f3) ∧ w.cell? ⟨(ad.add (i.toNat * 5)).block, (ad.add (i.toNat * 5)).off + 4, none⟩ = some (.bool (rd_T96 xs i).f4) := by
  obtain ⟨ad, c, e, _, hK, hc0⟩ := Kd.C_get h z96 i h0 h1
  have hc : ∀ j u, c[j]? = some u → w.cell? (ad.add (i.toNat * 5 + j)) = some u := hc0
  obtain rfl := k96_open hK
  exact ⟨ad, e, hc 0 _ rfl, by rw [← add_field _ _ 1 (by omega)]; exact hc 1 _ rfl, by rw [← add_field _ _ 2 (by omega)]; exact hc 2 _ rfl, by rw [← add_field _ _ 3 (by omega)]; exact hc 3 _ rfl, by rw [← add_field _ _ 4 (by omega)]; exact hc 4 _ rfl⟩

end Go.Proofs.Ytbkpgbhdfdifoaa
