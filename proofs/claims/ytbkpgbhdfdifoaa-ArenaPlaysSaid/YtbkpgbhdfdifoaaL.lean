/- Forest.All tells the nodes, all of it made anew. -/
import Derived.Test.YtbkpgbhdfdifoaaX
namespace Go.Proofs.Ytbkpgbhdfdifoaa
open Go.RowKit Go.Proofs.YtbkpgbhdfdifoaaW.PrintWords Go.Proofs.YtbkpgbhdfdifoaaW.PrintLast Go.Proofs.YtbkpgbhdfdifoaaW.PrintMore
set_option linter.unusedVariables false
set_option linter.unusedSimpArgs false

def AllPost (L : List S33) (w : World) (e : Ending) (w' : World) : Prop := ∃ v', e = .returned v' ∧ Kd.R k33 33 w' w.heap.size (fun k => w.heap.size ≤ k) v' L ∧ Below w.heap.size w w'
set_option maxRecDepth 100000 in
set_option maxHeartbeats 400000 in
theorem all_any {B : Nat} {w : World} {p : Nat} {v : Value} {L : List S33} (h : FV B w p v L) (hg : Good L) : Calls Try.prog 25 #[.pointer (some ⟨p, 0, none⟩)] w (AllPost L w) := by
  have hn : L.length ≤ 128 := hg.len
  have H := Aside0.mk h
  have HG := Aside0.mk hg
  clear h hg
  go_enter Try.func25, Try.ntmps25
  go_wp2_with fail
  refine (len_any H.out).mono ?_
  rintro e w1 ⟨rfl, rfl⟩
  go_wp2_with fail
  go_loopw [3, 9] (fun o i wr => ∃ k : Nat, i = .int .i64 k ∧ k ≤ L.length ∧ Aside0 (Kd.R k33 33 wr w.heap.size (fun j => w.heap.size ≤ j) o (L.take k)) ∧ Aside0 (Below w.heap.size w wr)) (fun o i _ => L.length - (intOf i).toNat)
  case atStart => exact ⟨0, rfl, by omega, ⟨Kd.R_nil _ _ _ _ _⟩, ⟨Below.refl _ _⟩⟩
  case round =>
    obtain ⟨k, rfl, hk, HRo, HBl⟩ := hrel
    by_cases hlt : k < L.length
    · have hT : Th L ((k : Int) + 1) := ⟨by omega, by omega⟩
      have hkl : (nd L ((k : Int) + 1)).f8.length ≤ 128 := HG.out.kids_le hT
      go_wp2_with fail
      refine (node_yes (H.out.below HBl.out) ((k : Int) + 1) hT (by omega) (by omega)).mono ?_
      rintro e w2 ⟨kv, rfl, hR2, hb2⟩
      obtain ⟨x, hx⟩ : ∃ x, x = nd L ((k : Int) + 1) := ⟨_, rfl⟩
      rw [← hx] at hR2 ⊢
      have HX := Aside0.mk hx
      clear hx hT hkl
      obtain ⟨A2, c2, rfl, l2, -⟩ := Kd.R_reads hR2
      unfold nodeV
      have hbk := heap_alloc_new w2 (.cells #[.int .i64 x.f0, .int .i64 x.f1, .int .i64 x.f2, .int .i64 x.f3, .int .i64 x.f4, .bool x.f5, .string x.f6, .string x.f7, .slice A2 x.f8.length c2] 33)
      have hc0 := fun j => blk_cell hbk j
      have HRo2 := Aside0.mk (Kd.R_alloc (Kd.R_below HRo.out hb2) (.cells #[.int .i64 x.f0, .int .i64 x.f1, .int .i64 x.f2, .int .i64 x.f3, .int .i64 x.f4, .bool x.f5, .string x.f6, .string x.f7, .slice A2 x.f8.length c2] 33))
      have HR2 := Aside0.mk (Kd.R_alloc hR2 (.cells #[.int .i64 x.f0, .int .i64 x.f1, .int .i64 x.f2, .int .i64 x.f3, .int .i64 x.f4, .bool x.f5, .string x.f6, .string x.f7, .slice A2 x.f8.length c2] 33))
      have hBl2 : Below w.heap.size w w2 := HBl.out.trans (hb2.mono HBl.out.size)
      have HB2 := Aside0.mk (hBl2.alloc hBl2.size (.cells #[.int .i64 x.f0, .int .i64 x.f1, .int .i64 x.f2, .int .i64 x.f3, .int .i64 x.f4, .bool x.f5, .string x.f6, .string x.f7, .slice A2 x.f8.length c2] 33))
      have hlo : ∀ j, u3.ownBlock = some j → j < wr.heap.size := fun j hj => Kd.R_lt HRo.out j hj
      have HLo := Aside0.mk hlo
      have HSz := Aside0.mk hBl2.size
      clear hbk hR2 hb2 hBl2 hlo
      go_wp2_with (first | (at_builtin; refine Stop0.out ?_) | fail)
      refine ⟨?_⟩
      refine Kd.R_append k33 (w0 := w) (W := w2.alloc (.cells #[.int .i64 x.f0, .int .i64 x.f1, .int .i64 x.f2, .int .i64 x.f3, .int .i64 x.f4, .bool x.f5, .string x.f6, .string x.f7, .slice A2 x.f8.length c2] 33)) (cs := [.int .i64 x.f0, .int .i64 x.f1, .int .i64 x.f2, .int .i64 x.f3, .int .i64 x.f4, .bool x.f5, .string x.f6, .string x.f7, .slice A2 x.f8.length c2]) w.heap.size rfl (.tmp 19) (.tmp 21) 27 33 _ 104 rfl Try.underlying27 info33 rfl (by decide) (by omega) u3 (L.take k) x (fun j => w.heap.size ≤ j) (fun j => wr.heap.size ≤ j) rfl (by show Value.slice (some ⟨w2.heap.size + 1, 0, none⟩) 1 1 = _; simp) ?hp ?hokp ?hf HRo2.out HB2.out ?hb ?hl ?_
      case hp => exact k33_mkM _ _ _ x (Kd.R_lower HR2.out HBl.out.size)
      case hokp => exact fun j hj => ⟨Nat.le_trans HBl.out.size hj, fun e => by have := HLo.out j e.symm; omega⟩
      case hf => exact fun j hj => by have := HSz.out; simp at hj; omega
      case hb => have := HSz.out; simp; omega
      case hl => simp; omega
      intro v3 w3 HR3 HB3 hg3 hat3
      have HR4 := Aside0.mk HR3
      have HB4 := Aside0.mk HB3
      clear HR3 HB3 hg3 hat3
      go_wp2
      go_round
      case rel =>
        refine ⟨k + 1, by go_num, by omega, ⟨?_⟩, HB4⟩
        have e : x = L[k] := by rw [HX.out, nd_nat L k hlt]
        rw [take_snoc hlt, ← e]
        exact HR4.out
      case measure => simp [intOf]; omega
    · have hkk : k = L.length := by omega
      subst hkk
      rw [List.take_length] at HRo
      go_wp2
      go_ret
      exact ⟨_, rfl, HRo.out, HBl.out⟩
end Go.Proofs.Ytbkpgbhdfdifoaa
