/- towncrierlaw04.ArenaNone answers true, and leaves its arguments as they were, for every int and every string that fits into memory (no string longer than the model's reach). -/
import Derived.Test.YtbkpgbhdfdifoaaRows
import Derived.Test.YtbkpgbhdfdifoaaQ
import Derived.WalkKit
import Derived.ProofKit
import Derived.OpenShut
import Derived.ShutString
import Derived.ChangeOld
import Derived.Below
import Derived.SizedLaws
namespace Go.Proofs.Ytbkpgbhdfdifoaa
open Go.RowKit Go.Proofs.YtbkpgbhdfdifoaaW.PrintWords Go.Proofs.YtbkpgbhdfdifoaaW.PrintLast Go.Proofs.YtbkpgbhdfdifoaaW.PrintMore
set_option linter.unusedVariables false
set_option linter.unusedSimpArgs false

set_option maxRecDepth 100000 in
set_option maxHeartbeats 1000000 in
theorem arenaNone_walk (id : Int) (s : ByteArray) (w : World) : Calls Try.prog 5 #[.int .i64 id, .string s] w (TrueB w) := by
  have hr : rightE 1 0 false ⟨#[]⟩ ⟨#[]⟩ = 0 := by decide
  go_enter Try.func5, Try.ntmps5
  go_wp2_with fail
  refine (awake_any _).mono ?_
  rintro e w1 ⟨rfl, hb1⟩
  have B1 := Aside0.mk hb1
  clear hb1
  go_wp2_with fail
  refine (make_nil (mkN 2 0 false ⟨#[]⟩ ⟨#[]⟩) (.slice none 0 0) _).mono ?_
  rintro e w2 ⟨rfl, hb2⟩
  have B2 := Aside0.mk (B1.out.trans (hb2.mono B1.out.size))
  clear hb2 B1
  go_wp2_with fail
  refine (node_nil id _).mono ?_
  rintro e w3 ⟨rfl, hb3⟩
  have B3 := Aside0.mk (B2.out.trans (hb3.mono B2.out.size))
  clear hb3 B2
  unfold nodeV z33
  have hb := fun cs => blk_cell (heap_alloc_new w3 (.cells cs 33))
  go_wp2_with fail
  refine (one_same z33 none none 0 0 0 _ (Kd.C_nil _ _) (Kd.C_nil _ _)).mono ?_
  rintro e w4 ⟨rfl, hb4⟩
  have B4 := Aside0.mk ((B3.out.alloc B3.out.size _).trans (hb4.mono (by have := B3.out.size; simp; omega)))
  clear hb4 B3 hb
  go_wp2_with fail
  refine (len_nil _).mono ?_
  rintro e w5 ⟨rfl, rfl⟩
  go_wp2_with fail
  refine (all_nil _).mono ?_
  rintro e w5 ⟨rfl, rfl⟩
  go_wp2_with fail
  refine (put_nil id none 0 0 _).mono ?_
  rintro e w5 ⟨rfl, rfl⟩
  go_wp2_with fail
  refine (tie_nil id 1 _).mono ?_
  rintro e w5 ⟨rfl, rfl⟩
  go_wp2_with fail
  refine (name_nil id s _).mono ?_
  rintro e w5 ⟨rfl, rfl⟩
  go_wp2_with fail
  refine (want_nil id s _).mono ?_
  rintro e w5 ⟨rfl, rfl⟩
  have H0 := Aside0.mk (FV.new w.heap.size w4 B4.out.size)
  have B5 := Aside0.mk (B4.out.alloc B4.out.size (.cells #[.slice none 0 0] 53))
  go_wp2_with fail
  refine (make_yes H0.out B5.out.size 1 0 0 0 0 false ⟨#[]⟩ ⟨#[]⟩ (.slice none 0 0) rfl hr (by simp)).mono ?_
  rintro e w6 ⟨rfl, v6, h6, m6⟩
  have H6 := Aside0.mk h6
  have B6 := Aside0.mk (B5.out.trans m6.2.1)
  clear h6 m6
  go_wp2_with fail
  refine (len_any H6.out).mono ?_
  rintro e w7 ⟨rfl, rfl⟩
  go_wp2
  go_ret
  exact ⟨rfl, B6.out⟩
end Go.Proofs.Ytbkpgbhdfdifoaa
namespace Go.Proofs.Ytbkpgbhdfdifoaa.arenaNone
open Go.ChangeShapes Go.WideShapes Go.ChangeAt Go.RowKit
open Go.ChangeMaps (open_string shut_string)
set_option linter.unusedVariables false
theorem own : ownKnob Try.prog.godebug = none := by kernel_rfl
set_option maxRecDepth 100000 in
theorem lifted (os : Os) (started : os.Started) (H : Type) (enc : TypeId × Value → H) :
    ReturnsInHanded {} Try.checked os 5 .any (Rows.arenaNoneSpec.pre6 enc Try.prog Try.f5 Rows.arenaNoneRow.domain false) (Rows.arenaNoneSpec.post enc Try.prog Try.f5 false true false false) := by
  refine returnsInHanded_of_change_sized (C := Try.checked) own started (by kernel_rfl) Try.func5
    (ChangeSpec.witness6 (enc := enc) (C := Try.checked) false ⟨#[], #[.int .i64 0, .string ByteArray.empty], []⟩ 8 (by kernel_rfl) (by kernel_rfl) (by kernel_rfl) (by kernel_rfl)) ?_
  intro W base args ds gs before hval0 hW hcnd hsz0 _
  have hsz : (DataW.weightsEach Try.prog (Try.f5.params.toList ++ Rows.arenaNoneSpec.plain.varTypes Try.prog) (ds ++ gs)).all (· ≤ reachBytes) = true := hsz0
  have hval : ∀ (j : Nat) t v, Try.f5.params[j]? = some t → args[j]? = some v → Value.okWide Try.prog W .any base t v := hval0
  have hW' := hW
  obtain ⟨p, q, hA0, hV, rfl, hfz, hnd⟩ := hW
  have hA : DataW.TrodAll enc Try.prog W 0 (fun _ => true) true Try.f5.params.toList args.toList ds p := hA0
  rw [Try.params5] at hA hval hsz
  obtain ⟨v0, vs0, d0, ds0, p0, q0, hargs, rfl, rfl, h0, r0⟩ := trodAll_cons hA
  obtain ⟨v1, vs1, d1, ds1, p1, q1, rfl, rfl, rfl, h1, r1⟩ := trodAll_cons r0
  obtain ⟨rfl, rfl, rfl⟩ := trodAll_nil r1
  obtain rfl : args = #[v0, v1] := by cases args; simp_all
  obtain ⟨rfl, rfl⟩ := trodVars_none hV
  obtain ⟨a0, rfl, rfl, rfl, w0⟩ := open_int Try.underlying3 (hval 0 3 v0 rfl rfl) h0
  obtain ⟨a1, rfl, rfl, rfl, y1⟩ := open_string Try.underlying9 (hval 1 9 v1 rfl rfl) h1
  refine (arenaNone_walk a0 a1 W).mono fun e W' ⟨he, bel⟩ => ?_
  subst he
  exact ⟨_, rfl, _, _, _, [], _, [], hW', trodAll_mk1 (shut_bool Try.underlying4 _), (trodAll_cons_mk (shut_int Try.underlying3 w0) (trodAll_cons_mk (shut_string Try.underlying9 y1) trodAll_mk0)), rfl, bel.frame _, fun h => by cases h⟩
theorem over : Rows.arenaNoneRow.holds Try.pinned (OpenSpec.ofChange Rows.arenaNoneSpec) :=
  OpenClaim.holds_of_wide 5 Try.f5 rfl rfl rfl rfl rfl rfl rfl ⟨rfl, rfl, rfl, rfl, rfl⟩ rfl rfl rfl rfl rfl (by kernel_rfl) Try.func5 (by kernel_rfl)
    (of_decide_eq_true (by kernel_rfl)) (by unfold Func.isWrapper; first | (rw [if_pos (by decide +kernel)]; kernel_rfl) | (rw [if_neg (by decide +kernel)]; exact ⟨rfl, rfl⟩))
    (fun os started H enc _ => lifted os started H enc)
theorem proved : Rows.ArenaNoneSaid := over
#print axioms proved
end Go.Proofs.Ytbkpgbhdfdifoaa.arenaNone
namespace Go.Proofs.Ytbkpgbhdfdifoaa
/-- The row, under a short name, for the claim. -/
theorem arenaNone_holds : Rows.ArenaNoneSaid := arenaNone.proved
end Go.Proofs.Ytbkpgbhdfdifoaa

