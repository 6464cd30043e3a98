/- Who is above, as a chain; the document's Over. -/
import Derived.Test.YtbkpgbhdfdifoaaV
namespace Go.Proofs.Ytbkpgbhdfdifoaa
open Go.RowKit Go.Proofs.YtbkpgbhdfdifoaaW.PrintWords Go.Proofs.YtbkpgbhdfdifoaaW.PrintLast Go.Proofs.YtbkpgbhdfdifoaaW.PrintMore
set_option linter.unusedVariables false
set_option linter.unusedSimpArgs false

/-- A node, what is above it, and so on, up to what isn't there. -/
inductive Chain (L : List S33) (up : S33 → Int) : Int → List Int → Prop
  | stop {b : Int} : ¬ Th L b → Chain L up b []
  | step {b : Int} {l : List Int} : Th L b → Chain L up (up (nd L b)) l → Chain L up b (b :: l)
theorem Chain.mem {L : List S33} {up : S33 → Int} {b : Int} {l : List Int} (h : Chain L up b l) (a : Int) : a ∈ l ↔ Anc L up a b := by
  induction h with
  | stop hn =>
    constructor
    · intro h; simp at h
    · intro h; exact absurd h.right hn
  | @step b l hb hc ih =>
    rw [List.mem_cons]
    constructor
    · rintro (rfl | h)
      · exact .refl hb
      · exact .step hb (ih.1 h)
    · intro h
      cases h with
      | refl _ => exact .inl rfl
      | step _ h => exact .inr (ih.2 h)
theorem Chain.unique {L : List S33} {up : S33 → Int} {b : Int} {l l' : List Int} (h : Chain L up b l) (h' : Chain L up b l') : l = l' := by
  induction h generalizing l' with
  | stop hn =>
    cases h' with
    | stop _ => rfl
    | step hb _ => exact absurd hb hn
  | step hb _ ih =>
    cases h' with
    | stop hn => exact absurd hb hn
    | step _ hc => rw [ih hc]
theorem chain_exists {L : List S33} {up : S33 → Int} {r : Int → Nat} (hr : Ranked L up r) (b : Int) : ∃ l, Chain L up b l := by
  have h0 : ∀ n b, Th L b → r b < n → ∃ l, Chain L up b l := by
    intro n
    induction n with
    | zero => intro b _ h; omega
    | succ n ih =>
      intro b hb h
      rcases hr b hb with e | ⟨h1, h2⟩
      · exact ⟨[b], .step hb (.stop (fun h => by rw [e] at h; have := h.1; omega))⟩
      · obtain ⟨l, hl⟩ := ih _ h1 (by omega)
        exact ⟨b :: l, .step hb hl⟩
  by_cases hb : Th L b
  · exact h0 (r b + 1) b hb (Nat.lt_succ_self _)
  · exact ⟨[], .stop hb⟩
theorem Chain.th {L : List S33} {up : S33 → Int} {b : Int} {l : List Int} (h : Chain L up b l) : ∀ a ∈ l, Th L a := fun a ha => ((h.mem a).1 ha).left
theorem Chain.nodup {L : List S33} {up : S33 → Int} {r : Int → Nat} (hr : Ranked L up r) {b : Int} {l : List Int} (h : Chain L up b l) : l.Nodup := by
  induction h with
  | stop _ => exact List.nodup_nil
  | @step b l hb hc ih =>
    rw [List.nodup_cons]
    refine ⟨fun hm => ?_, ih⟩
    have hA := (hc.mem b).1 hm
    have h1 := hA.rank hr
    rcases hr b hb with e | ⟨_, h2⟩
    · have := hA.right.1; omega
    · omega
theorem Chain.length {L : List S33} {up : S33 → Int} {r : Int → Nat} (hr : Ranked L up r) {b : Int} {l : List Int} (h : Chain L up b l) : l.length ≤ L.length :=
  nodup_le _ (h.nodup hr) (fun a ha => h.th a ha)

def IntsPost (B : Nat → Prop) (l : List Int) (w : World) (e : Ending) (w' : World) : Prop := ∃ v, e = .returned v ∧ Kd.R (Kd.int .i64) 3 w' w.heap.size (fun k => w.heap.size ≤ k) v l ∧ Below w.heap.size w w'
set_option maxRecDepth 100000 in
set_option maxHeartbeats 400000 in
theorem over_any {B : Nat → Prop} {w : World} {v : Value} {L : List S33} (h : RV B w v L) (hn : L.length ≤ 128) (r : Int → Nat) (hr : Ranked L upO r) (id : Int) (l : List Int) (hl : Chain L upO id l) :
    Calls Try.prog 28 #[v, .int .i64 id] w (IntsPost B l w) := by
  obtain ⟨A, c, rfl⟩ := h.slice
  have H := Aside0.mk h
  have HRk := Aside0.mk hr
  have HL := Aside0.mk hl
  have hll := hl.length hr
  clear h hr hl
  go_enter Try.func28, Try.ntmps28
  go_wp2_with fail
  go_loopw [1, 5, 6] (fun b o i wr => ∃ (k : Nat) (bb : Int), i = .int .i64 k ∧ b = .int .i64 bb ∧ k ≤ l.length ∧ Aside0 (Kd.R (Kd.int .i64) 3 wr w.heap.size (fun j => w.heap.size ≤ j) o (l.take k)) ∧ Aside0 (Chain L upO bb (l.drop k)) ∧ Aside0 (Below w.heap.size w wr)) (fun b o i _ => l.length + 1 - (intOf i).toNat)
  case atStart => exact ⟨0, id, rfl, rfl, by omega, ⟨Kd.R_nil _ _ _ _ _⟩, HL, ⟨Below.refl _ _⟩⟩
  case round =>
    obtain ⟨k, bb, rfl, rfl, hk, HRo, HCh, HBl⟩ := hrel
    by_cases hT : Th L bb
    · have hlt : k < l.length := by
        rcases Nat.lt_or_ge k l.length with h | h
        · exact h
        · have hc := HCh.out
          rw [List.drop_eq_nil_of_le h] at hc
          cases hc with
          | stop hn => exact absurd hT hn
      have hx : l[k] = bb ∧ Chain L upO (upO (nd L bb)) (l.drop (k + 1)) := by
        have hc := HCh.out
        rw [List.drop_eq_getElem_cons hlt] at hc
        generalize l.drop (k + 1) = l2 at hc ⊢
        generalize l[k] = x at hc ⊢
        cases hc with
        | step _ hc => exact ⟨rfl, hc⟩
      obtain ⟨g, cap, he, hgB, hgl⟩ := (H.out.below HBl.out).form (by obtain ⟨b1, b2⟩ := hT; omega)
      have hA : A = some ⟨g, 0, none⟩ := by injection he
      subst hA
      have HT := Aside0.mk hT
      have HX := Aside0.mk hx
      have p3 : (k : Int) ≤ (L.length : Int) := by omega
      have hlo : ∀ j, u5.ownBlock = some j → j < wr.heap.size := fun j hj => Kd.R_lt HRo.out j hj
      clear hT hx he hlo
      go_wp2_with fail
      refine (there_yes (some ⟨g, 0, none⟩) L.length c bb _ HT.out).mono ?_
      rintro e w' ⟨rfl, rfl⟩
      go_wp2_with (first | (at_builtin; refine Stop0.out ?_) | fail)
      refine ⟨?_⟩
      refine Kd.R_append (Kd.int .i64) (w0 := w) (W := wr) (cs := [.int .i64 bb]) w.heap.size rfl (.tmp 19) (.tmp 21) 31 3 (.int .i64 0) 8 rfl Try.underlying31 info3 rfl (by decide) (by omega) u5 (l.take k) bb (fun j => w.heap.size ≤ j) (fun _ => False) rfl rfl rfl (fun _ h => h.elim) ?hf HRo.out HBl.out HBl.out.size ?hl ?_
      case hf => exact fun j hj => Nat.le_trans HBl.out.size hj
      case hl => simp; omega
      intro v3 w3 HR3 HB3 hg3 hat3
      have HR4 : Aside0 (Kd.R (Kd.int .i64) 3 w3 w.heap.size (fun j => w.heap.size ≤ j) v3 (l.take (k + 1))) := ⟨by rw [take_snoc hlt, HX.out.1]; exact HR3⟩
      have HB4 := Aside0.mk HB3
      obtain ⟨A8, c8, l8, F8, hcc, hfr⟩ := (H.out.below HB3).elem rfl HT.out
      obtain ⟨x, hxx⟩ : ∃ x, x = nd L bb := ⟨_, rfl⟩
      rw [← hxx] at hcc
      have e1 := hcc 1 _ rfl
      have e2 := hcc 2 _ rfl
      have HXX := Aside0.mk hxx
      have p4 : (1 : Int) ≤ bb := HT.out.1
      have p5 : bb ≤ (L.length : Int) := HT.out.2
      clear l8 F8 hcc hfr HR3 HB3 hg3 hat3 hxx
      by_cases f0 : x.f1 = 0
      · have hb0 : (x.f1 == 0) = true := by simp [f0]
        have hu : upO (nd L bb) = x.f2 := by rw [← HXX.out]; unfold upO; rw [if_pos f0]
        have HU := Aside0.mk hu
        clear f0 hu
        go_wp2
        go_round
        case rel => exact ⟨k + 1, x.f2, by go_num, rfl, by omega, HR4, ⟨by rw [← HU.out]; exact HX.out.2⟩, HB4⟩
        case measure => simp [intOf]; omega
      · have hb0 : (x.f1 == 0) = false := by simpa using f0
        have hu : upO (nd L bb) = x.f1 := by rw [← HXX.out]; unfold upO; rw [if_neg f0]
        have HU := Aside0.mk hu
        clear f0 hu
        go_wp2
        go_round
        case rel => exact ⟨k + 1, x.f1, by go_num, rfl, by omega, HR4, ⟨by rw [← HU.out]; exact HX.out.2⟩, HB4⟩
        case measure => simp [intOf]; omega
    · have hd : l.drop k = [] := HCh.out.unique (.stop hT)
      have hkk : k = l.length := by
        have := List.drop_eq_nil_iff.1 hd
        omega
      have HT := Aside0.mk hT
      subst hkk
      rw [List.take_length] at HRo
      have p3 : (l.length : Int) ≤ (L.length : Int) := by omega
      clear hT hd
      go_wp2_with fail
      refine (there_no A L.length c bb _ HT.out).mono ?_
      rintro e w' ⟨rfl, rfl⟩
      go_wp2
      go_ret
      exact ⟨_, rfl, HRo.out, HBl.out⟩
end Go.Proofs.Ytbkpgbhdfdifoaa
