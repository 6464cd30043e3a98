/- Each call on a forest leaves it good. -/
import Derived.Test.YtbkpgbhdfdifoaaG
namespace Go.Proofs.Ytbkpgbhdfdifoaa
open Go.RowKit Go.Proofs.YtbkpgbhdfdifoaaW.PrintWords
set_option linter.unusedVariables false
set_option linter.unusedSimpArgs false

theorem Good.nil : Good [] := by
  have h0 : ∀ id, ¬ Th ([] : List S33) id := fun id h => by
    obtain ⟨a, b⟩ := h
    simp at b
    omega
  exact ⟨by simp, fun id h => absurd h (h0 id), fun id h => absurd h (h0 id), fun id h => absurd h (h0 id), fun id h => absurd h (h0 id), fun id h => absurd h (h0 id), fun id h => absurd h (h0 id), ⟨fun _ => 0, fun id h => absurd h (h0 id)⟩⟩
theorem Th_append {L : List S33} {x : S33} {id : Int} : Th (L ++ [x]) id ↔ Th L id ∨ id = (L.length : Int) + 1 := by
  unfold Th
  rw [List.length_append]
  simp only [List.length_cons, List.length_nil]
  omega
theorem nd_append {L : List S33} {x : S33} {id : Int} (h : Th L id) : nd (L ++ [x]) id = nd L id := by
  rw [nd_eq (Th_append.2 (.inl h)), nd_eq h]
  obtain ⟨h1, h2⟩ := h
  exact List.getElem_append_left _
theorem nd_append_last {L : List S33} {x : S33} : nd (L ++ [x]) ((L.length : Int) + 1) = x := by
  rw [nd_nat _ _ (by simp)]
  simp
theorem Good.make {L : List S33} (h : Good L) (hl : L.length < 128) (k m : Int) (sl : Bool) (nm wa : ByteArray) : Good (L ++ [mkN k m sl nm wa]) := by
  obtain ⟨r, hr⟩ := h.rank
  have hT : ∀ {id}, Th L id → Th (L ++ [mkN k m sl nm wa]) id := fun h => Th_append.2 (.inl h)
  refine ⟨by simp; omega, ?_, ?_, ?_, ?_, ?_, ?_, ⟨r, ?_⟩⟩ <;> intro id hid <;> rcases Th_append.1 hid with hid | rfl
  · rw [nd_append hid]
    intro k hk
    obtain ⟨h1, h2⟩ := h.kid id hid k hk
    exact ⟨hT h1, by rw [nd_append h1]; exact h2⟩
  · rw [nd_append_last]; intro k hk; simp [mkN] at hk
  · rw [nd_append hid]
    intro hk
    obtain ⟨h1, h2⟩ := h.par id hid hk
    exact ⟨hT h1, by rw [nd_append h1]; exact h2⟩
  · rw [nd_append_last]; intro hk; exact absurd rfl hk
  · rw [nd_append hid]; exact h.nodup id hid
  · rw [nd_append_last]; simp [mkN]
  · rw [nd_append hid]; exact h.kind id hid
  · rw [nd_append_last]; intro hk; exact absurd rfl hk
  · rw [nd_append hid]
    intro hk
    obtain ⟨h0, h1, h2⟩ := h.host id hid hk
    exact ⟨h0, hT h1, by rw [nd_append h1]; exact h2⟩
  · rw [nd_append_last]; intro hk; exact absurd rfl hk
  · rw [nd_append hid]
    intro hk
    obtain ⟨h0, h1, h2⟩ := h.shad id hid hk
    exact ⟨h0, hT h1, by rw [nd_append h1]; exact h2⟩
  · rw [nd_append_last]; intro hk; exact absurd rfl hk
  · rw [nd_append hid]
    rcases hr id hid with e | ⟨h1, h2⟩
    · exact .inl e
    · exact .inr ⟨hT h1, h2⟩
  · rw [nd_append_last]; exact .inl rfl

/-- Some nodes are put, with all below them, below another one. -/
theorem rank_bump {L L' : List S33} {up : S33 → Int} {r : Int → Nat} (hr : Ranked L up r) (hl : L'.length = L.length) (S : Int → Prop) (M : Nat)
    (h : ∀ id, Th L id → up (nd L' id) = 0 ∨ (Th L (up (nd L' id)) ∧ ((S id ∧ ¬ S (up (nd L' id)) ∧ r (up (nd L' id)) < M) ∨ (up (nd L' id) = up (nd L id) ∧ up (nd L id) ≠ 0 ∧ (S id ↔ S (up (nd L id))))))) :
    ∃ r', Ranked L' up r' := by
  classical
  refine ⟨fun id => r id + if S id then M else 0, fun id hid => ?_⟩
  have hT : ∀ i, Th L' i ↔ Th L i := fun i => by unfold Th; rw [hl]
  rcases h id ((hT id).1 hid) with e | ⟨h1, h2⟩
  · exact .inl e
  · refine .inr ⟨(hT _).2 h1, ?_⟩
    rcases h2 with ⟨s1, s2, s3⟩ | ⟨e, e0, hs⟩
    · show _ + (if S (up (nd L' id)) then M else 0) < _ + (if S id then M else 0)
      rw [if_pos s1, if_neg s2]
      omega
    · have := (hr id ((hT id).1 hid)).resolve_left e0
      show r (up (nd L' id)) + (if S (up (nd L' id)) then M else 0) < r id + (if S id then M else 0)
      rw [e]
      by_cases hS : S id
      · rw [if_pos hS, if_pos (hs.1 hS)]; omega
      · rw [if_neg hS, if_neg (fun h => hS (hs.2 h))]; omega
theorem Anc.up_iff {L : List S33} {up : S33 → Int} {a id : Int} (hid : Th L id) (hne : id ≠ a) : Anc L up a id ↔ Anc L up a (up (nd L id)) := by
  constructor
  · intro h
    cases h with
    | refl _ => exact absurd rfl hne
    | step _ h => exact h
  · exact .step hid

theorem Good.host0 {L : List S33} (h : Good L) {id : Int} (hid : Th L id) (hf : rootedB (nd L id) = false) : (nd L id).f2 = 0 := by
  rcases Classical.em ((nd L id).f2 = 0) with e | e
  · exact e
  · have := (h.host id hid e).1
    unfold rootedB at hf
    rw [this] at hf
    simp at hf
theorem Good.put {L : List S33} (h : Good L) {parent : Int} {kids : List Int} (hp : Th L parent) (hk : KidsOk L kids) (hk2 : ∀ k ∈ kids, KidOk L parent k) : Good (relink L parent kids) := by
  obtain ⟨r, hr⟩ := h.rank
  have hT : ∀ {id}, Th (relink L parent kids) id ↔ Th L id := Th_mapN
  have hn : ∀ {id}, Th L id → nd (relink L parent kids) id = { nd L id with f1 := if id ∈ kids then parent else if (nd L id).f1 = parent then 0 else (nd L id).f1, f8 := if id = parent then kids else (nd L id).f8 } := fun h => nd_mapN h
  have hp0 : parent ≠ 0 := by have := hp.1; omega
  refine ⟨by unfold relink; rw [length_mapN]; exact h.len, ?_, ?_, ?_, ?_, ?_, ?_, ?_⟩
  · intro id hid k
    have hid := hT.1 hid
    rw [hn hid]
    show k ∈ (if id = parent then kids else (nd L id).f8) → _
    intro hkk
    by_cases e : id = parent
    · rw [if_pos e] at hkk
      exact ⟨hT.2 (hk.1 k hkk), by rw [hn (hk.1 k hkk)]; simp only [if_pos hkk]; exact e.symm⟩
    · rw [if_neg e] at hkk
      obtain ⟨h1, h2⟩ := h.kid id hid k hkk
      refine ⟨hT.2 h1, ?_⟩
      rw [hn h1]
      have hnk : k ∉ kids := fun hkm => by
        rcases (hk2 k hkm).2.2 with h0 | h0
        · rw [h2] at h0; have := hid.1; omega
        · exact e (h2.symm.trans h0)
      show (if k ∈ kids then parent else if (nd L k).f1 = parent then 0 else (nd L k).f1) = id
      rw [if_neg hnk, h2, if_neg e]
  · intro id hid
    have hid := hT.1 hid
    rw [hn hid]
    show (if id ∈ kids then parent else if (nd L id).f1 = parent then 0 else (nd L id).f1) ≠ 0 → Th _ (if id ∈ kids then parent else if (nd L id).f1 = parent then 0 else (nd L id).f1) ∧ id ∈ (nd _ (if id ∈ kids then parent else if (nd L id).f1 = parent then 0 else (nd L id).f1)).f8
    by_cases e : id ∈ kids
    · rw [if_pos e]
      intro _
      refine ⟨hT.2 hp, ?_⟩
      rw [hn hp]
      show id ∈ (if parent = parent then kids else _)
      rw [if_pos rfl]
      exact e
    · rw [if_neg e]
      by_cases e2 : (nd L id).f1 = parent
      · rw [if_pos e2]; intro h; exact absurd rfl h
      · rw [if_neg e2]
        intro h0
        obtain ⟨h1, h2⟩ := h.par id hid h0
        refine ⟨hT.2 h1, ?_⟩
        rw [hn h1]
        show id ∈ (if (nd L id).f1 = parent then kids else _)
        rw [if_neg e2]
        exact h2
  · intro id hid
    have hid := hT.1 hid
    rw [hn hid]
    show (if id = parent then kids else (nd L id).f8).Nodup
    by_cases e : id = parent
    · rw [if_pos e]; exact hk.2
    · rw [if_neg e]; exact h.nodup id hid
  · intro id hid
    have hid := hT.1 hid
    rw [hn hid]
    show (if id ∈ kids then parent else if (nd L id).f1 = parent then 0 else (nd L id).f1) ≠ 0 → rootedB (nd L id) = false
    by_cases e : id ∈ kids
    · exact fun _ => (hk2 id e).1
    · rw [if_neg e]
      by_cases e2 : (nd L id).f1 = parent
      · rw [if_pos e2]; intro h; exact absurd rfl h
      · rw [if_neg e2]; exact h.kind id hid
  · intro id hid
    have hid := hT.1 hid
    rw [hn hid]
    intro h0
    obtain ⟨h1, h2, h3⟩ := h.host id hid h0
    refine ⟨h1, hT.2 h2, ?_⟩
    rw [hn h2]
    exact h3
  · intro id hid
    have hid := hT.1 hid
    rw [hn hid]
    intro h0
    obtain ⟨h1, h2, h3⟩ := h.shad id hid h0
    refine ⟨h1, hT.2 h2, ?_⟩
    rw [hn h2]
    exact h3
  · refine rank_bump hr (length_mapN _ _) (fun id => ∃ k ∈ kids, Anc L upO k id) (r parent + 1) (fun id hid => ?_)
    have hu : upO (nd (relink L parent kids) id) = if (if id ∈ kids then parent else if (nd L id).f1 = parent then 0 else (nd L id).f1) = 0 then (nd L id).f2 else (if id ∈ kids then parent else if (nd L id).f1 = parent then 0 else (nd L id).f1) := by rw [hn hid]; rfl
    have hSp : ¬ ∃ k ∈ kids, Anc L upO k parent := fun ⟨k, h1, h2⟩ => (hk2 k h1).2.1 h2
    by_cases e : id ∈ kids
    · rw [if_pos e, if_neg hp0] at hu
      rw [hu]
      exact .inr ⟨hp, .inl ⟨⟨id, e, .refl hid⟩, hSp, Nat.lt_succ_self _⟩⟩
    · rw [if_neg e] at hu
      have hS : (∃ k ∈ kids, Anc L upO k id) ↔ ∃ k ∈ kids, Anc L upO k (upO (nd L id)) := by
        constructor
        · rintro ⟨k, h1, h2⟩
          exact ⟨k, h1, (Anc.up_iff hid (fun he => e (he ▸ h1))).1 h2⟩
        · rintro ⟨k, h1, h2⟩
          exact ⟨k, h1, .step hid h2⟩
      by_cases e2 : (nd L id).f1 = parent
      · rw [if_pos e2, if_pos rfl, h.host0 hid (h.kind id hid (by rw [e2]; exact hp0))] at hu
        exact .inl hu
      · rw [if_neg e2] at hu
        have hu' : upO (nd (relink L parent kids) id) = upO (nd L id) := hu
        rw [hu']
        rcases hr id hid with h0 | ⟨h1, h2⟩
        · exact .inl h0
        · exact .inr ⟨h1, .inr ⟨rfl, by have := h1.1; omega, hS⟩⟩

/-! ### Tie -/
def tieL (L : List S33) (host root : Int) : List S33 := mapN L fun id x => { x with f2 := if id = root then host else x.f2, f3 := if id = host then root else x.f3 }
def TieR (L : List S33) (host root : Int) (n : Int) (L' : List S33) : Prop :=
  (¬ (Th L host ∧ Th L root) ∧ n = 1 ∧ L' = L) ∨ ((Th L host ∧ Th L root) ∧ ¬ ((nd L host).f0 = 2 ∧ (nd L root).f0 = 3) ∧ n = 2 ∧ L' = L) ∨
  ((Th L host ∧ Th L root) ∧ ((nd L host).f0 = 2 ∧ (nd L root).f0 = 3) ∧ ¬ ((nd L host).f3 = 0 ∧ (nd L root).f2 = 0) ∧ n = 6 ∧ L' = L) ∨
  ((Th L host ∧ Th L root) ∧ ((nd L host).f0 = 2 ∧ (nd L root).f0 = 3) ∧ ((nd L host).f3 = 0 ∧ (nd L root).f2 = 0) ∧ Anc L upO root host ∧ n = 3 ∧ L' = L) ∨
  ((Th L host ∧ Th L root) ∧ ((nd L host).f0 = 2 ∧ (nd L root).f0 = 3) ∧ ((nd L host).f3 = 0 ∧ (nd L root).f2 = 0) ∧ ¬ Anc L upO root host ∧ n = 0 ∧ L' = tieL L host root)
theorem TieR.unique {L : List S33} {a b : Int} {n n' : Int} {L1 L2 : List S33} (h : TieR L a b n L1) (h' : TieR L a b n' L2) : n = n' ∧ L1 = L2 := by
  rcases h with ⟨p, rfl, rfl⟩ | ⟨p, q, rfl, rfl⟩ | ⟨p, q, s, rfl, rfl⟩ | ⟨p, q, s, t, rfl, rfl⟩ | ⟨p, q, s, t, rfl, rfl⟩ <;>
  rcases h' with ⟨p', rfl, rfl⟩ | ⟨p', q', rfl, rfl⟩ | ⟨p', q', s', rfl, rfl⟩ | ⟨p', q', s', t', rfl, rfl⟩ | ⟨p', q', s', t', rfl, rfl⟩ <;>
  first | exact ⟨rfl, rfl⟩ | exact absurd p' p | exact absurd p p' | exact absurd q' q | exact absurd q q' | exact absurd s' s | exact absurd s s' | exact absurd t' t | exact absurd t t'
theorem Good.tie {L : List S33} (h : Good L) {a b : Int} (hT2 : Th L a ∧ Th L b) (hk : (nd L a).f0 = 2 ∧ (nd L b).f0 = 3) (hf : (nd L a).f3 = 0 ∧ (nd L b).f2 = 0) (hA : ¬ Anc L upO b a) : Good (tieL L a b) := by
  obtain ⟨ha, hb⟩ := hT2
  obtain ⟨r, hr⟩ := h.rank
  have hT : ∀ {id}, Th (tieL L a b) id ↔ Th L id := Th_mapN
  have hn : ∀ {id}, Th L id → nd (tieL L a b) id = { nd L id with f2 := if id = b then a else (nd L id).f2, f3 := if id = a then b else (nd L id).f3 } := fun h => nd_mapN h
  have a0 : a ≠ 0 := by have := ha.1; omega
  have b0 : b ≠ 0 := by have := hb.1; omega
  have hb1 : (nd L b).f1 = 0 := by
    rcases Classical.em ((nd L b).f1 = 0) with e | e
    · exact e
    · have := h.kind b hb e
      unfold rootedB at this
      rw [hk.2] at this
      simp at this
  refine ⟨by unfold tieL; rw [length_mapN]; exact h.len, ?_, ?_, ?_, ?_, ?_, ?_, ?_⟩
  · intro id hid k
    have hid := hT.1 hid
    rw [hn hid]
    intro hkk
    obtain ⟨h1, h2⟩ := h.kid id hid k hkk
    exact ⟨hT.2 h1, by rw [hn h1]; exact h2⟩
  · intro id hid
    have hid := hT.1 hid
    rw [hn hid]
    intro h0
    obtain ⟨h1, h2⟩ := h.par id hid h0
    exact ⟨hT.2 h1, by rw [hn h1]; exact h2⟩
  · intro id hid
    have hid := hT.1 hid
    rw [hn hid]
    exact h.nodup id hid
  · intro id hid
    have hid := hT.1 hid
    rw [hn hid]
    exact h.kind id hid
  · intro id hid
    have hid := hT.1 hid
    rw [hn hid]
    show (if id = b then a else (nd L id).f2) ≠ 0 → (nd L id).f0 = 3 ∧ Th _ (if id = b then a else (nd L id).f2) ∧ (nd _ (if id = b then a else (nd L id).f2)).f3 = id
    by_cases e : id = b
    · rw [if_pos e]
      intro _
      refine ⟨by rw [e]; exact hk.2, hT.2 ha, ?_⟩
      rw [hn ha]
      show (if a = a then b else _) = id
      rw [if_pos rfl]
      exact e.symm
    · rw [if_neg e]
      intro h0
      obtain ⟨h1, h2, h3⟩ := h.host id hid h0
      refine ⟨h1, hT.2 h2, ?_⟩
      rw [hn h2]
      show (if (nd L id).f2 = a then b else _) = id
      have : (nd L id).f2 ≠ a := fun e3 => by
        rw [e3, hf.1] at h3
        have := hid.1
        omega
      rw [if_neg this]
      exact h3
  · intro id hid
    have hid := hT.1 hid
    rw [hn hid]
    show (if id = a then b else (nd L id).f3) ≠ 0 → (nd L id).f0 = 2 ∧ Th _ (if id = a then b else (nd L id).f3) ∧ (nd _ (if id = a then b else (nd L id).f3)).f2 = id
    by_cases e : id = a
    · rw [if_pos e]
      intro _
      refine ⟨by rw [e]; exact hk.1, hT.2 hb, ?_⟩
      rw [hn hb]
      show (if b = b then a else _) = id
      rw [if_pos rfl]
      exact e.symm
    · rw [if_neg e]
      intro h0
      obtain ⟨h1, h2, h3⟩ := h.shad id hid h0
      refine ⟨h1, hT.2 h2, ?_⟩
      rw [hn h2]
      show (if (nd L id).f3 = b then a else _) = id
      have : (nd L id).f3 ≠ b := fun e3 => by
        rw [e3, hf.2] at h3
        have := hid.1
        omega
      rw [if_neg this]
      exact h3
  · refine rank_bump hr (length_mapN _ _) (fun id => Anc L upO b id) (r a + 1) (fun id hid => ?_)
    by_cases e : id = b
    · subst e
      have hu : upO (nd (tieL L a id) id) = a := by
        rw [hn hid]
        show (if (nd L id).f1 = 0 then (if id = id then a else _) else (nd L id).f1) = a
        rw [if_pos hb1, if_pos rfl]
      rw [hu]
      exact .inr ⟨ha, .inl ⟨.refl hid, hA, Nat.lt_succ_self _⟩⟩
    · have hu : upO (nd (tieL L a b) id) = upO (nd L id) := by
        rw [hn hid]
        show (if (nd L id).f1 = 0 then (if id = b then a else (nd L id).f2) else (nd L id).f1) = _
        rw [if_neg e]
        rfl
      rw [hu]
      rcases hr id hid with h0 | ⟨h1, h2⟩
      · exact .inl h0
      · exact .inr ⟨h1, .inr ⟨rfl, by have := h1.1; omega, Anc.up_iff hid e⟩⟩

/-! ### Name, Want -/
def nameL (L : List S33) (a : Int) (s : ByteArray) : List S33 := mapN L fun id x => { x with f6 := if id = a then s else x.f6 }
def wantL (L : List S33) (a : Int) (s : ByteArray) : List S33 := mapN L fun id x => { x with f7 := if id = a then s else x.f7 }
/-- The same links. -/
theorem Good.same {L : List S33} (h : Good L) (g : Int → S33 → S33) (h0 : ∀ id x, (g id x).f0 = x.f0) (h1 : ∀ id x, (g id x).f1 = x.f1) (h2 : ∀ id x, (g id x).f2 = x.f2) (h3 : ∀ id x, (g id x).f3 = x.f3) (h8 : ∀ id x, (g id x).f8 = x.f8) : Good (mapN L g) := by
  have hT : ∀ {id}, Th (mapN L g) id ↔ Th L id := Th_mapN
  have hn : ∀ {id}, Th L id → nd (mapN L g) id = g id (nd L id) := fun h => nd_mapN h
  obtain ⟨r, hr⟩ := h.rank
  refine ⟨by rw [length_mapN]; exact h.len, ?_, ?_, ?_, ?_, ?_, ?_, ⟨r, ?_⟩⟩ <;> intro id hid <;> have hid := hT.1 hid <;> rw [hn hid]
  · rw [h8]
    intro k hk
    obtain ⟨p, q⟩ := h.kid id hid k hk
    exact ⟨hT.2 p, by rw [hn p, h1]; exact q⟩
  · rw [h1]
    intro e
    obtain ⟨p, q⟩ := h.par id hid e
    exact ⟨hT.2 p, by rw [hn p, h8]; exact q⟩
  · rw [h8]; exact h.nodup id hid
  · rw [h1]; unfold rootedB; rw [h0]; exact h.kind id hid
  · rw [h2, h0]
    intro e
    obtain ⟨p, q, s⟩ := h.host id hid e
    exact ⟨p, hT.2 q, by rw [hn q, h3]; exact s⟩
  · rw [h3, h0]
    intro e
    obtain ⟨p, q, s⟩ := h.shad id hid e
    exact ⟨p, hT.2 q, by rw [hn q, h2]; exact s⟩
  · have : upO (g id (nd L id)) = upO (nd L id) := by unfold upO; rw [h1, h2]
    rw [this]
    rcases hr id hid with e | ⟨p, q⟩
    · exact .inl e
    · exact .inr ⟨hT.2 p, q⟩
theorem Good.name {L : List S33} (h : Good L) (a : Int) (s : ByteArray) : Good (nameL L a s) := h.same _ (fun _ _ => rfl) (fun _ _ => rfl) (fun _ _ => rfl) (fun _ _ => rfl) (fun _ _ => rfl)
theorem Good.want {L : List S33} (h : Good L) (a : Int) (s : ByteArray) : Good (wantL L a s) := h.same _ (fun _ _ => rfl) (fun _ _ => rfl) (fun _ _ => rfl) (fun _ _ => rfl) (fun _ _ => rfl)
def NameR (L : List S33) (a : Int) (s : ByteArray) (n : Int) (L' : List S33) : Prop :=
  (¬ (Th L a ∧ namedB s = true) ∧ n = 1 ∧ L' = L) ∨ ((Th L a ∧ namedB s = true) ∧ ¬ (nd L a).f5 = true ∧ n = 2 ∧ L' = L) ∨ ((Th L a ∧ namedB s = true) ∧ (nd L a).f5 = true ∧ n = 0 ∧ L' = nameL L a s)
def WantR (L : List S33) (a : Int) (s : ByteArray) (n : Int) (L' : List S33) : Prop :=
  (¬ (Th L a ∧ namedB s = true) ∧ n = 1 ∧ L' = L) ∨ ((Th L a ∧ namedB s = true) ∧ ¬ (nd L a).f0 = 2 ∧ n = 2 ∧ L' = L) ∨ ((Th L a ∧ namedB s = true) ∧ (nd L a).f0 = 2 ∧ n = 0 ∧ L' = wantL L a s)
theorem NameR.unique {L : List S33} {a : Int} {s : ByteArray} {n n' : Int} {L1 L2 : List S33} (h : NameR L a s n L1) (h' : NameR L a s n' L2) : n = n' ∧ L1 = L2 := by
  rcases h with ⟨p, rfl, rfl⟩ | ⟨p, q, rfl, rfl⟩ | ⟨p, q, rfl, rfl⟩ <;> rcases h' with ⟨p', rfl, rfl⟩ | ⟨p', q', rfl, rfl⟩ | ⟨p', q', rfl, rfl⟩ <;>
  first | exact ⟨rfl, rfl⟩ | exact absurd p' p | exact absurd p p' | exact absurd q' q | exact absurd q q'
theorem WantR.unique {L : List S33} {a : Int} {s : ByteArray} {n n' : Int} {L1 L2 : List S33} (h : WantR L a s n L1) (h' : WantR L a s n' L2) : n = n' ∧ L1 = L2 := by
  rcases h with ⟨p, rfl, rfl⟩ | ⟨p, q, rfl, rfl⟩ | ⟨p, q, rfl, rfl⟩ <;> rcases h' with ⟨p', rfl, rfl⟩ | ⟨p', q', rfl, rfl⟩ | ⟨p', q', rfl, rfl⟩ <;>
  first | exact ⟨rfl, rfl⟩ | exact absurd p' p | exact absurd p p' | exact absurd q' q | exact absurd q q'

/-! ### Make -/
def MakeR (L : List S33) (x : S33) (id n : Int) (L' : List S33) : Prop :=
  (¬ rightE x.f0 x.f4 x.f5 x.f6 x.f7 = 0 ∧ id = 0 ∧ n = rightE x.f0 x.f4 x.f5 x.f6 x.f7 ∧ L' = L) ∨ (rightE x.f0 x.f4 x.f5 x.f6 x.f7 = 0 ∧ 128 ≤ L.length ∧ id = 0 ∧ n = 9 ∧ L' = L) ∨
  (rightE x.f0 x.f4 x.f5 x.f6 x.f7 = 0 ∧ L.length < 128 ∧ id = L.length + 1 ∧ n = 0 ∧ L' = L ++ [mkN x.f0 x.f4 x.f5 x.f6 x.f7])
theorem MakeR.unique {L : List S33} {x : S33} {i i' n n' : Int} {L1 L2 : List S33} (h : MakeR L x i n L1) (h' : MakeR L x i' n' L2) : i = i' ∧ n = n' ∧ L1 = L2 := by
  rcases h with ⟨p, rfl, rfl, rfl⟩ | ⟨p, q, rfl, rfl, rfl⟩ | ⟨p, q, rfl, rfl, rfl⟩ <;> rcases h' with ⟨p', rfl, rfl, rfl⟩ | ⟨p', q', rfl, rfl, rfl⟩ | ⟨p', q', rfl, rfl, rfl⟩ <;>
  first | exact ⟨rfl, rfl, rfl⟩ | exact absurd p' p | exact absurd p p' | omega
end Go.Proofs.Ytbkpgbhdfdifoaa
