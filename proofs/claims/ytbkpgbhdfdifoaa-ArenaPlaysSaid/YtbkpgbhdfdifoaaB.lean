/- Small words for the forest's walks: a halt of the walk at a chosen operation, empty literals, frames. -/
import Derived.Test.YtbkpgbhdfdifoaaK
import Derived.Lib.Hide
import Derived.WalkSpells
import Derived.WalkLawsBesides
import Derived.Lib.LazyBuf
namespace Go.Proofs.Ytbkpgbhdfdifoaa
open Go.RowKit Go.Proofs.YtbkpgbhdfdifoaaW.PrintWords Go.Proofs.YtbkpgbhdfdifoaaW.PrintLast Go.Proofs.YtbkpgbhdfdifoaaW.PrintMore
set_option linter.unusedVariables false
set_option linter.unusedSimpArgs false

/-- The walk stands still at a goal of this form. -/
structure Stop0 (p : Prop) : Prop where mk :: (out : p)

theorem R_empty {α : Type} (d : Kd α) (e : Nat) (w : World) (base : Nat) (ok : Nat → Prop) (hb : base ≤ w.heap.size) (h : ok w.heap.size) :
    Kd.R d e (w.alloc (.cells #[] e)) base ok (.slice (some ⟨w.heap.size, 0, none⟩) 0 0) [] := by
  refine ⟨fun k hk => ?_, [], ?_, Reps.none _ _⟩
  · have : w.heap.size = k := by simpa [Value.ownBlock] using hk
    subst this; exact h
  · have h2 := World.ownsRow_lit (base := base) (e := e) (size := d.sz) w #[] 0 hb (by simp [maxLen]) (by simp)
    simpa using h2
theorem N_empty {α : Type} (d : Kd α) (e : Nat) (w : World) (base : Nat) (ok : Nat → Prop) (hb : base ≤ w.heap.size) (h : ok w.heap.size) :
    Kd.N d e (w.alloc (.cells #[] e)) base ok (.slice (some ⟨w.heap.size, 0, none⟩) 0 0) [] := Kd.R_N (R_empty d e w base ok hb h)

theorem below_row {B : Nat} {w w1 w2 : World} {v : Value} (h : Below B w w1) (hg : w1.grownBy w2 v.ownBlock) (hB : B ≤ w1.heap.size) (hv : ∀ k, v.ownBlock = some k → B ≤ k) : Below B w w2 := h.grown hg hB hv
theorem ownBlock_at (g n c : Nat) : ∀ k, (Value.slice (some ⟨g, 0, none⟩) n c).ownBlock = some k → g = k := fun k hk => by simpa [Value.ownBlock] using hk
theorem rd_nat (L : List S33) (k : Nat) (hk : k < L.length) : rd_T33 L k = L[k] := by
  unfold rd_T33
  rw [Int.toNat_natCast, List.getD_eq_getElem?_getD, List.getElem?_eq_getElem hk]
  simp
theorem set_rd {L : List S33} {k : Nat} (hk : k < L.length) : L.set k (rd_T33 L k) = L := by
  rw [rd_nat L k hk]; simp

theorem cell_alloc {w : World} {a : Addr} {v : Value} (h : w.cell? a = some v) (o : Obj) : (w.alloc o).cell? a = some v := pw_cell_below ((Below.refl _ _).alloc (Nat.le_refl _) _) h
theorem cell_grown {w w1 : World} {row : Option Nat} {a : Addr} {v : Value} (hg : w.grownBy w1 row) (h : w.cell? a = some v) (hne : some a.block ≠ row) : w1.cell? a = some v :=
  (World.cell?_of_block (hg.block a.block (World.block_lt_of_cell? w a h) hne)).trans h
theorem grown_below {w w1 : World} {row : Option Nat} (hg : w.grownBy w1 row) (B : Nat) (hB : B ≤ w.heap.size) (hr : ∀ k, row = some k → B ≤ k) : Below B w w1 := (Below.refl _ _).grown hg hB hr

/-! ### blocks that are known whole -/
theorem blk_lt' {w : World} {a : Nat} {o : Obj} (h : w.heap[a]? = some o) : a < w.heap.size := (Array.getElem?_eq_some_iff.1 h).1
theorem blk_below {w w' : World} {B a : Nat} {o : Obj} (h : w.heap[a]? = some o) (hb : Below B w w') (ha : a < B) : w'.heap[a]? = some o := (hb.block a ha).trans h
theorem blk_alloc {w : World} {a : Nat} {o : Obj} (h : w.heap[a]? = some o) (x : Obj) : (w.alloc x).heap[a]? = some o := (Below.heap_alloc w x a (blk_lt' h)).trans h
theorem blk_set {w : World} {a : Nat} {cs : Array Value} {t : TypeId} {fr : Nat × Nat} (h : w.heap[a]? = some (.cells cs t fr)) (i : Nat) (v : Value) : (w.setCell ⟨a, i, none⟩ v).heap[a]? = some (.cells (cs.setIfInBounds i v) t fr) := by
  simp [World.setCell, Array.getElem?_modify, h]
theorem blk_far {w : World} {a : Nat} {o : Obj} (h : w.heap[a]? = some o) {p : Addr} (hne : a ≠ p.block) (v : Value) : (w.setCell p v).heap[a]? = some o := (Below.heap_setCell w p v a hne).trans h
theorem blk_cell {w : World} {a : Nat} {cs : Array Value} {t : TypeId} {fr : Nat × Nat} (h : w.heap[a]? = some (.cells cs t fr)) (i : Nat) : w.cell? ⟨a, i, none⟩ = cs[i]? := cell_of_row w a i cs t fr h
theorem blk_free {w : World} {a : Nat} {cs : Array Value} {t : TypeId} (h : w.heap[a]? = some (.cells cs t (0, 0))) (i : Nat) : w.frozen? ⟨a, i, none⟩ = false := by simp [World.frozen?, h]
theorem blk_after {w w1 : World} {a n : Nat} {o : Obj} (h : w.heap[a]? = some o) (hb : Below (w.drewN n).heap.size (w.drewN n) w1) : w1.heap[a]? = some o := (hb.block a (blk_lt' h)).trans h
theorem blk_new_after {w w1 : World} {n : Nat} {o : Obj} (hb : Below ((w.alloc o).drewN n).heap.size ((w.alloc o).drewN n) w1) : w1.heap[w.heap.size]? = some o := blk_after (heap_alloc_new w o) hb
end Go.Proofs.Ytbkpgbhdfdifoaa
