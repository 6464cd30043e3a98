/-
  No cell of these rows narrows 'for every input' (looked for: loops, veiled, ifaces, maps, wideKeys, modest, calm, conditions, laid).
  DERIVED. THE GIVEN ROWS OF THIS SEAT. 13 by the template 'for every input the law returns true; each argument reads behind the call as it read before'; 0 by the template 'total and deterministic' (their statements: YtbkpgbhdfdifoaaTotals.lean).
  GIVEN WITH THE SEED: the statements are not yours to turn. If you find one false, say at which input.
  Laid BY PROGRAM, IN A SANDBOX (cutbox-rows.mjs): the forced cells as the released guide's own fill.sh prints them over the translation 41d6bd0d8e5b50f7… (all of the seat's roots in one cut). By AI agents, Wed Nov 11 2026. No macro, syntax, notation, axiom, sorry.
-/
import Derived.Test.YtbkpgbhdfdifoaaChecked
import GoSem.Claim
import GoSem.ClaimJoined
import GoSem.ClaimMapViews
import Derived.JoinedTies
import Derived.KernelRfl
namespace Go.Proofs.Ytbkpgbhdfdifoaa
/- THE CELL 'sum', in the pinned program and in every row, IS THE sha256 OF THE DUMP (.gsa) THAT YtbkpgbhdfdifoaaProg.lean LOADS. Nothing in Lean hashes anything: it is a label: what it is worth is what the hold of that sum in a sandbox is worth. -/
noncomputable def Try.pinned : Pinned := { name := "ytbkpgbhdfdifoaa", sum := "41d6bd0d8e5b50f7f02b1f8ddc4e2ac52343d19510f4a493fc6ee390782bd28d", checked := Try.checked }
namespace Rows
def none {H : Type} : Left H := { results := [], args := [] }

/-- 'towncrierlaw04.ArenaPlays': WHATEVER THE INPUT: true; the input reads as it did. -/
def arenaPlaysSpec : ChangeSpec := { name := "arenaPlays", fn := fun _ => fun
  | [d1, d2] => { results := [.lit (.bool true)], args := [d1, d2] }
  | _ => none }
def arenaPlaysRow : OpenClaim := { program := "ytbkpgbhdfdifoaa", sum := "41d6bd0d8e5b50f7f02b1f8ddc4e2ac52343d19510f4a493fc6ee390782bd28d", func := "towncrier/towncrierlaw04.ArenaPlays", spec := "arenaPlays", apart := false }
def ArenaPlaysSaid : Prop := arenaPlaysRow.holds Try.pinned (OpenSpec.ofChange arenaPlaysSpec)

/-- ITS FALSE NEIGHBOUR: 'it returns false'. Refute it at one input. -/
def arenaPlaysWrong : ChangeSpec := { name := "arenaPlays", fn := fun _ => fun
  | [d1, d2] => { results := [.lit (.bool false)], args := [d1, d2] }
  | _ => none }
def ArenaPlaysWrongFalsely : Prop := arenaPlaysRow.holds Try.pinned (OpenSpec.ofChange arenaPlaysWrong)

/-- 'towncrierlaw04.ArenaTree': WHATEVER THE INPUT: true; the input reads as it did. -/
def arenaTreeSpec : ChangeSpec := { name := "arenaTree", fn := fun _ => fun
  | [d] => { results := [.lit (.bool true)], args := [d] }
  | _ => none }
def arenaTreeRow : OpenClaim := { program := "ytbkpgbhdfdifoaa", sum := "41d6bd0d8e5b50f7f02b1f8ddc4e2ac52343d19510f4a493fc6ee390782bd28d", func := "towncrier/towncrierlaw04.ArenaTree", spec := "arenaTree", apart := false }
def ArenaTreeSaid : Prop := arenaTreeRow.holds Try.pinned (OpenSpec.ofChange arenaTreeSpec)

/-- ITS FALSE NEIGHBOUR: 'it returns false'. Refute it at one input. -/
def arenaTreeWrong : ChangeSpec := { name := "arenaTree", fn := fun _ => fun
  | [d] => { results := [.lit (.bool false)], args := [d] }
  | _ => none }
def ArenaTreeWrongFalsely : Prop := arenaTreeRow.holds Try.pinned (OpenSpec.ofChange arenaTreeWrong)

/-- 'towncrierlaw04.ArenaNone': WHATEVER THE INPUT: true; the input reads as it did. -/
def arenaNoneSpec : ChangeSpec := { name := "arenaNone", fn := fun _ => fun
  | [d1, d2] => { results := [.lit (.bool true)], args := [d1, d2] }
  | _ => none }
def arenaNoneRow : OpenClaim := { program := "ytbkpgbhdfdifoaa", sum := "41d6bd0d8e5b50f7f02b1f8ddc4e2ac52343d19510f4a493fc6ee390782bd28d", func := "towncrier/towncrierlaw04.ArenaNone", spec := "arenaNone", apart := false }
def ArenaNoneSaid : Prop := arenaNoneRow.holds Try.pinned (OpenSpec.ofChange arenaNoneSpec)

/-- ITS FALSE NEIGHBOUR: 'it returns false'. Refute it at one input. -/
def arenaNoneWrong : ChangeSpec := { name := "arenaNone", fn := fun _ => fun
  | [d1, d2] => { results := [.lit (.bool false)], args := [d1, d2] }
  | _ => none }
def ArenaNoneWrongFalsely : Prop := arenaNoneRow.holds Try.pinned (OpenSpec.ofChange arenaNoneWrong)

/-- 'towncrierlaw05.KinOrder': WHATEVER THE INPUT: true; the input reads as it did. -/
def kinOrderSpec : ChangeSpec := { name := "kinOrder", fn := fun _ => fun
  | [d1, d2] => { results := [.lit (.bool true)], args := [d1, d2] }
  | _ => none }
def kinOrderRow : OpenClaim := { program := "ytbkpgbhdfdifoaa", sum := "41d6bd0d8e5b50f7f02b1f8ddc4e2ac52343d19510f4a493fc6ee390782bd28d", func := "towncrier/towncrierlaw05.KinOrder", spec := "kinOrder", unfollowed := true, recurses := true, apart := false }
def KinOrderSaid : Prop := kinOrderRow.holds Try.pinned (OpenSpec.ofChange kinOrderSpec)

/-- ITS FALSE NEIGHBOUR: 'it returns false'. Refute it at one input. -/
def kinOrderWrong : ChangeSpec := { name := "kinOrder", fn := fun _ => fun
  | [d1, d2] => { results := [.lit (.bool false)], args := [d1, d2] }
  | _ => none }
def KinOrderWrongFalsely : Prop := kinOrderRow.holds Try.pinned (OpenSpec.ofChange kinOrderWrong)

/-- 'towncrierlaw05.KinPlaces': WHATEVER THE INPUT: true; the input reads as it did. -/
def kinPlacesSpec : ChangeSpec := { name := "kinPlaces", fn := fun _ => fun
  | [d1, d2] => { results := [.lit (.bool true)], args := [d1, d2] }
  | _ => none }
def kinPlacesRow : OpenClaim := { program := "ytbkpgbhdfdifoaa", sum := "41d6bd0d8e5b50f7f02b1f8ddc4e2ac52343d19510f4a493fc6ee390782bd28d", func := "towncrier/towncrierlaw05.KinPlaces", spec := "kinPlaces", unfollowed := true, recurses := true, apart := false }
def KinPlacesSaid : Prop := kinPlacesRow.holds Try.pinned (OpenSpec.ofChange kinPlacesSpec)

/-- ITS FALSE NEIGHBOUR: 'it returns false'. Refute it at one input. -/
def kinPlacesWrong : ChangeSpec := { name := "kinPlaces", fn := fun _ => fun
  | [d1, d2] => { results := [.lit (.bool false)], args := [d1, d2] }
  | _ => none }
def KinPlacesWrongFalsely : Prop := kinPlacesRow.holds Try.pinned (OpenSpec.ofChange kinPlacesWrong)

/-- 'towncrierlaw10.AimHolds': WHATEVER THE INPUT: true; the input reads as it did. -/
def aimHoldsSpec : ChangeSpec := { name := "aimHolds", fn := fun _ => fun
  | [d1, d2, d3] => { results := [.lit (.bool true)], args := [d1, d2, d3] }
  | _ => none }
def aimHoldsRow : OpenClaim := { program := "ytbkpgbhdfdifoaa", sum := "41d6bd0d8e5b50f7f02b1f8ddc4e2ac52343d19510f4a493fc6ee390782bd28d", func := "towncrier/towncrierlaw10.AimHolds", spec := "aimHolds", apart := false }
def AimHoldsSaid : Prop := aimHoldsRow.holds Try.pinned (OpenSpec.ofChange aimHoldsSpec)

/-- ITS FALSE NEIGHBOUR: 'it returns false'. Refute it at one input. -/
def aimHoldsWrong : ChangeSpec := { name := "aimHolds", fn := fun _ => fun
  | [d1, d2, d3] => { results := [.lit (.bool false)], args := [d1, d2, d3] }
  | _ => none }
def AimHoldsWrongFalsely : Prop := aimHoldsRow.holds Try.pinned (OpenSpec.ofChange aimHoldsWrong)

/-- 'towncrierlaw10.AimTells': WHATEVER THE INPUT: true; the input reads as it did. -/
def aimTellsSpec : ChangeSpec := { name := "aimTells", fn := fun _ => fun
  | [d1, d2, d3] => { results := [.lit (.bool true)], args := [d1, d2, d3] }
  | _ => none }
def aimTellsRow : OpenClaim := { program := "ytbkpgbhdfdifoaa", sum := "41d6bd0d8e5b50f7f02b1f8ddc4e2ac52343d19510f4a493fc6ee390782bd28d", func := "towncrier/towncrierlaw10.AimTells", spec := "aimTells", apart := false }
def AimTellsSaid : Prop := aimTellsRow.holds Try.pinned (OpenSpec.ofChange aimTellsSpec)

/-- ITS FALSE NEIGHBOUR: 'it returns false'. Refute it at one input. -/
def aimTellsWrong : ChangeSpec := { name := "aimTells", fn := fun _ => fun
  | [d1, d2, d3] => { results := [.lit (.bool false)], args := [d1, d2, d3] }
  | _ => none }
def AimTellsWrongFalsely : Prop := aimTellsRow.holds Try.pinned (OpenSpec.ofChange aimTellsWrong)

/-- 'towncrierlaw05.KinTells': WHATEVER THE INPUT: true; the input reads as it did. -/
def kinTellsSpec : ChangeSpec := { name := "kinTells", fn := fun _ => fun
  | [d1, d2, d3, d4] => { results := [.lit (.bool true)], args := [d1, d2, d3, d4] }
  | _ => none }
def kinTellsRow : OpenClaim := { program := "ytbkpgbhdfdifoaa", sum := "41d6bd0d8e5b50f7f02b1f8ddc4e2ac52343d19510f4a493fc6ee390782bd28d", func := "towncrier/towncrierlaw05.KinTells", spec := "kinTells", unfollowed := true, recurses := true, apart := false }
def KinTellsSaid : Prop := kinTellsRow.holds Try.pinned (OpenSpec.ofChange kinTellsSpec)

/-- ITS FALSE NEIGHBOUR: 'it returns false'. Refute it at one input. -/
def kinTellsWrong : ChangeSpec := { name := "kinTells", fn := fun _ => fun
  | [d1, d2, d3, d4] => { results := [.lit (.bool false)], args := [d1, d2, d3, d4] }
  | _ => none }
def KinTellsWrongFalsely : Prop := kinTellsRow.holds Try.pinned (OpenSpec.ofChange kinTellsWrong)

/-- 'towncrierlaw16.WalkClears': WHATEVER THE INPUT: true; the input reads as it did. -/
def walkClearsSpec : ChangeSpec := { name := "walkClears", fn := fun _ => fun
  | [d1, d2] => { results := [.lit (.bool true)], args := [d1, d2] }
  | _ => none }
def walkClearsRow : OpenClaim := { program := "ytbkpgbhdfdifoaa", sum := "41d6bd0d8e5b50f7f02b1f8ddc4e2ac52343d19510f4a493fc6ee390782bd28d", func := "towncrier/towncrierlaw16.WalkClears", spec := "walkClears", unfollowed := true, recurses := true, apart := false }
def WalkClearsSaid : Prop := walkClearsRow.holds Try.pinned (OpenSpec.ofChange walkClearsSpec)

/-- ITS FALSE NEIGHBOUR: 'it returns false'. Refute it at one input. -/
def walkClearsWrong : ChangeSpec := { name := "walkClears", fn := fun _ => fun
  | [d1, d2] => { results := [.lit (.bool false)], args := [d1, d2] }
  | _ => none }
def WalkClearsWrongFalsely : Prop := walkClearsRow.holds Try.pinned (OpenSpec.ofChange walkClearsWrong)

/-- 'towncrierlaw06.ValidUp': WHATEVER THE INPUT: true; the input reads as it did. -/
def validUpSpec : ChangeSpec := { name := "validUp", fn := fun _ => fun
  | [d1, d2, d3] => { results := [.lit (.bool true)], args := [d1, d2, d3] }
  | _ => none }
def validUpRow : OpenClaim := { program := "ytbkpgbhdfdifoaa", sum := "41d6bd0d8e5b50f7f02b1f8ddc4e2ac52343d19510f4a493fc6ee390782bd28d", func := "towncrier/towncrierlaw06.ValidUp", spec := "validUp", apart := false }
def ValidUpSaid : Prop := validUpRow.holds Try.pinned (OpenSpec.ofChange validUpSpec)

/-- ITS FALSE NEIGHBOUR: 'it returns false'. Refute it at one input. -/
def validUpWrong : ChangeSpec := { name := "validUp", fn := fun _ => fun
  | [d1, d2, d3] => { results := [.lit (.bool false)], args := [d1, d2, d3] }
  | _ => none }
def ValidUpWrongFalsely : Prop := validUpRow.holds Try.pinned (OpenSpec.ofChange validUpWrong)

/-- 'towncrierlaw10.AimHides': WHATEVER THE INPUT: true; the input reads as it did. -/
def aimHidesSpec : ChangeSpec := { name := "aimHides", fn := fun _ => fun
  | [d1, d2, d3] => { results := [.lit (.bool true)], args := [d1, d2, d3] }
  | _ => none }
def aimHidesRow : OpenClaim := { program := "ytbkpgbhdfdifoaa", sum := "41d6bd0d8e5b50f7f02b1f8ddc4e2ac52343d19510f4a493fc6ee390782bd28d", func := "towncrier/towncrierlaw10.AimHides", spec := "aimHides", apart := false }
def AimHidesSaid : Prop := aimHidesRow.holds Try.pinned (OpenSpec.ofChange aimHidesSpec)

/-- ITS FALSE NEIGHBOUR: 'it returns false'. Refute it at one input. -/
def aimHidesWrong : ChangeSpec := { name := "aimHides", fn := fun _ => fun
  | [d1, d2, d3] => { results := [.lit (.bool false)], args := [d1, d2, d3] }
  | _ => none }
def AimHidesWrongFalsely : Prop := aimHidesRow.holds Try.pinned (OpenSpec.ofChange aimHidesWrong)

/-- 'towncrierlaw08.ShadeAttaches': WHATEVER THE INPUT: true; the input reads as it did. -/
def shadeAttachesSpec : ChangeSpec := { name := "shadeAttaches", fn := fun _ => fun
  | [d1, d2, d3] => { results := [.lit (.bool true)], args := [d1, d2, d3] }
  | _ => none }
def shadeAttachesRow : OpenClaim := { program := "ytbkpgbhdfdifoaa", sum := "41d6bd0d8e5b50f7f02b1f8ddc4e2ac52343d19510f4a493fc6ee390782bd28d", func := "towncrier/towncrierlaw08.ShadeAttaches", spec := "shadeAttaches", apart := false }
def ShadeAttachesSaid : Prop := shadeAttachesRow.holds Try.pinned (OpenSpec.ofChange shadeAttachesSpec)

/-- ITS FALSE NEIGHBOUR: 'it returns false'. Refute it at one input. -/
def shadeAttachesWrong : ChangeSpec := { name := "shadeAttaches", fn := fun _ => fun
  | [d1, d2, d3] => { results := [.lit (.bool false)], args := [d1, d2, d3] }
  | _ => none }
def ShadeAttachesWrongFalsely : Prop := shadeAttachesRow.holds Try.pinned (OpenSpec.ofChange shadeAttachesWrong)

/-- 'towncrierlaw06.ValidTells': WHATEVER THE INPUT: true; the input reads as it did. -/
def validTellsSpec : ChangeSpec := { name := "validTells", fn := fun _ => fun
  | [d1, d2, d3, d4] => { results := [.lit (.bool true)], args := [d1, d2, d3, d4] }
  | _ => none }
def validTellsRow : OpenClaim := { program := "ytbkpgbhdfdifoaa", sum := "41d6bd0d8e5b50f7f02b1f8ddc4e2ac52343d19510f4a493fc6ee390782bd28d", func := "towncrier/towncrierlaw06.ValidTells", spec := "validTells", apart := false }
def ValidTellsSaid : Prop := validTellsRow.holds Try.pinned (OpenSpec.ofChange validTellsSpec)

/-- ITS FALSE NEIGHBOUR: 'it returns false'. Refute it at one input. -/
def validTellsWrong : ChangeSpec := { name := "validTells", fn := fun _ => fun
  | [d1, d2, d3, d4] => { results := [.lit (.bool false)], args := [d1, d2, d3, d4] }
  | _ => none }
def ValidTellsWrongFalsely : Prop := validTellsRow.holds Try.pinned (OpenSpec.ofChange validTellsWrong)

/- THE SECOND FORM. 'bulk': how many values and letters a reading holds, each counted each time it is reached (what is shared counts as often as it is met; a slice's spare places count too). A statement '..UptoSaid' is the law's where the arguments, and the package variables that the reading takes, are together of bulk at most 1048576: NARROWER than '..Said'. Prove '..Said' where nothing that the law and all that it calls make is longer than what came in: it says more and counts as full. Else prove '..UptoSaid'. A law counts once. -/
mutual
def uptoBulk {H : Type} : DataW H → Nat
  | .lit (.string bytes) => bytes.length + 1
  | .lit _ => 1
  | .nil => 1
  | .ptr d => uptoBulk d + 1
  | .slice elems spare => uptoBulkAll elems + uptoBulkAll spare + 1
  | .agg parts => uptoBulkAll parts + 1
  | .iface _ d => uptoBulk d + 1
  | .map entries => uptoBulkEntries entries + 1
  | .held _ => 1
def uptoBulkAll {H : Type} : List (DataW H) → Nat
  | [] => 0
  | d :: r => uptoBulk d + uptoBulkAll r
def uptoBulkEntries {H : Type} : List (Lit × DataW H) → Nat
  | [] => 0
  | x :: r => uptoBulkEntry x + uptoBulkEntries r
def uptoBulkEntry {H : Type} : Lit × DataW H → Nat
  | (.string bytes, d) => bytes.length + uptoBulk d + 1
  | (_, d) => uptoBulk d + 1
 end
def uptoSmall : (H : Type) → List (DataW H) → Bool := fun _ ds => decide (uptoBulkAll ds ≤ 1048576)
def OpenSpec.upto (s : _root_.Go.ChangeSpec) : _root_.Go.OpenSpec := { _root_.Go.OpenSpec.ofChange s with cond := some uptoSmall }

/-- 'towncrierlaw04.ArenaPlays', WHERE WHAT IT READS IS OF BULK AT MOST 1048576: true; the input reads as it did. -/
def arenaPlaysUptoRow : OpenClaim := { program := "ytbkpgbhdfdifoaa", sum := "41d6bd0d8e5b50f7f02b1f8ddc4e2ac52343d19510f4a493fc6ee390782bd28d", func := "towncrier/towncrierlaw04.ArenaPlays", spec := "arenaPlays", apart := false, narrowed := true }
def ArenaPlaysUptoSaid : Prop := arenaPlaysUptoRow.holds Try.pinned (OpenSpec.upto arenaPlaysSpec)

/-- 'towncrierlaw04.ArenaTree', WHERE WHAT IT READS IS OF BULK AT MOST 1048576: true; the input reads as it did. -/
def arenaTreeUptoRow : OpenClaim := { program := "ytbkpgbhdfdifoaa", sum := "41d6bd0d8e5b50f7f02b1f8ddc4e2ac52343d19510f4a493fc6ee390782bd28d", func := "towncrier/towncrierlaw04.ArenaTree", spec := "arenaTree", apart := false, narrowed := true }
def ArenaTreeUptoSaid : Prop := arenaTreeUptoRow.holds Try.pinned (OpenSpec.upto arenaTreeSpec)

/-- 'towncrierlaw04.ArenaNone', WHERE WHAT IT READS IS OF BULK AT MOST 1048576: true; the input reads as it did. -/
def arenaNoneUptoRow : OpenClaim := { program := "ytbkpgbhdfdifoaa", sum := "41d6bd0d8e5b50f7f02b1f8ddc4e2ac52343d19510f4a493fc6ee390782bd28d", func := "towncrier/towncrierlaw04.ArenaNone", spec := "arenaNone", apart := false, narrowed := true }
def ArenaNoneUptoSaid : Prop := arenaNoneUptoRow.holds Try.pinned (OpenSpec.upto arenaNoneSpec)

/-- 'towncrierlaw05.KinOrder', WHERE WHAT IT READS IS OF BULK AT MOST 1048576: true; the input reads as it did. -/
def kinOrderUptoRow : OpenClaim := { program := "ytbkpgbhdfdifoaa", sum := "41d6bd0d8e5b50f7f02b1f8ddc4e2ac52343d19510f4a493fc6ee390782bd28d", func := "towncrier/towncrierlaw05.KinOrder", spec := "kinOrder", unfollowed := true, recurses := true, apart := false, narrowed := true }
def KinOrderUptoSaid : Prop := kinOrderUptoRow.holds Try.pinned (OpenSpec.upto kinOrderSpec)

/-- 'towncrierlaw05.KinPlaces', WHERE WHAT IT READS IS OF BULK AT MOST 1048576: true; the input reads as it did. -/
def kinPlacesUptoRow : OpenClaim := { program := "ytbkpgbhdfdifoaa", sum := "41d6bd0d8e5b50f7f02b1f8ddc4e2ac52343d19510f4a493fc6ee390782bd28d", func := "towncrier/towncrierlaw05.KinPlaces", spec := "kinPlaces", unfollowed := true, recurses := true, apart := false, narrowed := true }
def KinPlacesUptoSaid : Prop := kinPlacesUptoRow.holds Try.pinned (OpenSpec.upto kinPlacesSpec)

/-- 'towncrierlaw10.AimHolds', WHERE WHAT IT READS IS OF BULK AT MOST 1048576: true; the input reads as it did. -/
def aimHoldsUptoRow : OpenClaim := { program := "ytbkpgbhdfdifoaa", sum := "41d6bd0d8e5b50f7f02b1f8ddc4e2ac52343d19510f4a493fc6ee390782bd28d", func := "towncrier/towncrierlaw10.AimHolds", spec := "aimHolds", apart := false, narrowed := true }
def AimHoldsUptoSaid : Prop := aimHoldsUptoRow.holds Try.pinned (OpenSpec.upto aimHoldsSpec)

/-- 'towncrierlaw10.AimTells', WHERE WHAT IT READS IS OF BULK AT MOST 1048576: true; the input reads as it did. -/
def aimTellsUptoRow : OpenClaim := { program := "ytbkpgbhdfdifoaa", sum := "41d6bd0d8e5b50f7f02b1f8ddc4e2ac52343d19510f4a493fc6ee390782bd28d", func := "towncrier/towncrierlaw10.AimTells", spec := "aimTells", apart := false, narrowed := true }
def AimTellsUptoSaid : Prop := aimTellsUptoRow.holds Try.pinned (OpenSpec.upto aimTellsSpec)

/-- 'towncrierlaw05.KinTells', WHERE WHAT IT READS IS OF BULK AT MOST 1048576: true; the input reads as it did. -/
def kinTellsUptoRow : OpenClaim := { program := "ytbkpgbhdfdifoaa", sum := "41d6bd0d8e5b50f7f02b1f8ddc4e2ac52343d19510f4a493fc6ee390782bd28d", func := "towncrier/towncrierlaw05.KinTells", spec := "kinTells", unfollowed := true, recurses := true, apart := false, narrowed := true }
def KinTellsUptoSaid : Prop := kinTellsUptoRow.holds Try.pinned (OpenSpec.upto kinTellsSpec)

/-- 'towncrierlaw16.WalkClears', WHERE WHAT IT READS IS OF BULK AT MOST 1048576: true; the input reads as it did. -/
def walkClearsUptoRow : OpenClaim := { program := "ytbkpgbhdfdifoaa", sum := "41d6bd0d8e5b50f7f02b1f8ddc4e2ac52343d19510f4a493fc6ee390782bd28d", func := "towncrier/towncrierlaw16.WalkClears", spec := "walkClears", unfollowed := true, recurses := true, apart := false, narrowed := true }
def WalkClearsUptoSaid : Prop := walkClearsUptoRow.holds Try.pinned (OpenSpec.upto walkClearsSpec)

/-- 'towncrierlaw06.ValidUp', WHERE WHAT IT READS IS OF BULK AT MOST 1048576: true; the input reads as it did. -/
def validUpUptoRow : OpenClaim := { program := "ytbkpgbhdfdifoaa", sum := "41d6bd0d8e5b50f7f02b1f8ddc4e2ac52343d19510f4a493fc6ee390782bd28d", func := "towncrier/towncrierlaw06.ValidUp", spec := "validUp", apart := false, narrowed := true }
def ValidUpUptoSaid : Prop := validUpUptoRow.holds Try.pinned (OpenSpec.upto validUpSpec)

/-- 'towncrierlaw10.AimHides', WHERE WHAT IT READS IS OF BULK AT MOST 1048576: true; the input reads as it did. -/
def aimHidesUptoRow : OpenClaim := { program := "ytbkpgbhdfdifoaa", sum := "41d6bd0d8e5b50f7f02b1f8ddc4e2ac52343d19510f4a493fc6ee390782bd28d", func := "towncrier/towncrierlaw10.AimHides", spec := "aimHides", apart := false, narrowed := true }
def AimHidesUptoSaid : Prop := aimHidesUptoRow.holds Try.pinned (OpenSpec.upto aimHidesSpec)

/-- 'towncrierlaw08.ShadeAttaches', WHERE WHAT IT READS IS OF BULK AT MOST 1048576: true; the input reads as it did. -/
def shadeAttachesUptoRow : OpenClaim := { program := "ytbkpgbhdfdifoaa", sum := "41d6bd0d8e5b50f7f02b1f8ddc4e2ac52343d19510f4a493fc6ee390782bd28d", func := "towncrier/towncrierlaw08.ShadeAttaches", spec := "shadeAttaches", apart := false, narrowed := true }
def ShadeAttachesUptoSaid : Prop := shadeAttachesUptoRow.holds Try.pinned (OpenSpec.upto shadeAttachesSpec)

/-- 'towncrierlaw06.ValidTells', WHERE WHAT IT READS IS OF BULK AT MOST 1048576: true; the input reads as it did. -/
def validTellsUptoRow : OpenClaim := { program := "ytbkpgbhdfdifoaa", sum := "41d6bd0d8e5b50f7f02b1f8ddc4e2ac52343d19510f4a493fc6ee390782bd28d", func := "towncrier/towncrierlaw06.ValidTells", spec := "validTells", apart := false, narrowed := true }
def ValidTellsUptoSaid : Prop := validTellsUptoRow.holds Try.pinned (OpenSpec.upto validTellsSpec)

end Rows
end Go.Proofs.Ytbkpgbhdfdifoaa
