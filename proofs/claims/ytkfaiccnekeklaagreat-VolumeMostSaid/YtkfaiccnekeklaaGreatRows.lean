/-
  No cell of these rows narrows 'for every input' (looked for: loops, veiled, ifaces, maps, wideKeys, modest, calm, conditions, laid).
  DERIVED. THE GIVEN ROWS OF THIS SEAT. 5 by the template 'for every input the law returns true; each argument reads behind the call as it read before'; 0 by the template 'total and deterministic' (their statements: YtkfaiccnekeklaaGreatTotals.lean).
  GIVEN WITH THE SEED: the statements are not yours to turn. If you find one false, say at which input.
  Laid BY PROGRAM, IN A SANDBOX (cutbox-rows.mjs): the forced cells as the released guide's own fill.sh prints them over the translation 67b1e9e8b3f627f1… (all of the seat's roots in one cut). By AI agents, Wed Nov 11 2026. No macro, syntax, notation, axiom, sorry.
-/
import Derived.Test.YtkfaiccnekeklaaGreatChecked
import GoSem.Claim
import GoSem.ClaimJoined
import GoSem.ClaimMapViews
import Derived.JoinedTies
import Derived.KernelRfl
namespace Go.Proofs.YtkfaiccnekeklaaGreat
/- THE CELL 'sum', in the pinned program and in every row, IS THE sha256 OF THE DUMP (.gsa) THAT YtkfaiccnekeklaaGreatProg.lean LOADS. Nothing in Lean hashes anything: it is a label: what it is worth is what the hold of that sum in a sandbox is worth. -/
noncomputable def Tryz.pinned : Pinned := { name := "ytkfaiccnekeklaagreat", sum := "67b1e9e8b3f627f1b59c5408a8f8e0805e15b780d88b97ef6c85df9aacabd340", checked := Tryz.checked }
namespace Rows
def none {H : Type} : Left H := { results := [], args := [] }

/-- 'colletlaw13.VolumeForms': WHATEVER THE INPUT: true; the input reads as it did. -/
def volumeFormsSpec : ChangeSpec := { name := "volumeForms", fn := fun _ => fun
  | [d1, d2, d3, d4] => { results := [.lit (.bool true)], args := [d1, d2, d3, d4] }
  | _ => none }
def volumeFormsRow : OpenClaim := { program := "ytkfaiccnekeklaagreat", sum := "67b1e9e8b3f627f1b59c5408a8f8e0805e15b780d88b97ef6c85df9aacabd340", func := "collet/colletlaw13.VolumeForms", spec := "volumeForms", unfollowed := true, recurses := true, plainKeys := false, apart := false }
def VolumeFormsSaid : Prop := volumeFormsRow.holds Tryz.pinned (OpenSpec.ofChange volumeFormsSpec)

/-- ITS FALSE NEIGHBOUR: 'it returns false'. Refute it at one input. -/
def volumeFormsWrong : ChangeSpec := { name := "volumeForms", fn := fun _ => fun
  | [d1, d2, d3, d4] => { results := [.lit (.bool false)], args := [d1, d2, d3, d4] }
  | _ => none }
def VolumeFormsWrongFalsely : Prop := volumeFormsRow.holds Tryz.pinned (OpenSpec.ofChange volumeFormsWrong)

/-- 'colletlaw13.VolumeMoves': WHATEVER THE INPUT: true; the input reads as it did. -/
def volumeMovesSpec : ChangeSpec := { name := "volumeMoves", fn := fun _ => fun
  | [d1, d2, d3] => { results := [.lit (.bool true)], args := [d1, d2, d3] }
  | _ => none }
def volumeMovesRow : OpenClaim := { program := "ytkfaiccnekeklaagreat", sum := "67b1e9e8b3f627f1b59c5408a8f8e0805e15b780d88b97ef6c85df9aacabd340", func := "collet/colletlaw13.VolumeMoves", spec := "volumeMoves", unfollowed := true, recurses := true, plainKeys := false, apart := false }
def VolumeMovesSaid : Prop := volumeMovesRow.holds Tryz.pinned (OpenSpec.ofChange volumeMovesSpec)

/-- ITS FALSE NEIGHBOUR: 'it returns false'. Refute it at one input. -/
def volumeMovesWrong : ChangeSpec := { name := "volumeMoves", fn := fun _ => fun
  | [d1, d2, d3] => { results := [.lit (.bool false)], args := [d1, d2, d3] }
  | _ => none }
def VolumeMovesWrongFalsely : Prop := volumeMovesRow.holds Tryz.pinned (OpenSpec.ofChange volumeMovesWrong)

/-- 'colletlaw13.VolumeMost': WHATEVER THE INPUT: true; the input reads as it did. -/
def volumeMostSpec : ChangeSpec := { name := "volumeMost", fn := fun _ => fun
  | [d1, d2, d3] => { results := [.lit (.bool true)], args := [d1, d2, d3] }
  | _ => none }
def volumeMostRow : OpenClaim := { program := "ytkfaiccnekeklaagreat", sum := "67b1e9e8b3f627f1b59c5408a8f8e0805e15b780d88b97ef6c85df9aacabd340", func := "collet/colletlaw13.VolumeMost", spec := "volumeMost", unfollowed := true, recurses := true, plainKeys := false, apart := false }
def VolumeMostSaid : Prop := volumeMostRow.holds Tryz.pinned (OpenSpec.ofChange volumeMostSpec)

/-- ITS FALSE NEIGHBOUR: 'it returns false'. Refute it at one input. -/
def volumeMostWrong : ChangeSpec := { name := "volumeMost", fn := fun _ => fun
  | [d1, d2, d3] => { results := [.lit (.bool false)], args := [d1, d2, d3] }
  | _ => none }
def VolumeMostWrongFalsely : Prop := volumeMostRow.holds Tryz.pinned (OpenSpec.ofChange volumeMostWrong)

/-- 'colletlaw13.VolumeCones': WHATEVER THE INPUT: true; the input reads as it did. -/
def volumeConesSpec : ChangeSpec := { name := "volumeCones", fn := fun _ => fun
  | [d1, d2] => { results := [.lit (.bool true)], args := [d1, d2] }
  | _ => none }
def volumeConesRow : OpenClaim := { program := "ytkfaiccnekeklaagreat", sum := "67b1e9e8b3f627f1b59c5408a8f8e0805e15b780d88b97ef6c85df9aacabd340", func := "collet/colletlaw13.VolumeCones", spec := "volumeCones", unfollowed := true, recurses := true, plainKeys := false, apart := false }
def VolumeConesSaid : Prop := volumeConesRow.holds Tryz.pinned (OpenSpec.ofChange volumeConesSpec)

/-- ITS FALSE NEIGHBOUR: 'it returns false'. Refute it at one input. -/
def volumeConesWrong : ChangeSpec := { name := "volumeCones", fn := fun _ => fun
  | [d1, d2] => { results := [.lit (.bool false)], args := [d1, d2] }
  | _ => none }
def VolumeConesWrongFalsely : Prop := volumeConesRow.holds Tryz.pinned (OpenSpec.ofChange volumeConesWrong)

/-- 'colletlaw13.VolumeKeeps': WHATEVER THE INPUT: true; the input reads as it did. -/
def volumeKeepsSpec : ChangeSpec := { name := "volumeKeeps", fn := fun _ => fun
  | [d1, d2, d3] => { results := [.lit (.bool true)], args := [d1, d2, d3] }
  | _ => none }
def volumeKeepsRow : OpenClaim := { program := "ytkfaiccnekeklaagreat", sum := "67b1e9e8b3f627f1b59c5408a8f8e0805e15b780d88b97ef6c85df9aacabd340", func := "collet/colletlaw13.VolumeKeeps", spec := "volumeKeeps", unfollowed := true, recurses := true, plainKeys := false, apart := false }
def VolumeKeepsSaid : Prop := volumeKeepsRow.holds Tryz.pinned (OpenSpec.ofChange volumeKeepsSpec)

/-- ITS FALSE NEIGHBOUR: 'it returns false'. Refute it at one input. -/
def volumeKeepsWrong : ChangeSpec := { name := "volumeKeeps", fn := fun _ => fun
  | [d1, d2, d3] => { results := [.lit (.bool false)], args := [d1, d2, d3] }
  | _ => none }
def VolumeKeepsWrongFalsely : Prop := volumeKeepsRow.holds Tryz.pinned (OpenSpec.ofChange volumeKeepsWrong)

/- THE SECOND FORM. 'bulk': how many values and letters a reading holds, each counted each time it is reached (what is shared counts as often as it is met; a slice's spare places count too). A statement '..UptoSaid' is the law's where the arguments, and the package variables that the reading takes, are together of bulk at most 1048576: NARROWER than '..Said'. Prove '..Said' where nothing that the law and all that it calls make is longer than what came in: it says more and counts as full. Else prove '..UptoSaid'. A law counts once. -/
mutual
def uptoBulk {H : Type} : DataW H → Nat
  | .lit (.string bytes) => bytes.length + 1
  | .lit _ => 1
  | .nil => 1
  | .ptr d => uptoBulk d + 1
  | .slice elems spare => uptoBulkAll elems + uptoBulkAll spare + 1
  | .agg parts => uptoBulkAll parts + 1
  | .iface _ d => uptoBulk d + 1
  | .map entries => uptoBulkEntries entries + 1
  | .held _ => 1
def uptoBulkAll {H : Type} : List (DataW H) → Nat
  | [] => 0
  | d :: r => uptoBulk d + uptoBulkAll r
def uptoBulkEntries {H : Type} : List (Lit × DataW H) → Nat
  | [] => 0
  | x :: r => uptoBulkEntry x + uptoBulkEntries r
def uptoBulkEntry {H : Type} : Lit × DataW H → Nat
  | (.string bytes, d) => bytes.length + uptoBulk d + 1
  | (_, d) => uptoBulk d + 1
 end
def uptoSmall : (H : Type) → List (DataW H) → Bool := fun _ ds => decide (uptoBulkAll ds ≤ 1048576)
def OpenSpec.upto (s : _root_.Go.ChangeSpec) : _root_.Go.OpenSpec := { _root_.Go.OpenSpec.ofChange s with cond := some uptoSmall }

/-- 'colletlaw13.VolumeForms', WHERE WHAT IT READS IS OF BULK AT MOST 1048576: true; the input reads as it did. -/
def volumeFormsUptoRow : OpenClaim := { program := "ytkfaiccnekeklaagreat", sum := "67b1e9e8b3f627f1b59c5408a8f8e0805e15b780d88b97ef6c85df9aacabd340", func := "collet/colletlaw13.VolumeForms", spec := "volumeForms", unfollowed := true, recurses := true, plainKeys := false, apart := false, narrowed := true }
def VolumeFormsUptoSaid : Prop := volumeFormsUptoRow.holds Tryz.pinned (OpenSpec.upto volumeFormsSpec)

/-- 'colletlaw13.VolumeMoves', WHERE WHAT IT READS IS OF BULK AT MOST 1048576: true; the input reads as it did. -/
def volumeMovesUptoRow : OpenClaim := { program := "ytkfaiccnekeklaagreat", sum := "67b1e9e8b3f627f1b59c5408a8f8e0805e15b780d88b97ef6c85df9aacabd340", func := "collet/colletlaw13.VolumeMoves", spec := "volumeMoves", unfollowed := true, recurses := true, plainKeys := false, apart := false, narrowed := true }
def VolumeMovesUptoSaid : Prop := volumeMovesUptoRow.holds Tryz.pinned (OpenSpec.upto volumeMovesSpec)

/-- 'colletlaw13.VolumeMost', WHERE WHAT IT READS IS OF BULK AT MOST 1048576: true; the input reads as it did. -/
def volumeMostUptoRow : OpenClaim := { program := "ytkfaiccnekeklaagreat", sum := "67b1e9e8b3f627f1b59c5408a8f8e0805e15b780d88b97ef6c85df9aacabd340", func := "collet/colletlaw13.VolumeMost", spec := "volumeMost", unfollowed := true, recurses := true, plainKeys := false, apart := false, narrowed := true }
def VolumeMostUptoSaid : Prop := volumeMostUptoRow.holds Tryz.pinned (OpenSpec.upto volumeMostSpec)

/-- 'colletlaw13.VolumeCones', WHERE WHAT IT READS IS OF BULK AT MOST 1048576: true; the input reads as it did. -/
def volumeConesUptoRow : OpenClaim := { program := "ytkfaiccnekeklaagreat", sum := "67b1e9e8b3f627f1b59c5408a8f8e0805e15b780d88b97ef6c85df9aacabd340", func := "collet/colletlaw13.VolumeCones", spec := "volumeCones", unfollowed := true, recurses := true, plainKeys := false, apart := false, narrowed := true }
def VolumeConesUptoSaid : Prop := volumeConesUptoRow.holds Tryz.pinned (OpenSpec.upto volumeConesSpec)

/-- 'colletlaw13.VolumeKeeps', WHERE WHAT IT READS IS OF BULK AT MOST 1048576: true; the input reads as it did. -/
def volumeKeepsUptoRow : OpenClaim := { program := "ytkfaiccnekeklaagreat", sum := "67b1e9e8b3f627f1b59c5408a8f8e0805e15b780d88b97ef6c85df9aacabd340", func := "collet/colletlaw13.VolumeKeeps", spec := "volumeKeeps", unfollowed := true, recurses := true, plainKeys := false, apart := false, narrowed := true }
def VolumeKeepsUptoSaid : Prop := volumeKeepsUptoRow.holds Tryz.pinned (OpenSpec.upto volumeKeepsSpec)

end Rows
end Go.Proofs.YtkfaiccnekeklaaGreat
