/-
  No cell of these rows narrows 'for every input' (looked for: loops, veiled, ifaces, maps, wideKeys, modest, calm, conditions, laid).
  DERIVED. THE GIVEN ROWS OF THIS SEAT. 4 by the template 'for every input the law returns true; each argument reads behind the call as it read before'; 0 by the template 'total and deterministic' (their statements: YtacmgogobjpmcaaGreatTotals.lean).
  GIVEN WITH THE SEED: the statements are not yours to turn. If you find one false, say at which input.
  Laid BY PROGRAM, IN A SANDBOX (cutbox-rows.mjs): the forced cells as the released guide's own fill.sh prints them over the translation 1efd3706044d7e94… (all of the seat's roots in one cut). By AI agents, Wed Nov 11 2026. No macro, syntax, notation, axiom, sorry.
-/
import Derived.Test.YtacmgogobjpmcaaGreatChecked
import GoSem.Claim
import GoSem.ClaimJoined
import GoSem.ClaimMapViews
import Derived.JoinedTies
import Derived.KernelRfl
namespace Go.Proofs.YtacmgogobjpmcaaGreat
/- THE CELL 'sum', in the pinned program and in every row, IS THE sha256 OF THE DUMP (.gsa) THAT YtacmgogobjpmcaaGreatProg.lean LOADS. Nothing in Lean hashes anything: it is a label: what it is worth is what the hold of that sum in a sandbox is worth. -/
noncomputable def Tryz.pinned : Pinned := { name := "ytacmgogobjpmcaagreat", sum := "1efd3706044d7e94519b1da318d517365968c33f5d8b7d75b24f04ccf75158f9", checked := Tryz.checked }
namespace Rows
def none {H : Type} : Left H := { results := [], args := [] }

/-- 'gazetteerlaw20.WalkForged': WHATEVER THE INPUT: true; the input reads as it did. -/
def walkForgedSpec : ChangeSpec := { name := "walkForged", fn := fun _ => fun
  | [d1, d2, d3, d4, d5, d6] => { results := [.lit (.bool true)], args := [d1, d2, d3, d4, d5, d6] }
  | _ => none }
def walkForgedRow : OpenClaim := { program := "ytacmgogobjpmcaagreat", sum := "1efd3706044d7e94519b1da318d517365968c33f5d8b7d75b24f04ccf75158f9", func := "gazetteer/gazetteerlaw20.WalkForged", spec := "walkForged", inPlace := ["internal/abi.NoEscape"], unfollowed := true, recurses := true, apart := false }
def WalkForgedSaid : Prop := walkForgedRow.holds Tryz.pinned (OpenSpec.ofChange walkForgedSpec)

/-- ITS FALSE NEIGHBOUR: 'it returns false'. Refute it at one input. -/
def walkForgedWrong : ChangeSpec := { name := "walkForged", fn := fun _ => fun
  | [d1, d2, d3, d4, d5, d6] => { results := [.lit (.bool false)], args := [d1, d2, d3, d4, d5, d6] }
  | _ => none }
def WalkForgedWrongFalsely : Prop := walkForgedRow.holds Tryz.pinned (OpenSpec.ofChange walkForgedWrong)

/-- 'gazetteerlaw21.FrontNil': WHATEVER THE INPUT: true; the input reads as it did. -/
def frontNilSpec : ChangeSpec := { name := "frontNil", fn := fun _ => fun
  | [d1, d2, d3] => { results := [.lit (.bool true)], args := [d1, d2, d3] }
  | _ => none }
def frontNilRow : OpenClaim := { program := "ytacmgogobjpmcaagreat", sum := "1efd3706044d7e94519b1da318d517365968c33f5d8b7d75b24f04ccf75158f9", func := "gazetteer/gazetteerlaw21.FrontNil", spec := "frontNil", inPlace := ["internal/abi.NoEscape"], unfollowed := true, recurses := true, apart := false }
def FrontNilSaid : Prop := frontNilRow.holds Tryz.pinned (OpenSpec.ofChange frontNilSpec)

/-- ITS FALSE NEIGHBOUR: 'it returns false'. Refute it at one input. -/
def frontNilWrong : ChangeSpec := { name := "frontNil", fn := fun _ => fun
  | [d1, d2, d3] => { results := [.lit (.bool false)], args := [d1, d2, d3] }
  | _ => none }
def FrontNilWrongFalsely : Prop := frontNilRow.holds Tryz.pinned (OpenSpec.ofChange frontNilWrong)

/-- 'gazetteerlaw22.WorldNet': WHATEVER THE INPUT: true; the input reads as it did. -/
def worldNetSpec : ChangeSpec := { name := "worldNet", fn := fun _ => fun
  | [d1, d2, d3, d4] => { results := [.lit (.bool true)], args := [d1, d2, d3, d4] }
  | _ => none }
def worldNetRow : OpenClaim := { program := "ytacmgogobjpmcaagreat", sum := "1efd3706044d7e94519b1da318d517365968c33f5d8b7d75b24f04ccf75158f9", func := "gazetteer/gazetteerlaw22.WorldNet", spec := "worldNet", inPlace := ["internal/abi.NoEscape"], unfollowed := true, recurses := true, apart := false }
def WorldNetSaid : Prop := worldNetRow.holds Tryz.pinned (OpenSpec.ofChange worldNetSpec)

/-- ITS FALSE NEIGHBOUR: 'it returns false'. Refute it at one input. -/
def worldNetWrong : ChangeSpec := { name := "worldNet", fn := fun _ => fun
  | [d1, d2, d3, d4] => { results := [.lit (.bool false)], args := [d1, d2, d3, d4] }
  | _ => none }
def WorldNetWrongFalsely : Prop := worldNetRow.holds Tryz.pinned (OpenSpec.ofChange worldNetWrong)

/-- 'gazetteerlaw22.WorldRefuses': WHATEVER THE INPUT: true; the input reads as it did. -/
def worldRefusesSpec : ChangeSpec := { name := "worldRefuses", fn := fun _ => fun
  | [d1, d2, d3, d4] => { results := [.lit (.bool true)], args := [d1, d2, d3, d4] }
  | _ => none }
def worldRefusesRow : OpenClaim := { program := "ytacmgogobjpmcaagreat", sum := "1efd3706044d7e94519b1da318d517365968c33f5d8b7d75b24f04ccf75158f9", func := "gazetteer/gazetteerlaw22.WorldRefuses", spec := "worldRefuses", inPlace := ["internal/abi.NoEscape"], unfollowed := true, recurses := true, apart := false }
def WorldRefusesSaid : Prop := worldRefusesRow.holds Tryz.pinned (OpenSpec.ofChange worldRefusesSpec)

/-- ITS FALSE NEIGHBOUR: 'it returns false'. Refute it at one input. -/
def worldRefusesWrong : ChangeSpec := { name := "worldRefuses", fn := fun _ => fun
  | [d1, d2, d3, d4] => { results := [.lit (.bool false)], args := [d1, d2, d3, d4] }
  | _ => none }
def WorldRefusesWrongFalsely : Prop := worldRefusesRow.holds Tryz.pinned (OpenSpec.ofChange worldRefusesWrong)

/- THE SECOND FORM. 'bulk': how many values and letters a reading holds, each counted each time it is reached (what is shared counts as often as it is met; a slice's spare places count too). A statement '..UptoSaid' is the law's where the arguments, and the package variables that the reading takes, are together of bulk at most 1048576: NARROWER than '..Said'. Prove '..Said' where nothing that the law and all that it calls make is longer than what came in: it says more and counts as full. Else prove '..UptoSaid'. A law counts once. -/
mutual
def uptoBulk {H : Type} : DataW H → Nat
  | .lit (.string bytes) => bytes.length + 1
  | .lit _ => 1
  | .nil => 1
  | .ptr d => uptoBulk d + 1
  | .slice elems spare => uptoBulkAll elems + uptoBulkAll spare + 1
  | .agg parts => uptoBulkAll parts + 1
  | .iface _ d => uptoBulk d + 1
  | .map entries => uptoBulkEntries entries + 1
  | .held _ => 1
def uptoBulkAll {H : Type} : List (DataW H) → Nat
  | [] => 0
  | d :: r => uptoBulk d + uptoBulkAll r
def uptoBulkEntries {H : Type} : List (Lit × DataW H) → Nat
  | [] => 0
  | x :: r => uptoBulkEntry x + uptoBulkEntries r
def uptoBulkEntry {H : Type} : Lit × DataW H → Nat
  | (.string bytes, d) => bytes.length + uptoBulk d + 1
  | (_, d) => uptoBulk d + 1
 end
def uptoSmall : (H : Type) → List (DataW H) → Bool := fun _ ds => decide (uptoBulkAll ds ≤ 1048576)
def OpenSpec.upto (s : _root_.Go.ChangeSpec) : _root_.Go.OpenSpec := { _root_.Go.OpenSpec.ofChange s with cond := some uptoSmall }

/-- 'gazetteerlaw20.WalkForged', WHERE WHAT IT READS IS OF BULK AT MOST 1048576: true; the input reads as it did. -/
def walkForgedUptoRow : OpenClaim := { program := "ytacmgogobjpmcaagreat", sum := "1efd3706044d7e94519b1da318d517365968c33f5d8b7d75b24f04ccf75158f9", func := "gazetteer/gazetteerlaw20.WalkForged", spec := "walkForged", inPlace := ["internal/abi.NoEscape"], unfollowed := true, recurses := true, apart := false, narrowed := true }
def WalkForgedUptoSaid : Prop := walkForgedUptoRow.holds Tryz.pinned (OpenSpec.upto walkForgedSpec)

/-- 'gazetteerlaw21.FrontNil', WHERE WHAT IT READS IS OF BULK AT MOST 1048576: true; the input reads as it did. -/
def frontNilUptoRow : OpenClaim := { program := "ytacmgogobjpmcaagreat", sum := "1efd3706044d7e94519b1da318d517365968c33f5d8b7d75b24f04ccf75158f9", func := "gazetteer/gazetteerlaw21.FrontNil", spec := "frontNil", inPlace := ["internal/abi.NoEscape"], unfollowed := true, recurses := true, apart := false, narrowed := true }
def FrontNilUptoSaid : Prop := frontNilUptoRow.holds Tryz.pinned (OpenSpec.upto frontNilSpec)

/-- 'gazetteerlaw22.WorldNet', WHERE WHAT IT READS IS OF BULK AT MOST 1048576: true; the input reads as it did. -/
def worldNetUptoRow : OpenClaim := { program := "ytacmgogobjpmcaagreat", sum := "1efd3706044d7e94519b1da318d517365968c33f5d8b7d75b24f04ccf75158f9", func := "gazetteer/gazetteerlaw22.WorldNet", spec := "worldNet", inPlace := ["internal/abi.NoEscape"], unfollowed := true, recurses := true, apart := false, narrowed := true }
def WorldNetUptoSaid : Prop := worldNetUptoRow.holds Tryz.pinned (OpenSpec.upto worldNetSpec)

/-- 'gazetteerlaw22.WorldRefuses', WHERE WHAT IT READS IS OF BULK AT MOST 1048576: true; the input reads as it did. -/
def worldRefusesUptoRow : OpenClaim := { program := "ytacmgogobjpmcaagreat", sum := "1efd3706044d7e94519b1da318d517365968c33f5d8b7d75b24f04ccf75158f9", func := "gazetteer/gazetteerlaw22.WorldRefuses", spec := "worldRefuses", inPlace := ["internal/abi.NoEscape"], unfollowed := true, recurses := true, apart := false, narrowed := true }
def WorldRefusesUptoSaid : Prop := worldRefusesUptoRow.holds Tryz.pinned (OpenSpec.upto worldRefusesSpec)

end Rows
end Go.Proofs.YtacmgogobjpmcaaGreat
