/-
  No cell of these rows narrows 'for every input' (looked for: loops, veiled, ifaces, maps, wideKeys, modest, calm, conditions, laid).
  DERIVED. THE GIVEN ROWS OF THIS SEAT. 5 by the template 'for every input the law returns true; each argument reads behind the call as it read before'; 0 by the template 'total and deterministic' (their statements: YtgbmmmglilpdjaaTotals.lean).
  GIVEN WITH THE SEED: the statements are not yours to turn. If you find one false, say at which input.
  Laid BY PROGRAM, IN A SANDBOX (cutbox-rows.mjs): the forced cells as the released guide's own fill.sh prints them over the translation 6c07348d2eaa2968… (all of the seat's roots in one cut). By AI agents, Wed Nov 11 2026. No macro, syntax, notation, axiom, sorry.
-/
import Derived.Test.YtgbmmmglilpdjaaChecked
import GoSem.Claim
import GoSem.ClaimJoined
import GoSem.ClaimMapViews
import Derived.JoinedTies
import Derived.KernelRfl
namespace Go.Proofs.Ytgbmmmglilpdjaa
/- THE CELL 'sum', in the pinned program and in every row, IS THE sha256 OF THE DUMP (.gsa) THAT YtgbmmmglilpdjaaProg.lean LOADS. Nothing in Lean hashes anything: it is a label: what it is worth is what the hold of that sum in a sandbox is worth. -/
noncomputable def Try.pinned : Pinned := { name := "ytgbmmmglilpdjaa", sum := "6c07348d2eaa296835f82a884c4e3eeade521d4b0b92640a4c7e78223db2f5ee", checked := Try.checked }
namespace Rows
def none {H : Type} : Left H := { results := [], args := [] }

/-- 'tailracelaw16.LevelKeeps': WHATEVER THE INPUT: true; the input reads as it did. -/
def levelKeepsSpec : ChangeSpec := { name := "levelKeeps", fn := fun _ => fun
  | [d1, d2, d3, d4] => { results := [.lit (.bool true)], args := [d1, d2, d3, d4] }
  | _ => none }
def levelKeepsRow : OpenClaim := { program := "ytgbmmmglilpdjaa", sum := "6c07348d2eaa296835f82a884c4e3eeade521d4b0b92640a4c7e78223db2f5ee", func := "tailrace/tailracelaw16.LevelKeeps", spec := "levelKeeps", inPlace := ["internal/bytealg.abigen_runtime_cmpstring"], unfollowed := true, recurses := true, apart := false }
def LevelKeepsSaid : Prop := levelKeepsRow.holds Try.pinned (OpenSpec.ofChange levelKeepsSpec)

/-- ITS FALSE NEIGHBOUR: 'it returns false'. Refute it at one input. -/
def levelKeepsWrong : ChangeSpec := { name := "levelKeeps", fn := fun _ => fun
  | [d1, d2, d3, d4] => { results := [.lit (.bool false)], args := [d1, d2, d3, d4] }
  | _ => none }
def LevelKeepsWrongFalsely : Prop := levelKeepsRow.holds Try.pinned (OpenSpec.ofChange levelKeepsWrong)

/-- 'tailracelaw16.LevelDrops': WHATEVER THE INPUT: true; the input reads as it did. -/
def levelDropsSpec : ChangeSpec := { name := "levelDrops", fn := fun _ => fun
  | [d1, d2, d3] => { results := [.lit (.bool true)], args := [d1, d2, d3] }
  | _ => none }
def levelDropsRow : OpenClaim := { program := "ytgbmmmglilpdjaa", sum := "6c07348d2eaa296835f82a884c4e3eeade521d4b0b92640a4c7e78223db2f5ee", func := "tailrace/tailracelaw16.LevelDrops", spec := "levelDrops", inPlace := ["internal/bytealg.abigen_runtime_cmpstring"], unfollowed := true, recurses := true, apart := false }
def LevelDropsSaid : Prop := levelDropsRow.holds Try.pinned (OpenSpec.ofChange levelDropsSpec)

/-- ITS FALSE NEIGHBOUR: 'it returns false'. Refute it at one input. -/
def levelDropsWrong : ChangeSpec := { name := "levelDrops", fn := fun _ => fun
  | [d1, d2, d3] => { results := [.lit (.bool false)], args := [d1, d2, d3] }
  | _ => none }
def LevelDropsWrongFalsely : Prop := levelDropsRow.holds Try.pinned (OpenSpec.ofChange levelDropsWrong)

/-- 'tailracelaw16.LevelCuts': WHATEVER THE INPUT: true; the input reads as it did. -/
def levelCutsSpec : ChangeSpec := { name := "levelCuts", fn := fun _ => fun
  | [d1, d2] => { results := [.lit (.bool true)], args := [d1, d2] }
  | _ => none }
def levelCutsRow : OpenClaim := { program := "ytgbmmmglilpdjaa", sum := "6c07348d2eaa296835f82a884c4e3eeade521d4b0b92640a4c7e78223db2f5ee", func := "tailrace/tailracelaw16.LevelCuts", spec := "levelCuts", inPlace := ["internal/bytealg.abigen_runtime_cmpstring"], unfollowed := true, recurses := true, apart := false }
def LevelCutsSaid : Prop := levelCutsRow.holds Try.pinned (OpenSpec.ofChange levelCutsSpec)

/-- ITS FALSE NEIGHBOUR: 'it returns false'. Refute it at one input. -/
def levelCutsWrong : ChangeSpec := { name := "levelCuts", fn := fun _ => fun
  | [d1, d2] => { results := [.lit (.bool false)], args := [d1, d2] }
  | _ => none }
def LevelCutsWrongFalsely : Prop := levelCutsRow.holds Try.pinned (OpenSpec.ofChange levelCutsWrong)

/-- 'tailracelaw16.LevelPicks': WHATEVER THE INPUT: true; the input reads as it did. -/
def levelPicksSpec : ChangeSpec := { name := "levelPicks", fn := fun _ => fun
  | [d1, d2] => { results := [.lit (.bool true)], args := [d1, d2] }
  | _ => none }
def levelPicksRow : OpenClaim := { program := "ytgbmmmglilpdjaa", sum := "6c07348d2eaa296835f82a884c4e3eeade521d4b0b92640a4c7e78223db2f5ee", func := "tailrace/tailracelaw16.LevelPicks", spec := "levelPicks", unfollowed := true, recurses := true, apart := false }
def LevelPicksSaid : Prop := levelPicksRow.holds Try.pinned (OpenSpec.ofChange levelPicksSpec)

/-- ITS FALSE NEIGHBOUR: 'it returns false'. Refute it at one input. -/
def levelPicksWrong : ChangeSpec := { name := "levelPicks", fn := fun _ => fun
  | [d1, d2] => { results := [.lit (.bool false)], args := [d1, d2] }
  | _ => none }
def LevelPicksWrongFalsely : Prop := levelPicksRow.holds Try.pinned (OpenSpec.ofChange levelPicksWrong)

/-- 'tailracelaw16.LevelWorks': WHATEVER THE INPUT: true; the input reads as it did. -/
def levelWorksSpec : ChangeSpec := { name := "levelWorks", fn := fun _ => fun
  | [d1, d2] => { results := [.lit (.bool true)], args := [d1, d2] }
  | _ => none }
def levelWorksRow : OpenClaim := { program := "ytgbmmmglilpdjaa", sum := "6c07348d2eaa296835f82a884c4e3eeade521d4b0b92640a4c7e78223db2f5ee", func := "tailrace/tailracelaw16.LevelWorks", spec := "levelWorks", unfollowed := true, recurses := true, apart := false }
def LevelWorksSaid : Prop := levelWorksRow.holds Try.pinned (OpenSpec.ofChange levelWorksSpec)

/-- ITS FALSE NEIGHBOUR: 'it returns false'. Refute it at one input. -/
def levelWorksWrong : ChangeSpec := { name := "levelWorks", fn := fun _ => fun
  | [d1, d2] => { results := [.lit (.bool false)], args := [d1, d2] }
  | _ => none }
def LevelWorksWrongFalsely : Prop := levelWorksRow.holds Try.pinned (OpenSpec.ofChange levelWorksWrong)

/- THE SECOND FORM. 'bulk': how many values and letters a reading holds, each counted each time it is reached (what is shared counts as often as it is met; a slice's spare places count too). A statement '..UptoSaid' is the law's where the arguments, and the package variables that the reading takes, are together of bulk at most 1048576: NARROWER than '..Said'. Prove '..Said' where nothing that the law and all that it calls make is longer than what came in: it says more and counts as full. Else prove '..UptoSaid'. A law counts once. -/
mutual
def uptoBulk {H : Type} : DataW H → Nat
  | .lit (.string bytes) => bytes.length + 1
  | .lit _ => 1
  | .nil => 1
  | .ptr d => uptoBulk d + 1
  | .slice elems spare => uptoBulkAll elems + uptoBulkAll spare + 1
  | .agg parts => uptoBulkAll parts + 1
  | .iface _ d => uptoBulk d + 1
  | .map entries => uptoBulkEntries entries + 1
  | .held _ => 1
def uptoBulkAll {H : Type} : List (DataW H) → Nat
  | [] => 0
  | d :: r => uptoBulk d + uptoBulkAll r
def uptoBulkEntries {H : Type} : List (Lit × DataW H) → Nat
  | [] => 0
  | x :: r => uptoBulkEntry x + uptoBulkEntries r
def uptoBulkEntry {H : Type} : Lit × DataW H → Nat
  | (.string bytes, d) => bytes.length + uptoBulk d + 1
  | (_, d) => uptoBulk d + 1
 end
def uptoSmall : (H : Type) → List (DataW H) → Bool := fun _ ds => decide (uptoBulkAll ds ≤ 1048576)
def OpenSpec.upto (s : _root_.Go.ChangeSpec) : _root_.Go.OpenSpec := { _root_.Go.OpenSpec.ofChange s with cond := some uptoSmall }

/-- 'tailracelaw16.LevelKeeps', WHERE WHAT IT READS IS OF BULK AT MOST 1048576: true; the input reads as it did. -/
def levelKeepsUptoRow : OpenClaim := { program := "ytgbmmmglilpdjaa", sum := "6c07348d2eaa296835f82a884c4e3eeade521d4b0b92640a4c7e78223db2f5ee", func := "tailrace/tailracelaw16.LevelKeeps", spec := "levelKeeps", inPlace := ["internal/bytealg.abigen_runtime_cmpstring"], unfollowed := true, recurses := true, apart := false, narrowed := true }
def LevelKeepsUptoSaid : Prop := levelKeepsUptoRow.holds Try.pinned (OpenSpec.upto levelKeepsSpec)

/-- 'tailracelaw16.LevelDrops', WHERE WHAT IT READS IS OF BULK AT MOST 1048576: true; the input reads as it did. -/
def levelDropsUptoRow : OpenClaim := { program := "ytgbmmmglilpdjaa", sum := "6c07348d2eaa296835f82a884c4e3eeade521d4b0b92640a4c7e78223db2f5ee", func := "tailrace/tailracelaw16.LevelDrops", spec := "levelDrops", inPlace := ["internal/bytealg.abigen_runtime_cmpstring"], unfollowed := true, recurses := true, apart := false, narrowed := true }
def LevelDropsUptoSaid : Prop := levelDropsUptoRow.holds Try.pinned (OpenSpec.upto levelDropsSpec)

/-- 'tailracelaw16.LevelCuts', WHERE WHAT IT READS IS OF BULK AT MOST 1048576: true; the input reads as it did. -/
def levelCutsUptoRow : OpenClaim := { program := "ytgbmmmglilpdjaa", sum := "6c07348d2eaa296835f82a884c4e3eeade521d4b0b92640a4c7e78223db2f5ee", func := "tailrace/tailracelaw16.LevelCuts", spec := "levelCuts", inPlace := ["internal/bytealg.abigen_runtime_cmpstring"], unfollowed := true, recurses := true, apart := false, narrowed := true }
def LevelCutsUptoSaid : Prop := levelCutsUptoRow.holds Try.pinned (OpenSpec.upto levelCutsSpec)

/-- 'tailracelaw16.LevelPicks', WHERE WHAT IT READS IS OF BULK AT MOST 1048576: true; the input reads as it did. -/
def levelPicksUptoRow : OpenClaim := { program := "ytgbmmmglilpdjaa", sum := "6c07348d2eaa296835f82a884c4e3eeade521d4b0b92640a4c7e78223db2f5ee", func := "tailrace/tailracelaw16.LevelPicks", spec := "levelPicks", unfollowed := true, recurses := true, apart := false, narrowed := true }
def LevelPicksUptoSaid : Prop := levelPicksUptoRow.holds Try.pinned (OpenSpec.upto levelPicksSpec)

/-- 'tailracelaw16.LevelWorks', WHERE WHAT IT READS IS OF BULK AT MOST 1048576: true; the input reads as it did. -/
def levelWorksUptoRow : OpenClaim := { program := "ytgbmmmglilpdjaa", sum := "6c07348d2eaa296835f82a884c4e3eeade521d4b0b92640a4c7e78223db2f5ee", func := "tailrace/tailracelaw16.LevelWorks", spec := "levelWorks", unfollowed := true, recurses := true, apart := false, narrowed := true }
def LevelWorksUptoSaid : Prop := levelWorksUptoRow.holds Try.pinned (OpenSpec.upto levelWorksSpec)

end Rows
end Go.Proofs.Ytgbmmmglilpdjaa
