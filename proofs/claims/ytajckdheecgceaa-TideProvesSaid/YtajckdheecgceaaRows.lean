/-
  No cell of these rows narrows 'for every input' (looked for: loops, veiled, ifaces, maps, wideKeys, modest, calm, conditions, laid).
  DERIVED. THE GIVEN ROWS OF THIS SEAT. 8 by the template 'for every input the law returns true; each argument reads behind the call as it read before'; 0 by the template 'total and deterministic' (their statements: YtajckdheecgceaaTotals.lean).
  GIVEN WITH THE SEED: the statements are not yours to turn. If you find one false, say at which input.
  Laid BY PROGRAM, IN A SANDBOX (cutbox-rows.mjs): the forced cells as the released guide's own fill.sh prints them over the translation 552520eac56144be… (all of the seat's roots in one cut). By AI agents, Wed Nov 11 2026. No macro, syntax, notation, axiom, sorry.
-/
import Derived.Test.YtajckdheecgceaaChecked
import GoSem.Claim
import GoSem.ClaimJoined
import GoSem.ClaimMapViews
import Derived.JoinedTies
import Derived.KernelRfl
namespace Go.Proofs.Ytajckdheecgceaa
/- THE CELL 'sum', in the pinned program and in every row, IS THE sha256 OF THE DUMP (.gsa) THAT YtajckdheecgceaaProg.lean LOADS. Nothing in Lean hashes anything: it is a label: what it is worth is what the hold of that sum in a sandbox is worth. -/
noncomputable def Try.pinned : Pinned := { name := "ytajckdheecgceaa", sum := "552520eac56144bea5659fb155e1c84e81b4eefd35595252a65ac79f8c7de2ad", checked := Try.checked }
namespace Rows
def none {H : Type} : Left H := { results := [], args := [] }

/-- 'unbentlaw12.TideSells': WHATEVER THE INPUT: true; the input reads as it did. -/
def tideSellsSpec : ChangeSpec := { name := "tideSells", fn := fun _ => fun
  | [d] => { results := [.lit (.bool true)], args := [d] }
  | _ => none }
def tideSellsRow : OpenClaim := { program := "ytajckdheecgceaa", sum := "552520eac56144bea5659fb155e1c84e81b4eefd35595252a65ac79f8c7de2ad", func := "unbent/unbentlaw12.TideSells", spec := "tideSells", unfollowed := true, recurses := true, apart := false }
def TideSellsSaid : Prop := tideSellsRow.holds Try.pinned (OpenSpec.ofChange tideSellsSpec)

/-- ITS FALSE NEIGHBOUR: 'it returns false'. Refute it at one input. -/
def tideSellsWrong : ChangeSpec := { name := "tideSells", fn := fun _ => fun
  | [d] => { results := [.lit (.bool false)], args := [d] }
  | _ => none }
def TideSellsWrongFalsely : Prop := tideSellsRow.holds Try.pinned (OpenSpec.ofChange tideSellsWrong)

/-- 'unbentlaw12.TideMore': WHATEVER THE INPUT: true; the input reads as it did. -/
def tideMoreSpec : ChangeSpec := { name := "tideMore", fn := fun _ => fun
  | [d1, d2] => { results := [.lit (.bool true)], args := [d1, d2] }
  | _ => none }
def tideMoreRow : OpenClaim := { program := "ytajckdheecgceaa", sum := "552520eac56144bea5659fb155e1c84e81b4eefd35595252a65ac79f8c7de2ad", func := "unbent/unbentlaw12.TideMore", spec := "tideMore", unfollowed := true, recurses := true, apart := false }
def TideMoreSaid : Prop := tideMoreRow.holds Try.pinned (OpenSpec.ofChange tideMoreSpec)

/-- ITS FALSE NEIGHBOUR: 'it returns false'. Refute it at one input. -/
def tideMoreWrong : ChangeSpec := { name := "tideMore", fn := fun _ => fun
  | [d1, d2] => { results := [.lit (.bool false)], args := [d1, d2] }
  | _ => none }
def TideMoreWrongFalsely : Prop := tideMoreRow.holds Try.pinned (OpenSpec.ofChange tideMoreWrong)

/-- 'unbentlaw12.TideKnown': WHATEVER THE INPUT: true; the input reads as it did. -/
def tideKnownSpec : ChangeSpec := { name := "tideKnown", fn := fun _ => fun
  | [d1, d2, d3] => { results := [.lit (.bool true)], args := [d1, d2, d3] }
  | _ => none }
def tideKnownRow : OpenClaim := { program := "ytajckdheecgceaa", sum := "552520eac56144bea5659fb155e1c84e81b4eefd35595252a65ac79f8c7de2ad", func := "unbent/unbentlaw12.TideKnown", spec := "tideKnown", unfollowed := true, recurses := true, apart := false }
def TideKnownSaid : Prop := tideKnownRow.holds Try.pinned (OpenSpec.ofChange tideKnownSpec)

/-- ITS FALSE NEIGHBOUR: 'it returns false'. Refute it at one input. -/
def tideKnownWrong : ChangeSpec := { name := "tideKnown", fn := fun _ => fun
  | [d1, d2, d3] => { results := [.lit (.bool false)], args := [d1, d2, d3] }
  | _ => none }
def TideKnownWrongFalsely : Prop := tideKnownRow.holds Try.pinned (OpenSpec.ofChange tideKnownWrong)

/-- 'unbentlaw12.TideTrue': WHATEVER THE INPUT: true; the input reads as it did. -/
def tideTrueSpec : ChangeSpec := { name := "tideTrue", fn := fun _ => fun
  | [d1, d2] => { results := [.lit (.bool true)], args := [d1, d2] }
  | _ => none }
def tideTrueRow : OpenClaim := { program := "ytajckdheecgceaa", sum := "552520eac56144bea5659fb155e1c84e81b4eefd35595252a65ac79f8c7de2ad", func := "unbent/unbentlaw12.TideTrue", spec := "tideTrue", unfollowed := true, recurses := true, apart := false }
def TideTrueSaid : Prop := tideTrueRow.holds Try.pinned (OpenSpec.ofChange tideTrueSpec)

/-- ITS FALSE NEIGHBOUR: 'it returns false'. Refute it at one input. -/
def tideTrueWrong : ChangeSpec := { name := "tideTrue", fn := fun _ => fun
  | [d1, d2] => { results := [.lit (.bool false)], args := [d1, d2] }
  | _ => none }
def TideTrueWrongFalsely : Prop := tideTrueRow.holds Try.pinned (OpenSpec.ofChange tideTrueWrong)

/-- 'unbentlaw12.TideHonest': WHATEVER THE INPUT: true; the input reads as it did. -/
def tideHonestSpec : ChangeSpec := { name := "tideHonest", fn := fun _ => fun
  | [d1, d2, d3] => { results := [.lit (.bool true)], args := [d1, d2, d3] }
  | _ => none }
def tideHonestRow : OpenClaim := { program := "ytajckdheecgceaa", sum := "552520eac56144bea5659fb155e1c84e81b4eefd35595252a65ac79f8c7de2ad", func := "unbent/unbentlaw12.TideHonest", spec := "tideHonest", unfollowed := true, recurses := true, apart := false }
def TideHonestSaid : Prop := tideHonestRow.holds Try.pinned (OpenSpec.ofChange tideHonestSpec)

/-- ITS FALSE NEIGHBOUR: 'it returns false'. Refute it at one input. -/
def tideHonestWrong : ChangeSpec := { name := "tideHonest", fn := fun _ => fun
  | [d1, d2, d3] => { results := [.lit (.bool false)], args := [d1, d2, d3] }
  | _ => none }
def TideHonestWrongFalsely : Prop := tideHonestRow.holds Try.pinned (OpenSpec.ofChange tideHonestWrong)

/-- 'unbentlaw12.TideProves': WHATEVER THE INPUT: true; the input reads as it did. -/
def tideProvesSpec : ChangeSpec := { name := "tideProves", fn := fun _ => fun
  | [d1, d2, d3] => { results := [.lit (.bool true)], args := [d1, d2, d3] }
  | _ => none }
def tideProvesRow : OpenClaim := { program := "ytajckdheecgceaa", sum := "552520eac56144bea5659fb155e1c84e81b4eefd35595252a65ac79f8c7de2ad", func := "unbent/unbentlaw12.TideProves", spec := "tideProves", unfollowed := true, recurses := true, apart := false }
def TideProvesSaid : Prop := tideProvesRow.holds Try.pinned (OpenSpec.ofChange tideProvesSpec)

/-- ITS FALSE NEIGHBOUR: 'it returns false'. Refute it at one input. -/
def tideProvesWrong : ChangeSpec := { name := "tideProves", fn := fun _ => fun
  | [d1, d2, d3] => { results := [.lit (.bool false)], args := [d1, d2, d3] }
  | _ => none }
def TideProvesWrongFalsely : Prop := tideProvesRow.holds Try.pinned (OpenSpec.ofChange tideProvesWrong)

/-- 'unbentlaw12.TideHalf': WHATEVER THE INPUT: true; the input reads as it did. -/
def tideHalfSpec : ChangeSpec := { name := "tideHalf", fn := fun _ => fun
  | [d1, d2] => { results := [.lit (.bool true)], args := [d1, d2] }
  | _ => none }
def tideHalfRow : OpenClaim := { program := "ytajckdheecgceaa", sum := "552520eac56144bea5659fb155e1c84e81b4eefd35595252a65ac79f8c7de2ad", func := "unbent/unbentlaw12.TideHalf", spec := "tideHalf", unfollowed := true, recurses := true, apart := false }
def TideHalfSaid : Prop := tideHalfRow.holds Try.pinned (OpenSpec.ofChange tideHalfSpec)

/-- ITS FALSE NEIGHBOUR: 'it returns false'. Refute it at one input. -/
def tideHalfWrong : ChangeSpec := { name := "tideHalf", fn := fun _ => fun
  | [d1, d2] => { results := [.lit (.bool false)], args := [d1, d2] }
  | _ => none }
def TideHalfWrongFalsely : Prop := tideHalfRow.holds Try.pinned (OpenSpec.ofChange tideHalfWrong)

/-- 'unbentlaw12.TideKeeps': WHATEVER THE INPUT: true; the input reads as it did. -/
def tideKeepsSpec : ChangeSpec := { name := "tideKeeps", fn := fun _ => fun
  | [d1, d2, d3] => { results := [.lit (.bool true)], args := [d1, d2, d3] }
  | _ => none }
def tideKeepsRow : OpenClaim := { program := "ytajckdheecgceaa", sum := "552520eac56144bea5659fb155e1c84e81b4eefd35595252a65ac79f8c7de2ad", func := "unbent/unbentlaw12.TideKeeps", spec := "tideKeeps", unfollowed := true, recurses := true, apart := false }
def TideKeepsSaid : Prop := tideKeepsRow.holds Try.pinned (OpenSpec.ofChange tideKeepsSpec)

/-- ITS FALSE NEIGHBOUR: 'it returns false'. Refute it at one input. -/
def tideKeepsWrong : ChangeSpec := { name := "tideKeeps", fn := fun _ => fun
  | [d1, d2, d3] => { results := [.lit (.bool false)], args := [d1, d2, d3] }
  | _ => none }
def TideKeepsWrongFalsely : Prop := tideKeepsRow.holds Try.pinned (OpenSpec.ofChange tideKeepsWrong)

/- THE SECOND FORM. 'bulk': how many values and letters a reading holds, each counted each time it is reached (what is shared counts as often as it is met; a slice's spare places count too). A statement '..UptoSaid' is the law's where the arguments, and the package variables that the reading takes, are together of bulk at most 1048576: NARROWER than '..Said'. Prove '..Said' where nothing that the law and all that it calls make is longer than what came in: it says more and counts as full. Else prove '..UptoSaid'. A law counts once. -/
mutual
def uptoBulk {H : Type} : DataW H → Nat
  | .lit (.string bytes) => bytes.length + 1
  | .lit _ => 1
  | .nil => 1
  | .ptr d => uptoBulk d + 1
  | .slice elems spare => uptoBulkAll elems + uptoBulkAll spare + 1
  | .agg parts => uptoBulkAll parts + 1
  | .iface _ d => uptoBulk d + 1
  | .map entries => uptoBulkEntries entries + 1
  | .held _ => 1
def uptoBulkAll {H : Type} : List (DataW H) → Nat
  | [] => 0
  | d :: r => uptoBulk d + uptoBulkAll r
def uptoBulkEntries {H : Type} : List (Lit × DataW H) → Nat
  | [] => 0
  | x :: r => uptoBulkEntry x + uptoBulkEntries r
def uptoBulkEntry {H : Type} : Lit × DataW H → Nat
  | (.string bytes, d) => bytes.length + uptoBulk d + 1
  | (_, d) => uptoBulk d + 1
 end
def uptoSmall : (H : Type) → List (DataW H) → Bool := fun _ ds => decide (uptoBulkAll ds ≤ 1048576)
def OpenSpec.upto (s : _root_.Go.ChangeSpec) : _root_.Go.OpenSpec := { _root_.Go.OpenSpec.ofChange s with cond := some uptoSmall }

/-- 'unbentlaw12.TideSells', WHERE WHAT IT READS IS OF BULK AT MOST 1048576: true; the input reads as it did. -/
def tideSellsUptoRow : OpenClaim := { program := "ytajckdheecgceaa", sum := "552520eac56144bea5659fb155e1c84e81b4eefd35595252a65ac79f8c7de2ad", func := "unbent/unbentlaw12.TideSells", spec := "tideSells", unfollowed := true, recurses := true, apart := false, narrowed := true }
def TideSellsUptoSaid : Prop := tideSellsUptoRow.holds Try.pinned (OpenSpec.upto tideSellsSpec)

/-- 'unbentlaw12.TideMore', WHERE WHAT IT READS IS OF BULK AT MOST 1048576: true; the input reads as it did. -/
def tideMoreUptoRow : OpenClaim := { program := "ytajckdheecgceaa", sum := "552520eac56144bea5659fb155e1c84e81b4eefd35595252a65ac79f8c7de2ad", func := "unbent/unbentlaw12.TideMore", spec := "tideMore", unfollowed := true, recurses := true, apart := false, narrowed := true }
def TideMoreUptoSaid : Prop := tideMoreUptoRow.holds Try.pinned (OpenSpec.upto tideMoreSpec)

/-- 'unbentlaw12.TideKnown', WHERE WHAT IT READS IS OF BULK AT MOST 1048576: true; the input reads as it did. -/
def tideKnownUptoRow : OpenClaim := { program := "ytajckdheecgceaa", sum := "552520eac56144bea5659fb155e1c84e81b4eefd35595252a65ac79f8c7de2ad", func := "unbent/unbentlaw12.TideKnown", spec := "tideKnown", unfollowed := true, recurses := true, apart := false, narrowed := true }
def TideKnownUptoSaid : Prop := tideKnownUptoRow.holds Try.pinned (OpenSpec.upto tideKnownSpec)

/-- 'unbentlaw12.TideTrue', WHERE WHAT IT READS IS OF BULK AT MOST 1048576: true; the input reads as it did. -/
def tideTrueUptoRow : OpenClaim := { program := "ytajckdheecgceaa", sum := "552520eac56144bea5659fb155e1c84e81b4eefd35595252a65ac79f8c7de2ad", func := "unbent/unbentlaw12.TideTrue", spec := "tideTrue", unfollowed := true, recurses := true, apart := false, narrowed := true }
def TideTrueUptoSaid : Prop := tideTrueUptoRow.holds Try.pinned (OpenSpec.upto tideTrueSpec)

/-- 'unbentlaw12.TideHonest', WHERE WHAT IT READS IS OF BULK AT MOST 1048576: true; the input reads as it did. -/
def tideHonestUptoRow : OpenClaim := { program := "ytajckdheecgceaa", sum := "552520eac56144bea5659fb155e1c84e81b4eefd35595252a65ac79f8c7de2ad", func := "unbent/unbentlaw12.TideHonest", spec := "tideHonest", unfollowed := true, recurses := true, apart := false, narrowed := true }
def TideHonestUptoSaid : Prop := tideHonestUptoRow.holds Try.pinned (OpenSpec.upto tideHonestSpec)

/-- 'unbentlaw12.TideProves', WHERE WHAT IT READS IS OF BULK AT MOST 1048576: true; the input reads as it did. -/
def tideProvesUptoRow : OpenClaim := { program := "ytajckdheecgceaa", sum := "552520eac56144bea5659fb155e1c84e81b4eefd35595252a65ac79f8c7de2ad", func := "unbent/unbentlaw12.TideProves", spec := "tideProves", unfollowed := true, recurses := true, apart := false, narrowed := true }
def TideProvesUptoSaid : Prop := tideProvesUptoRow.holds Try.pinned (OpenSpec.upto tideProvesSpec)

/-- 'unbentlaw12.TideHalf', WHERE WHAT IT READS IS OF BULK AT MOST 1048576: true; the input reads as it did. -/
def tideHalfUptoRow : OpenClaim := { program := "ytajckdheecgceaa", sum := "552520eac56144bea5659fb155e1c84e81b4eefd35595252a65ac79f8c7de2ad", func := "unbent/unbentlaw12.TideHalf", spec := "tideHalf", unfollowed := true, recurses := true, apart := false, narrowed := true }
def TideHalfUptoSaid : Prop := tideHalfUptoRow.holds Try.pinned (OpenSpec.upto tideHalfSpec)

/-- 'unbentlaw12.TideKeeps', WHERE WHAT IT READS IS OF BULK AT MOST 1048576: true; the input reads as it did. -/
def tideKeepsUptoRow : OpenClaim := { program := "ytajckdheecgceaa", sum := "552520eac56144bea5659fb155e1c84e81b4eefd35595252a65ac79f8c7de2ad", func := "unbent/unbentlaw12.TideKeeps", spec := "tideKeeps", unfollowed := true, recurses := true, apart := false, narrowed := true }
def TideKeepsUptoSaid : Prop := tideKeepsUptoRow.holds Try.pinned (OpenSpec.upto tideKeepsSpec)

end Rows
end Go.Proofs.Ytajckdheecgceaa
