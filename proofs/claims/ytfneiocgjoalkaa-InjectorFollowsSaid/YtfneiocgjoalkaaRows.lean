/-
  No cell of these rows narrows 'for every input' (looked for: loops, veiled, ifaces, maps, wideKeys, modest, calm, conditions, laid).
  DERIVED. THE GIVEN ROWS OF THIS SEAT. 3 by the template 'for every input the law returns true; each argument reads behind the call as it read before'; 0 by the template 'total and deterministic' (their statements: YtfneiocgjoalkaaTotals.lean).
  GIVEN WITH THE SEED: the statements are not yours to turn. If you find one false, say at which input.
  Laid BY PROGRAM, IN A SANDBOX (cutbox-rows.mjs): the forced cells as the released guide's own fill.sh prints them over the translation b033cd622b4c5ddd… (all of the seat's roots in one cut). By AI agents, Wed Nov 11 2026. No macro, syntax, notation, axiom, sorry.
-/
import Derived.Test.YtfneiocgjoalkaaChecked
import GoSem.Claim
import GoSem.ClaimJoined
import GoSem.ClaimMapViews
import Derived.JoinedTies
import Derived.KernelRfl
namespace Go.Proofs.Ytfneiocgjoalkaa
/- THE CELL 'sum', in the pinned program and in every row, IS THE sha256 OF THE DUMP (.gsa) THAT YtfneiocgjoalkaaProg.lean LOADS. Nothing in Lean hashes anything: it is a label: what it is worth is what the hold of that sum in a sandbox is worth. -/
noncomputable def Try.pinned : Pinned := { name := "ytfneiocgjoalkaa", sum := "b033cd622b4c5ddd3f6a3f995e9eea0150312339058ea7b4ec0b1d5e29a82a8d", checked := Try.checked }
namespace Rows
def none {H : Type} : Left H := { results := [], args := [] }

/-- 'tilefarmlaw24.InjectorOrder': WHATEVER THE INPUT: true; the input reads as it did. -/
def injectorOrderSpec : ChangeSpec := { name := "injectorOrder", fn := fun _ => fun
  | [d1, d2] => { results := [.lit (.bool true)], args := [d1, d2] }
  | _ => none }
def injectorOrderRow : OpenClaim := { program := "ytfneiocgjoalkaa", sum := "b033cd622b4c5ddd3f6a3f995e9eea0150312339058ea7b4ec0b1d5e29a82a8d", func := "tilefarm/tilefarmlaw24.InjectorOrder", spec := "injectorOrder", apart := false }
def InjectorOrderSaid : Prop := injectorOrderRow.holds Try.pinned (OpenSpec.ofChange injectorOrderSpec)

/-- ITS FALSE NEIGHBOUR: 'it returns false'. Refute it at one input. -/
def injectorOrderWrong : ChangeSpec := { name := "injectorOrder", fn := fun _ => fun
  | [d1, d2] => { results := [.lit (.bool false)], args := [d1, d2] }
  | _ => none }
def InjectorOrderWrongFalsely : Prop := injectorOrderRow.holds Try.pinned (OpenSpec.ofChange injectorOrderWrong)

/-- 'tilefarmlaw24.InjectorFollows': WHATEVER THE INPUT: true; the input reads as it did. -/
def injectorFollowsSpec : ChangeSpec := { name := "injectorFollows", fn := fun _ => fun
  | [d1, d2, d3] => { results := [.lit (.bool true)], args := [d1, d2, d3] }
  | _ => none }
def injectorFollowsRow : OpenClaim := { program := "ytfneiocgjoalkaa", sum := "b033cd622b4c5ddd3f6a3f995e9eea0150312339058ea7b4ec0b1d5e29a82a8d", func := "tilefarm/tilefarmlaw24.InjectorFollows", spec := "injectorFollows", unfollowed := true, recurses := true, apart := false }
def InjectorFollowsSaid : Prop := injectorFollowsRow.holds Try.pinned (OpenSpec.ofChange injectorFollowsSpec)

/-- ITS FALSE NEIGHBOUR: 'it returns false'. Refute it at one input. -/
def injectorFollowsWrong : ChangeSpec := { name := "injectorFollows", fn := fun _ => fun
  | [d1, d2, d3] => { results := [.lit (.bool false)], args := [d1, d2, d3] }
  | _ => none }
def InjectorFollowsWrongFalsely : Prop := injectorFollowsRow.holds Try.pinned (OpenSpec.ofChange injectorFollowsWrong)

/-- 'tilefarmlaw24.InjectorNil': WHATEVER THE INPUT: true; the input reads as it did. -/
def injectorNilSpec : ChangeSpec := { name := "injectorNil", fn := fun _ => fun
  | [d1, d2] => { results := [.lit (.bool true)], args := [d1, d2] }
  | _ => none }
def injectorNilRow : OpenClaim := { program := "ytfneiocgjoalkaa", sum := "b033cd622b4c5ddd3f6a3f995e9eea0150312339058ea7b4ec0b1d5e29a82a8d", func := "tilefarm/tilefarmlaw24.InjectorNil", spec := "injectorNil", unfollowed := true, recurses := true, apart := false }
def InjectorNilSaid : Prop := injectorNilRow.holds Try.pinned (OpenSpec.ofChange injectorNilSpec)

/-- ITS FALSE NEIGHBOUR: 'it returns false'. Refute it at one input. -/
def injectorNilWrong : ChangeSpec := { name := "injectorNil", fn := fun _ => fun
  | [d1, d2] => { results := [.lit (.bool false)], args := [d1, d2] }
  | _ => none }
def InjectorNilWrongFalsely : Prop := injectorNilRow.holds Try.pinned (OpenSpec.ofChange injectorNilWrong)

/- THE SECOND FORM. 'bulk': how many values and letters a reading holds, each counted each time it is reached (what is shared counts as often as it is met; a slice's spare places count too). A statement '..UptoSaid' is the law's where the arguments, and the package variables that the reading takes, are together of bulk at most 1048576: NARROWER than '..Said'. Prove '..Said' where nothing that the law and all that it calls make is longer than what came in: it says more and counts as full. Else prove '..UptoSaid'. A law counts once. -/
mutual
def uptoBulk {H : Type} : DataW H → Nat
  | .lit (.string bytes) => bytes.length + 1
  | .lit _ => 1
  | .nil => 1
  | .ptr d => uptoBulk d + 1
  | .slice elems spare => uptoBulkAll elems + uptoBulkAll spare + 1
  | .agg parts => uptoBulkAll parts + 1
  | .iface _ d => uptoBulk d + 1
  | .map entries => uptoBulkEntries entries + 1
  | .held _ => 1
def uptoBulkAll {H : Type} : List (DataW H) → Nat
  | [] => 0
  | d :: r => uptoBulk d + uptoBulkAll r
def uptoBulkEntries {H : Type} : List (Lit × DataW H) → Nat
  | [] => 0
  | x :: r => uptoBulkEntry x + uptoBulkEntries r
def uptoBulkEntry {H : Type} : Lit × DataW H → Nat
  | (.string bytes, d) => bytes.length + uptoBulk d + 1
  | (_, d) => uptoBulk d + 1
 end
def uptoSmall : (H : Type) → List (DataW H) → Bool := fun _ ds => decide (uptoBulkAll ds ≤ 1048576)
def OpenSpec.upto (s : _root_.Go.ChangeSpec) : _root_.Go.OpenSpec := { _root_.Go.OpenSpec.ofChange s with cond := some uptoSmall }

/-- 'tilefarmlaw24.InjectorOrder', WHERE WHAT IT READS IS OF BULK AT MOST 1048576: true; the input reads as it did. -/
def injectorOrderUptoRow : OpenClaim := { program := "ytfneiocgjoalkaa", sum := "b033cd622b4c5ddd3f6a3f995e9eea0150312339058ea7b4ec0b1d5e29a82a8d", func := "tilefarm/tilefarmlaw24.InjectorOrder", spec := "injectorOrder", apart := false, narrowed := true }
def InjectorOrderUptoSaid : Prop := injectorOrderUptoRow.holds Try.pinned (OpenSpec.upto injectorOrderSpec)

/-- 'tilefarmlaw24.InjectorFollows', WHERE WHAT IT READS IS OF BULK AT MOST 1048576: true; the input reads as it did. -/
def injectorFollowsUptoRow : OpenClaim := { program := "ytfneiocgjoalkaa", sum := "b033cd622b4c5ddd3f6a3f995e9eea0150312339058ea7b4ec0b1d5e29a82a8d", func := "tilefarm/tilefarmlaw24.InjectorFollows", spec := "injectorFollows", unfollowed := true, recurses := true, apart := false, narrowed := true }
def InjectorFollowsUptoSaid : Prop := injectorFollowsUptoRow.holds Try.pinned (OpenSpec.upto injectorFollowsSpec)

/-- 'tilefarmlaw24.InjectorNil', WHERE WHAT IT READS IS OF BULK AT MOST 1048576: true; the input reads as it did. -/
def injectorNilUptoRow : OpenClaim := { program := "ytfneiocgjoalkaa", sum := "b033cd622b4c5ddd3f6a3f995e9eea0150312339058ea7b4ec0b1d5e29a82a8d", func := "tilefarm/tilefarmlaw24.InjectorNil", spec := "injectorNil", unfollowed := true, recurses := true, apart := false, narrowed := true }
def InjectorNilUptoSaid : Prop := injectorNilUptoRow.holds Try.pinned (OpenSpec.upto injectorNilSpec)

end Rows
end Go.Proofs.Ytfneiocgjoalkaa
