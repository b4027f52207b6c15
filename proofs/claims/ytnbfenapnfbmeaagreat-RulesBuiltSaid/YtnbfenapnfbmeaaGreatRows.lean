/-
  No cell of these rows narrows 'for every input' (looked for: loops, veiled, ifaces, maps, wideKeys, modest, calm, conditions, laid).
  DERIVED. THE GIVEN ROWS OF THIS SEAT. 4 by the template 'for every input the law returns true; each argument reads behind the call as it read before'; 0 by the template 'total and deterministic' (their statements: YtnbfenapnfbmeaaGreatTotals.lean).
  GIVEN WITH THE SEED: the statements are not yours to turn. If you find one false, say at which input.
  Laid BY PROGRAM, IN A SANDBOX (cutbox-rows.mjs): the forced cells as the released guide's own fill.sh prints them over the translation 26855a543f25c32b… (all of the seat's roots in one cut). By AI agents, Wed Nov 11 2026. No macro, syntax, notation, axiom, sorry.
-/
import Derived.Test.YtnbfenapnfbmeaaGreatChecked
import GoSem.Claim
import GoSem.ClaimJoined
import GoSem.ClaimMapViews
import Derived.JoinedTies
import Derived.KernelRfl
namespace Go.Proofs.YtnbfenapnfbmeaaGreat
/- THE CELL 'sum', in the pinned program and in every row, IS THE sha256 OF THE DUMP (.gsa) THAT YtnbfenapnfbmeaaGreatProg.lean LOADS. Nothing in Lean hashes anything: it is a label: what it is worth is what the hold of that sum in a sandbox is worth. -/
noncomputable def Tryz.pinned : Pinned := { name := "ytnbfenapnfbmeaagreat", sum := "26855a543f25c32b264d280a91d809e988a0cb627db911db9ca8da0cfbe96977", checked := Tryz.checked }
namespace Rows
def none {H : Type} : Left H := { results := [], args := [] }

/-- 'kauditlaw14.RulesBuilt': WHATEVER THE INPUT: true; the input reads as it did. -/
def rulesBuiltSpec : ChangeSpec := { name := "rulesBuilt", fn := fun _ => fun
  | [d1, d2] => { results := [.lit (.bool true)], args := [d1, d2] }
  | _ => none }
def rulesBuiltRow : OpenClaim := { program := "ytnbfenapnfbmeaagreat", sum := "26855a543f25c32b264d280a91d809e988a0cb627db911db9ca8da0cfbe96977", func := "kaudit/kauditlaw14.RulesBuilt", spec := "rulesBuilt", inPlace := ["internal/bytealg.IndexByteString", "internal/bytealg.IndexString", "slices.overlaps[kaudit/api.Rule]"], unfollowed := true, recurses := true, named := ["internal/bytealg.MaxLen"], apart := false }
def RulesBuiltSaid : Prop := rulesBuiltRow.holds Tryz.pinned (OpenSpec.ofChange rulesBuiltSpec)

/-- ITS FALSE NEIGHBOUR: 'it returns false'. Refute it at one input. -/
def rulesBuiltWrong : ChangeSpec := { name := "rulesBuilt", fn := fun _ => fun
  | [d1, d2] => { results := [.lit (.bool false)], args := [d1, d2] }
  | _ => none }
def RulesBuiltWrongFalsely : Prop := rulesBuiltRow.holds Tryz.pinned (OpenSpec.ofChange rulesBuiltWrong)

/-- 'kauditlaw14.RulesChange': WHATEVER THE INPUT: true; the input reads as it did. -/
def rulesChangeSpec : ChangeSpec := { name := "rulesChange", fn := fun _ => fun
  | [d] => { results := [.lit (.bool true)], args := [d] }
  | _ => none }
def rulesChangeRow : OpenClaim := { program := "ytnbfenapnfbmeaagreat", sum := "26855a543f25c32b264d280a91d809e988a0cb627db911db9ca8da0cfbe96977", func := "kaudit/kauditlaw14.RulesChange", spec := "rulesChange", inPlace := ["internal/bytealg.IndexByteString", "internal/bytealg.IndexString", "slices.overlaps[kaudit/api.Rule]"], unfollowed := true, recurses := true, named := ["internal/bytealg.MaxLen"], apart := false }
def RulesChangeSaid : Prop := rulesChangeRow.holds Tryz.pinned (OpenSpec.ofChange rulesChangeSpec)

/-- ITS FALSE NEIGHBOUR: 'it returns false'. Refute it at one input. -/
def rulesChangeWrong : ChangeSpec := { name := "rulesChange", fn := fun _ => fun
  | [d] => { results := [.lit (.bool false)], args := [d] }
  | _ => none }
def RulesChangeWrongFalsely : Prop := rulesChangeRow.holds Tryz.pinned (OpenSpec.ofChange rulesChangeWrong)

/-- 'kauditlaw14.RulesLimits': WHATEVER THE INPUT: true; the input reads as it did. -/
def rulesLimitsSpec : ChangeSpec := { name := "rulesLimits", fn := fun _ => fun
  | [d1, d2] => { results := [.lit (.bool true)], args := [d1, d2] }
  | _ => none }
def rulesLimitsRow : OpenClaim := { program := "ytnbfenapnfbmeaagreat", sum := "26855a543f25c32b264d280a91d809e988a0cb627db911db9ca8da0cfbe96977", func := "kaudit/kauditlaw14.RulesLimits", spec := "rulesLimits", inPlace := ["internal/bytealg.IndexByteString", "internal/bytealg.IndexString", "slices.overlaps[kaudit/api.Rule]"], unfollowed := true, recurses := true, named := ["internal/bytealg.MaxLen"], apart := false }
def RulesLimitsSaid : Prop := rulesLimitsRow.holds Tryz.pinned (OpenSpec.ofChange rulesLimitsSpec)

/-- ITS FALSE NEIGHBOUR: 'it returns false'. Refute it at one input. -/
def rulesLimitsWrong : ChangeSpec := { name := "rulesLimits", fn := fun _ => fun
  | [d1, d2] => { results := [.lit (.bool false)], args := [d1, d2] }
  | _ => none }
def RulesLimitsWrongFalsely : Prop := rulesLimitsRow.holds Tryz.pinned (OpenSpec.ofChange rulesLimitsWrong)

/-- 'kauditlaw14.RulesBack': WHATEVER THE INPUT: true; the input reads as it did. -/
def rulesBackSpec : ChangeSpec := { name := "rulesBack", fn := fun _ => fun
  | [d] => { results := [.lit (.bool true)], args := [d] }
  | _ => none }
def rulesBackRow : OpenClaim := { program := "ytnbfenapnfbmeaagreat", sum := "26855a543f25c32b264d280a91d809e988a0cb627db911db9ca8da0cfbe96977", func := "kaudit/kauditlaw14.RulesBack", spec := "rulesBack", inPlace := ["internal/bytealg.IndexByteString", "internal/bytealg.IndexString", "slices.overlaps[kaudit/api.Rule]"], unfollowed := true, recurses := true, named := ["internal/bytealg.MaxLen"], apart := false }
def RulesBackSaid : Prop := rulesBackRow.holds Tryz.pinned (OpenSpec.ofChange rulesBackSpec)

/-- ITS FALSE NEIGHBOUR: 'it returns false'. Refute it at one input. -/
def rulesBackWrong : ChangeSpec := { name := "rulesBack", fn := fun _ => fun
  | [d] => { results := [.lit (.bool false)], args := [d] }
  | _ => none }
def RulesBackWrongFalsely : Prop := rulesBackRow.holds Tryz.pinned (OpenSpec.ofChange rulesBackWrong)

/- THE SECOND FORM. 'bulk': how many values and letters a reading holds, each counted each time it is reached (what is shared counts as often as it is met; a slice's spare places count too). A statement '..UptoSaid' is the law's where the arguments, and the package variables that the reading takes, are together of bulk at most 1048576: NARROWER than '..Said'. Prove '..Said' where nothing that the law and all that it calls make is longer than what came in: it says more and counts as full. Else prove '..UptoSaid'. A law counts once. -/
mutual
def uptoBulk {H : Type} : DataW H → Nat
  | .lit (.string bytes) => bytes.length + 1
  | .lit _ => 1
  | .nil => 1
  | .ptr d => uptoBulk d + 1
  | .slice elems spare => uptoBulkAll elems + uptoBulkAll spare + 1
  | .agg parts => uptoBulkAll parts + 1
  | .iface _ d => uptoBulk d + 1
  | .map entries => uptoBulkEntries entries + 1
  | .held _ => 1
def uptoBulkAll {H : Type} : List (DataW H) → Nat
  | [] => 0
  | d :: r => uptoBulk d + uptoBulkAll r
def uptoBulkEntries {H : Type} : List (Lit × DataW H) → Nat
  | [] => 0
  | x :: r => uptoBulkEntry x + uptoBulkEntries r
def uptoBulkEntry {H : Type} : Lit × DataW H → Nat
  | (.string bytes, d) => bytes.length + uptoBulk d + 1
  | (_, d) => uptoBulk d + 1
 end
def uptoSmall : (H : Type) → List (DataW H) → Bool := fun _ ds => decide (uptoBulkAll ds ≤ 1048576)
def OpenSpec.upto (s : _root_.Go.ChangeSpec) : _root_.Go.OpenSpec := { _root_.Go.OpenSpec.ofChange s with cond := some uptoSmall }

/-- 'kauditlaw14.RulesBuilt', WHERE WHAT IT READS IS OF BULK AT MOST 1048576: true; the input reads as it did. -/
def rulesBuiltUptoRow : OpenClaim := { program := "ytnbfenapnfbmeaagreat", sum := "26855a543f25c32b264d280a91d809e988a0cb627db911db9ca8da0cfbe96977", func := "kaudit/kauditlaw14.RulesBuilt", spec := "rulesBuilt", inPlace := ["internal/bytealg.IndexByteString", "internal/bytealg.IndexString", "slices.overlaps[kaudit/api.Rule]"], unfollowed := true, recurses := true, named := ["internal/bytealg.MaxLen"], apart := false, narrowed := true }
def RulesBuiltUptoSaid : Prop := rulesBuiltUptoRow.holds Tryz.pinned (OpenSpec.upto rulesBuiltSpec)

/-- 'kauditlaw14.RulesChange', WHERE WHAT IT READS IS OF BULK AT MOST 1048576: true; the input reads as it did. -/
def rulesChangeUptoRow : OpenClaim := { program := "ytnbfenapnfbmeaagreat", sum := "26855a543f25c32b264d280a91d809e988a0cb627db911db9ca8da0cfbe96977", func := "kaudit/kauditlaw14.RulesChange", spec := "rulesChange", inPlace := ["internal/bytealg.IndexByteString", "internal/bytealg.IndexString", "slices.overlaps[kaudit/api.Rule]"], unfollowed := true, recurses := true, named := ["internal/bytealg.MaxLen"], apart := false, narrowed := true }
def RulesChangeUptoSaid : Prop := rulesChangeUptoRow.holds Tryz.pinned (OpenSpec.upto rulesChangeSpec)

/-- 'kauditlaw14.RulesLimits', WHERE WHAT IT READS IS OF BULK AT MOST 1048576: true; the input reads as it did. -/
def rulesLimitsUptoRow : OpenClaim := { program := "ytnbfenapnfbmeaagreat", sum := "26855a543f25c32b264d280a91d809e988a0cb627db911db9ca8da0cfbe96977", func := "kaudit/kauditlaw14.RulesLimits", spec := "rulesLimits", inPlace := ["internal/bytealg.IndexByteString", "internal/bytealg.IndexString", "slices.overlaps[kaudit/api.Rule]"], unfollowed := true, recurses := true, named := ["internal/bytealg.MaxLen"], apart := false, narrowed := true }
def RulesLimitsUptoSaid : Prop := rulesLimitsUptoRow.holds Tryz.pinned (OpenSpec.upto rulesLimitsSpec)

/-- 'kauditlaw14.RulesBack', WHERE WHAT IT READS IS OF BULK AT MOST 1048576: true; the input reads as it did. -/
def rulesBackUptoRow : OpenClaim := { program := "ytnbfenapnfbmeaagreat", sum := "26855a543f25c32b264d280a91d809e988a0cb627db911db9ca8da0cfbe96977", func := "kaudit/kauditlaw14.RulesBack", spec := "rulesBack", inPlace := ["internal/bytealg.IndexByteString", "internal/bytealg.IndexString", "slices.overlaps[kaudit/api.Rule]"], unfollowed := true, recurses := true, named := ["internal/bytealg.MaxLen"], apart := false, narrowed := true }
def RulesBackUptoSaid : Prop := rulesBackUptoRow.holds Tryz.pinned (OpenSpec.upto rulesBackSpec)

end Rows
end Go.Proofs.YtnbfenapnfbmeaaGreat
