/-
  No cell of these rows narrows 'for every input' (looked for: loops, veiled, ifaces, maps, wideKeys, modest, calm, conditions, laid).
  DERIVED. THE GIVEN ROWS OF THIS SEAT. 12 by the template 'for every input the law returns true; each argument reads behind the call as it read before'; 0 by the template 'total and deterministic' (their statements: YtjhmcmadleabjaaTotals.lean).
  GIVEN WITH THE SEED: the statements are not yours to turn. If you find one false, say at which input.
  Laid BY PROGRAM, IN A SANDBOX (cutbox-rows.mjs): the forced cells as the released guide's own fill.sh prints them over the translation b68160a7d676a7a7… (all of the seat's roots in one cut). By AI agents, Wed Nov 11 2026. No macro, syntax, notation, axiom, sorry.
-/
import Derived.Test.YtjhmcmadleabjaaChecked
import GoSem.Claim
import GoSem.ClaimJoined
import GoSem.ClaimMapViews
import Derived.JoinedTies
import Derived.KernelRfl
namespace Go.Proofs.Ytjhmcmadleabjaa
/- THE CELL 'sum', in the pinned program and in every row, IS THE sha256 OF THE DUMP (.gsa) THAT YtjhmcmadleabjaaProg.lean LOADS. Nothing in Lean hashes anything: it is a label: what it is worth is what the hold of that sum in a sandbox is worth. -/
noncomputable def Try.pinned : Pinned := { name := "ytjhmcmadleabjaa", sum := "b68160a7d676a7a746961ebeb4e75fe8cc1346a8b508cff98f647079dd392ccb", checked := Try.checked }
namespace Rows
def none {H : Type} : Left H := { results := [], args := [] }

/-- 'hallmarklaw05.KeysVerifies': WHATEVER THE INPUT: true; the input reads as it did. -/
def keysVerifiesSpec : ChangeSpec := { name := "keysVerifies", fn := fun _ => fun
  | [d1, d2, d3] => { results := [.lit (.bool true)], args := [d1, d2, d3] }
  | _ => none }
def keysVerifiesRow : OpenClaim := { program := "ytjhmcmadleabjaa", sum := "b68160a7d676a7a746961ebeb4e75fe8cc1346a8b508cff98f647079dd392ccb", func := "hallmark/hallmarklaw05.KeysVerifies", spec := "keysVerifies", recurses := true, plainKeys := false, apart := false }
def KeysVerifiesSaid : Prop := keysVerifiesRow.holds Try.pinned (OpenSpec.ofChange keysVerifiesSpec)

/-- ITS FALSE NEIGHBOUR: 'it returns false'. Refute it at one input. -/
def keysVerifiesWrong : ChangeSpec := { name := "keysVerifies", fn := fun _ => fun
  | [d1, d2, d3] => { results := [.lit (.bool false)], args := [d1, d2, d3] }
  | _ => none }
def KeysVerifiesWrongFalsely : Prop := keysVerifiesRow.holds Try.pinned (OpenSpec.ofChange keysVerifiesWrong)

/-- 'hallmarklaw05.KeysIds': WHATEVER THE INPUT: true; the input reads as it did. -/
def keysIdsSpec : ChangeSpec := { name := "keysIds", fn := fun _ => fun
  | [d] => { results := [.lit (.bool true)], args := [d] }
  | _ => none }
def keysIdsRow : OpenClaim := { program := "ytjhmcmadleabjaa", sum := "b68160a7d676a7a746961ebeb4e75fe8cc1346a8b508cff98f647079dd392ccb", func := "hallmark/hallmarklaw05.KeysIds", spec := "keysIds", recurses := true, plainKeys := false, apart := false }
def KeysIdsSaid : Prop := keysIdsRow.holds Try.pinned (OpenSpec.ofChange keysIdsSpec)

/-- ITS FALSE NEIGHBOUR: 'it returns false'. Refute it at one input. -/
def keysIdsWrong : ChangeSpec := { name := "keysIds", fn := fun _ => fun
  | [d] => { results := [.lit (.bool false)], args := [d] }
  | _ => none }
def KeysIdsWrongFalsely : Prop := keysIdsRow.holds Try.pinned (OpenSpec.ofChange keysIdsWrong)

/-- 'hallmarklaw05.KeysSigns': WHATEVER THE INPUT: true; the input reads as it did. -/
def keysSignsSpec : ChangeSpec := { name := "keysSigns", fn := fun _ => fun
  | [d1, d2, d3] => { results := [.lit (.bool true)], args := [d1, d2, d3] }
  | _ => none }
def keysSignsRow : OpenClaim := { program := "ytjhmcmadleabjaa", sum := "b68160a7d676a7a746961ebeb4e75fe8cc1346a8b508cff98f647079dd392ccb", func := "hallmark/hallmarklaw05.KeysSigns", spec := "keysSigns", recurses := true, plainKeys := false, apart := false }
def KeysSignsSaid : Prop := keysSignsRow.holds Try.pinned (OpenSpec.ofChange keysSignsSpec)

/-- ITS FALSE NEIGHBOUR: 'it returns false'. Refute it at one input. -/
def keysSignsWrong : ChangeSpec := { name := "keysSigns", fn := fun _ => fun
  | [d1, d2, d3] => { results := [.lit (.bool false)], args := [d1, d2, d3] }
  | _ => none }
def KeysSignsWrongFalsely : Prop := keysSignsRow.holds Try.pinned (OpenSpec.ofChange keysSignsWrong)

/-- 'hallmarklaw05.KeysApart': WHATEVER THE INPUT: true; the input reads as it did. -/
def keysApartSpec : ChangeSpec := { name := "keysApart", fn := fun _ => fun
  | [d1, d2, d3] => { results := [.lit (.bool true)], args := [d1, d2, d3] }
  | _ => none }
def keysApartRow : OpenClaim := { program := "ytjhmcmadleabjaa", sum := "b68160a7d676a7a746961ebeb4e75fe8cc1346a8b508cff98f647079dd392ccb", func := "hallmark/hallmarklaw05.KeysApart", spec := "keysApart", recurses := true, plainKeys := false, apart := false }
def KeysApartSaid : Prop := keysApartRow.holds Try.pinned (OpenSpec.ofChange keysApartSpec)

/-- ITS FALSE NEIGHBOUR: 'it returns false'. Refute it at one input. -/
def keysApartWrong : ChangeSpec := { name := "keysApart", fn := fun _ => fun
  | [d1, d2, d3] => { results := [.lit (.bool false)], args := [d1, d2, d3] }
  | _ => none }
def KeysApartWrongFalsely : Prop := keysApartRow.holds Try.pinned (OpenSpec.ofChange keysApartWrong)

/-- 'hallmarklaw05.KeysNil': WHATEVER THE INPUT: true; the input reads as it did. -/
def keysNilSpec : ChangeSpec := { name := "keysNil", fn := fun _ => fun
  | [d1, d2] => { results := [.lit (.bool true)], args := [d1, d2] }
  | _ => none }
def keysNilRow : OpenClaim := { program := "ytjhmcmadleabjaa", sum := "b68160a7d676a7a746961ebeb4e75fe8cc1346a8b508cff98f647079dd392ccb", func := "hallmark/hallmarklaw05.KeysNil", spec := "keysNil", recurses := true, plainKeys := false, apart := false }
def KeysNilSaid : Prop := keysNilRow.holds Try.pinned (OpenSpec.ofChange keysNilSpec)

/-- ITS FALSE NEIGHBOUR: 'it returns false'. Refute it at one input. -/
def keysNilWrong : ChangeSpec := { name := "keysNil", fn := fun _ => fun
  | [d1, d2] => { results := [.lit (.bool false)], args := [d1, d2] }
  | _ => none }
def KeysNilWrongFalsely : Prop := keysNilRow.holds Try.pinned (OpenSpec.ofChange keysNilWrong)

/-- 'hallmarklaw16.RoleRights': WHATEVER THE INPUT: true; the input reads as it did. -/
def roleRightsSpec : ChangeSpec := { name := "roleRights", fn := fun _ => fun
  | [d] => { results := [.lit (.bool true)], args := [d] }
  | _ => none }
def roleRightsRow : OpenClaim := { program := "ytjhmcmadleabjaa", sum := "b68160a7d676a7a746961ebeb4e75fe8cc1346a8b508cff98f647079dd392ccb", func := "hallmark/hallmarklaw16.RoleRights", spec := "roleRights", recurses := true, plainKeys := false, apart := false }
def RoleRightsSaid : Prop := roleRightsRow.holds Try.pinned (OpenSpec.ofChange roleRightsSpec)

/-- ITS FALSE NEIGHBOUR: 'it returns false'. Refute it at one input. -/
def roleRightsWrong : ChangeSpec := { name := "roleRights", fn := fun _ => fun
  | [d] => { results := [.lit (.bool false)], args := [d] }
  | _ => none }
def RoleRightsWrongFalsely : Prop := roleRightsRow.holds Try.pinned (OpenSpec.ofChange roleRightsWrong)

/-- 'hallmarklaw16.RoleCounts': WHATEVER THE INPUT: true; the input reads as it did. -/
def roleCountsSpec : ChangeSpec := { name := "roleCounts", fn := fun _ => fun
  | [d1, d2, d3] => { results := [.lit (.bool true)], args := [d1, d2, d3] }
  | _ => none }
def roleCountsRow : OpenClaim := { program := "ytjhmcmadleabjaa", sum := "b68160a7d676a7a746961ebeb4e75fe8cc1346a8b508cff98f647079dd392ccb", func := "hallmark/hallmarklaw16.RoleCounts", spec := "roleCounts", recurses := true, plainKeys := false, apart := false }
def RoleCountsSaid : Prop := roleCountsRow.holds Try.pinned (OpenSpec.ofChange roleCountsSpec)

/-- ITS FALSE NEIGHBOUR: 'it returns false'. Refute it at one input. -/
def roleCountsWrong : ChangeSpec := { name := "roleCounts", fn := fun _ => fun
  | [d1, d2, d3] => { results := [.lit (.bool false)], args := [d1, d2, d3] }
  | _ => none }
def RoleCountsWrongFalsely : Prop := roleCountsRow.holds Try.pinned (OpenSpec.ofChange roleCountsWrong)

/-- 'hallmarklaw16.RoleOrders': WHATEVER THE INPUT: true; the input reads as it did. -/
def roleOrdersSpec : ChangeSpec := { name := "roleOrders", fn := fun _ => fun
  | [d1, d2, d3, d4] => { results := [.lit (.bool true)], args := [d1, d2, d3, d4] }
  | _ => none }
def roleOrdersRow : OpenClaim := { program := "ytjhmcmadleabjaa", sum := "b68160a7d676a7a746961ebeb4e75fe8cc1346a8b508cff98f647079dd392ccb", func := "hallmark/hallmarklaw16.RoleOrders", spec := "roleOrders", recurses := true, plainKeys := false, apart := false }
def RoleOrdersSaid : Prop := roleOrdersRow.holds Try.pinned (OpenSpec.ofChange roleOrdersSpec)

/-- ITS FALSE NEIGHBOUR: 'it returns false'. Refute it at one input. -/
def roleOrdersWrong : ChangeSpec := { name := "roleOrders", fn := fun _ => fun
  | [d1, d2, d3, d4] => { results := [.lit (.bool false)], args := [d1, d2, d3, d4] }
  | _ => none }
def RoleOrdersWrongFalsely : Prop := roleOrdersRow.holds Try.pinned (OpenSpec.ofChange roleOrdersWrong)

/-- 'hallmarklaw16.RoleRoots': WHATEVER THE INPUT: true; the input reads as it did. -/
def roleRootsSpec : ChangeSpec := { name := "roleRoots", fn := fun _ => fun
  | [d1, d2] => { results := [.lit (.bool true)], args := [d1, d2] }
  | _ => none }
def roleRootsRow : OpenClaim := { program := "ytjhmcmadleabjaa", sum := "b68160a7d676a7a746961ebeb4e75fe8cc1346a8b508cff98f647079dd392ccb", func := "hallmark/hallmarklaw16.RoleRoots", spec := "roleRoots", recurses := true, plainKeys := false, apart := false }
def RoleRootsSaid : Prop := roleRootsRow.holds Try.pinned (OpenSpec.ofChange roleRootsSpec)

/-- ITS FALSE NEIGHBOUR: 'it returns false'. Refute it at one input. -/
def roleRootsWrong : ChangeSpec := { name := "roleRoots", fn := fun _ => fun
  | [d1, d2] => { results := [.lit (.bool false)], args := [d1, d2] }
  | _ => none }
def RoleRootsWrongFalsely : Prop := roleRootsRow.holds Try.pinned (OpenSpec.ofChange roleRootsWrong)

/-- 'hallmarklaw17.TrustChains': WHATEVER THE INPUT: true; the input reads as it did. -/
def trustChainsSpec : ChangeSpec := { name := "trustChains", fn := fun _ => fun
  | [d] => { results := [.lit (.bool true)], args := [d] }
  | _ => none }
def trustChainsRow : OpenClaim := { program := "ytjhmcmadleabjaa", sum := "b68160a7d676a7a746961ebeb4e75fe8cc1346a8b508cff98f647079dd392ccb", func := "hallmark/hallmarklaw17.TrustChains", spec := "trustChains", unfollowed := true, recurses := true, plainKeys := false, apart := false }
def TrustChainsSaid : Prop := trustChainsRow.holds Try.pinned (OpenSpec.ofChange trustChainsSpec)

/-- ITS FALSE NEIGHBOUR: 'it returns false'. Refute it at one input. -/
def trustChainsWrong : ChangeSpec := { name := "trustChains", fn := fun _ => fun
  | [d] => { results := [.lit (.bool false)], args := [d] }
  | _ => none }
def TrustChainsWrongFalsely : Prop := trustChainsRow.holds Try.pinned (OpenSpec.ofChange trustChainsWrong)

/-- 'hallmarklaw17.TrustPlays': WHATEVER THE INPUT: true; the input reads as it did. -/
def trustPlaysSpec : ChangeSpec := { name := "trustPlays", fn := fun _ => fun
  | [d1, d2] => { results := [.lit (.bool true)], args := [d1, d2] }
  | _ => none }
def trustPlaysRow : OpenClaim := { program := "ytjhmcmadleabjaa", sum := "b68160a7d676a7a746961ebeb4e75fe8cc1346a8b508cff98f647079dd392ccb", func := "hallmark/hallmarklaw17.TrustPlays", spec := "trustPlays", unfollowed := true, recurses := true, plainKeys := false, apart := false }
def TrustPlaysSaid : Prop := trustPlaysRow.holds Try.pinned (OpenSpec.ofChange trustPlaysSpec)

/-- ITS FALSE NEIGHBOUR: 'it returns false'. Refute it at one input. -/
def trustPlaysWrong : ChangeSpec := { name := "trustPlays", fn := fun _ => fun
  | [d1, d2] => { results := [.lit (.bool false)], args := [d1, d2] }
  | _ => none }
def TrustPlaysWrongFalsely : Prop := trustPlaysRow.holds Try.pinned (OpenSpec.ofChange trustPlaysWrong)

/-- 'hallmarklaw17.TrustNil': WHATEVER THE INPUT: true; the input reads as it did. -/
def trustNilSpec : ChangeSpec := { name := "trustNil", fn := fun _ => fun
  | [d1, d2] => { results := [.lit (.bool true)], args := [d1, d2] }
  | _ => none }
def trustNilRow : OpenClaim := { program := "ytjhmcmadleabjaa", sum := "b68160a7d676a7a746961ebeb4e75fe8cc1346a8b508cff98f647079dd392ccb", func := "hallmark/hallmarklaw17.TrustNil", spec := "trustNil", unfollowed := true, recurses := true, plainKeys := false, apart := false }
def TrustNilSaid : Prop := trustNilRow.holds Try.pinned (OpenSpec.ofChange trustNilSpec)

/-- ITS FALSE NEIGHBOUR: 'it returns false'. Refute it at one input. -/
def trustNilWrong : ChangeSpec := { name := "trustNil", fn := fun _ => fun
  | [d1, d2] => { results := [.lit (.bool false)], args := [d1, d2] }
  | _ => none }
def TrustNilWrongFalsely : Prop := trustNilRow.holds Try.pinned (OpenSpec.ofChange trustNilWrong)

/- THE SECOND FORM. 'bulk': how many values and letters a reading holds, each counted each time it is reached (what is shared counts as often as it is met; a slice's spare places count too). A statement '..UptoSaid' is the law's where the arguments, and the package variables that the reading takes, are together of bulk at most 1048576: NARROWER than '..Said'. Prove '..Said' where nothing that the law and all that it calls make is longer than what came in: it says more and counts as full. Else prove '..UptoSaid'. A law counts once. -/
mutual
def uptoBulk {H : Type} : DataW H → Nat
  | .lit (.string bytes) => bytes.length + 1
  | .lit _ => 1
  | .nil => 1
  | .ptr d => uptoBulk d + 1
  | .slice elems spare => uptoBulkAll elems + uptoBulkAll spare + 1
  | .agg parts => uptoBulkAll parts + 1
  | .iface _ d => uptoBulk d + 1
  | .map entries => uptoBulkEntries entries + 1
  | .held _ => 1
def uptoBulkAll {H : Type} : List (DataW H) → Nat
  | [] => 0
  | d :: r => uptoBulk d + uptoBulkAll r
def uptoBulkEntries {H : Type} : List (Lit × DataW H) → Nat
  | [] => 0
  | x :: r => uptoBulkEntry x + uptoBulkEntries r
def uptoBulkEntry {H : Type} : Lit × DataW H → Nat
  | (.string bytes, d) => bytes.length + uptoBulk d + 1
  | (_, d) => uptoBulk d + 1
 end
def uptoSmall : (H : Type) → List (DataW H) → Bool := fun _ ds => decide (uptoBulkAll ds ≤ 1048576)
def OpenSpec.upto (s : _root_.Go.ChangeSpec) : _root_.Go.OpenSpec := { _root_.Go.OpenSpec.ofChange s with cond := some uptoSmall }

/-- 'hallmarklaw05.KeysVerifies', WHERE WHAT IT READS IS OF BULK AT MOST 1048576: true; the input reads as it did. -/
def keysVerifiesUptoRow : OpenClaim := { program := "ytjhmcmadleabjaa", sum := "b68160a7d676a7a746961ebeb4e75fe8cc1346a8b508cff98f647079dd392ccb", func := "hallmark/hallmarklaw05.KeysVerifies", spec := "keysVerifies", recurses := true, plainKeys := false, apart := false, narrowed := true }
def KeysVerifiesUptoSaid : Prop := keysVerifiesUptoRow.holds Try.pinned (OpenSpec.upto keysVerifiesSpec)

/-- 'hallmarklaw05.KeysIds', WHERE WHAT IT READS IS OF BULK AT MOST 1048576: true; the input reads as it did. -/
def keysIdsUptoRow : OpenClaim := { program := "ytjhmcmadleabjaa", sum := "b68160a7d676a7a746961ebeb4e75fe8cc1346a8b508cff98f647079dd392ccb", func := "hallmark/hallmarklaw05.KeysIds", spec := "keysIds", recurses := true, plainKeys := false, apart := false, narrowed := true }
def KeysIdsUptoSaid : Prop := keysIdsUptoRow.holds Try.pinned (OpenSpec.upto keysIdsSpec)

/-- 'hallmarklaw05.KeysSigns', WHERE WHAT IT READS IS OF BULK AT MOST 1048576: true; the input reads as it did. -/
def keysSignsUptoRow : OpenClaim := { program := "ytjhmcmadleabjaa", sum := "b68160a7d676a7a746961ebeb4e75fe8cc1346a8b508cff98f647079dd392ccb", func := "hallmark/hallmarklaw05.KeysSigns", spec := "keysSigns", recurses := true, plainKeys := false, apart := false, narrowed := true }
def KeysSignsUptoSaid : Prop := keysSignsUptoRow.holds Try.pinned (OpenSpec.upto keysSignsSpec)

/-- 'hallmarklaw05.KeysApart', WHERE WHAT IT READS IS OF BULK AT MOST 1048576: true; the input reads as it did. -/
def keysApartUptoRow : OpenClaim := { program := "ytjhmcmadleabjaa", sum := "b68160a7d676a7a746961ebeb4e75fe8cc1346a8b508cff98f647079dd392ccb", func := "hallmark/hallmarklaw05.KeysApart", spec := "keysApart", recurses := true, plainKeys := false, apart := false, narrowed := true }
def KeysApartUptoSaid : Prop := keysApartUptoRow.holds Try.pinned (OpenSpec.upto keysApartSpec)

/-- 'hallmarklaw05.KeysNil', WHERE WHAT IT READS IS OF BULK AT MOST 1048576: true; the input reads as it did. -/
def keysNilUptoRow : OpenClaim := { program := "ytjhmcmadleabjaa", sum := "b68160a7d676a7a746961ebeb4e75fe8cc1346a8b508cff98f647079dd392ccb", func := "hallmark/hallmarklaw05.KeysNil", spec := "keysNil", recurses := true, plainKeys := false, apart := false, narrowed := true }
def KeysNilUptoSaid : Prop := keysNilUptoRow.holds Try.pinned (OpenSpec.upto keysNilSpec)

/-- 'hallmarklaw16.RoleRights', WHERE WHAT IT READS IS OF BULK AT MOST 1048576: true; the input reads as it did. -/
def roleRightsUptoRow : OpenClaim := { program := "ytjhmcmadleabjaa", sum := "b68160a7d676a7a746961ebeb4e75fe8cc1346a8b508cff98f647079dd392ccb", func := "hallmark/hallmarklaw16.RoleRights", spec := "roleRights", recurses := true, plainKeys := false, apart := false, narrowed := true }
def RoleRightsUptoSaid : Prop := roleRightsUptoRow.holds Try.pinned (OpenSpec.upto roleRightsSpec)

/-- 'hallmarklaw16.RoleCounts', WHERE WHAT IT READS IS OF BULK AT MOST 1048576: true; the input reads as it did. -/
def roleCountsUptoRow : OpenClaim := { program := "ytjhmcmadleabjaa", sum := "b68160a7d676a7a746961ebeb4e75fe8cc1346a8b508cff98f647079dd392ccb", func := "hallmark/hallmarklaw16.RoleCounts", spec := "roleCounts", recurses := true, plainKeys := false, apart := false, narrowed := true }
def RoleCountsUptoSaid : Prop := roleCountsUptoRow.holds Try.pinned (OpenSpec.upto roleCountsSpec)

/-- 'hallmarklaw16.RoleOrders', WHERE WHAT IT READS IS OF BULK AT MOST 1048576: true; the input reads as it did. -/
def roleOrdersUptoRow : OpenClaim := { program := "ytjhmcmadleabjaa", sum := "b68160a7d676a7a746961ebeb4e75fe8cc1346a8b508cff98f647079dd392ccb", func := "hallmark/hallmarklaw16.RoleOrders", spec := "roleOrders", recurses := true, plainKeys := false, apart := false, narrowed := true }
def RoleOrdersUptoSaid : Prop := roleOrdersUptoRow.holds Try.pinned (OpenSpec.upto roleOrdersSpec)

/-- 'hallmarklaw16.RoleRoots', WHERE WHAT IT READS IS OF BULK AT MOST 1048576: true; the input reads as it did. -/
def roleRootsUptoRow : OpenClaim := { program := "ytjhmcmadleabjaa", sum := "b68160a7d676a7a746961ebeb4e75fe8cc1346a8b508cff98f647079dd392ccb", func := "hallmark/hallmarklaw16.RoleRoots", spec := "roleRoots", recurses := true, plainKeys := false, apart := false, narrowed := true }
def RoleRootsUptoSaid : Prop := roleRootsUptoRow.holds Try.pinned (OpenSpec.upto roleRootsSpec)

/-- 'hallmarklaw17.TrustChains', WHERE WHAT IT READS IS OF BULK AT MOST 1048576: true; the input reads as it did. -/
def trustChainsUptoRow : OpenClaim := { program := "ytjhmcmadleabjaa", sum := "b68160a7d676a7a746961ebeb4e75fe8cc1346a8b508cff98f647079dd392ccb", func := "hallmark/hallmarklaw17.TrustChains", spec := "trustChains", unfollowed := true, recurses := true, plainKeys := false, apart := false, narrowed := true }
def TrustChainsUptoSaid : Prop := trustChainsUptoRow.holds Try.pinned (OpenSpec.upto trustChainsSpec)

/-- 'hallmarklaw17.TrustPlays', WHERE WHAT IT READS IS OF BULK AT MOST 1048576: true; the input reads as it did. -/
def trustPlaysUptoRow : OpenClaim := { program := "ytjhmcmadleabjaa", sum := "b68160a7d676a7a746961ebeb4e75fe8cc1346a8b508cff98f647079dd392ccb", func := "hallmark/hallmarklaw17.TrustPlays", spec := "trustPlays", unfollowed := true, recurses := true, plainKeys := false, apart := false, narrowed := true }
def TrustPlaysUptoSaid : Prop := trustPlaysUptoRow.holds Try.pinned (OpenSpec.upto trustPlaysSpec)

/-- 'hallmarklaw17.TrustNil', WHERE WHAT IT READS IS OF BULK AT MOST 1048576: true; the input reads as it did. -/
def trustNilUptoRow : OpenClaim := { program := "ytjhmcmadleabjaa", sum := "b68160a7d676a7a746961ebeb4e75fe8cc1346a8b508cff98f647079dd392ccb", func := "hallmark/hallmarklaw17.TrustNil", spec := "trustNil", unfollowed := true, recurses := true, plainKeys := false, apart := false, narrowed := true }
def TrustNilUptoSaid : Prop := trustNilUptoRow.holds Try.pinned (OpenSpec.upto trustNilSpec)

end Rows
end Go.Proofs.Ytjhmcmadleabjaa
