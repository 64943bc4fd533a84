/-
  No cell of these rows narrows 'for every input' (looked for: loops, veiled, ifaces, maps, wideKeys, modest, calm, conditions, laid).
  DERIVED. THE GIVEN ROWS OF THIS SEAT. 6 by the template 'for every input the law returns true; each argument reads behind the call as it read before'; 0 by the template 'total and deterministic' (their statements: YtkdkdhbkmhkjfaaTotals.lean).
  GIVEN WITH THE SEED: the statements are not yours to turn. If you find one false, say at which input.
  Laid BY PROGRAM, IN A SANDBOX (cutbox-rows.mjs): the forced cells as the released guide's own fill.sh prints them over the translation fafb8f1a500dca02… (all of the seat's roots in one cut). By AI agents, Wed Nov 11 2026. No macro, syntax, notation, axiom, sorry.
-/
import Derived.Test.YtkdkdhbkmhkjfaaChecked
import GoSem.Claim
import GoSem.ClaimJoined
import GoSem.ClaimMapViews
import Derived.JoinedTies
import Derived.KernelRfl
namespace Go.Proofs.Ytkdkdhbkmhkjfaa
/- THE CELL 'sum', in the pinned program and in every row, IS THE sha256 OF THE DUMP (.gsa) THAT YtkdkdhbkmhkjfaaProg.lean LOADS. Nothing in Lean hashes anything: it is a label: what it is worth is what the hold of that sum in a sandbox is worth. -/
noncomputable def Try.pinned : Pinned := { name := "ytkdkdhbkmhkjfaa", sum := "fafb8f1a500dca025103d7d91966dab1ba86c03c05004bfcb46479fdea2adfa6", checked := Try.checked }
namespace Rows
def none {H : Type} : Left H := { results := [], args := [] }

/-- 'waypointlaw52.ChannelOrder': WHATEVER THE INPUT: true; the input reads as it did. -/
def channelOrderSpec : ChangeSpec := { name := "channelOrder", fn := fun _ => fun
  | [d1, d2] => { results := [.lit (.bool true)], args := [d1, d2] }
  | _ => none }
def channelOrderRow : OpenClaim := { program := "ytkdkdhbkmhkjfaa", sum := "fafb8f1a500dca025103d7d91966dab1ba86c03c05004bfcb46479fdea2adfa6", func := "waypoint/waypointlaw52.ChannelOrder", spec := "channelOrder", unfollowed := true, recurses := true, apart := false }
def ChannelOrderSaid : Prop := channelOrderRow.holds Try.pinned (OpenSpec.ofChange channelOrderSpec)

/-- ITS FALSE NEIGHBOUR: 'it returns false'. Refute it at one input. -/
def channelOrderWrong : ChangeSpec := { name := "channelOrder", fn := fun _ => fun
  | [d1, d2] => { results := [.lit (.bool false)], args := [d1, d2] }
  | _ => none }
def ChannelOrderWrongFalsely : Prop := channelOrderRow.holds Try.pinned (OpenSpec.ofChange channelOrderWrong)

/-- 'waypointlaw52.ChannelFates': WHATEVER THE INPUT: true; the input reads as it did. -/
def channelFatesSpec : ChangeSpec := { name := "channelFates", fn := fun _ => fun
  | [d1, d2] => { results := [.lit (.bool true)], args := [d1, d2] }
  | _ => none }
def channelFatesRow : OpenClaim := { program := "ytkdkdhbkmhkjfaa", sum := "fafb8f1a500dca025103d7d91966dab1ba86c03c05004bfcb46479fdea2adfa6", func := "waypoint/waypointlaw52.ChannelFates", spec := "channelFates", unfollowed := true, recurses := true, apart := false }
def ChannelFatesSaid : Prop := channelFatesRow.holds Try.pinned (OpenSpec.ofChange channelFatesSpec)

/-- ITS FALSE NEIGHBOUR: 'it returns false'. Refute it at one input. -/
def channelFatesWrong : ChangeSpec := { name := "channelFates", fn := fun _ => fun
  | [d1, d2] => { results := [.lit (.bool false)], args := [d1, d2] }
  | _ => none }
def ChannelFatesWrongFalsely : Prop := channelFatesRow.holds Try.pinned (OpenSpec.ofChange channelFatesWrong)

/-- 'waypointlaw52.ChannelIdle': WHATEVER THE INPUT: true; the input reads as it did. -/
def channelIdleSpec : ChangeSpec := { name := "channelIdle", fn := fun _ => fun
  | [d1, d2] => { results := [.lit (.bool true)], args := [d1, d2] }
  | _ => none }
def channelIdleRow : OpenClaim := { program := "ytkdkdhbkmhkjfaa", sum := "fafb8f1a500dca025103d7d91966dab1ba86c03c05004bfcb46479fdea2adfa6", func := "waypoint/waypointlaw52.ChannelIdle", spec := "channelIdle", unfollowed := true, recurses := true, apart := false }
def ChannelIdleSaid : Prop := channelIdleRow.holds Try.pinned (OpenSpec.ofChange channelIdleSpec)

/-- ITS FALSE NEIGHBOUR: 'it returns false'. Refute it at one input. -/
def channelIdleWrong : ChangeSpec := { name := "channelIdle", fn := fun _ => fun
  | [d1, d2] => { results := [.lit (.bool false)], args := [d1, d2] }
  | _ => none }
def ChannelIdleWrongFalsely : Prop := channelIdleRow.holds Try.pinned (OpenSpec.ofChange channelIdleWrong)

/-- 'waypointlaw52.ChannelSend': WHATEVER THE INPUT: true; the input reads as it did. -/
def channelSendSpec : ChangeSpec := { name := "channelSend", fn := fun _ => fun
  | [d] => { results := [.lit (.bool true)], args := [d] }
  | _ => none }
def channelSendRow : OpenClaim := { program := "ytkdkdhbkmhkjfaa", sum := "fafb8f1a500dca025103d7d91966dab1ba86c03c05004bfcb46479fdea2adfa6", func := "waypoint/waypointlaw52.ChannelSend", spec := "channelSend", unfollowed := true, recurses := true, apart := false }
def ChannelSendSaid : Prop := channelSendRow.holds Try.pinned (OpenSpec.ofChange channelSendSpec)

/-- ITS FALSE NEIGHBOUR: 'it returns false'. Refute it at one input. -/
def channelSendWrong : ChangeSpec := { name := "channelSend", fn := fun _ => fun
  | [d] => { results := [.lit (.bool false)], args := [d] }
  | _ => none }
def ChannelSendWrongFalsely : Prop := channelSendRow.holds Try.pinned (OpenSpec.ofChange channelSendWrong)

/-- 'waypointlaw52.ChannelRoom': WHATEVER THE INPUT: true; the input reads as it did. -/
def channelRoomSpec : ChangeSpec := { name := "channelRoom", fn := fun _ => fun
  | [d1, d2] => { results := [.lit (.bool true)], args := [d1, d2] }
  | _ => none }
def channelRoomRow : OpenClaim := { program := "ytkdkdhbkmhkjfaa", sum := "fafb8f1a500dca025103d7d91966dab1ba86c03c05004bfcb46479fdea2adfa6", func := "waypoint/waypointlaw52.ChannelRoom", spec := "channelRoom", unfollowed := true, recurses := true, apart := false }
def ChannelRoomSaid : Prop := channelRoomRow.holds Try.pinned (OpenSpec.ofChange channelRoomSpec)

/-- ITS FALSE NEIGHBOUR: 'it returns false'. Refute it at one input. -/
def channelRoomWrong : ChangeSpec := { name := "channelRoom", fn := fun _ => fun
  | [d1, d2] => { results := [.lit (.bool false)], args := [d1, d2] }
  | _ => none }
def ChannelRoomWrongFalsely : Prop := channelRoomRow.holds Try.pinned (OpenSpec.ofChange channelRoomWrong)

/-- 'waypointlaw52.ChannelNil': WHATEVER THE INPUT: true; the input reads as it did. -/
def channelNilSpec : ChangeSpec := { name := "channelNil", fn := fun _ => fun
  | [d] => { results := [.lit (.bool true)], args := [d] }
  | _ => none }
def channelNilRow : OpenClaim := { program := "ytkdkdhbkmhkjfaa", sum := "fafb8f1a500dca025103d7d91966dab1ba86c03c05004bfcb46479fdea2adfa6", func := "waypoint/waypointlaw52.ChannelNil", spec := "channelNil", unfollowed := true, recurses := true, apart := false }
def ChannelNilSaid : Prop := channelNilRow.holds Try.pinned (OpenSpec.ofChange channelNilSpec)

/-- ITS FALSE NEIGHBOUR: 'it returns false'. Refute it at one input. -/
def channelNilWrong : ChangeSpec := { name := "channelNil", fn := fun _ => fun
  | [d] => { results := [.lit (.bool false)], args := [d] }
  | _ => none }
def ChannelNilWrongFalsely : Prop := channelNilRow.holds Try.pinned (OpenSpec.ofChange channelNilWrong)

/- THE SECOND FORM. 'bulk': how many values and letters a reading holds, each counted each time it is reached (what is shared counts as often as it is met; a slice's spare places count too). A statement '..UptoSaid' is the law's where the arguments, and the package variables that the reading takes, are together of bulk at most 1048576: NARROWER than '..Said'. Prove '..Said' where nothing that the law and all that it calls make is longer than what came in: it says more and counts as full. Else prove '..UptoSaid'. A law counts once. -/
mutual
def uptoBulk {H : Type} : DataW H → Nat
  | .lit (.string bytes) => bytes.length + 1
  | .lit _ => 1
  | .nil => 1
  | .ptr d => uptoBulk d + 1
  | .slice elems spare => uptoBulkAll elems + uptoBulkAll spare + 1
  | .agg parts => uptoBulkAll parts + 1
  | .iface _ d => uptoBulk d + 1
  | .map entries => uptoBulkEntries entries + 1
  | .held _ => 1
def uptoBulkAll {H : Type} : List (DataW H) → Nat
  | [] => 0
  | d :: r => uptoBulk d + uptoBulkAll r
def uptoBulkEntries {H : Type} : List (Lit × DataW H) → Nat
  | [] => 0
  | x :: r => uptoBulkEntry x + uptoBulkEntries r
def uptoBulkEntry {H : Type} : Lit × DataW H → Nat
  | (.string bytes, d) => bytes.length + uptoBulk d + 1
  | (_, d) => uptoBulk d + 1
 end
def uptoSmall : (H : Type) → List (DataW H) → Bool := fun _ ds => decide (uptoBulkAll ds ≤ 1048576)
def OpenSpec.upto (s : _root_.Go.ChangeSpec) : _root_.Go.OpenSpec := { _root_.Go.OpenSpec.ofChange s with cond := some uptoSmall }

/-- 'waypointlaw52.ChannelOrder', WHERE WHAT IT READS IS OF BULK AT MOST 1048576: true; the input reads as it did. -/
def channelOrderUptoRow : OpenClaim := { program := "ytkdkdhbkmhkjfaa", sum := "fafb8f1a500dca025103d7d91966dab1ba86c03c05004bfcb46479fdea2adfa6", func := "waypoint/waypointlaw52.ChannelOrder", spec := "channelOrder", unfollowed := true, recurses := true, apart := false, narrowed := true }
def ChannelOrderUptoSaid : Prop := channelOrderUptoRow.holds Try.pinned (OpenSpec.upto channelOrderSpec)

/-- 'waypointlaw52.ChannelFates', WHERE WHAT IT READS IS OF BULK AT MOST 1048576: true; the input reads as it did. -/
def channelFatesUptoRow : OpenClaim := { program := "ytkdkdhbkmhkjfaa", sum := "fafb8f1a500dca025103d7d91966dab1ba86c03c05004bfcb46479fdea2adfa6", func := "waypoint/waypointlaw52.ChannelFates", spec := "channelFates", unfollowed := true, recurses := true, apart := false, narrowed := true }
def ChannelFatesUptoSaid : Prop := channelFatesUptoRow.holds Try.pinned (OpenSpec.upto channelFatesSpec)

/-- 'waypointlaw52.ChannelIdle', WHERE WHAT IT READS IS OF BULK AT MOST 1048576: true; the input reads as it did. -/
def channelIdleUptoRow : OpenClaim := { program := "ytkdkdhbkmhkjfaa", sum := "fafb8f1a500dca025103d7d91966dab1ba86c03c05004bfcb46479fdea2adfa6", func := "waypoint/waypointlaw52.ChannelIdle", spec := "channelIdle", unfollowed := true, recurses := true, apart := false, narrowed := true }
def ChannelIdleUptoSaid : Prop := channelIdleUptoRow.holds Try.pinned (OpenSpec.upto channelIdleSpec)

/-- 'waypointlaw52.ChannelSend', WHERE WHAT IT READS IS OF BULK AT MOST 1048576: true; the input reads as it did. -/
def channelSendUptoRow : OpenClaim := { program := "ytkdkdhbkmhkjfaa", sum := "fafb8f1a500dca025103d7d91966dab1ba86c03c05004bfcb46479fdea2adfa6", func := "waypoint/waypointlaw52.ChannelSend", spec := "channelSend", unfollowed := true, recurses := true, apart := false, narrowed := true }
def ChannelSendUptoSaid : Prop := channelSendUptoRow.holds Try.pinned (OpenSpec.upto channelSendSpec)

/-- 'waypointlaw52.ChannelRoom', WHERE WHAT IT READS IS OF BULK AT MOST 1048576: true; the input reads as it did. -/
def channelRoomUptoRow : OpenClaim := { program := "ytkdkdhbkmhkjfaa", sum := "fafb8f1a500dca025103d7d91966dab1ba86c03c05004bfcb46479fdea2adfa6", func := "waypoint/waypointlaw52.ChannelRoom", spec := "channelRoom", unfollowed := true, recurses := true, apart := false, narrowed := true }
def ChannelRoomUptoSaid : Prop := channelRoomUptoRow.holds Try.pinned (OpenSpec.upto channelRoomSpec)

/-- 'waypointlaw52.ChannelNil', WHERE WHAT IT READS IS OF BULK AT MOST 1048576: true; the input reads as it did. -/
def channelNilUptoRow : OpenClaim := { program := "ytkdkdhbkmhkjfaa", sum := "fafb8f1a500dca025103d7d91966dab1ba86c03c05004bfcb46479fdea2adfa6", func := "waypoint/waypointlaw52.ChannelNil", spec := "channelNil", unfollowed := true, recurses := true, apart := false, narrowed := true }
def ChannelNilUptoSaid : Prop := channelNilUptoRow.holds Try.pinned (OpenSpec.upto channelNilSpec)

end Rows
end Go.Proofs.Ytkdkdhbkmhkjfaa
