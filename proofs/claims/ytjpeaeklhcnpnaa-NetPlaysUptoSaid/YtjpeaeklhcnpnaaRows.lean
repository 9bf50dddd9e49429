/-
  NARROWER THAN 'FOR EVERY INPUT', by the rows' own cells (each row's printed sentence says how): NetPlays: loops · NetSeen: loops · NetOnce: loops · NetTimers: loops.
  DERIVED. THE GIVEN ROWS OF THIS SEAT. 5 by the template 'for every input the law returns true; each argument reads behind the call as it read before'; 0 by the template 'total and deterministic' (their statements: YtjpeaeklhcnpnaaTotals.lean).
  GIVEN WITH THE SEED: the statements are not yours to turn. If you find one false, say at which input.
  Laid BY PROGRAM, IN A SANDBOX (cutbox-rows.mjs): the forced cells as the released guide's own fill.sh prints them over the translation 0e19a169def1af5f… (all of the seat's roots in one cut). By AI agents, Wed Nov 11 2026. No macro, syntax, notation, axiom, sorry.
-/
import Derived.Test.YtjpeaeklhcnpnaaChecked
import GoSem.Claim
import GoSem.ClaimJoined
import GoSem.ClaimMapViews
import Derived.JoinedTies
import Derived.KernelRfl
namespace Go.Proofs.Ytjpeaeklhcnpnaa
/- THE CELL 'sum', in the pinned program and in every row, IS THE sha256 OF THE DUMP (.gsa) THAT YtjpeaeklhcnpnaaProg.lean LOADS. Nothing in Lean hashes anything: it is a label: what it is worth is what the hold of that sum in a sandbox is worth. -/
noncomputable def Try.pinned : Pinned := { name := "ytjpeaeklhcnpnaa", sum := "0e19a169def1af5ff082b34bbdd7fad7ef7143e88d8549fcd19d0caffe984f3a", checked := Try.checked }
namespace Rows
def none {H : Type} : Left H := { results := [], args := [] }

/-- 'gristmilllaw18.NetPlays': WHATEVER THE INPUT: true; the input reads as it did. -/
def netPlaysSpec : ChangeSpec := { name := "netPlays", fn := fun _ => fun
  | [d] => { results := [.lit (.bool true)], args := [d] }
  | _ => none }
def netPlaysRow : OpenClaim := { program := "ytjpeaeklhcnpnaa", sum := "0e19a169def1af5ff082b34bbdd7fad7ef7143e88d8549fcd19d0caffe984f3a", func := "gristmill/gristmilllaw18.NetPlays", spec := "netPlays", inPlace := ["slices.overlaps[uint64]"], recurses := true, loops := true, apart := false }
def NetPlaysSaid : Prop := netPlaysRow.holds Try.pinned (OpenSpec.ofChange netPlaysSpec)

/-- ITS FALSE NEIGHBOUR: 'it returns false'. Refute it at one input. -/
def netPlaysWrong : ChangeSpec := { name := "netPlays", fn := fun _ => fun
  | [d] => { results := [.lit (.bool false)], args := [d] }
  | _ => none }
def NetPlaysWrongFalsely : Prop := netPlaysRow.holds Try.pinned (OpenSpec.ofChange netPlaysWrong)

/-- 'gristmilllaw18.NetSeen': WHATEVER THE INPUT: true; the input reads as it did. -/
def netSeenSpec : ChangeSpec := { name := "netSeen", fn := fun _ => fun
  | [d1, d2] => { results := [.lit (.bool true)], args := [d1, d2] }
  | _ => none }
def netSeenRow : OpenClaim := { program := "ytjpeaeklhcnpnaa", sum := "0e19a169def1af5ff082b34bbdd7fad7ef7143e88d8549fcd19d0caffe984f3a", func := "gristmill/gristmilllaw18.NetSeen", spec := "netSeen", inPlace := ["slices.overlaps[uint64]"], recurses := true, loops := true, apart := false }
def NetSeenSaid : Prop := netSeenRow.holds Try.pinned (OpenSpec.ofChange netSeenSpec)

/-- ITS FALSE NEIGHBOUR: 'it returns false'. Refute it at one input. -/
def netSeenWrong : ChangeSpec := { name := "netSeen", fn := fun _ => fun
  | [d1, d2] => { results := [.lit (.bool false)], args := [d1, d2] }
  | _ => none }
def NetSeenWrongFalsely : Prop := netSeenRow.holds Try.pinned (OpenSpec.ofChange netSeenWrong)

/-- 'gristmilllaw18.NetOnce': WHATEVER THE INPUT: true; the input reads as it did. -/
def netOnceSpec : ChangeSpec := { name := "netOnce", fn := fun _ => fun
  | [d] => { results := [.lit (.bool true)], args := [d] }
  | _ => none }
def netOnceRow : OpenClaim := { program := "ytjpeaeklhcnpnaa", sum := "0e19a169def1af5ff082b34bbdd7fad7ef7143e88d8549fcd19d0caffe984f3a", func := "gristmill/gristmilllaw18.NetOnce", spec := "netOnce", inPlace := ["slices.overlaps[uint64]"], recurses := true, loops := true, apart := false }
def NetOnceSaid : Prop := netOnceRow.holds Try.pinned (OpenSpec.ofChange netOnceSpec)

/-- ITS FALSE NEIGHBOUR: 'it returns false'. Refute it at one input. -/
def netOnceWrong : ChangeSpec := { name := "netOnce", fn := fun _ => fun
  | [d] => { results := [.lit (.bool false)], args := [d] }
  | _ => none }
def NetOnceWrongFalsely : Prop := netOnceRow.holds Try.pinned (OpenSpec.ofChange netOnceWrong)

/-- 'gristmilllaw18.NetOwn': WHATEVER THE INPUT: true; the input reads as it did. -/
def netOwnSpec : ChangeSpec := { name := "netOwn", fn := fun _ => fun
  | [d1, d2] => { results := [.lit (.bool true)], args := [d1, d2] }
  | _ => none }
def netOwnRow : OpenClaim := { program := "ytjpeaeklhcnpnaa", sum := "0e19a169def1af5ff082b34bbdd7fad7ef7143e88d8549fcd19d0caffe984f3a", func := "gristmill/gristmilllaw18.NetOwn", spec := "netOwn", inPlace := ["slices.overlaps[uint64]"], unfollowed := true, recurses := true, apart := false }
def NetOwnSaid : Prop := netOwnRow.holds Try.pinned (OpenSpec.ofChange netOwnSpec)

/-- ITS FALSE NEIGHBOUR: 'it returns false'. Refute it at one input. -/
def netOwnWrong : ChangeSpec := { name := "netOwn", fn := fun _ => fun
  | [d1, d2] => { results := [.lit (.bool false)], args := [d1, d2] }
  | _ => none }
def NetOwnWrongFalsely : Prop := netOwnRow.holds Try.pinned (OpenSpec.ofChange netOwnWrong)

/-- 'gristmilllaw18.NetTimers': WHATEVER THE INPUT: true; the input reads as it did. -/
def netTimersSpec : ChangeSpec := { name := "netTimers", fn := fun _ => fun
  | [d] => { results := [.lit (.bool true)], args := [d] }
  | _ => none }
def netTimersRow : OpenClaim := { program := "ytjpeaeklhcnpnaa", sum := "0e19a169def1af5ff082b34bbdd7fad7ef7143e88d8549fcd19d0caffe984f3a", func := "gristmill/gristmilllaw18.NetTimers", spec := "netTimers", inPlace := ["slices.overlaps[uint64]"], unfollowed := true, recurses := true, loops := true, apart := false }
def NetTimersSaid : Prop := netTimersRow.holds Try.pinned (OpenSpec.ofChange netTimersSpec)

/-- ITS FALSE NEIGHBOUR: 'it returns false'. Refute it at one input. -/
def netTimersWrong : ChangeSpec := { name := "netTimers", fn := fun _ => fun
  | [d] => { results := [.lit (.bool false)], args := [d] }
  | _ => none }
def NetTimersWrongFalsely : Prop := netTimersRow.holds Try.pinned (OpenSpec.ofChange netTimersWrong)

/- THE SECOND FORM. 'bulk': how many values and letters a reading holds, each counted each time it is reached (what is shared counts as often as it is met; a slice's spare places count too). A statement '..UptoSaid' is the law's where the arguments, and the package variables that the reading takes, are together of bulk at most 1048576: NARROWER than '..Said'. Prove '..Said' where nothing that the law and all that it calls make is longer than what came in: it says more and counts as full. Else prove '..UptoSaid'. A law counts once. -/
mutual
def uptoBulk {H : Type} : DataW H → Nat
  | .lit (.string bytes) => bytes.length + 1
  | .lit _ => 1
  | .nil => 1
  | .ptr d => uptoBulk d + 1
  | .slice elems spare => uptoBulkAll elems + uptoBulkAll spare + 1
  | .agg parts => uptoBulkAll parts + 1
  | .iface _ d => uptoBulk d + 1
  | .map entries => uptoBulkEntries entries + 1
  | .held _ => 1
def uptoBulkAll {H : Type} : List (DataW H) → Nat
  | [] => 0
  | d :: r => uptoBulk d + uptoBulkAll r
def uptoBulkEntries {H : Type} : List (Lit × DataW H) → Nat
  | [] => 0
  | x :: r => uptoBulkEntry x + uptoBulkEntries r
def uptoBulkEntry {H : Type} : Lit × DataW H → Nat
  | (.string bytes, d) => bytes.length + uptoBulk d + 1
  | (_, d) => uptoBulk d + 1
 end
def uptoSmall : (H : Type) → List (DataW H) → Bool := fun _ ds => decide (uptoBulkAll ds ≤ 1048576)
def OpenSpec.upto (s : _root_.Go.ChangeSpec) : _root_.Go.OpenSpec := { _root_.Go.OpenSpec.ofChange s with cond := some uptoSmall }

/-- 'gristmilllaw18.NetPlays', WHERE WHAT IT READS IS OF BULK AT MOST 1048576: true; the input reads as it did. -/
def netPlaysUptoRow : OpenClaim := { program := "ytjpeaeklhcnpnaa", sum := "0e19a169def1af5ff082b34bbdd7fad7ef7143e88d8549fcd19d0caffe984f3a", func := "gristmill/gristmilllaw18.NetPlays", spec := "netPlays", inPlace := ["slices.overlaps[uint64]"], recurses := true, loops := true, apart := false, narrowed := true }
def NetPlaysUptoSaid : Prop := netPlaysUptoRow.holds Try.pinned (OpenSpec.upto netPlaysSpec)

/-- 'gristmilllaw18.NetSeen', WHERE WHAT IT READS IS OF BULK AT MOST 1048576: true; the input reads as it did. -/
def netSeenUptoRow : OpenClaim := { program := "ytjpeaeklhcnpnaa", sum := "0e19a169def1af5ff082b34bbdd7fad7ef7143e88d8549fcd19d0caffe984f3a", func := "gristmill/gristmilllaw18.NetSeen", spec := "netSeen", inPlace := ["slices.overlaps[uint64]"], recurses := true, loops := true, apart := false, narrowed := true }
def NetSeenUptoSaid : Prop := netSeenUptoRow.holds Try.pinned (OpenSpec.upto netSeenSpec)

/-- 'gristmilllaw18.NetOnce', WHERE WHAT IT READS IS OF BULK AT MOST 1048576: true; the input reads as it did. -/
def netOnceUptoRow : OpenClaim := { program := "ytjpeaeklhcnpnaa", sum := "0e19a169def1af5ff082b34bbdd7fad7ef7143e88d8549fcd19d0caffe984f3a", func := "gristmill/gristmilllaw18.NetOnce", spec := "netOnce", inPlace := ["slices.overlaps[uint64]"], recurses := true, loops := true, apart := false, narrowed := true }
def NetOnceUptoSaid : Prop := netOnceUptoRow.holds Try.pinned (OpenSpec.upto netOnceSpec)

/-- 'gristmilllaw18.NetOwn', WHERE WHAT IT READS IS OF BULK AT MOST 1048576: true; the input reads as it did. -/
def netOwnUptoRow : OpenClaim := { program := "ytjpeaeklhcnpnaa", sum := "0e19a169def1af5ff082b34bbdd7fad7ef7143e88d8549fcd19d0caffe984f3a", func := "gristmill/gristmilllaw18.NetOwn", spec := "netOwn", inPlace := ["slices.overlaps[uint64]"], unfollowed := true, recurses := true, apart := false, narrowed := true }
def NetOwnUptoSaid : Prop := netOwnUptoRow.holds Try.pinned (OpenSpec.upto netOwnSpec)

/-- 'gristmilllaw18.NetTimers', WHERE WHAT IT READS IS OF BULK AT MOST 1048576: true; the input reads as it did. -/
def netTimersUptoRow : OpenClaim := { program := "ytjpeaeklhcnpnaa", sum := "0e19a169def1af5ff082b34bbdd7fad7ef7143e88d8549fcd19d0caffe984f3a", func := "gristmill/gristmilllaw18.NetTimers", spec := "netTimers", inPlace := ["slices.overlaps[uint64]"], unfollowed := true, recurses := true, loops := true, apart := false, narrowed := true }
def NetTimersUptoSaid : Prop := netTimersUptoRow.holds Try.pinned (OpenSpec.upto netTimersSpec)

end Rows
end Go.Proofs.Ytjpeaeklhcnpnaa
