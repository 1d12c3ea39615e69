/-
  No cell of these rows narrows 'for every input' (looked for: loops, veiled, ifaces, maps, wideKeys, modest, calm, conditions, laid).
  DERIVED. THE GIVEN ROWS OF THIS SEAT. 12 by the template 'for every input the law returns true; each argument reads behind the call as it read before'; 0 by the template 'total and deterministic' (their statements: YtebdjhgboeadgaaTotals.lean).
  GIVEN WITH THE SEED: the statements are not yours to turn. If you find one false, say at which input.
  Laid BY PROGRAM, IN A SANDBOX (cutbox-rows.mjs): the forced cells as the released guide's own fill.sh prints them over the translation a7da4a9b349f1925… (all of the seat's roots in one cut). By AI agents, Wed Nov 11 2026. No macro, syntax, notation, axiom, sorry.
-/
import Derived.Test.YtebdjhgboeadgaaChecked
import GoSem.Claim
import GoSem.ClaimJoined
import GoSem.ClaimMapViews
import Derived.JoinedTies
import Derived.KernelRfl
namespace Go.Proofs.Ytebdjhgboeadgaa
/- THE CELL 'sum', in the pinned program and in every row, IS THE sha256 OF THE DUMP (.gsa) THAT YtebdjhgboeadgaaProg.lean LOADS. Nothing in Lean hashes anything: it is a label: what it is worth is what the hold of that sum in a sandbox is worth. -/
noncomputable def Try.pinned : Pinned := { name := "ytebdjhgboeadgaa", sum := "a7da4a9b349f1925cfaaf52e686fb394014304649496a19dcb79986ab486b122", checked := Try.checked }
namespace Rows
def none {H : Type} : Left H := { results := [], args := [] }

/-- 'clevislaw04.BoxOrder': WHATEVER THE INPUT: true; the input reads as it did. -/
def boxOrderSpec : ChangeSpec := { name := "boxOrder", fn := fun _ => fun
  | [d1, d2] => { results := [.lit (.bool true)], args := [d1, d2] }
  | _ => none }
def boxOrderRow : OpenClaim := { program := "ytebdjhgboeadgaa", sum := "a7da4a9b349f1925cfaaf52e686fb394014304649496a19dcb79986ab486b122", func := "clevis/clevislaw04.BoxOrder", spec := "boxOrder", apart := false }
def BoxOrderSaid : Prop := boxOrderRow.holds Try.pinned (OpenSpec.ofChange boxOrderSpec)

/-- ITS FALSE NEIGHBOUR: 'it returns false'. Refute it at one input. -/
def boxOrderWrong : ChangeSpec := { name := "boxOrder", fn := fun _ => fun
  | [d1, d2] => { results := [.lit (.bool false)], args := [d1, d2] }
  | _ => none }
def BoxOrderWrongFalsely : Prop := boxOrderRow.holds Try.pinned (OpenSpec.ofChange boxOrderWrong)

/-- 'clevislaw04.BoxRooms': WHATEVER THE INPUT: true; the input reads as it did. -/
def boxRoomsSpec : ChangeSpec := { name := "boxRooms", fn := fun _ => fun
  | [d] => { results := [.lit (.bool true)], args := [d] }
  | _ => none }
def boxRoomsRow : OpenClaim := { program := "ytebdjhgboeadgaa", sum := "a7da4a9b349f1925cfaaf52e686fb394014304649496a19dcb79986ab486b122", func := "clevis/clevislaw04.BoxRooms", spec := "boxRooms", apart := false }
def BoxRoomsSaid : Prop := boxRoomsRow.holds Try.pinned (OpenSpec.ofChange boxRoomsSpec)

/-- ITS FALSE NEIGHBOUR: 'it returns false'. Refute it at one input. -/
def boxRoomsWrong : ChangeSpec := { name := "boxRooms", fn := fun _ => fun
  | [d] => { results := [.lit (.bool false)], args := [d] }
  | _ => none }
def BoxRoomsWrongFalsely : Prop := boxRoomsRow.holds Try.pinned (OpenSpec.ofChange boxRoomsWrong)

/-- 'clevislaw02.IdentIsins': WHATEVER THE INPUT: true; the input reads as it did. -/
def identIsinsSpec : ChangeSpec := { name := "identIsins", fn := fun _ => fun
  | [d] => { results := [.lit (.bool true)], args := [d] }
  | _ => none }
def identIsinsRow : OpenClaim := { program := "ytebdjhgboeadgaa", sum := "a7da4a9b349f1925cfaaf52e686fb394014304649496a19dcb79986ab486b122", func := "clevis/clevislaw02.IdentIsins", spec := "identIsins", unfollowed := true, recurses := true, apart := false }
def IdentIsinsSaid : Prop := identIsinsRow.holds Try.pinned (OpenSpec.ofChange identIsinsSpec)

/-- ITS FALSE NEIGHBOUR: 'it returns false'. Refute it at one input. -/
def identIsinsWrong : ChangeSpec := { name := "identIsins", fn := fun _ => fun
  | [d] => { results := [.lit (.bool false)], args := [d] }
  | _ => none }
def IdentIsinsWrongFalsely : Prop := identIsinsRow.holds Try.pinned (OpenSpec.ofChange identIsinsWrong)

/-- 'clevislaw02.IdentTurned': WHATEVER THE INPUT: true; the input reads as it did. -/
def identTurnedSpec : ChangeSpec := { name := "identTurned", fn := fun _ => fun
  | [d1, d2, d3] => { results := [.lit (.bool true)], args := [d1, d2, d3] }
  | _ => none }
def identTurnedRow : OpenClaim := { program := "ytebdjhgboeadgaa", sum := "a7da4a9b349f1925cfaaf52e686fb394014304649496a19dcb79986ab486b122", func := "clevis/clevislaw02.IdentTurned", spec := "identTurned", unfollowed := true, recurses := true, apart := false }
def IdentTurnedSaid : Prop := identTurnedRow.holds Try.pinned (OpenSpec.ofChange identTurnedSpec)

/-- ITS FALSE NEIGHBOUR: 'it returns false'. Refute it at one input. -/
def identTurnedWrong : ChangeSpec := { name := "identTurned", fn := fun _ => fun
  | [d1, d2, d3] => { results := [.lit (.bool false)], args := [d1, d2, d3] }
  | _ => none }
def IdentTurnedWrongFalsely : Prop := identTurnedRow.holds Try.pinned (OpenSpec.ofChange identTurnedWrong)

/-- 'clevislaw04.BoxNil': WHATEVER THE INPUT: true; the input reads as it did. -/
def boxNilSpec : ChangeSpec := { name := "boxNil", fn := fun _ => fun
  | [d] => { results := [.lit (.bool true)], args := [d] }
  | _ => none }
def boxNilRow : OpenClaim := { program := "ytebdjhgboeadgaa", sum := "a7da4a9b349f1925cfaaf52e686fb394014304649496a19dcb79986ab486b122", func := "clevis/clevislaw04.BoxNil", spec := "boxNil", apart := false }
def BoxNilSaid : Prop := boxNilRow.holds Try.pinned (OpenSpec.ofChange boxNilSpec)

/-- ITS FALSE NEIGHBOUR: 'it returns false'. Refute it at one input. -/
def boxNilWrong : ChangeSpec := { name := "boxNil", fn := fun _ => fun
  | [d] => { results := [.lit (.bool false)], args := [d] }
  | _ => none }
def BoxNilWrongFalsely : Prop := boxNilRow.holds Try.pinned (OpenSpec.ofChange boxNilWrong)

/-- 'clevislaw02.IdentWords': WHATEVER THE INPUT: true; the input reads as it did. -/
def identWordsSpec : ChangeSpec := { name := "identWords", fn := fun _ => fun
  | [d] => { results := [.lit (.bool true)], args := [d] }
  | _ => none }
def identWordsRow : OpenClaim := { program := "ytebdjhgboeadgaa", sum := "a7da4a9b349f1925cfaaf52e686fb394014304649496a19dcb79986ab486b122", func := "clevis/clevislaw02.IdentWords", spec := "identWords", unfollowed := true, recurses := true, apart := false }
def IdentWordsSaid : Prop := identWordsRow.holds Try.pinned (OpenSpec.ofChange identWordsSpec)

/-- ITS FALSE NEIGHBOUR: 'it returns false'. Refute it at one input. -/
def identWordsWrong : ChangeSpec := { name := "identWords", fn := fun _ => fun
  | [d] => { results := [.lit (.bool false)], args := [d] }
  | _ => none }
def IdentWordsWrongFalsely : Prop := identWordsRow.holds Try.pinned (OpenSpec.ofChange identWordsWrong)

/-- 'clevislaw02.IdentMembers': WHATEVER THE INPUT: true; the input reads as it did. -/
def identMembersSpec : ChangeSpec := { name := "identMembers", fn := fun _ => fun
  | [d] => { results := [.lit (.bool true)], args := [d] }
  | _ => none }
def identMembersRow : OpenClaim := { program := "ytebdjhgboeadgaa", sum := "a7da4a9b349f1925cfaaf52e686fb394014304649496a19dcb79986ab486b122", func := "clevis/clevislaw02.IdentMembers", spec := "identMembers", unfollowed := true, recurses := true, apart := false }
def IdentMembersSaid : Prop := identMembersRow.holds Try.pinned (OpenSpec.ofChange identMembersSpec)

/-- ITS FALSE NEIGHBOUR: 'it returns false'. Refute it at one input. -/
def identMembersWrong : ChangeSpec := { name := "identMembers", fn := fun _ => fun
  | [d] => { results := [.lit (.bool false)], args := [d] }
  | _ => none }
def IdentMembersWrongFalsely : Prop := identMembersRow.holds Try.pinned (OpenSpec.ofChange identMembersWrong)

/-- 'clevislaw06.FrameSums': WHATEVER THE INPUT: true; the input reads as it did. -/
def frameSumsSpec : ChangeSpec := { name := "frameSums", fn := fun _ => fun
  | [d1, d2] => { results := [.lit (.bool true)], args := [d1, d2] }
  | _ => none }
def frameSumsRow : OpenClaim := { program := "ytebdjhgboeadgaa", sum := "a7da4a9b349f1925cfaaf52e686fb394014304649496a19dcb79986ab486b122", func := "clevis/clevislaw06.FrameSums", spec := "frameSums", apart := false }
def FrameSumsSaid : Prop := frameSumsRow.holds Try.pinned (OpenSpec.ofChange frameSumsSpec)

/-- ITS FALSE NEIGHBOUR: 'it returns false'. Refute it at one input. -/
def frameSumsWrong : ChangeSpec := { name := "frameSums", fn := fun _ => fun
  | [d1, d2] => { results := [.lit (.bool false)], args := [d1, d2] }
  | _ => none }
def FrameSumsWrongFalsely : Prop := frameSumsRow.holds Try.pinned (OpenSpec.ofChange frameSumsWrong)

/-- 'clevislaw06.FrameOpens': WHATEVER THE INPUT: true; the input reads as it did. -/
def frameOpensSpec : ChangeSpec := { name := "frameOpens", fn := fun _ => fun
  | [d] => { results := [.lit (.bool true)], args := [d] }
  | _ => none }
def frameOpensRow : OpenClaim := { program := "ytebdjhgboeadgaa", sum := "a7da4a9b349f1925cfaaf52e686fb394014304649496a19dcb79986ab486b122", func := "clevis/clevislaw06.FrameOpens", spec := "frameOpens", apart := false }
def FrameOpensSaid : Prop := frameOpensRow.holds Try.pinned (OpenSpec.ofChange frameOpensSpec)

/-- ITS FALSE NEIGHBOUR: 'it returns false'. Refute it at one input. -/
def frameOpensWrong : ChangeSpec := { name := "frameOpens", fn := fun _ => fun
  | [d] => { results := [.lit (.bool false)], args := [d] }
  | _ => none }
def FrameOpensWrongFalsely : Prop := frameOpensRow.holds Try.pinned (OpenSpec.ofChange frameOpensWrong)

/-- 'clevislaw06.FrameLong': WHATEVER THE INPUT: true; the input reads as it did. -/
def frameLongSpec : ChangeSpec := { name := "frameLong", fn := fun _ => fun
  | [d] => { results := [.lit (.bool true)], args := [d] }
  | _ => none }
def frameLongRow : OpenClaim := { program := "ytebdjhgboeadgaa", sum := "a7da4a9b349f1925cfaaf52e686fb394014304649496a19dcb79986ab486b122", func := "clevis/clevislaw06.FrameLong", spec := "frameLong", apart := false }
def FrameLongSaid : Prop := frameLongRow.holds Try.pinned (OpenSpec.ofChange frameLongSpec)

/-- ITS FALSE NEIGHBOUR: 'it returns false'. Refute it at one input. -/
def frameLongWrong : ChangeSpec := { name := "frameLong", fn := fun _ => fun
  | [d] => { results := [.lit (.bool false)], args := [d] }
  | _ => none }
def FrameLongWrongFalsely : Prop := frameLongRow.holds Try.pinned (OpenSpec.ofChange frameLongWrong)

/-- 'clevislaw06.FrameBent': WHATEVER THE INPUT: true; the input reads as it did. -/
def frameBentSpec : ChangeSpec := { name := "frameBent", fn := fun _ => fun
  | [d1, d2, d3] => { results := [.lit (.bool true)], args := [d1, d2, d3] }
  | _ => none }
def frameBentRow : OpenClaim := { program := "ytebdjhgboeadgaa", sum := "a7da4a9b349f1925cfaaf52e686fb394014304649496a19dcb79986ab486b122", func := "clevis/clevislaw06.FrameBent", spec := "frameBent", apart := false }
def FrameBentSaid : Prop := frameBentRow.holds Try.pinned (OpenSpec.ofChange frameBentSpec)

/-- ITS FALSE NEIGHBOUR: 'it returns false'. Refute it at one input. -/
def frameBentWrong : ChangeSpec := { name := "frameBent", fn := fun _ => fun
  | [d1, d2, d3] => { results := [.lit (.bool false)], args := [d1, d2, d3] }
  | _ => none }
def FrameBentWrongFalsely : Prop := frameBentRow.holds Try.pinned (OpenSpec.ofChange frameBentWrong)

/-- 'clevislaw06.FrameAlls': WHATEVER THE INPUT: true; the input reads as it did. -/
def frameAllsSpec : ChangeSpec := { name := "frameAlls", fn := fun _ => fun
  | [d1, d2] => { results := [.lit (.bool true)], args := [d1, d2] }
  | _ => none }
def frameAllsRow : OpenClaim := { program := "ytebdjhgboeadgaa", sum := "a7da4a9b349f1925cfaaf52e686fb394014304649496a19dcb79986ab486b122", func := "clevis/clevislaw06.FrameAlls", spec := "frameAlls", unfollowed := true, recurses := true, apart := false }
def FrameAllsSaid : Prop := frameAllsRow.holds Try.pinned (OpenSpec.ofChange frameAllsSpec)

/-- ITS FALSE NEIGHBOUR: 'it returns false'. Refute it at one input. -/
def frameAllsWrong : ChangeSpec := { name := "frameAlls", fn := fun _ => fun
  | [d1, d2] => { results := [.lit (.bool false)], args := [d1, d2] }
  | _ => none }
def FrameAllsWrongFalsely : Prop := frameAllsRow.holds Try.pinned (OpenSpec.ofChange frameAllsWrong)

/- THE SECOND FORM. 'bulk': how many values and letters a reading holds, each counted each time it is reached (what is shared counts as often as it is met; a slice's spare places count too). A statement '..UptoSaid' is the law's where the arguments, and the package variables that the reading takes, are together of bulk at most 1048576: NARROWER than '..Said'. Prove '..Said' where nothing that the law and all that it calls make is longer than what came in: it says more and counts as full. Else prove '..UptoSaid'. A law counts once. -/
mutual
def uptoBulk {H : Type} : DataW H → Nat
  | .lit (.string bytes) => bytes.length + 1
  | .lit _ => 1
  | .nil => 1
  | .ptr d => uptoBulk d + 1
  | .slice elems spare => uptoBulkAll elems + uptoBulkAll spare + 1
  | .agg parts => uptoBulkAll parts + 1
  | .iface _ d => uptoBulk d + 1
  | .map entries => uptoBulkEntries entries + 1
  | .held _ => 1
def uptoBulkAll {H : Type} : List (DataW H) → Nat
  | [] => 0
  | d :: r => uptoBulk d + uptoBulkAll r
def uptoBulkEntries {H : Type} : List (Lit × DataW H) → Nat
  | [] => 0
  | x :: r => uptoBulkEntry x + uptoBulkEntries r
def uptoBulkEntry {H : Type} : Lit × DataW H → Nat
  | (.string bytes, d) => bytes.length + uptoBulk d + 1
  | (_, d) => uptoBulk d + 1
 end
def uptoSmall : (H : Type) → List (DataW H) → Bool := fun _ ds => decide (uptoBulkAll ds ≤ 1048576)
def OpenSpec.upto (s : _root_.Go.ChangeSpec) : _root_.Go.OpenSpec := { _root_.Go.OpenSpec.ofChange s with cond := some uptoSmall }

/-- 'clevislaw04.BoxOrder', WHERE WHAT IT READS IS OF BULK AT MOST 1048576: true; the input reads as it did. -/
def boxOrderUptoRow : OpenClaim := { program := "ytebdjhgboeadgaa", sum := "a7da4a9b349f1925cfaaf52e686fb394014304649496a19dcb79986ab486b122", func := "clevis/clevislaw04.BoxOrder", spec := "boxOrder", apart := false, narrowed := true }
def BoxOrderUptoSaid : Prop := boxOrderUptoRow.holds Try.pinned (OpenSpec.upto boxOrderSpec)

/-- 'clevislaw04.BoxRooms', WHERE WHAT IT READS IS OF BULK AT MOST 1048576: true; the input reads as it did. -/
def boxRoomsUptoRow : OpenClaim := { program := "ytebdjhgboeadgaa", sum := "a7da4a9b349f1925cfaaf52e686fb394014304649496a19dcb79986ab486b122", func := "clevis/clevislaw04.BoxRooms", spec := "boxRooms", apart := false, narrowed := true }
def BoxRoomsUptoSaid : Prop := boxRoomsUptoRow.holds Try.pinned (OpenSpec.upto boxRoomsSpec)

/-- 'clevislaw02.IdentIsins', WHERE WHAT IT READS IS OF BULK AT MOST 1048576: true; the input reads as it did. -/
def identIsinsUptoRow : OpenClaim := { program := "ytebdjhgboeadgaa", sum := "a7da4a9b349f1925cfaaf52e686fb394014304649496a19dcb79986ab486b122", func := "clevis/clevislaw02.IdentIsins", spec := "identIsins", unfollowed := true, recurses := true, apart := false, narrowed := true }
def IdentIsinsUptoSaid : Prop := identIsinsUptoRow.holds Try.pinned (OpenSpec.upto identIsinsSpec)

/-- 'clevislaw02.IdentTurned', WHERE WHAT IT READS IS OF BULK AT MOST 1048576: true; the input reads as it did. -/
def identTurnedUptoRow : OpenClaim := { program := "ytebdjhgboeadgaa", sum := "a7da4a9b349f1925cfaaf52e686fb394014304649496a19dcb79986ab486b122", func := "clevis/clevislaw02.IdentTurned", spec := "identTurned", unfollowed := true, recurses := true, apart := false, narrowed := true }
def IdentTurnedUptoSaid : Prop := identTurnedUptoRow.holds Try.pinned (OpenSpec.upto identTurnedSpec)

/-- 'clevislaw04.BoxNil', WHERE WHAT IT READS IS OF BULK AT MOST 1048576: true; the input reads as it did. -/
def boxNilUptoRow : OpenClaim := { program := "ytebdjhgboeadgaa", sum := "a7da4a9b349f1925cfaaf52e686fb394014304649496a19dcb79986ab486b122", func := "clevis/clevislaw04.BoxNil", spec := "boxNil", apart := false, narrowed := true }
def BoxNilUptoSaid : Prop := boxNilUptoRow.holds Try.pinned (OpenSpec.upto boxNilSpec)

/-- 'clevislaw02.IdentWords', WHERE WHAT IT READS IS OF BULK AT MOST 1048576: true; the input reads as it did. -/
def identWordsUptoRow : OpenClaim := { program := "ytebdjhgboeadgaa", sum := "a7da4a9b349f1925cfaaf52e686fb394014304649496a19dcb79986ab486b122", func := "clevis/clevislaw02.IdentWords", spec := "identWords", unfollowed := true, recurses := true, apart := false, narrowed := true }
def IdentWordsUptoSaid : Prop := identWordsUptoRow.holds Try.pinned (OpenSpec.upto identWordsSpec)

/-- 'clevislaw02.IdentMembers', WHERE WHAT IT READS IS OF BULK AT MOST 1048576: true; the input reads as it did. -/
def identMembersUptoRow : OpenClaim := { program := "ytebdjhgboeadgaa", sum := "a7da4a9b349f1925cfaaf52e686fb394014304649496a19dcb79986ab486b122", func := "clevis/clevislaw02.IdentMembers", spec := "identMembers", unfollowed := true, recurses := true, apart := false, narrowed := true }
def IdentMembersUptoSaid : Prop := identMembersUptoRow.holds Try.pinned (OpenSpec.upto identMembersSpec)

/-- 'clevislaw06.FrameSums', WHERE WHAT IT READS IS OF BULK AT MOST 1048576: true; the input reads as it did. -/
def frameSumsUptoRow : OpenClaim := { program := "ytebdjhgboeadgaa", sum := "a7da4a9b349f1925cfaaf52e686fb394014304649496a19dcb79986ab486b122", func := "clevis/clevislaw06.FrameSums", spec := "frameSums", apart := false, narrowed := true }
def FrameSumsUptoSaid : Prop := frameSumsUptoRow.holds Try.pinned (OpenSpec.upto frameSumsSpec)

/-- 'clevislaw06.FrameOpens', WHERE WHAT IT READS IS OF BULK AT MOST 1048576: true; the input reads as it did. -/
def frameOpensUptoRow : OpenClaim := { program := "ytebdjhgboeadgaa", sum := "a7da4a9b349f1925cfaaf52e686fb394014304649496a19dcb79986ab486b122", func := "clevis/clevislaw06.FrameOpens", spec := "frameOpens", apart := false, narrowed := true }
def FrameOpensUptoSaid : Prop := frameOpensUptoRow.holds Try.pinned (OpenSpec.upto frameOpensSpec)

/-- 'clevislaw06.FrameLong', WHERE WHAT IT READS IS OF BULK AT MOST 1048576: true; the input reads as it did. -/
def frameLongUptoRow : OpenClaim := { program := "ytebdjhgboeadgaa", sum := "a7da4a9b349f1925cfaaf52e686fb394014304649496a19dcb79986ab486b122", func := "clevis/clevislaw06.FrameLong", spec := "frameLong", apart := false, narrowed := true }
def FrameLongUptoSaid : Prop := frameLongUptoRow.holds Try.pinned (OpenSpec.upto frameLongSpec)

/-- 'clevislaw06.FrameBent', WHERE WHAT IT READS IS OF BULK AT MOST 1048576: true; the input reads as it did. -/
def frameBentUptoRow : OpenClaim := { program := "ytebdjhgboeadgaa", sum := "a7da4a9b349f1925cfaaf52e686fb394014304649496a19dcb79986ab486b122", func := "clevis/clevislaw06.FrameBent", spec := "frameBent", apart := false, narrowed := true }
def FrameBentUptoSaid : Prop := frameBentUptoRow.holds Try.pinned (OpenSpec.upto frameBentSpec)

/-- 'clevislaw06.FrameAlls', WHERE WHAT IT READS IS OF BULK AT MOST 1048576: true; the input reads as it did. -/
def frameAllsUptoRow : OpenClaim := { program := "ytebdjhgboeadgaa", sum := "a7da4a9b349f1925cfaaf52e686fb394014304649496a19dcb79986ab486b122", func := "clevis/clevislaw06.FrameAlls", spec := "frameAlls", unfollowed := true, recurses := true, apart := false, narrowed := true }
def FrameAllsUptoSaid : Prop := frameAllsUptoRow.holds Try.pinned (OpenSpec.upto frameAllsSpec)

end Rows
end Go.Proofs.Ytebdjhgboeadgaa
