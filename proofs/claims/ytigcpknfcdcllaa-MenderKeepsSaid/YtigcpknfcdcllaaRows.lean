/-
  No cell of these rows narrows 'for every input' (looked for: loops, veiled, ifaces, maps, wideKeys, modest, calm, conditions, laid).
  DERIVED. THE GIVEN ROWS OF THIS SEAT. 8 by the template 'for every input the law returns true; each argument reads behind the call as it read before'; 0 by the template 'total and deterministic' (their statements: YtigcpknfcdcllaaTotals.lean).
  GIVEN WITH THE SEED: the statements are not yours to turn. If you find one false, say at which input.
  Laid BY PROGRAM, IN A SANDBOX (cutbox-rows.mjs): the forced cells as the released guide's own fill.sh prints them over the translation 0df85346714ef5f1… (all of the seat's roots in one cut). By AI agents, Wed Nov 11 2026. No macro, syntax, notation, axiom, sorry.
-/
import Derived.Test.YtigcpknfcdcllaaChecked
import GoSem.Claim
import GoSem.ClaimJoined
import GoSem.ClaimMapViews
import Derived.JoinedTies
import Derived.KernelRfl
namespace Go.Proofs.Ytigcpknfcdcllaa
/- THE CELL 'sum', in the pinned program and in every row, IS THE sha256 OF THE DUMP (.gsa) THAT YtigcpknfcdcllaaProg.lean LOADS. Nothing in Lean hashes anything: it is a label: what it is worth is what the hold of that sum in a sandbox is worth. -/
noncomputable def Try.pinned : Pinned := { name := "ytigcpknfcdcllaa", sum := "0df85346714ef5f1d734938df0d346d97bebef7980bf428eb7f23edacffe66b2", checked := Try.checked }
namespace Rows
def none {H : Type} : Left H := { results := [], args := [] }

/-- 'mailcoachlaw12.MenderKeeps': WHATEVER THE INPUT: true; the input reads as it did. -/
def menderKeepsSpec : ChangeSpec := { name := "menderKeeps", fn := fun _ => fun
  | [d1, d2] => { results := [.lit (.bool true)], args := [d1, d2] }
  | _ => none }
def menderKeepsRow : OpenClaim := { program := "ytigcpknfcdcllaa", sum := "0df85346714ef5f1d734938df0d346d97bebef7980bf428eb7f23edacffe66b2", func := "mailcoach/mailcoachlaw12.MenderKeeps", spec := "menderKeeps", unfollowed := true, recurses := true, apart := false }
def MenderKeepsSaid : Prop := menderKeepsRow.holds Try.pinned (OpenSpec.ofChange menderKeepsSpec)

/-- ITS FALSE NEIGHBOUR: 'it returns false'. Refute it at one input. -/
def menderKeepsWrong : ChangeSpec := { name := "menderKeeps", fn := fun _ => fun
  | [d1, d2] => { results := [.lit (.bool false)], args := [d1, d2] }
  | _ => none }
def MenderKeepsWrongFalsely : Prop := menderKeepsRow.holds Try.pinned (OpenSpec.ofChange menderKeepsWrong)

/-- 'mailcoachlaw14.CursorChecks': WHATEVER THE INPUT: true; the input reads as it did. -/
def cursorChecksSpec : ChangeSpec := { name := "cursorChecks", fn := fun _ => fun
  | [d1, d2, d3] => { results := [.lit (.bool true)], args := [d1, d2, d3] }
  | _ => none }
def cursorChecksRow : OpenClaim := { program := "ytigcpknfcdcllaa", sum := "0df85346714ef5f1d734938df0d346d97bebef7980bf428eb7f23edacffe66b2", func := "mailcoach/mailcoachlaw14.CursorChecks", spec := "cursorChecks", unfollowed := true, recurses := true, apart := false }
def CursorChecksSaid : Prop := cursorChecksRow.holds Try.pinned (OpenSpec.ofChange cursorChecksSpec)

/-- ITS FALSE NEIGHBOUR: 'it returns false'. Refute it at one input. -/
def cursorChecksWrong : ChangeSpec := { name := "cursorChecks", fn := fun _ => fun
  | [d1, d2, d3] => { results := [.lit (.bool false)], args := [d1, d2, d3] }
  | _ => none }
def CursorChecksWrongFalsely : Prop := cursorChecksRow.holds Try.pinned (OpenSpec.ofChange cursorChecksWrong)

/-- 'mailcoachlaw15.DedupPlays': WHATEVER THE INPUT: true; the input reads as it did. -/
def dedupPlaysSpec : ChangeSpec := { name := "dedupPlays", fn := fun _ => fun
  | [d] => { results := [.lit (.bool true)], args := [d] }
  | _ => none }
def dedupPlaysRow : OpenClaim := { program := "ytigcpknfcdcllaa", sum := "0df85346714ef5f1d734938df0d346d97bebef7980bf428eb7f23edacffe66b2", func := "mailcoach/mailcoachlaw15.DedupPlays", spec := "dedupPlays", unfollowed := true, recurses := true, apart := false }
def DedupPlaysSaid : Prop := dedupPlaysRow.holds Try.pinned (OpenSpec.ofChange dedupPlaysSpec)

/-- ITS FALSE NEIGHBOUR: 'it returns false'. Refute it at one input. -/
def dedupPlaysWrong : ChangeSpec := { name := "dedupPlays", fn := fun _ => fun
  | [d] => { results := [.lit (.bool false)], args := [d] }
  | _ => none }
def DedupPlaysWrongFalsely : Prop := dedupPlaysRow.holds Try.pinned (OpenSpec.ofChange dedupPlaysWrong)

/-- 'mailcoachlaw09.ShelfOpens': WHATEVER THE INPUT: true; the input reads as it did. -/
def shelfOpensSpec : ChangeSpec := { name := "shelfOpens", fn := fun _ => fun
  | [d1, d2, d3, d4] => { results := [.lit (.bool true)], args := [d1, d2, d3, d4] }
  | _ => none }
def shelfOpensRow : OpenClaim := { program := "ytigcpknfcdcllaa", sum := "0df85346714ef5f1d734938df0d346d97bebef7980bf428eb7f23edacffe66b2", func := "mailcoach/mailcoachlaw09.ShelfOpens", spec := "shelfOpens", unfollowed := true, recurses := true, apart := false }
def ShelfOpensSaid : Prop := shelfOpensRow.holds Try.pinned (OpenSpec.ofChange shelfOpensSpec)

/-- ITS FALSE NEIGHBOUR: 'it returns false'. Refute it at one input. -/
def shelfOpensWrong : ChangeSpec := { name := "shelfOpens", fn := fun _ => fun
  | [d1, d2, d3, d4] => { results := [.lit (.bool false)], args := [d1, d2, d3, d4] }
  | _ => none }
def ShelfOpensWrongFalsely : Prop := shelfOpensRow.holds Try.pinned (OpenSpec.ofChange shelfOpensWrong)

/-- 'mailcoachlaw09.ShelfFences': WHATEVER THE INPUT: true; the input reads as it did. -/
def shelfFencesSpec : ChangeSpec := { name := "shelfFences", fn := fun _ => fun
  | [d1, d2, d3] => { results := [.lit (.bool true)], args := [d1, d2, d3] }
  | _ => none }
def shelfFencesRow : OpenClaim := { program := "ytigcpknfcdcllaa", sum := "0df85346714ef5f1d734938df0d346d97bebef7980bf428eb7f23edacffe66b2", func := "mailcoach/mailcoachlaw09.ShelfFences", spec := "shelfFences", unfollowed := true, recurses := true, apart := false }
def ShelfFencesSaid : Prop := shelfFencesRow.holds Try.pinned (OpenSpec.ofChange shelfFencesSpec)

/-- ITS FALSE NEIGHBOUR: 'it returns false'. Refute it at one input. -/
def shelfFencesWrong : ChangeSpec := { name := "shelfFences", fn := fun _ => fun
  | [d1, d2, d3] => { results := [.lit (.bool false)], args := [d1, d2, d3] }
  | _ => none }
def ShelfFencesWrongFalsely : Prop := shelfFencesRow.holds Try.pinned (OpenSpec.ofChange shelfFencesWrong)

/-- 'mailcoachlaw09.ShelfNil': WHATEVER THE INPUT: true; the input reads as it did. -/
def shelfNilSpec : ChangeSpec := { name := "shelfNil", fn := fun _ => fun
  | [d] => { results := [.lit (.bool true)], args := [d] }
  | _ => none }
def shelfNilRow : OpenClaim := { program := "ytigcpknfcdcllaa", sum := "0df85346714ef5f1d734938df0d346d97bebef7980bf428eb7f23edacffe66b2", func := "mailcoach/mailcoachlaw09.ShelfNil", spec := "shelfNil", unfollowed := true, recurses := true, apart := false }
def ShelfNilSaid : Prop := shelfNilRow.holds Try.pinned (OpenSpec.ofChange shelfNilSpec)

/-- ITS FALSE NEIGHBOUR: 'it returns false'. Refute it at one input. -/
def shelfNilWrong : ChangeSpec := { name := "shelfNil", fn := fun _ => fun
  | [d] => { results := [.lit (.bool false)], args := [d] }
  | _ => none }
def ShelfNilWrongFalsely : Prop := shelfNilRow.holds Try.pinned (OpenSpec.ofChange shelfNilWrong)

/-- 'mailcoachlaw09.ShelfApart': WHATEVER THE INPUT: true; the input reads as it did. -/
def shelfApartSpec : ChangeSpec := { name := "shelfApart", fn := fun _ => fun
  | [d] => { results := [.lit (.bool true)], args := [d] }
  | _ => none }
def shelfApartRow : OpenClaim := { program := "ytigcpknfcdcllaa", sum := "0df85346714ef5f1d734938df0d346d97bebef7980bf428eb7f23edacffe66b2", func := "mailcoach/mailcoachlaw09.ShelfApart", spec := "shelfApart", unfollowed := true, recurses := true, apart := false }
def ShelfApartSaid : Prop := shelfApartRow.holds Try.pinned (OpenSpec.ofChange shelfApartSpec)

/-- ITS FALSE NEIGHBOUR: 'it returns false'. Refute it at one input. -/
def shelfApartWrong : ChangeSpec := { name := "shelfApart", fn := fun _ => fun
  | [d] => { results := [.lit (.bool false)], args := [d] }
  | _ => none }
def ShelfApartWrongFalsely : Prop := shelfApartRow.holds Try.pinned (OpenSpec.ofChange shelfApartWrong)

/-- 'mailcoachlaw09.ShelfPlays': WHATEVER THE INPUT: true; the input reads as it did. -/
def shelfPlaysSpec : ChangeSpec := { name := "shelfPlays", fn := fun _ => fun
  | [d1, d2, d3] => { results := [.lit (.bool true)], args := [d1, d2, d3] }
  | _ => none }
def shelfPlaysRow : OpenClaim := { program := "ytigcpknfcdcllaa", sum := "0df85346714ef5f1d734938df0d346d97bebef7980bf428eb7f23edacffe66b2", func := "mailcoach/mailcoachlaw09.ShelfPlays", spec := "shelfPlays", unfollowed := true, recurses := true, apart := false }
def ShelfPlaysSaid : Prop := shelfPlaysRow.holds Try.pinned (OpenSpec.ofChange shelfPlaysSpec)

/-- ITS FALSE NEIGHBOUR: 'it returns false'. Refute it at one input. -/
def shelfPlaysWrong : ChangeSpec := { name := "shelfPlays", fn := fun _ => fun
  | [d1, d2, d3] => { results := [.lit (.bool false)], args := [d1, d2, d3] }
  | _ => none }
def ShelfPlaysWrongFalsely : Prop := shelfPlaysRow.holds Try.pinned (OpenSpec.ofChange shelfPlaysWrong)

/- THE SECOND FORM. 'bulk': how many values and letters a reading holds, each counted each time it is reached (what is shared counts as often as it is met; a slice's spare places count too). A statement '..UptoSaid' is the law's where the arguments, and the package variables that the reading takes, are together of bulk at most 1048576: NARROWER than '..Said'. Prove '..Said' where nothing that the law and all that it calls make is longer than what came in: it says more and counts as full. Else prove '..UptoSaid'. A law counts once. -/
mutual
def uptoBulk {H : Type} : DataW H → Nat
  | .lit (.string bytes) => bytes.length + 1
  | .lit _ => 1
  | .nil => 1
  | .ptr d => uptoBulk d + 1
  | .slice elems spare => uptoBulkAll elems + uptoBulkAll spare + 1
  | .agg parts => uptoBulkAll parts + 1
  | .iface _ d => uptoBulk d + 1
  | .map entries => uptoBulkEntries entries + 1
  | .held _ => 1
def uptoBulkAll {H : Type} : List (DataW H) → Nat
  | [] => 0
  | d :: r => uptoBulk d + uptoBulkAll r
def uptoBulkEntries {H : Type} : List (Lit × DataW H) → Nat
  | [] => 0
  | x :: r => uptoBulkEntry x + uptoBulkEntries r
def uptoBulkEntry {H : Type} : Lit × DataW H → Nat
  | (.string bytes, d) => bytes.length + uptoBulk d + 1
  | (_, d) => uptoBulk d + 1
 end
def uptoSmall : (H : Type) → List (DataW H) → Bool := fun _ ds => decide (uptoBulkAll ds ≤ 1048576)
def OpenSpec.upto (s : _root_.Go.ChangeSpec) : _root_.Go.OpenSpec := { _root_.Go.OpenSpec.ofChange s with cond := some uptoSmall }

/-- 'mailcoachlaw12.MenderKeeps', WHERE WHAT IT READS IS OF BULK AT MOST 1048576: true; the input reads as it did. -/
def menderKeepsUptoRow : OpenClaim := { program := "ytigcpknfcdcllaa", sum := "0df85346714ef5f1d734938df0d346d97bebef7980bf428eb7f23edacffe66b2", func := "mailcoach/mailcoachlaw12.MenderKeeps", spec := "menderKeeps", unfollowed := true, recurses := true, apart := false, narrowed := true }
def MenderKeepsUptoSaid : Prop := menderKeepsUptoRow.holds Try.pinned (OpenSpec.upto menderKeepsSpec)

/-- 'mailcoachlaw14.CursorChecks', WHERE WHAT IT READS IS OF BULK AT MOST 1048576: true; the input reads as it did. -/
def cursorChecksUptoRow : OpenClaim := { program := "ytigcpknfcdcllaa", sum := "0df85346714ef5f1d734938df0d346d97bebef7980bf428eb7f23edacffe66b2", func := "mailcoach/mailcoachlaw14.CursorChecks", spec := "cursorChecks", unfollowed := true, recurses := true, apart := false, narrowed := true }
def CursorChecksUptoSaid : Prop := cursorChecksUptoRow.holds Try.pinned (OpenSpec.upto cursorChecksSpec)

/-- 'mailcoachlaw15.DedupPlays', WHERE WHAT IT READS IS OF BULK AT MOST 1048576: true; the input reads as it did. -/
def dedupPlaysUptoRow : OpenClaim := { program := "ytigcpknfcdcllaa", sum := "0df85346714ef5f1d734938df0d346d97bebef7980bf428eb7f23edacffe66b2", func := "mailcoach/mailcoachlaw15.DedupPlays", spec := "dedupPlays", unfollowed := true, recurses := true, apart := false, narrowed := true }
def DedupPlaysUptoSaid : Prop := dedupPlaysUptoRow.holds Try.pinned (OpenSpec.upto dedupPlaysSpec)

/-- 'mailcoachlaw09.ShelfOpens', WHERE WHAT IT READS IS OF BULK AT MOST 1048576: true; the input reads as it did. -/
def shelfOpensUptoRow : OpenClaim := { program := "ytigcpknfcdcllaa", sum := "0df85346714ef5f1d734938df0d346d97bebef7980bf428eb7f23edacffe66b2", func := "mailcoach/mailcoachlaw09.ShelfOpens", spec := "shelfOpens", unfollowed := true, recurses := true, apart := false, narrowed := true }
def ShelfOpensUptoSaid : Prop := shelfOpensUptoRow.holds Try.pinned (OpenSpec.upto shelfOpensSpec)

/-- 'mailcoachlaw09.ShelfFences', WHERE WHAT IT READS IS OF BULK AT MOST 1048576: true; the input reads as it did. -/
def shelfFencesUptoRow : OpenClaim := { program := "ytigcpknfcdcllaa", sum := "0df85346714ef5f1d734938df0d346d97bebef7980bf428eb7f23edacffe66b2", func := "mailcoach/mailcoachlaw09.ShelfFences", spec := "shelfFences", unfollowed := true, recurses := true, apart := false, narrowed := true }
def ShelfFencesUptoSaid : Prop := shelfFencesUptoRow.holds Try.pinned (OpenSpec.upto shelfFencesSpec)

/-- 'mailcoachlaw09.ShelfNil', WHERE WHAT IT READS IS OF BULK AT MOST 1048576: true; the input reads as it did. -/
def shelfNilUptoRow : OpenClaim := { program := "ytigcpknfcdcllaa", sum := "0df85346714ef5f1d734938df0d346d97bebef7980bf428eb7f23edacffe66b2", func := "mailcoach/mailcoachlaw09.ShelfNil", spec := "shelfNil", unfollowed := true, recurses := true, apart := false, narrowed := true }
def ShelfNilUptoSaid : Prop := shelfNilUptoRow.holds Try.pinned (OpenSpec.upto shelfNilSpec)

/-- 'mailcoachlaw09.ShelfApart', WHERE WHAT IT READS IS OF BULK AT MOST 1048576: true; the input reads as it did. -/
def shelfApartUptoRow : OpenClaim := { program := "ytigcpknfcdcllaa", sum := "0df85346714ef5f1d734938df0d346d97bebef7980bf428eb7f23edacffe66b2", func := "mailcoach/mailcoachlaw09.ShelfApart", spec := "shelfApart", unfollowed := true, recurses := true, apart := false, narrowed := true }
def ShelfApartUptoSaid : Prop := shelfApartUptoRow.holds Try.pinned (OpenSpec.upto shelfApartSpec)

/-- 'mailcoachlaw09.ShelfPlays', WHERE WHAT IT READS IS OF BULK AT MOST 1048576: true; the input reads as it did. -/
def shelfPlaysUptoRow : OpenClaim := { program := "ytigcpknfcdcllaa", sum := "0df85346714ef5f1d734938df0d346d97bebef7980bf428eb7f23edacffe66b2", func := "mailcoach/mailcoachlaw09.ShelfPlays", spec := "shelfPlays", unfollowed := true, recurses := true, apart := false, narrowed := true }
def ShelfPlaysUptoSaid : Prop := shelfPlaysUptoRow.holds Try.pinned (OpenSpec.upto shelfPlaysSpec)

end Rows
end Go.Proofs.Ytigcpknfcdcllaa
