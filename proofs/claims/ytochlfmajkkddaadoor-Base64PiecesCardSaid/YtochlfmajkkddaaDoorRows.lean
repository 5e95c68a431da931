/-
  NARROWER THAN 'FOR EVERY INPUT', by the rows' own cells (each row's printed sentence says how): Base64Encode: laid · Base64Canonical: laid · Base64Concatenation: laid · Base64Decode: laid · Base64RoundTrip: laid · Base64Unwrap: laid · Base64Limits: laid · Base64Pieces: laid · Base64Wrap: laid.
  DERIVED. THE GIVEN ROWS OF THIS SEAT. 9 by the template 'for every input the law returns true; each argument reads behind the call as it read before'; 0 by the template 'total and deterministic' (their statements: YtochlfmajkkddaaDoorTotals.lean).
  GIVEN WITH THE SEED: the statements are not yours to turn. If you find one false, say at which input.
  Laid BY PROGRAM, IN A SANDBOX (cutbox-rows.mjs): the forced cells as the released guide's own fill.sh prints them over the translation dff2a84d6ed5f87e… (all of the seat's roots in one cut). By AI agents, Wed Nov 11 2026. No macro, syntax, notation, axiom, sorry.
-/
import Derived.Test.YtochlfmajkkddaaDoorChecked
import GoSem.Claim
import GoSem.ClaimJoined
import GoSem.ClaimMapViews
import Derived.JoinedTies
import Derived.KernelRfl
namespace Go.Proofs.YtochlfmajkkddaaDoor
/- THE CELL 'sum', in the pinned program and in every row, IS THE sha256 OF THE DUMP (.gsa) THAT YtochlfmajkkddaaDoorProg.lean LOADS. Nothing in Lean hashes anything: it is a label: what it is worth is what the hold of that sum in a sandbox is worth. -/
noncomputable def Tryd.pinned : Pinned := { name := "ytochlfmajkkddaadoor", sum := "dff2a84d6ed5f87ef9115ab972ea985f52b5e892a1dcdefd098694a1d35607f9", checked := Tryd.checked }
namespace Rows
def none {H : Type} : Left H := { results := [], args := [] }

/- WHAT THE LISTED PACKAGE-LEVEL VARIABLES READ AS WHEN THE CALL BEGINS. Each datum BY PROGRAM (the guide's laid-datum.mjs) off the statement by which the dump's own 'gosem.cut.vars' lays the variable. In a bare row this is a premise. The card (YtochlfmajkkddaaDoorCards.lean) ties it to the program's text. -/
def laid_bulletin_base64_alphabet {H : Type} : DataW H := .agg [.lit (.int .u8 65), .lit (.int .u8 66), .lit (.int .u8 67), .lit (.int .u8 68), .lit (.int .u8 69), .lit (.int .u8 70), .lit (.int .u8 71), .lit (.int .u8 72), .lit (.int .u8 73), .lit (.int .u8 74), .lit (.int .u8 75), .lit (.int .u8 76), .lit (.int .u8 77), .lit (.int .u8 78), .lit (.int .u8 79), .lit (.int .u8 80), .lit (.int .u8 81), .lit (.int .u8 82), .lit (.int .u8 83), .lit (.int .u8 84), .lit (.int .u8 85), .lit (.int .u8 86), .lit (.int .u8 87), .lit (.int .u8 88), .lit (.int .u8 89), .lit (.int .u8 90), .lit (.int .u8 97), .lit (.int .u8 98), .lit (.int .u8 99), .lit (.int .u8 100), .lit (.int .u8 101), .lit (.int .u8 102), .lit (.int .u8 103), .lit (.int .u8 104), .lit (.int .u8 105), .lit (.int .u8 106), .lit (.int .u8 107), .lit (.int .u8 108), .lit (.int .u8 109), .lit (.int .u8 110), .lit (.int .u8 111), .lit (.int .u8 112), .lit (.int .u8 113), .lit (.int .u8 114), .lit (.int .u8 115), .lit (.int .u8 116), .lit (.int .u8 117), .lit (.int .u8 118), .lit (.int .u8 119), .lit (.int .u8 120), .lit (.int .u8 121), .lit (.int .u8 122), .lit (.int .u8 48), .lit (.int .u8 49), .lit (.int .u8 50), .lit (.int .u8 51), .lit (.int .u8 52), .lit (.int .u8 53), .lit (.int .u8 54), .lit (.int .u8 55), .lit (.int .u8 56), .lit (.int .u8 57), .lit (.int .u8 43), .lit (.int .u8 47)]

/-- 'bulletinlaw02.Base64Encode': WHATEVER THE INPUT: true; the input reads as it did. -/
def base64EncodeSpec : ChangeSpec := { name := "base64Encode", fn := fun _ => fun
  | [d1, d2] => { results := [.lit (.bool true)], args := [d1, d2] }
  | _ => none }
def base64EncodeRow : OpenClaim := { program := "ytochlfmajkkddaadoor", sum := "dff2a84d6ed5f87ef9115ab972ea985f52b5e892a1dcdefd098694a1d35607f9", func := "bulletin/bulletinlaw02.Base64Encode", spec := "base64Encode", unfollowed := true, recurses := true, named := ["bulletin/base64.alphabet"], apart := false, laid := [("bulletin/base64.alphabet", laid_bulletin_base64_alphabet)] }
def Base64EncodeSaid : Prop := base64EncodeRow.holds Tryd.pinned (OpenSpec.ofChange base64EncodeSpec)

/-- ITS FALSE NEIGHBOUR: 'it returns false'. Refute it at one input. -/
def base64EncodeWrong : ChangeSpec := { name := "base64Encode", fn := fun _ => fun
  | [d1, d2] => { results := [.lit (.bool false)], args := [d1, d2] }
  | _ => none }
def Base64EncodeWrongFalsely : Prop := base64EncodeRow.holds Tryd.pinned (OpenSpec.ofChange base64EncodeWrong)

/-- 'bulletinlaw02.Base64Canonical': WHATEVER THE INPUT: true; the input reads as it did. -/
def base64CanonicalSpec : ChangeSpec := { name := "base64Canonical", fn := fun _ => fun
  | [d] => { results := [.lit (.bool true)], args := [d] }
  | _ => none }
def base64CanonicalRow : OpenClaim := { program := "ytochlfmajkkddaadoor", sum := "dff2a84d6ed5f87ef9115ab972ea985f52b5e892a1dcdefd098694a1d35607f9", func := "bulletin/bulletinlaw02.Base64Canonical", spec := "base64Canonical", unfollowed := true, recurses := true, named := ["bulletin/base64.alphabet"], apart := false, laid := [("bulletin/base64.alphabet", laid_bulletin_base64_alphabet)] }
def Base64CanonicalSaid : Prop := base64CanonicalRow.holds Tryd.pinned (OpenSpec.ofChange base64CanonicalSpec)

/-- ITS FALSE NEIGHBOUR: 'it returns false'. Refute it at one input. -/
def base64CanonicalWrong : ChangeSpec := { name := "base64Canonical", fn := fun _ => fun
  | [d] => { results := [.lit (.bool false)], args := [d] }
  | _ => none }
def Base64CanonicalWrongFalsely : Prop := base64CanonicalRow.holds Tryd.pinned (OpenSpec.ofChange base64CanonicalWrong)

/-- 'bulletinlaw02.Base64Concatenation': WHATEVER THE INPUT: true; the input reads as it did. -/
def base64ConcatenationSpec : ChangeSpec := { name := "base64Concatenation", fn := fun _ => fun
  | [d1, d2] => { results := [.lit (.bool true)], args := [d1, d2] }
  | _ => none }
def base64ConcatenationRow : OpenClaim := { program := "ytochlfmajkkddaadoor", sum := "dff2a84d6ed5f87ef9115ab972ea985f52b5e892a1dcdefd098694a1d35607f9", func := "bulletin/bulletinlaw02.Base64Concatenation", spec := "base64Concatenation", unfollowed := true, recurses := true, named := ["bulletin/base64.alphabet"], apart := false, laid := [("bulletin/base64.alphabet", laid_bulletin_base64_alphabet)] }
def Base64ConcatenationSaid : Prop := base64ConcatenationRow.holds Tryd.pinned (OpenSpec.ofChange base64ConcatenationSpec)

/-- ITS FALSE NEIGHBOUR: 'it returns false'. Refute it at one input. -/
def base64ConcatenationWrong : ChangeSpec := { name := "base64Concatenation", fn := fun _ => fun
  | [d1, d2] => { results := [.lit (.bool false)], args := [d1, d2] }
  | _ => none }
def Base64ConcatenationWrongFalsely : Prop := base64ConcatenationRow.holds Tryd.pinned (OpenSpec.ofChange base64ConcatenationWrong)

/-- 'bulletinlaw02.Base64Decode': WHATEVER THE INPUT: true; the input reads as it did. -/
def base64DecodeSpec : ChangeSpec := { name := "base64Decode", fn := fun _ => fun
  | [d] => { results := [.lit (.bool true)], args := [d] }
  | _ => none }
def base64DecodeRow : OpenClaim := { program := "ytochlfmajkkddaadoor", sum := "dff2a84d6ed5f87ef9115ab972ea985f52b5e892a1dcdefd098694a1d35607f9", func := "bulletin/bulletinlaw02.Base64Decode", spec := "base64Decode", unfollowed := true, recurses := true, named := ["bulletin/base64.alphabet"], apart := false, laid := [("bulletin/base64.alphabet", laid_bulletin_base64_alphabet)] }
def Base64DecodeSaid : Prop := base64DecodeRow.holds Tryd.pinned (OpenSpec.ofChange base64DecodeSpec)

/-- ITS FALSE NEIGHBOUR: 'it returns false'. Refute it at one input. -/
def base64DecodeWrong : ChangeSpec := { name := "base64Decode", fn := fun _ => fun
  | [d] => { results := [.lit (.bool false)], args := [d] }
  | _ => none }
def Base64DecodeWrongFalsely : Prop := base64DecodeRow.holds Tryd.pinned (OpenSpec.ofChange base64DecodeWrong)

/-- 'bulletinlaw02.Base64RoundTrip': WHATEVER THE INPUT: true; the input reads as it did. -/
def base64RoundTripSpec : ChangeSpec := { name := "base64RoundTrip", fn := fun _ => fun
  | [d] => { results := [.lit (.bool true)], args := [d] }
  | _ => none }
def base64RoundTripRow : OpenClaim := { program := "ytochlfmajkkddaadoor", sum := "dff2a84d6ed5f87ef9115ab972ea985f52b5e892a1dcdefd098694a1d35607f9", func := "bulletin/bulletinlaw02.Base64RoundTrip", spec := "base64RoundTrip", unfollowed := true, recurses := true, named := ["bulletin/base64.alphabet"], apart := false, laid := [("bulletin/base64.alphabet", laid_bulletin_base64_alphabet)] }
def Base64RoundTripSaid : Prop := base64RoundTripRow.holds Tryd.pinned (OpenSpec.ofChange base64RoundTripSpec)

/-- ITS FALSE NEIGHBOUR: 'it returns false'. Refute it at one input. -/
def base64RoundTripWrong : ChangeSpec := { name := "base64RoundTrip", fn := fun _ => fun
  | [d] => { results := [.lit (.bool false)], args := [d] }
  | _ => none }
def Base64RoundTripWrongFalsely : Prop := base64RoundTripRow.holds Tryd.pinned (OpenSpec.ofChange base64RoundTripWrong)

/-- 'bulletinlaw02.Base64Unwrap': WHATEVER THE INPUT: true; the input reads as it did. -/
def base64UnwrapSpec : ChangeSpec := { name := "base64Unwrap", fn := fun _ => fun
  | [d] => { results := [.lit (.bool true)], args := [d] }
  | _ => none }
def base64UnwrapRow : OpenClaim := { program := "ytochlfmajkkddaadoor", sum := "dff2a84d6ed5f87ef9115ab972ea985f52b5e892a1dcdefd098694a1d35607f9", func := "bulletin/bulletinlaw02.Base64Unwrap", spec := "base64Unwrap", inPlace := ["internal/bytealg.IndexByteString", "internal/abi.NoEscape"], unfollowed := true, recurses := true, named := ["bulletin/base64.alphabet"], apart := false, laid := [("bulletin/base64.alphabet", laid_bulletin_base64_alphabet)] }
def Base64UnwrapSaid : Prop := base64UnwrapRow.holds Tryd.pinned (OpenSpec.ofChange base64UnwrapSpec)

/-- ITS FALSE NEIGHBOUR: 'it returns false'. Refute it at one input. -/
def base64UnwrapWrong : ChangeSpec := { name := "base64Unwrap", fn := fun _ => fun
  | [d] => { results := [.lit (.bool false)], args := [d] }
  | _ => none }
def Base64UnwrapWrongFalsely : Prop := base64UnwrapRow.holds Tryd.pinned (OpenSpec.ofChange base64UnwrapWrong)

/-- 'bulletinlaw02.Base64Limits': WHATEVER THE INPUT: true; the input reads as it did. -/
def base64LimitsSpec : ChangeSpec := { name := "base64Limits", fn := fun _ => fun
  | [d] => { results := [.lit (.bool true)], args := [d] }
  | _ => none }
def base64LimitsRow : OpenClaim := { program := "ytochlfmajkkddaadoor", sum := "dff2a84d6ed5f87ef9115ab972ea985f52b5e892a1dcdefd098694a1d35607f9", func := "bulletin/bulletinlaw02.Base64Limits", spec := "base64Limits", unfollowed := true, recurses := true, named := ["bulletin/base64.alphabet"], apart := false, laid := [("bulletin/base64.alphabet", laid_bulletin_base64_alphabet)] }
def Base64LimitsSaid : Prop := base64LimitsRow.holds Tryd.pinned (OpenSpec.ofChange base64LimitsSpec)

/-- ITS FALSE NEIGHBOUR: 'it returns false'. Refute it at one input. -/
def base64LimitsWrong : ChangeSpec := { name := "base64Limits", fn := fun _ => fun
  | [d] => { results := [.lit (.bool false)], args := [d] }
  | _ => none }
def Base64LimitsWrongFalsely : Prop := base64LimitsRow.holds Tryd.pinned (OpenSpec.ofChange base64LimitsWrong)

/-- 'bulletinlaw02.Base64Pieces': WHATEVER THE INPUT: true; the input reads as it did. -/
def base64PiecesSpec : ChangeSpec := { name := "base64Pieces", fn := fun _ => fun
  | [d] => { results := [.lit (.bool true)], args := [d] }
  | _ => none }
def base64PiecesRow : OpenClaim := { program := "ytochlfmajkkddaadoor", sum := "dff2a84d6ed5f87ef9115ab972ea985f52b5e892a1dcdefd098694a1d35607f9", func := "bulletin/bulletinlaw02.Base64Pieces", spec := "base64Pieces", unfollowed := true, recurses := true, named := ["bulletin/base64.alphabet"], apart := false, laid := [("bulletin/base64.alphabet", laid_bulletin_base64_alphabet)] }
def Base64PiecesSaid : Prop := base64PiecesRow.holds Tryd.pinned (OpenSpec.ofChange base64PiecesSpec)

/-- ITS FALSE NEIGHBOUR: 'it returns false'. Refute it at one input. -/
def base64PiecesWrong : ChangeSpec := { name := "base64Pieces", fn := fun _ => fun
  | [d] => { results := [.lit (.bool false)], args := [d] }
  | _ => none }
def Base64PiecesWrongFalsely : Prop := base64PiecesRow.holds Tryd.pinned (OpenSpec.ofChange base64PiecesWrong)

/-- 'bulletinlaw02.Base64Wrap': WHATEVER THE INPUT: true; the input reads as it did. -/
def base64WrapSpec : ChangeSpec := { name := "base64Wrap", fn := fun _ => fun
  | [d1, d2] => { results := [.lit (.bool true)], args := [d1, d2] }
  | _ => none }
def base64WrapRow : OpenClaim := { program := "ytochlfmajkkddaadoor", sum := "dff2a84d6ed5f87ef9115ab972ea985f52b5e892a1dcdefd098694a1d35607f9", func := "bulletin/bulletinlaw02.Base64Wrap", spec := "base64Wrap", inPlace := ["internal/bytealg.IndexByteString", "internal/bytealg.IndexString", "internal/abi.NoEscape"], unfollowed := true, recurses := true, named := ["bulletin/base64.alphabet", "internal/bytealg.MaxLen"], apart := false, laid := [("bulletin/base64.alphabet", laid_bulletin_base64_alphabet)] }
def Base64WrapSaid : Prop := base64WrapRow.holds Tryd.pinned (OpenSpec.ofChange base64WrapSpec)

/-- ITS FALSE NEIGHBOUR: 'it returns false'. Refute it at one input. -/
def base64WrapWrong : ChangeSpec := { name := "base64Wrap", fn := fun _ => fun
  | [d1, d2] => { results := [.lit (.bool false)], args := [d1, d2] }
  | _ => none }
def Base64WrapWrongFalsely : Prop := base64WrapRow.holds Tryd.pinned (OpenSpec.ofChange base64WrapWrong)

/- THE SECOND FORM. 'bulk': how many values and letters a reading holds, each counted each time it is reached (what is shared counts as often as it is met; a slice's spare places count too). A statement '..UptoSaid' is the law's where the arguments, and the package variables that the reading takes, are together of bulk at most 1048576: NARROWER than '..Said'. Prove '..Said' where nothing that the law and all that it calls make is longer than what came in: it says more and counts as full. Else prove '..UptoSaid'. A law counts once. -/
mutual
def uptoBulk {H : Type} : DataW H → Nat
  | .lit (.string bytes) => bytes.length + 1
  | .lit _ => 1
  | .nil => 1
  | .ptr d => uptoBulk d + 1
  | .slice elems spare => uptoBulkAll elems + uptoBulkAll spare + 1
  | .agg parts => uptoBulkAll parts + 1
  | .iface _ d => uptoBulk d + 1
  | .map entries => uptoBulkEntries entries + 1
  | .held _ => 1
def uptoBulkAll {H : Type} : List (DataW H) → Nat
  | [] => 0
  | d :: r => uptoBulk d + uptoBulkAll r
def uptoBulkEntries {H : Type} : List (Lit × DataW H) → Nat
  | [] => 0
  | x :: r => uptoBulkEntry x + uptoBulkEntries r
def uptoBulkEntry {H : Type} : Lit × DataW H → Nat
  | (.string bytes, d) => bytes.length + uptoBulk d + 1
  | (_, d) => uptoBulk d + 1
 end
def uptoSmall : (H : Type) → List (DataW H) → Bool := fun _ ds => decide (uptoBulkAll ds ≤ 1048576)
def OpenSpec.upto (s : _root_.Go.ChangeSpec) : _root_.Go.OpenSpec := { _root_.Go.OpenSpec.ofChange s with cond := some uptoSmall }

/-- 'bulletinlaw02.Base64Encode', WHERE WHAT IT READS IS OF BULK AT MOST 1048576: true; the input reads as it did. -/
def base64EncodeUptoRow : OpenClaim := { program := "ytochlfmajkkddaadoor", sum := "dff2a84d6ed5f87ef9115ab972ea985f52b5e892a1dcdefd098694a1d35607f9", func := "bulletin/bulletinlaw02.Base64Encode", spec := "base64Encode", unfollowed := true, recurses := true, named := ["bulletin/base64.alphabet"], apart := false, laid := [("bulletin/base64.alphabet", laid_bulletin_base64_alphabet)], narrowed := true }
def Base64EncodeUptoSaid : Prop := base64EncodeUptoRow.holds Tryd.pinned (OpenSpec.upto base64EncodeSpec)

/-- 'bulletinlaw02.Base64Canonical', WHERE WHAT IT READS IS OF BULK AT MOST 1048576: true; the input reads as it did. -/
def base64CanonicalUptoRow : OpenClaim := { program := "ytochlfmajkkddaadoor", sum := "dff2a84d6ed5f87ef9115ab972ea985f52b5e892a1dcdefd098694a1d35607f9", func := "bulletin/bulletinlaw02.Base64Canonical", spec := "base64Canonical", unfollowed := true, recurses := true, named := ["bulletin/base64.alphabet"], apart := false, laid := [("bulletin/base64.alphabet", laid_bulletin_base64_alphabet)], narrowed := true }
def Base64CanonicalUptoSaid : Prop := base64CanonicalUptoRow.holds Tryd.pinned (OpenSpec.upto base64CanonicalSpec)

/-- 'bulletinlaw02.Base64Concatenation', WHERE WHAT IT READS IS OF BULK AT MOST 1048576: true; the input reads as it did. -/
def base64ConcatenationUptoRow : OpenClaim := { program := "ytochlfmajkkddaadoor", sum := "dff2a84d6ed5f87ef9115ab972ea985f52b5e892a1dcdefd098694a1d35607f9", func := "bulletin/bulletinlaw02.Base64Concatenation", spec := "base64Concatenation", unfollowed := true, recurses := true, named := ["bulletin/base64.alphabet"], apart := false, laid := [("bulletin/base64.alphabet", laid_bulletin_base64_alphabet)], narrowed := true }
def Base64ConcatenationUptoSaid : Prop := base64ConcatenationUptoRow.holds Tryd.pinned (OpenSpec.upto base64ConcatenationSpec)

/-- 'bulletinlaw02.Base64Decode', WHERE WHAT IT READS IS OF BULK AT MOST 1048576: true; the input reads as it did. -/
def base64DecodeUptoRow : OpenClaim := { program := "ytochlfmajkkddaadoor", sum := "dff2a84d6ed5f87ef9115ab972ea985f52b5e892a1dcdefd098694a1d35607f9", func := "bulletin/bulletinlaw02.Base64Decode", spec := "base64Decode", unfollowed := true, recurses := true, named := ["bulletin/base64.alphabet"], apart := false, laid := [("bulletin/base64.alphabet", laid_bulletin_base64_alphabet)], narrowed := true }
def Base64DecodeUptoSaid : Prop := base64DecodeUptoRow.holds Tryd.pinned (OpenSpec.upto base64DecodeSpec)

/-- 'bulletinlaw02.Base64RoundTrip', WHERE WHAT IT READS IS OF BULK AT MOST 1048576: true; the input reads as it did. -/
def base64RoundTripUptoRow : OpenClaim := { program := "ytochlfmajkkddaadoor", sum := "dff2a84d6ed5f87ef9115ab972ea985f52b5e892a1dcdefd098694a1d35607f9", func := "bulletin/bulletinlaw02.Base64RoundTrip", spec := "base64RoundTrip", unfollowed := true, recurses := true, named := ["bulletin/base64.alphabet"], apart := false, laid := [("bulletin/base64.alphabet", laid_bulletin_base64_alphabet)], narrowed := true }
def Base64RoundTripUptoSaid : Prop := base64RoundTripUptoRow.holds Tryd.pinned (OpenSpec.upto base64RoundTripSpec)

/-- 'bulletinlaw02.Base64Unwrap', WHERE WHAT IT READS IS OF BULK AT MOST 1048576: true; the input reads as it did. -/
def base64UnwrapUptoRow : OpenClaim := { program := "ytochlfmajkkddaadoor", sum := "dff2a84d6ed5f87ef9115ab972ea985f52b5e892a1dcdefd098694a1d35607f9", func := "bulletin/bulletinlaw02.Base64Unwrap", spec := "base64Unwrap", inPlace := ["internal/bytealg.IndexByteString", "internal/abi.NoEscape"], unfollowed := true, recurses := true, named := ["bulletin/base64.alphabet"], apart := false, laid := [("bulletin/base64.alphabet", laid_bulletin_base64_alphabet)], narrowed := true }
def Base64UnwrapUptoSaid : Prop := base64UnwrapUptoRow.holds Tryd.pinned (OpenSpec.upto base64UnwrapSpec)

/-- 'bulletinlaw02.Base64Limits', WHERE WHAT IT READS IS OF BULK AT MOST 1048576: true; the input reads as it did. -/
def base64LimitsUptoRow : OpenClaim := { program := "ytochlfmajkkddaadoor", sum := "dff2a84d6ed5f87ef9115ab972ea985f52b5e892a1dcdefd098694a1d35607f9", func := "bulletin/bulletinlaw02.Base64Limits", spec := "base64Limits", unfollowed := true, recurses := true, named := ["bulletin/base64.alphabet"], apart := false, laid := [("bulletin/base64.alphabet", laid_bulletin_base64_alphabet)], narrowed := true }
def Base64LimitsUptoSaid : Prop := base64LimitsUptoRow.holds Tryd.pinned (OpenSpec.upto base64LimitsSpec)

/-- 'bulletinlaw02.Base64Pieces', WHERE WHAT IT READS IS OF BULK AT MOST 1048576: true; the input reads as it did. -/
def base64PiecesUptoRow : OpenClaim := { program := "ytochlfmajkkddaadoor", sum := "dff2a84d6ed5f87ef9115ab972ea985f52b5e892a1dcdefd098694a1d35607f9", func := "bulletin/bulletinlaw02.Base64Pieces", spec := "base64Pieces", unfollowed := true, recurses := true, named := ["bulletin/base64.alphabet"], apart := false, laid := [("bulletin/base64.alphabet", laid_bulletin_base64_alphabet)], narrowed := true }
def Base64PiecesUptoSaid : Prop := base64PiecesUptoRow.holds Tryd.pinned (OpenSpec.upto base64PiecesSpec)

/-- 'bulletinlaw02.Base64Wrap', WHERE WHAT IT READS IS OF BULK AT MOST 1048576: true; the input reads as it did. -/
def base64WrapUptoRow : OpenClaim := { program := "ytochlfmajkkddaadoor", sum := "dff2a84d6ed5f87ef9115ab972ea985f52b5e892a1dcdefd098694a1d35607f9", func := "bulletin/bulletinlaw02.Base64Wrap", spec := "base64Wrap", inPlace := ["internal/bytealg.IndexByteString", "internal/bytealg.IndexString", "internal/abi.NoEscape"], unfollowed := true, recurses := true, named := ["bulletin/base64.alphabet", "internal/bytealg.MaxLen"], apart := false, laid := [("bulletin/base64.alphabet", laid_bulletin_base64_alphabet)], narrowed := true }
def Base64WrapUptoSaid : Prop := base64WrapUptoRow.holds Tryd.pinned (OpenSpec.upto base64WrapSpec)

end Rows
end Go.Proofs.YtochlfmajkkddaaDoor
