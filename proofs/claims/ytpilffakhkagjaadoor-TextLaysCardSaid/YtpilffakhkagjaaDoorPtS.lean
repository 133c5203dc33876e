/- PRINTED BY pt.py (a program of this work): what a call of each function is, in words of the engine. -/
import Derived.Test.YtpilffakhkagjaaDoorPtH
import Derived.Test.YtpilffakhkagjaaDoorPtI
namespace Go.Proofs.YtpilffakhkagjaaDoor
open Go Go.Pt
def gosem_cut_init (S : Mem) (Q : Mem → Prop) : Prop :=
  Tr Tryd.prog 2 S [] fun v S' => v = .tuple #[] ∧ Q S'
def hermitcrablaw03_TextShows (S : Mem) (x0 : List Value) (Q : Bool → Mem → Prop) : Prop :=
  Tr Tryd.prog 3 S [valL x0] fun v S' => ∃ r0 : Bool, v = .bool r0 ∧ Q r0 S'
def hermitcrablaw03_TextLists (S : Mem) (x0 : Sl) (Q : Bool → Mem → Prop) : Prop :=
  Tr Tryd.prog 4 S [eL x0] fun v S' => ∃ r0 : Bool, v = .bool r0 ∧ Q r0 S'
def hermitcrablaw03_TextFaults (S : Mem) (x0 : Sl) (x1 : Int) (Q : Bool → Mem → Prop) : Prop :=
  Tr Tryd.prog 5 S [eL x0, .int .u8 x1] fun v S' => ∃ r0 : Bool, v = .bool r0 ∧ Q r0 S'
def hermitcrablaw03_TextLays (S : Mem) (x0 : Sl) (x1 : Sl) (Q : Bool → Mem → Prop) : Prop :=
  Tr Tryd.prog 6 S [eL x0, eL x1] fun v S' => ∃ r0 : Bool, v = .bool r0 ∧ Q r0 S'
def hermitcrabref01_Right (S : Mem) (x0 : Int) (x1 : Int) (x2 : Int) (x3 : Int) (x4 : Int) (Q : Bool → Mem → Prop) : Prop :=
  Tr Tryd.prog 7 S [.int .u8 x0, .int .u8 x1, .int .u8 x2, .int .u8 x3, .int .i16 x4] fun v S' => ∃ r0 : Bool, v = .bool r0 ∧ Q r0 S'
def text_Show (S : Mem) (x0 : List Value) (Q : ByteArray → Mem → Prop) : Prop :=
  Tr Tryd.prog 8 S [valL x0] fun v S' => ∃ r0 : ByteArray, v = .string r0 ∧ Q r0 S'
def hermitcrablaw03_near (S : Mem) (x0 : List Value) (Q : List Value → Mem → Prop) : Prop :=
  Tr Tryd.prog 9 S [valL x0] fun v S' => ∃ r0 : List Value, v = valL r0 ∧ r0.length = 5 ∧ Q r0 S'
def text_Read (S : Mem) (x0 : ByteArray) (Q : List Value → Int → Mem → Prop) : Prop :=
  Tr Tryd.prog 10 S [.string x0] fun v S' => ∃ r0 : List Value, ∃ r1 : Int, v = .tuple #[valL r0, .int .i64 r1] ∧ r0.length = 5 ∧ Q r0 r1 S'
def hermitcrablaw03_awake (S : Mem) (Q : Bool → Mem → Prop) : Prop :=
  Tr Tryd.prog 11 S [] fun v S' => ∃ r0 : Bool, v = .bool r0 ∧ Q r0 S'
def hermitcrabref01_Text (S : Mem) (x0 : Int) (x1 : Int) (x2 : Int) (x3 : Int) (x4 : Int) (Q : ByteArray → Mem → Prop) : Prop :=
  Tr Tryd.prog 12 S [.int .u8 x0, .int .u8 x1, .int .u8 x2, .int .u8 x3, .int .i16 x4] fun v S' => ∃ r0 : ByteArray, v = .string r0 ∧ Q r0 S'
def text_List (S : Mem) (x0 : Sl) (Q : Sl → Mem → Prop) : Prop :=
  Tr Tryd.prog 13 S [eL x0] fun v S' => ∃ r0 : Sl, v = eL r0 ∧ Q r0 S'
def code_Decode (S : Mem) (x0 : Int) (Q : List Value → Bool → Mem → Prop) : Prop :=
  Tr Tryd.prog 14 S [.int .u32 x0] fun v S' => ∃ r0 : List Value, ∃ r1 : Bool, v = .tuple #[valL r0, .bool r1] ∧ r0.length = 5 ∧ Q r0 r1 S'
def text_Lay (S : Mem) (x0 : ByteArray) (Q : Sl → Int → Int → Mem → Prop) : Prop :=
  Tr Tryd.prog 15 S [.string x0] fun v S' => ∃ r0 : Sl, ∃ r1 : Int, ∃ r2 : Int, v = .tuple #[eL r0, .int .i64 r1, .int .i64 r2] ∧ Q r0 r1 r2 S'
def hermitcrabref01_Word (S : Mem) (x0 : Int) (x1 : Int) (x2 : Int) (x3 : Int) (x4 : Int) (Q : Int → Mem → Prop) : Prop :=
  Tr Tryd.prog 16 S [.int .u8 x0, .int .u8 x1, .int .u8 x2, .int .u8 x3, .int .i16 x4] fun v S' => ∃ r0 : Int, v = .int .u32 r0 ∧ Q r0 S'
def hermitcrabref01_Fields (S : Mem) (x0 : Int) (Q : Int → Mem → Prop) : Prop :=
  Tr Tryd.prog 17 S [.int .u8 x0] fun v S' => ∃ r0 : Int, v = .int .i64 r0 ∧ Q r0 S'
def code_Right (S : Mem) (x0 : List Value) (Q : Bool → Mem → Prop) : Prop :=
  Tr Tryd.prog 18 S [valL x0] fun v S' => ∃ r0 : Bool, v = .bool r0 ∧ Q r0 S'
def text_parts (S : Mem) (x0 : Int) (Q : ByteArray → Mem → Prop) : Prop :=
  Tr Tryd.prog 19 S [.int .u8 x0] fun v S' => ∃ r0 : ByteArray, v = .string r0 ∧ Q r0 S'
def strconv_Itoa (S : Mem) (x0 : Int) (Q : ByteArray → Mem → Prop) : Prop :=
  Tr Tryd.prog 20 S [.int .i64 x0] fun v S' => ∃ r0 : ByteArray, v = .string r0 ∧ Q r0 S'
def strings_Split (S : Mem) (x0 : ByteArray) (x1 : ByteArray) (Q : Sl → Mem → Prop) : Prop :=
  Tr Tryd.prog 21 S [.string x0, .string x1] fun v S' => ∃ r0 : Sl, v = eL r0 ∧ Q r0 S'
def strings_CutPrefix (S : Mem) (x0 : ByteArray) (x1 : ByteArray) (Q : ByteArray → Bool → Mem → Prop) : Prop :=
  Tr Tryd.prog 22 S [.string x0, .string x1] fun v S' => ∃ r0 : ByteArray, ∃ r1 : Bool, v = .tuple #[.string r0, .bool r1] ∧ Q r0 r1 S'
def strconv_ParseInt (S : Mem) (x0 : ByteArray) (x1 : Int) (x2 : Int) (Q : Int → Value → Mem → Prop) : Prop :=
  Tr Tryd.prog 23 S [.string x0, .int .i64 x1, .int .i64 x2] fun v S' => ∃ r0 : Int, ∃ r1 : Value, v = .tuple #[.int .i64 r0, r1] ∧ Q r0 r1 S'
def hermitcrabref01_Name (S : Mem) (x0 : Int) (Q : ByteArray → Mem → Prop) : Prop :=
  Tr Tryd.prog 24 S [.int .u8 x0] fun v S' => ∃ r0 : ByteArray, v = .string r0 ∧ Q r0 S'
def hermitcrabref01_Num (S : Mem) (x0 : Int) (Q : ByteArray → Mem → Prop) : Prop :=
  Tr Tryd.prog 25 S [.int .i64 x0] fun v S' => ∃ r0 : ByteArray, v = .string r0 ∧ Q r0 S'
def word_Field (S : Mem) (x0 : Int) (x1 : Int) (x2 : Int) (Q : Int → Mem → Prop) : Prop :=
  Tr Tryd.prog 26 S [.int .u64 x0, .int .i64 x1, .int .i64 x2] fun v S' => ∃ r0 : Int, v = .int .u64 r0 ∧ Q r0 S'
def code_fields (S : Mem) (x0 : Int) (Q : List Value → Mem → Prop) : Prop :=
  Tr Tryd.prog 27 S [.int .u8 x0] fun v S' => ∃ r0 : List Value, v = valL r0 ∧ r0.length = 4 ∧ Q r0 S'
def code_Encode (S : Mem) (x0 : List Value) (Q : Int → Bool → Mem → Prop) : Prop :=
  Tr Tryd.prog 28 S [valL x0] fun v S' => ∃ r0 : Int, ∃ r1 : Bool, v = .tuple #[.int .u32 r0, .bool r1] ∧ Q r0 r1 S'
def strings_Trim (S : Mem) (x0 : ByteArray) (x1 : ByteArray) (Q : ByteArray → Mem → Prop) : Prop :=
  Tr Tryd.prog 29 S [.string x0, .string x1] fun v S' => ∃ r0 : ByteArray, v = .string r0 ∧ Q r0 S'
def code_Right_f1 (S : Mem) (x0 : Bool) (x1 : Int) (Q : Bool → Mem → Prop) : Prop :=
  Tr Tryd.prog 30 S [.bool x0, .int .u8 x1] fun v S' => ∃ r0 : Bool, v = .bool r0 ∧ Q r0 S'
def strconv_Itoa_31 (S : Mem) (x0 : Int) (Q : ByteArray → Mem → Prop) : Prop :=
  Tr Tryd.prog 31 S [.int .i64 x0] fun v S' => ∃ r0 : ByteArray, v = .string r0 ∧ Q r0 S'
def strings_genSplit (S : Mem) (x0 : ByteArray) (x1 : ByteArray) (x2 : Int) (x3 : Int) (Q : Sl → Mem → Prop) : Prop :=
  Tr Tryd.prog 32 S [.string x0, .string x1, .int .i64 x2, .int .i64 x3] fun v S' => ∃ r0 : Sl, v = eL r0 ∧ Q r0 S'
def stringslite_CutPrefix (S : Mem) (x0 : ByteArray) (x1 : ByteArray) (Q : ByteArray → Bool → Mem → Prop) : Prop :=
  Tr Tryd.prog 33 S [.string x0, .string x1] fun v S' => ∃ r0 : ByteArray, ∃ r1 : Bool, v = .tuple #[.string r0, .bool r1] ∧ Q r0 r1 S'
def strconv_ParseInt_34 (S : Mem) (x0 : ByteArray) (x1 : Int) (x2 : Int) (Q : Int → Value → Mem → Prop) : Prop :=
  Tr Tryd.prog 34 S [.string x0, .int .i64 x1, .int .i64 x2] fun v S' => ∃ r0 : Int, ∃ r1 : Value, v = .tuple #[.int .i64 r0, r1] ∧ Q r0 r1 S'
def strconv_toError (S : Mem) (x0 : ByteArray) (x1 : ByteArray) (x2 : Int) (x3 : Int) (x4 : Value) (Q : Value → Mem → Prop) : Prop :=
  Tr Tryd.prog 35 S [.string x0, .string x1, .int .i64 x2, .int .i64 x3, x4] fun v S' => ∃ r0 : Value, v = r0 ∧ Q r0 S'
def word_With (S : Mem) (x0 : Int) (x1 : Int) (x2 : Int) (x3 : Int) (Q : Int → Mem → Prop) : Prop :=
  Tr Tryd.prog 36 S [.int .u64 x0, .int .i64 x1, .int .i64 x2, .int .u64 x3] fun v S' => ∃ r0 : Int, v = .int .u64 r0 ∧ Q r0 S'
def strings_trimLeftByte (S : Mem) (x0 : ByteArray) (x1 : Int) (Q : ByteArray → Mem → Prop) : Prop :=
  Tr Tryd.prog 37 S [.string x0, .int .u8 x1] fun v S' => ∃ r0 : ByteArray, v = .string r0 ∧ Q r0 S'
def strings_trimRightByte (S : Mem) (x0 : ByteArray) (x1 : Int) (Q : ByteArray → Mem → Prop) : Prop :=
  Tr Tryd.prog 38 S [.string x0, .int .u8 x1] fun v S' => ∃ r0 : ByteArray, v = .string r0 ∧ Q r0 S'
def strings_makeASCIISet (S : Mem) (x0 : ByteArray) (Q : List Value → Bool → Mem → Prop) : Prop :=
  Tr Tryd.prog 39 S [.string x0] fun v S' => ∃ r0 : List Value, ∃ r1 : Bool, v = .tuple #[valL r0, .bool r1] ∧ r0.length = 256 ∧ Q r0 r1 S'
def strings_trimLeftASCII (S : Mem) (x0 : ByteArray) (x1 : Pt) (Q : ByteArray → Mem → Prop) : Prop :=
  Tr Tryd.prog 40 S [.string x0, eP x1] fun v S' => ∃ r0 : ByteArray, v = .string r0 ∧ Q r0 S'
def strings_trimRightASCII (S : Mem) (x0 : ByteArray) (x1 : Pt) (Q : ByteArray → Mem → Prop) : Prop :=
  Tr Tryd.prog 41 S [.string x0, eP x1] fun v S' => ∃ r0 : ByteArray, v = .string r0 ∧ Q r0 S'
def strings_trimLeftUnicode (S : Mem) (x0 : ByteArray) (x1 : ByteArray) (Q : ByteArray → Mem → Prop) : Prop :=
  Tr Tryd.prog 42 S [.string x0, .string x1] fun v S' => ∃ r0 : ByteArray, v = .string r0 ∧ Q r0 S'
def strings_trimRightUnicode (S : Mem) (x0 : ByteArray) (x1 : ByteArray) (Q : ByteArray → Mem → Prop) : Prop :=
  Tr Tryd.prog 43 S [.string x0, .string x1] fun v S' => ∃ r0 : ByteArray, v = .string r0 ∧ Q r0 S'
def strconv_FormatInt (S : Mem) (x0 : Int) (x1 : Int) (Q : ByteArray → Mem → Prop) : Prop :=
  Tr Tryd.prog 44 S [.int .i64 x0, .int .i64 x1] fun v S' => ∃ r0 : ByteArray, v = .string r0 ∧ Q r0 S'
def strings_explode (S : Mem) (x0 : ByteArray) (x1 : Int) (Q : Sl → Mem → Prop) : Prop :=
  Tr Tryd.prog 45 S [.string x0, .int .i64 x1] fun v S' => ∃ r0 : Sl, v = eL r0 ∧ Q r0 S'
def strings_Count (S : Mem) (x0 : ByteArray) (x1 : ByteArray) (Q : Int → Mem → Prop) : Prop :=
  Tr Tryd.prog 46 S [.string x0, .string x1] fun v S' => ∃ r0 : Int, v = .int .i64 r0 ∧ Q r0 S'
def strings_Index (S : Mem) (x0 : ByteArray) (x1 : ByteArray) (Q : Int → Mem → Prop) : Prop :=
  Tr Tryd.prog 47 S [.string x0, .string x1] fun v S' => ∃ r0 : Int, v = .int .i64 r0 ∧ Q r0 S'
def stringslite_HasPrefix (S : Mem) (x0 : ByteArray) (x1 : ByteArray) (Q : Bool → Mem → Prop) : Prop :=
  Tr Tryd.prog 48 S [.string x0, .string x1] fun v S' => ∃ r0 : Bool, v = .bool r0 ∧ Q r0 S'
def strconv_ParseUint (S : Mem) (x0 : ByteArray) (x1 : Int) (x2 : Int) (Q : Int → Value → Mem → Prop) : Prop :=
  Tr Tryd.prog 49 S [.string x0, .int .i64 x1, .int .i64 x2] fun v S' => ∃ r0 : Int, ∃ r1 : Value, v = .tuple #[.int .u64 r0, r1] ∧ Q r0 r1 S'
def strconv_syntaxError (S : Mem) (x0 : ByteArray) (x1 : ByteArray) (Q : Pt → Mem → Prop) : Prop :=
  Tr Tryd.prog 50 S [.string x0, .string x1] fun v S' => ∃ r0 : Pt, v = eP r0 ∧ Q r0 S'
def strconv_rangeError (S : Mem) (x0 : ByteArray) (x1 : ByteArray) (Q : Pt → Mem → Prop) : Prop :=
  Tr Tryd.prog 51 S [.string x0, .string x1] fun v S' => ∃ r0 : Pt, v = eP r0 ∧ Q r0 S'
def strconv_baseError (S : Mem) (x0 : ByteArray) (x1 : ByteArray) (x2 : Int) (Q : Pt → Mem → Prop) : Prop :=
  Tr Tryd.prog 52 S [.string x0, .string x1, .int .i64 x2] fun v S' => ∃ r0 : Pt, v = eP r0 ∧ Q r0 S'
def strconv_bitSizeError (S : Mem) (x0 : ByteArray) (x1 : ByteArray) (x2 : Int) (Q : Pt → Mem → Prop) : Prop :=
  Tr Tryd.prog 53 S [.string x0, .string x1, .int .i64 x2] fun v S' => ∃ r0 : Pt, v = eP r0 ∧ Q r0 S'
def strings_asciiSet_contains (S : Mem) (x0 : Pt) (x1 : Int) (Q : Bool → Mem → Prop) : Prop :=
  Tr Tryd.prog 54 S [eP x0, .int .u8 x1] fun v S' => ∃ r0 : Bool, v = .bool r0 ∧ Q r0 S'
def unicode_utf8_DecodeRuneInString (S : Mem) (x0 : ByteArray) (Q : Int → Int → Mem → Prop) : Prop :=
  Tr Tryd.prog 55 S [.string x0] fun v S' => ∃ r0 : Int, ∃ r1 : Int, v = .tuple #[.int .i32 r0, .int .i64 r1] ∧ Q r0 r1 S'
def strings_ContainsRune (S : Mem) (x0 : ByteArray) (x1 : Int) (Q : Bool → Mem → Prop) : Prop :=
  Tr Tryd.prog 56 S [.string x0, .int .i32 x1] fun v S' => ∃ r0 : Bool, v = .bool r0 ∧ Q r0 S'
def unicode_utf8_DecodeLastRuneInString (S : Mem) (x0 : ByteArray) (Q : Int → Int → Mem → Prop) : Prop :=
  Tr Tryd.prog 57 S [.string x0] fun v S' => ∃ r0 : Int, ∃ r1 : Int, v = .tuple #[.int .i32 r0, .int .i64 r1] ∧ Q r0 r1 S'
def strconv_small (S : Mem) (x0 : Int) (Q : ByteArray → Mem → Prop) : Prop :=
  Tr Tryd.prog 58 S [.int .i64 x0] fun v S' => ∃ r0 : ByteArray, v = .string r0 ∧ Q r0 S'
def strconv_numDigits (S : Mem) (x0 : Int) (Q : Int → Mem → Prop) : Prop :=
  Tr Tryd.prog 59 S [.int .u64 x0] fun v S' => ∃ r0 : Int, v = .int .i64 r0 ∧ Q r0 S'
def strconv_formatBase10 (S : Mem) (x0 : Sl) (x1 : Int) (Q : Mem → Prop) : Prop :=
  Tr Tryd.prog 60 S [eL x0, .int .u64 x1] fun v S' => v = .tuple #[] ∧ Q S'
def strconv_formatBits (S : Mem) (x0 : Sl) (x1 : Int) (x2 : Int) (x3 : Bool) (x4 : Bool) (Q : Sl → ByteArray → Mem → Prop) : Prop :=
  Tr Tryd.prog 61 S [eL x0, .int .u64 x1, .int .i64 x2, .bool x3, .bool x4] fun v S' => ∃ r0 : Sl, ∃ r1 : ByteArray, v = .tuple #[eL r0, .string r1] ∧ Q r0 r1 S'
def unicode_utf8_RuneCountInString (S : Mem) (x0 : ByteArray) (Q : Int → Mem → Prop) : Prop :=
  Tr Tryd.prog 62 S [.string x0] fun v S' => ∃ r0 : Int, v = .int .i64 r0 ∧ Q r0 S'
def stringslite_Index (S : Mem) (x0 : ByteArray) (x1 : ByteArray) (Q : Int → Mem → Prop) : Prop :=
  Tr Tryd.prog 64 S [.string x0, .string x1] fun v S' => ∃ r0 : Int, v = .int .i64 r0 ∧ Q r0 S'
def strconv_lower (S : Mem) (x0 : Int) (Q : Int → Mem → Prop) : Prop :=
  Tr Tryd.prog 65 S [.int .u8 x0] fun v S' => ∃ r0 : Int, v = .int .u8 r0 ∧ Q r0 S'
def strconv_underscoreOK (S : Mem) (x0 : ByteArray) (Q : Bool → Mem → Prop) : Prop :=
  Tr Tryd.prog 66 S [.string x0] fun v S' => ∃ r0 : Bool, v = .bool r0 ∧ Q r0 S'
def stringslite_Clone (S : Mem) (x0 : ByteArray) (Q : ByteArray → Mem → Prop) : Prop :=
  Tr Tryd.prog 67 S [.string x0] fun v S' => ∃ r0 : ByteArray, v = .string r0 ∧ Q r0 S'
def errors_New (S : Mem) (x0 : ByteArray) (Q : Value → Mem → Prop) : Prop :=
  Tr Tryd.prog 68 S [.string x0] fun v S' => ∃ r0 : Value, v = r0 ∧ Q r0 S'
def unicode_utf8_decodeRuneInStringSlow (S : Mem) (x0 : ByteArray) (Q : Int → Int → Mem → Prop) : Prop :=
  Tr Tryd.prog 69 S [.string x0] fun v S' => ∃ r0 : Int, ∃ r1 : Int, v = .tuple #[.int .i32 r0, .int .i64 r1] ∧ Q r0 r1 S'
def unicode_utf8_RuneStart (S : Mem) (x0 : Int) (Q : Bool → Mem → Prop) : Prop :=
  Tr Tryd.prog 71 S [.int .u8 x0] fun v S' => ∃ r0 : Bool, v = .bool r0 ∧ Q r0 S'
def strconv_log10Pow2 (S : Mem) (x0 : Int) (Q : Int → Mem → Prop) : Prop :=
  Tr Tryd.prog 72 S [.int .i64 x0] fun v S' => ∃ r0 : Int, v = .int .i64 r0 ∧ Q r0 S'
def bits_Len64 (S : Mem) (x0 : Int) (Q : Int → Mem → Prop) : Prop :=
  Tr Tryd.prog 73 S [.int .u64 x0] fun v S' => ∃ r0 : Int, v = .int .i64 r0 ∧ Q r0 S'
def strconv_bool2_int (S : Mem) (x0 : Bool) (Q : Int → Mem → Prop) : Prop :=
  Tr Tryd.prog 74 S [.bool x0] fun v S' => ∃ r0 : Int, v = .int .i64 r0 ∧ Q r0 S'
def strconv_isPowerOfTwo (S : Mem) (x0 : Int) (Q : Bool → Mem → Prop) : Prop :=
  Tr Tryd.prog 75 S [.int .i64 x0] fun v S' => ∃ r0 : Bool, v = .bool r0 ∧ Q r0 S'
def bits_TrailingZeros (S : Mem) (x0 : Int) (Q : Int → Mem → Prop) : Prop :=
  Tr Tryd.prog 76 S [.int .u64 x0] fun v S' => ∃ r0 : Int, v = .int .i64 r0 ∧ Q r0 S'
def stringslite_IndexByte (S : Mem) (x0 : ByteArray) (x1 : Int) (Q : Int → Mem → Prop) : Prop :=
  Tr Tryd.prog 77 S [.string x0, .int .u8 x1] fun v S' => ∃ r0 : Int, v = .int .i64 r0 ∧ Q r0 S'
def bytealg_Cutover (S : Mem) (x0 : Int) (Q : Int → Mem → Prop) : Prop :=
  Tr Tryd.prog 79 S [.int .i64 x0] fun v S' => ∃ r0 : Int, v = .int .i64 r0 ∧ Q r0 S'
def bytealg_IndexRabinKarp_string (S : Mem) (x0 : ByteArray) (x1 : ByteArray) (Q : Int → Mem → Prop) : Prop :=
  Tr Tryd.prog 80 S [.string x0, .string x1] fun v S' => ∃ r0 : Int, v = .int .i64 r0 ∧ Q r0 S'
def strings_IndexByte (S : Mem) (x0 : ByteArray) (x1 : Int) (Q : Int → Mem → Prop) : Prop :=
  Tr Tryd.prog 81 S [.string x0, .int .u8 x1] fun v S' => ∃ r0 : Int, v = .int .i64 r0 ∧ Q r0 S'
def unicode_utf8_ValidRune (S : Mem) (x0 : Int) (Q : Bool → Mem → Prop) : Prop :=
  Tr Tryd.prog 82 S [.int .i32 x0] fun v S' => ∃ r0 : Bool, v = .bool r0 ∧ Q r0 S'
def bits_TrailingZeros32 (S : Mem) (x0 : Int) (Q : Int → Mem → Prop) : Prop :=
  Tr Tryd.prog 83 S [.int .u32 x0] fun v S' => ∃ r0 : Int, v = .int .i64 r0 ∧ Q r0 S'
def bits_TrailingZeros64 (S : Mem) (x0 : Int) (Q : Int → Mem → Prop) : Prop :=
  Tr Tryd.prog 84 S [.int .u64 x0] fun v S' => ∃ r0 : Int, v = .int .i64 r0 ∧ Q r0 S'
def bytealg_hashStr_string (S : Mem) (x0 : ByteArray) (Q : Int → Int → Mem → Prop) : Prop :=
  Tr Tryd.prog 86 S [.string x0] fun v S' => ∃ r0 : Int, ∃ r1 : Int, v = .tuple #[.int .u32 r0, .int .u32 r1] ∧ Q r0 r1 S'
def gosem_cut_vars (S : Mem) (Q : Mem → Prop) : Prop :=
  Tr Tryd.prog 116 S [] fun v S' => v = .tuple #[] ∧ Q S'
instance : EqT Tryd.prog 24 [.i .u8, .i .u8, .i .u8, .i .u8, .i .i16] := ⟨by kernel_rfl, by kernel_rfl, by kernel_rfl⟩
instance : BoolT Tryd.prog 4 := ⟨by kernel_rfl⟩
instance : StrT Tryd.prog 9 := ⟨by kernel_rfl⟩
instance : StrT Tryd.prog 10 := ⟨by kernel_rfl⟩
instance : StrT Tryd.prog 11 := ⟨by kernel_rfl⟩
instance : IfaceT Tryd.prog 20 := ⟨⟨_, Tryd.underlying20⟩⟩
instance : BytesT Tryd.prog 34 := ⟨⟨5, by kernel_rfl, by kernel_rfl⟩⟩
instance : IfaceT Tryd.prog 56 := ⟨⟨_, Tryd.underlying56⟩⟩
instance : IfaceT Tryd.prog 57 := ⟨⟨_, Tryd.underlying57⟩⟩
end Go.Proofs.YtpilffakhkagjaaDoor
