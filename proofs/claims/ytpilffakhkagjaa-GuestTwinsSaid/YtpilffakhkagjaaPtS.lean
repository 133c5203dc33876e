/- PRINTED BY pt.py (a program of this work): what a call of each function is, in words of the engine. -/
import Derived.Test.YtpilffakhkagjaaPtH
import Derived.Test.YtpilffakhkagjaaPtI
namespace Go.Proofs.Ytpilffakhkagjaa
open Go Go.Pt
def gosem_cut_init (S : Mem) (Q : Mem → Prop) : Prop :=
  Tr Try.prog 2 S [] fun v S' => v = .tuple #[] ∧ Q S'
def hermitcrablaw15_GuestMakes (S : Mem) (x0 : Int) (x1 : Int) (Q : Bool → Mem → Prop) : Prop :=
  Tr Try.prog 3 S [.int .i64 x0, .int .i64 x1] fun v S' => ∃ r0 : Bool, v = .bool r0 ∧ Q r0 S'
def hermitcrablaw23_IdealFree (S : Mem) (x0 : Sl) (Q : Bool → Mem → Prop) : Prop :=
  Tr Try.prog 4 S [eL x0] fun v S' => ∃ r0 : Bool, v = .bool r0 ∧ Q r0 S'
def hermitcrablaw15_GuestTwins (S : Mem) (x0 : List Value) (x1 : Int) (x2 : Int) (Q : Bool → Mem → Prop) : Prop :=
  Tr Try.prog 5 S [valL x0, .int .u8 x1, .int .u8 x2] fun v S' => ∃ r0 : Bool, v = .bool r0 ∧ Q r0 S'
def hermitcrablaw15_GuestNil (S : Mem) (x0 : Int) (x1 : Int) (x2 : List Value) (Q : Bool → Mem → Prop) : Prop :=
  Tr Try.prog 6 S [.int .i64 x0, .int .i64 x1, valL x2] fun v S' => ∃ r0 : Bool, v = .bool r0 ∧ Q r0 S'
def hermitcrablaw10_AlarmOnce (S : Mem) (x0 : Int) (x1 : Int) (x2 : Sl) (Q : Bool → Mem → Prop) : Prop :=
  Tr Try.prog 7 S [.int .u8 x0, .int .u8 x1, eL x2] fun v S' => ∃ r0 : Bool, v = .bool r0 ∧ Q r0 S'
def hermitcrablaw10_AlarmPlays (S : Mem) (x0 : Sl) (Q : Bool → Mem → Prop) : Prop :=
  Tr Try.prog 8 S [eL x0] fun v S' => ∃ r0 : Bool, v = .bool r0 ∧ Q r0 S'
def hermitcrablaw10_AlarmTwins (S : Mem) (x0 : Sl) (x1 : Int) (Q : Bool → Mem → Prop) : Prop :=
  Tr Try.prog 9 S [eL x0, .int .u64 x1] fun v S' => ∃ r0 : Bool, v = .bool r0 ∧ Q r0 S'
def hermitcrablaw10_AlarmNil (S : Mem) (x0 : Int) (x1 : Int) (x2 : Int) (Q : Bool → Mem → Prop) : Prop :=
  Tr Try.prog 10 S [.int .i64 x0, .int .i64 x1, .int .u64 x2] fun v S' => ∃ r0 : Bool, v = .bool r0 ∧ Q r0 S'
def guest_Make (S : Mem) (x0 : Int) (x1 : Int) (Q : List Value → Int → Mem → Prop) : Prop :=
  Tr Try.prog 11 S [.int .i64 x0, .int .i64 x1] fun v S' => ∃ r0 : List Value, ∃ r1 : Int, v = .tuple #[valL r0, .int .i64 r1] ∧ r0.length = 12 ∧ Q r0 r1 S'
def hermitcrablaw15_awake (S : Mem) (Q : Bool → Mem → Prop) : Prop :=
  Tr Try.prog 12 S [] fun v S' => ∃ r0 : Bool, v = .bool r0 ∧ Q r0 S'
def guest_Blank (S : Mem) (Q : List Value → Mem → Prop) : Prop :=
  Tr Try.prog 13 S [] fun v S' => ∃ r0 : List Value, v = valL r0 ∧ r0.length = 4 ∧ Q r0 S'
def hermitcrablaw23_awake (S : Mem) (Q : Bool → Mem → Prop) : Prop :=
  Tr Try.prog 14 S [] fun v S' => ∃ r0 : Bool, v = .bool r0 ∧ Q r0 S'
def ideal_New (S : Mem) (x0 : Int) (Q : Pt → Mem → Prop) : Prop :=
  Tr Try.prog 15 S [.int .i64 x0] fun v S' => ∃ r0 : Pt, v = eP r0 ∧ Q r0 S'
def ideal_Ideal_Create (S : Mem) (x0 : Pt) (x1 : Int) (x2 : Int) (x3 : Int) (x4 : Sl) (Q : Int → Int → Mem → Prop) : Prop :=
  Tr Try.prog 16 S [eP x0, .int .i64 x1, .int .i64 x2, .int .i64 x3, eL x4] fun v S' => ∃ r0 : Int, ∃ r1 : Int, v = .tuple #[.int .i64 r0, .int .i64 r1] ∧ Q r0 r1 S'
def ideal_Ideal_Destroy (S : Mem) (x0 : Pt) (x1 : Int) (Q : Int → Mem → Prop) : Prop :=
  Tr Try.prog 17 S [eP x0, .int .i64 x1] fun v S' => ∃ r0 : Int, v = .int .i64 r0 ∧ Q r0 S'
def ideal_Ideal_Free (S : Mem) (x0 : Pt) (Q : Int → Mem → Prop) : Prop :=
  Tr Try.prog 18 S [eP x0] fun v S' => ∃ r0 : Int, v = .int .i64 r0 ∧ Q r0 S'
def hermitcrablaw15_state (S : Mem) (x0 : List Value) (Q : Pt → Mem → Prop) : Prop :=
  Tr Try.prog 19 S [valL x0] fun v S' => ∃ r0 : Pt, v = eP r0 ∧ Q r0 S'
def guest_State_Twin (S : Mem) (x0 : Pt) (Q : Pt → Mem → Prop) : Prop :=
  Tr Try.prog 20 S [eP x0] fun v S' => ∃ r0 : Pt, v = eP r0 ∧ Q r0 S'
def guest_Same (S : Mem) (x0 : Pt) (x1 : Pt) (Q : Bool → Mem → Prop) : Prop :=
  Tr Try.prog 21 S [eP x0, eP x1] fun v S' => ∃ r0 : Bool, v = .bool r0 ∧ Q r0 S'
def guest_SameVM (S : Mem) (x0 : List Value) (x1 : List Value) (Q : Bool → Mem → Prop) : Prop :=
  Tr Try.prog 22 S [valL x0, valL x1] fun v S' => ∃ r0 : Bool, v = .bool r0 ∧ Q r0 S'
def guest_Copy (S : Mem) (x0 : List Value) (Q : List Value → Mem → Prop) : Prop :=
  Tr Try.prog 23 S [valL x0] fun v S' => ∃ r0 : List Value, v = valL r0 ∧ r0.length = 12 ∧ Q r0 S'
def owner_Book_Donate (S : Mem) (x0 : Pt) (x1 : Int) (x2 : Int) (x3 : Int) (Q : Int → Mem → Prop) : Prop :=
  Tr Try.prog 24 S [eP x0, .int .i64 x1, .int .i64 x2, .int .i64 x3] fun v S' => ∃ r0 : Int, v = .int .i64 r0 ∧ Q r0 S'
def owner_Book_Keep (S : Mem) (x0 : Pt) (x1 : Int) (x2 : Int) (Q : Int → Mem → Prop) : Prop :=
  Tr Try.prog 25 S [eP x0, .int .i64 x1, .int .i64 x2] fun v S' => ∃ r0 : Int, v = .int .i64 r0 ∧ Q r0 S'
def alarm_Clock_Shift (S : Mem) (x0 : Pt) (x1 : Int) (Q : Mem → Prop) : Prop :=
  Tr Try.prog 26 S [eP x0, .int .u64 x1] fun v S' => v = .tuple #[] ∧ Q S'
def owner_Book_Count (S : Mem) (x0 : Pt) (x1 : Int) (x2 : Int) (Q : Int → Mem → Prop) : Prop :=
  Tr Try.prog 27 S [eP x0, .int .u8 x1, .int .i64 x2] fun v S' => ∃ r0 : Int, v = .int .i64 r0 ∧ Q r0 S'
def guest_State_There (S : Mem) (x0 : Pt) (x1 : Int) (Q : Bool → Mem → Prop) : Prop :=
  Tr Try.prog 28 S [eP x0, .int .i64 x1] fun v S' => ∃ r0 : Bool, v = .bool r0 ∧ Q r0 S'
def guest_State_Seat (S : Mem) (x0 : Pt) (x1 : Int) (x2 : Int) (Q : Pt → Mem → Prop) : Prop :=
  Tr Try.prog 29 S [eP x0, .int .i64 x1, .int .i64 x2] fun v S' => ∃ r0 : Pt, v = eP r0 ∧ Q r0 S'
def guest_State_Ready (S : Mem) (x0 : Pt) (Q : List Value → Mem → Prop) : Prop :=
  Tr Try.prog 30 S [eP x0] fun v S' => ∃ r0 : List Value, v = valL r0 ∧ r0.length = 18 ∧ Q r0 S'
def guest_State_Joined (S : Mem) (x0 : Pt) (x1 : Int) (x2 : Int) (Q : Bool → Mem → Prop) : Prop :=
  Tr Try.prog 31 S [eP x0, .int .i64 x1, .int .i64 x2] fun v S' => ∃ r0 : Bool, v = .bool r0 ∧ Q r0 S'
def store_New (S : Mem) (x0 : Int) (Q : Pt → Mem → Prop) : Prop :=
  Tr Try.prog 32 S [.int .i64 x0] fun v S' => ∃ r0 : Pt, v = eP r0 ∧ Q r0 S'
def store_Store_Frames (S : Mem) (x0 : Pt) (Q : Int → Mem → Prop) : Prop :=
  Tr Try.prog 33 S [eP x0] fun v S' => ∃ r0 : Int, v = .int .i64 r0 ∧ Q r0 S'
def hermitcrabref12_Line (S : Mem) (x0 : List Value) (Q : Int → Mem → Prop) : Prop :=
  Tr Try.prog 34 S [valL x0] fun v S' => ∃ r0 : Int, v = .int .i64 r0 ∧ Q r0 S'
def hermitcrablaw10_awake (S : Mem) (Q : Bool → Mem → Prop) : Prop :=
  Tr Try.prog 35 S [] fun v S' => ∃ r0 : Bool, v = .bool r0 ∧ Q r0 S'
def alarm_Clock_Set (S : Mem) (x0 : Pt) (x1 : Int) (x2 : Int) (x3 : Int) (Q : Int → Mem → Prop) : Prop :=
  Tr Try.prog 36 S [eP x0, .int .i64 x1, .int .i64 x2, .int .u64 x3] fun v S' => ∃ r0 : Int, v = .int .i64 r0 ∧ Q r0 S'
def alarm_Clock_Due (S : Mem) (x0 : Pt) (x1 : Int) (Q : Sl → Mem → Prop) : Prop :=
  Tr Try.prog 37 S [eP x0, .int .u64 x1] fun v S' => ∃ r0 : Sl, v = eL r0 ∧ Q r0 S'
def alarm_Clock_Drop (S : Mem) (x0 : Pt) (x1 : Int) (x2 : Int) (Q : Mem → Prop) : Prop :=
  Tr Try.prog 38 S [eP x0, .int .i64 x1, .int .i64 x2] fun v S' => v = .tuple #[] ∧ Q S'
def alarm_Clock_DropVM (S : Mem) (x0 : Pt) (x1 : Int) (Q : Mem → Prop) : Prop :=
  Tr Try.prog 39 S [eP x0, .int .i64 x1] fun v S' => v = .tuple #[] ∧ Q S'
def alarm_Clock_All (S : Mem) (x0 : Pt) (Q : Sl → Mem → Prop) : Prop :=
  Tr Try.prog 40 S [eP x0] fun v S' => ∃ r0 : Sl, v = eL r0 ∧ Q r0 S'
def alarm_Clock_Twin (S : Mem) (x0 : Pt) (Q : Pt → Mem → Prop) : Prop :=
  Tr Try.prog 41 S [eP x0] fun v S' => ∃ r0 : Pt, v = eP r0 ∧ Q r0 S'
def seat_New (S : Mem) (Q : List Value → Mem → Prop) : Prop :=
  Tr Try.prog 42 S [] fun v S' => ∃ r0 : List Value, v = valL r0 ∧ r0.length = 26 ∧ Q r0 S'
def ideal_Ideal_there (S : Mem) (x0 : Pt) (x1 : Int) (Q : Bool → Mem → Prop) : Prop :=
  Tr Try.prog 43 S [eP x0, .int .i64 x1] fun v S' => ∃ r0 : Bool, v = .bool r0 ∧ Q r0 S'
def lease_Book_Of (S : Mem) (x0 : List Value) (x1 : Int) (Q : Sl → Mem → Prop) : Prop :=
  Tr Try.prog 44 S [valL x0, .int .i64 x1] fun v S' => ∃ r0 : Sl, v = eL r0 ∧ Q r0 S'
def lease_Book_Get (S : Mem) (x0 : List Value) (x1 : Int) (Q : List Value → Int → Mem → Prop) : Prop :=
  Tr Try.prog 45 S [valL x0, .int .i64 x1] fun v S' => ∃ r0 : List Value, ∃ r1 : Int, v = .tuple #[valL r0, .int .i64 r1] ∧ r0.length = 6 ∧ Q r0 r1 S'
def lease_Book_Drop (S : Mem) (x0 : List Value) (x1 : Int) (Q : List Value → Mem → Prop) : Prop :=
  Tr Try.prog 46 S [valL x0, .int .i64 x1] fun v S' => ∃ r0 : List Value, v = valL r0 ∧ r0.length = 96 ∧ Q r0 S'
def ideal_Ideal_pages (S : Mem) (x0 : Pt) (x1 : Int) (Q : Int → Mem → Prop) : Prop :=
  Tr Try.prog 47 S [eP x0, .int .i64 x1] fun v S' => ∃ r0 : Int, v = .int .i64 r0 ∧ Q r0 S'
def guest_New (S : Mem) (x0 : Int) (x1 : Int) (Q : Pt → Mem → Prop) : Prop :=
  Tr Try.prog 48 S [.int .i64 x0, .int .i64 x1] fun v S' => ∃ r0 : Pt, v = eP r0 ∧ Q r0 S'
def owner_Book_Twin (S : Mem) (x0 : Pt) (Q : Pt → Mem → Prop) : Prop :=
  Tr Try.prog 49 S [eP x0] fun v S' => ∃ r0 : Pt, v = eP r0 ∧ Q r0 S'
def slices_EqualFunc_owner_Row_owner_Row_owner_Row_owner_Row (S : Mem) (x0 : Sl) (x1 : Sl) (x2 : Value) (Q : Bool → Mem → Prop) : Prop :=
  Tr Try.prog 50 S [eL x0, eL x1, x2] fun v S' => ∃ r0 : Bool, v = .bool r0 ∧ Q r0 S'
def guest_Same_f1 (S : Mem) (x0 : List Value) (x1 : List Value) (Q : Bool → Mem → Prop) : Prop :=
  Tr Try.prog 51 S [valL x0, valL x1] fun v S' => ∃ r0 : Bool, v = .bool r0 ∧ Q r0 S'
def slices_Equal_api_Seat_api_Seat (S : Mem) (x0 : Sl) (x1 : Sl) (Q : Bool → Mem → Prop) : Prop :=
  Tr Try.prog 52 S [eL x0, eL x1] fun v S' => ∃ r0 : Bool, v = .bool r0 ∧ Q r0 S'
def bytes_Equal (S : Mem) (x0 : Sl) (x1 : Sl) (Q : Bool → Mem → Prop) : Prop :=
  Tr Try.prog 53 S [eL x0, eL x1] fun v S' => ∃ r0 : Bool, v = .bool r0 ∧ Q r0 S'
def slices_Clone_api_Seat_api_Seat (S : Mem) (x0 : Sl) (Q : Sl → Mem → Prop) : Prop :=
  Tr Try.prog 54 S [eL x0] fun v S' => ∃ r0 : Sl, v = eL r0 ∧ Q r0 S'
def bytes_Clone (S : Mem) (x0 : Sl) (Q : Sl → Mem → Prop) : Prop :=
  Tr Try.prog 55 S [eL x0] fun v S' => ∃ r0 : Sl, v = eL r0 ∧ Q r0 S'
def slices_Clone_int_int (S : Mem) (x0 : Sl) (Q : Sl → Mem → Prop) : Prop :=
  Tr Try.prog 56 S [eL x0] fun v S' => ∃ r0 : Sl, v = eL r0 ∧ Q r0 S'
def owner_Book_row (S : Mem) (x0 : Pt) (x1 : Int) (Q : Pt → Int → Mem → Prop) : Prop :=
  Tr Try.prog 57 S [eP x0, .int .i64 x1] fun v S' => ∃ r0 : Pt, ∃ r1 : Int, v = .tuple #[eP r0, .int .i64 r1] ∧ Q r0 r1 S'
def owner_vm (S : Mem) (x0 : Int) (x1 : Int) (Q : Bool → Mem → Prop) : Prop :=
  Tr Try.prog 58 S [.int .i64 x0, .int .i64 x1] fun v S' => ∃ r0 : Bool, v = .bool r0 ∧ Q r0 S'
def heap_Init (S : Mem) (x0 : Value) (Q : Mem → Prop) : Prop :=
  Tr Try.prog 59 S [x0] fun v S' => v = .tuple #[] ∧ Q S'
def turn_Number (S : Mem) (x0 : Int) (x1 : Int) (Q : Int → Mem → Prop) : Prop :=
  Tr Try.prog 60 S [.int .i64 x0, .int .i64 x1] fun v S' => ∃ r0 : Int, v = .int .i64 r0 ∧ Q r0 S'
def heap_Push (S : Mem) (x0 : Value) (x1 : Value) (Q : Mem → Prop) : Prop :=
  Tr Try.prog 61 S [x0, x1] fun v S' => v = .tuple #[] ∧ Q S'
def heap_Pop (S : Mem) (x0 : Value) (Q : Value → Mem → Prop) : Prop :=
  Tr Try.prog 62 S [x0] fun v S' => ∃ r0 : Value, v = r0 ∧ Q r0 S'
def alarm_Clock_drop (S : Mem) (x0 : Pt) (x1 : Value) (Q : Mem → Prop) : Prop :=
  Tr Try.prog 63 S [eP x0, x1] fun v S' => v = .tuple #[] ∧ Q S'
def alarm_Clock_Drop_f1 (S : Mem) (x0 : List Value) (x1 : Pt) (x2 : Pt) (Q : Bool → Mem → Prop) : Prop :=
  Tr Try.prog 64 S [valL x0, eP x1, eP x2] fun v S' => ∃ r0 : Bool, v = .bool r0 ∧ Q r0 S'
def alarm_Clock_DropVM_f1 (S : Mem) (x0 : List Value) (x1 : Pt) (Q : Bool → Mem → Prop) : Prop :=
  Tr Try.prog 65 S [valL x0, eP x1] fun v S' => ∃ r0 : Bool, v = .bool r0 ∧ Q r0 S'
def slices_Clone_alarm_Alarm_alarm_Alarm (S : Mem) (x0 : Sl) (Q : Sl → Mem → Prop) : Prop :=
  Tr Try.prog 66 S [eL x0] fun v S' => ∃ r0 : Sl, v = eL r0 ∧ Q r0 S'
def slices_SortFunc_alarm_Alarm_alarm_Alarm (S : Mem) (x0 : Sl) (x1 : Value) (Q : Mem → Prop) : Prop :=
  Tr Try.prog 67 S [eL x0, x1] fun v S' => v = .tuple #[] ∧ Q S'
def alarm_Clock_All_f1 (S : Mem) (x0 : List Value) (x1 : List Value) (Q : Int → Mem → Prop) : Prop :=
  Tr Try.prog 68 S [valL x0, valL x1] fun v S' => ∃ r0 : Int, v = .int .i64 r0 ∧ Q r0 S'
def alarm_Alarm_before (S : Mem) (x0 : List Value) (x1 : List Value) (Q : Bool → Mem → Prop) : Prop :=
  Tr Try.prog 69 S [valL x0, valL x1] fun v S' => ∃ r0 : Bool, v = .bool r0 ∧ Q r0 S'
def slices_Clone_alarm_row_alarm_Alarm (S : Mem) (x0 : Sl) (Q : Sl → Mem → Prop) : Prop :=
  Tr Try.prog 70 S [eL x0] fun v S' => ∃ r0 : Sl, v = eL r0 ∧ Q r0 S'
def owner_New (S : Mem) (x0 : Int) (Q : Pt → Mem → Prop) : Prop :=
  Tr Try.prog 71 S [.int .i64 x0] fun v S' => ∃ r0 : Pt, v = eP r0 ∧ Q r0 S'
def heap_down (S : Mem) (x0 : Value) (x1 : Int) (x2 : Int) (Q : Bool → Mem → Prop) : Prop :=
  Tr Try.prog 72 S [x0, .int .i64 x1, .int .i64 x2] fun v S' => ∃ r0 : Bool, v = .bool r0 ∧ Q r0 S'
def heap_up (S : Mem) (x0 : Value) (x1 : Int) (Q : Mem → Prop) : Prop :=
  Tr Try.prog 73 S [x0, .int .i64 x1] fun v S' => v = .tuple #[] ∧ Q S'
def slices_DeleteFunc_alarm_row_alarm_Alarm (S : Mem) (x0 : Sl) (x1 : Value) (Q : Sl → Mem → Prop) : Prop :=
  Tr Try.prog 74 S [eL x0, x1] fun v S' => ∃ r0 : Sl, v = eL r0 ∧ Q r0 S'
def slices_pdqsortCmpFunc_alarm_Alarm (S : Mem) (x0 : Sl) (x1 : Int) (x2 : Int) (x3 : Int) (x4 : Value) (Q : Mem → Prop) : Prop :=
  Tr Try.prog 75 S [eL x0, .int .i64 x1, .int .i64 x2, .int .i64 x3, x4] fun v S' => v = .tuple #[] ∧ Q S'
def bits_Len (S : Mem) (x0 : Int) (Q : Int → Mem → Prop) : Prop :=
  Tr Try.prog 76 S [.int .u64 x0] fun v S' => ∃ r0 : Int, v = .int .i64 r0 ∧ Q r0 S'
def slices_IndexFunc_alarm_row_alarm_Alarm (S : Mem) (x0 : Sl) (x1 : Value) (Q : Int → Mem → Prop) : Prop :=
  Tr Try.prog 77 S [eL x0, x1] fun v S' => ∃ r0 : Int, v = .int .i64 r0 ∧ Q r0 S'
def slices_insertionSortCmpFunc_alarm_Alarm (S : Mem) (x0 : Sl) (x1 : Int) (x2 : Int) (x3 : Value) (Q : Mem → Prop) : Prop :=
  Tr Try.prog 78 S [eL x0, .int .i64 x1, .int .i64 x2, x3] fun v S' => v = .tuple #[] ∧ Q S'
def slices_heapSortCmpFunc_alarm_Alarm (S : Mem) (x0 : Sl) (x1 : Int) (x2 : Int) (x3 : Value) (Q : Mem → Prop) : Prop :=
  Tr Try.prog 79 S [eL x0, .int .i64 x1, .int .i64 x2, x3] fun v S' => v = .tuple #[] ∧ Q S'
def slices_breakPatternsCmpFunc_alarm_Alarm (S : Mem) (x0 : Sl) (x1 : Int) (x2 : Int) (x3 : Value) (Q : Mem → Prop) : Prop :=
  Tr Try.prog 80 S [eL x0, .int .i64 x1, .int .i64 x2, x3] fun v S' => v = .tuple #[] ∧ Q S'
def slices_choosePivotCmpFunc_alarm_Alarm (S : Mem) (x0 : Sl) (x1 : Int) (x2 : Int) (x3 : Value) (Q : Int → Int → Mem → Prop) : Prop :=
  Tr Try.prog 81 S [eL x0, .int .i64 x1, .int .i64 x2, x3] fun v S' => ∃ r0 : Int, ∃ r1 : Int, v = .tuple #[.int .i64 r0, .int .i64 r1] ∧ Q r0 r1 S'
def slices_reverseRangeCmpFunc_alarm_Alarm (S : Mem) (x0 : Sl) (x1 : Int) (x2 : Int) (x3 : Value) (Q : Mem → Prop) : Prop :=
  Tr Try.prog 82 S [eL x0, .int .i64 x1, .int .i64 x2, x3] fun v S' => v = .tuple #[] ∧ Q S'
def slices_partialInsertionSortCmpFunc_alarm_Alarm (S : Mem) (x0 : Sl) (x1 : Int) (x2 : Int) (x3 : Value) (Q : Bool → Mem → Prop) : Prop :=
  Tr Try.prog 83 S [eL x0, .int .i64 x1, .int .i64 x2, x3] fun v S' => ∃ r0 : Bool, v = .bool r0 ∧ Q r0 S'
def slices_partitionEqualCmpFunc_alarm_Alarm (S : Mem) (x0 : Sl) (x1 : Int) (x2 : Int) (x3 : Int) (x4 : Value) (Q : Int → Mem → Prop) : Prop :=
  Tr Try.prog 84 S [eL x0, .int .i64 x1, .int .i64 x2, .int .i64 x3, x4] fun v S' => ∃ r0 : Int, v = .int .i64 r0 ∧ Q r0 S'
def slices_partitionCmpFunc_alarm_Alarm (S : Mem) (x0 : Sl) (x1 : Int) (x2 : Int) (x3 : Int) (x4 : Value) (Q : Int → Bool → Mem → Prop) : Prop :=
  Tr Try.prog 85 S [eL x0, .int .i64 x1, .int .i64 x2, .int .i64 x3, x4] fun v S' => ∃ r0 : Int, ∃ r1 : Bool, v = .tuple #[.int .i64 r0, .bool r1] ∧ Q r0 r1 S'
def bits_Len32 (S : Mem) (x0 : Int) (Q : Int → Mem → Prop) : Prop :=
  Tr Try.prog 86 S [.int .u32 x0] fun v S' => ∃ r0 : Int, v = .int .i64 r0 ∧ Q r0 S'
def bits_Len64 (S : Mem) (x0 : Int) (Q : Int → Mem → Prop) : Prop :=
  Tr Try.prog 87 S [.int .u64 x0] fun v S' => ∃ r0 : Int, v = .int .i64 r0 ∧ Q r0 S'
def slices_siftDownCmpFunc_alarm_Alarm (S : Mem) (x0 : Sl) (x1 : Int) (x2 : Int) (x3 : Int) (x4 : Value) (Q : Mem → Prop) : Prop :=
  Tr Try.prog 88 S [eL x0, .int .i64 x1, .int .i64 x2, .int .i64 x3, x4] fun v S' => v = .tuple #[] ∧ Q S'
def slices_nextPowerOfTwo (S : Mem) (x0 : Int) (Q : Int → Mem → Prop) : Prop :=
  Tr Try.prog 89 S [.int .i64 x0] fun v S' => ∃ r0 : Int, v = .int .u64 r0 ∧ Q r0 S'
def slices_xorshift_Next (S : Mem) (x0 : Pt) (Q : Int → Mem → Prop) : Prop :=
  Tr Try.prog 90 S [eP x0] fun v S' => ∃ r0 : Int, v = .int .u64 r0 ∧ Q r0 S'
def slices_medianAdjacentCmpFunc_alarm_Alarm (S : Mem) (x0 : Sl) (x1 : Int) (x2 : Pt) (x3 : Value) (Q : Int → Mem → Prop) : Prop :=
  Tr Try.prog 91 S [eL x0, .int .i64 x1, eP x2, x3] fun v S' => ∃ r0 : Int, v = .int .i64 r0 ∧ Q r0 S'
def slices_medianCmpFunc_alarm_Alarm (S : Mem) (x0 : Sl) (x1 : Int) (x2 : Int) (x3 : Int) (x4 : Pt) (x5 : Value) (Q : Int → Mem → Prop) : Prop :=
  Tr Try.prog 92 S [eL x0, .int .i64 x1, .int .i64 x2, .int .i64 x3, eP x4, x5] fun v S' => ∃ r0 : Int, v = .int .i64 r0 ∧ Q r0 S'
def slices_order2CmpFunc_alarm_Alarm (S : Mem) (x0 : Sl) (x1 : Int) (x2 : Int) (x3 : Pt) (x4 : Value) (Q : Int → Int → Mem → Prop) : Prop :=
  Tr Try.prog 93 S [eL x0, .int .i64 x1, .int .i64 x2, eP x3, x4] fun v S' => ∃ r0 : Int, ∃ r1 : Int, v = .tuple #[.int .i64 r0, .int .i64 r1] ∧ Q r0 r1 S'
def alarm_row_Len (S : Mem) (x0 : Sl) (Q : Int → Mem → Prop) : Prop :=
  Tr Try.prog 114 S [eL x0] fun v S' => ∃ r0 : Int, v = .int .i64 r0 ∧ Q r0 S'
def alarm_row_Less (S : Mem) (x0 : Sl) (x1 : Int) (x2 : Int) (Q : Bool → Mem → Prop) : Prop :=
  Tr Try.prog 115 S [eL x0, .int .i64 x1, .int .i64 x2] fun v S' => ∃ r0 : Bool, v = .bool r0 ∧ Q r0 S'
def alarm_row_Swap (S : Mem) (x0 : Sl) (x1 : Int) (x2 : Int) (Q : Mem → Prop) : Prop :=
  Tr Try.prog 116 S [eL x0, .int .i64 x1, .int .i64 x2] fun v S' => v = .tuple #[] ∧ Q S'
def alarm_row_Pop (S : Mem) (x0 : Pt) (Q : Value → Mem → Prop) : Prop :=
  Tr Try.prog 117 S [eP x0] fun v S' => ∃ r0 : Value, v = r0 ∧ Q r0 S'
def alarm_row_Push (S : Mem) (x0 : Pt) (x1 : Value) (Q : Mem → Prop) : Prop :=
  Tr Try.prog 118 S [eP x0, x1] fun v S' => v = .tuple #[] ∧ Q S'
def ck63 : List CK := [.b, .i .i64, .i .i64, .i .i64, .b, .i .i64, .b, .i .i64, .i .i64, .i .i64, .b, .i .i64, .b, .i .i64, .i .i64, .i .i64, .b, .i .i64, .b, .i .i64, .i .i64, .i .i64, .b, .i .i64, .b, .i .i64, .i .i64, .i .i64, .b, .i .i64, .b, .i .i64, .i .i64, .i .i64, .b, .i .i64, .b, .i .i64, .i .i64, .i .i64, .b, .i .i64, .b, .i .i64, .i .i64, .i .i64, .b, .i .i64, .b, .i .i64, .i .i64, .i .i64, .b, .i .i64, .b, .i .i64, .i .i64, .i .i64, .b, .i .i64, .b, .i .i64, .i .i64, .i .i64, .b, .i .i64, .b, .i .i64, .i .i64, .i .i64, .b, .i .i64, .b, .i .i64, .i .i64, .i .i64, .b, .i .i64, .b, .i .i64, .i .i64, .i .i64, .b, .i .i64, .b, .i .i64, .i .i64, .i .i64, .b, .i .i64, .b, .i .i64, .i .i64, .i .i64, .b, .i .i64]
instance : EqT Try.prog 63 ck63 := ⟨by kernel_rfl, by kernel_rfl, by kernel_rfl⟩
instance : EqT Try.prog 66 [.i .i64, .i .i64, .i .i64, .i .i64, .i .i64, .i .i64, .i .i64, .i .i64, .i .i64, .i .i64, .i .i64, .i .i64, .i .i64, .i .i64, .i .i64, .i .i64, .i .i64, .i .i64] := ⟨by kernel_rfl, by kernel_rfl, by kernel_rfl⟩
instance : EqT Try.prog 72 [.i .u64, .i .u64, .i .u64, .i .u64, .i .u64, .i .u64, .i .u64, .i .u64, .i .u64, .i .u64, .i .u64, .i .u64, .i .u64, .i .u64, .i .u64, .i .u64, .i .u64, .i .u64, .i .u64, .i .u64, .i .u64, .i .u64, .b, .i .u8, .i .u32, .i .u32] := ⟨by kernel_rfl, by kernel_rfl, by kernel_rfl⟩
instance : EqT Try.prog 81 [.b, .b, .b, .b, .b, .b, .b, .b, .b, .b, .b, .b, .b, .b, .b, .b, .b, .b] := ⟨by kernel_rfl, by kernel_rfl, by kernel_rfl⟩
instance : EqT Try.prog 95 [.i .u64, .i .i64, .i .i64] := ⟨by kernel_rfl, by kernel_rfl, by kernel_rfl⟩
instance : EqT Try.prog 135 [.i .u8, .i .i64, .i .i64, .i .i64] := ⟨by kernel_rfl, by kernel_rfl, by kernel_rfl⟩
instance : BoolT Try.prog 4 := ⟨by kernel_rfl⟩
instance : StrT Try.prog 9 := ⟨by kernel_rfl⟩
instance : StrT Try.prog 10 := ⟨by kernel_rfl⟩
instance : StrT Try.prog 11 := ⟨by kernel_rfl⟩
instance : BytesT Try.prog 27 := ⟨⟨5, by kernel_rfl, by kernel_rfl⟩⟩
end Go.Proofs.Ytpilffakhkagjaa
