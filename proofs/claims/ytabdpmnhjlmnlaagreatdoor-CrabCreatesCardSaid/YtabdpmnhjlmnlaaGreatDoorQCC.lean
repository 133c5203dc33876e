/- Texts of this work,joined by program (pack.py): PtS,PsN. -/
import Derived.Test.YtabdpmnhjlmnlaaGreatDoorQCB
set_option linter.unusedVariables false
section
namespace Go.Proofs.YtabdpmnhjlmnlaaGreatDoor
open Go Go.Pt
def kz (S:Mem) (x0:Int) (x1:Int) (x2:Int) (x3:Sl) (x4:Int) (Q:Bool→Mem→Prop):Prop:=
 Tr Tryz.prog 9 S [.int .i64 x0,.int .i64 x1,.int .i64 x2,eL x3,.int .u8 x4] fun v S'=>∃ r0:Bool,v=.bool r0∧Q r0 S'
def xO (S:Mem) (x0:Int) (Q:Pt→Mem→Prop):Prop:=
 Tr Tryz.prog 17 S [.int .i64 x0] fun v S'=>∃ r0:Pt,v=eP r0∧Q r0 S'
def qV (S:Mem) (x0:Pt) (x1:Int) (x2:Int) (x3:Int) (x4:Sl) (Q:Int→Int→Mem→Prop):Prop:=
 Tr Tryz.prog 19 S [eP x0,.int .i64 x1,.int .i64 x2,.int .i64 x3,eL x4] fun v S'=>∃ r0:Int,∃ r1:Int,v=.tuple #[.int .i64 r0,.int .i64 r1]∧Q r0 r1 S'
def zej (S:Mem) (x0:List Value) (x1:Int) (x2:Int) (x3:List Value) (Q:List Value→Mem→Prop):Prop:=
 Tr Tryz.prog 25 S [valL x0,.int .i64 x1,.int .u64 x2,valL x3] fun v S'=>∃ r0:List Value,v=valL r0∧r0.length=4∧Q r0 S'
def qL (S:Mem) (Q:Bool→Mem→Prop):Prop:=
 Tr Tryz.prog 27 S [] fun v S'=>∃ r0:Bool,v=.bool r0∧Q r0 S'
def zbI (S:Mem) (x0:Int) (x1:Int) (x2:Int) (Q:Pt→Int→Mem→Prop):Prop:=
 Tr Tryz.prog 28 S [.int .i64 x0,.int .i64 x1,.int .i64 x2] fun v S'=>∃ r0:Pt,∃ r1:Int,v=.tuple #[eP r0,.int .i64 r1]∧Q r0 r1 S'
def yI (S:Mem) (x0:Pt) (x1:Int) (x2:Int) (x3:Int) (x4:Sl) (Q:Int→Int→Mem→Prop):Prop:=
 Tr Tryz.prog 30 S [eP x0,.int .i64 x1,.int .i64 x2,.int .i64 x3,eL x4] fun v S'=>∃ r0:Int,∃ r1:Int,v=.tuple #[.int .i64 r0,.int .i64 r1]∧Q r0 r1 S'
def wo (S:Mem) (x0:Pt) (x1:Int) (x2:Int) (Q:Int→Mem→Prop):Prop:=
 Tr Tryz.prog 31 S [eP x0,.int .i64 x1,.int .i64 x2] fun v S'=>∃ r0:Int,v=.int .i64 r0∧Q r0 S'
def yH (S:Mem) (x0:Pt) (x1:Int) (Q:Sl→Mem→Prop):Prop:=
 Tr Tryz.prog 32 S [eP x0,.int .i64 x1] fun v S'=>∃ r0:Sl,v=eL r0∧Q r0 S'
def vj (S:Mem) (x0:Pt) (Q:Int→Mem→Prop):Prop:=
 Tr Tryz.prog 34 S [eP x0] fun v S'=>∃ r0:Int,v=.int .i64 r0∧Q r0 S'
def ya (S:Mem) (x0:Pt) (Q:Int→Mem→Prop):Prop:=
 Tr Tryz.prog 35 S [eP x0] fun v S'=>∃ r0:Int,v=.int .i64 r0∧Q r0 S'
def yl (S:Mem) (x0:Pt) (x1:Pt) (Q:Bool→Mem→Prop):Prop:=
 Tr Tryz.prog 37 S [eP x0,eP x1] fun v S'=>∃ r0:Bool,v=.bool r0∧Q r0 S'
def xk (S:Mem) (x0:Pt) (x1:Int) (Q:Int→Mem→Prop):Prop:=
 Tr Tryz.prog 38 S [eP x0,.int .i64 x1] fun v S'=>∃ r0:Int,v=.int .i64 r0∧Q r0 S'
def qQ (S:Mem) (x0:Pt) (x1:Int) (Q:Int→Mem→Prop):Prop:=
 Tr Tryz.prog 39 S [eP x0,.int .i64 x1] fun v S'=>∃ r0:Int,v=.int .i64 r0∧Q r0 S'
def xd (S:Mem) (x0:Pt) (x1:Int) (Q:Int→Mem→Prop):Prop:=
 Tr Tryz.prog 40 S [eP x0,.int .i64 x1] fun v S'=>∃ r0:Int,v=.int .i64 r0∧Q r0 S'
def fR (S:Mem) (x0:Int) (Q:Int→Mem→Prop):Prop:=
 Tr Tryz.prog 43 S [.int .u64 x0] fun v S'=>∃ r0:Int,v=.int .i64 r0∧Q r0 S'
def gN (S:Mem) (x0:Int) (Q:Pt→Mem→Prop):Prop:=
 Tr Tryz.prog 50 S [.int .i64 x0] fun v S'=>∃ r0:Pt,v=eP r0∧Q r0 S'
def zbz (S:Mem) (x0:Int) (Q:Pt→Mem→Prop):Prop:=
 Tr Tryz.prog 51 S [.int .i64 x0] fun v S'=>∃ r0:Pt,v=eP r0∧Q r0 S'
def qw (S:Mem) (x0:List Value) (x1:Pt) (x2:Int) (Q:List Value→Int→Mem→Prop):Prop:=
 Tr Tryz.prog 52 S [valL x0,eP x1,.int .i64 x2] fun v S'=>∃ r0:List Value,∃ r1:Int,v=.tuple #[valL r0,.int .i64 r1]∧r0.length=3∧Q r0 r1 S'
def kq (S:Mem) (x0:List Value) (x1:Pt) (x2:Int) (x3:Int) (x4:Bool) (Q:Int→Mem→Prop):Prop:=
 Tr Tryz.prog 53 S [valL x0,eP x1,.int .i64 x2,.int .i64 x3,.bool x4] fun v S'=>∃ r0:Int,v=.int .i64 r0∧Q r0 S'
def fP (S:Mem) (x0:Int) (x1:Int) (Q:List Value→Int→Mem→Prop):Prop:=
 Tr Tryz.prog 56 S [.int .i64 x0,.int .i64 x1] fun v S'=>∃ r0:List Value,∃ r1:Int,v=.tuple #[valL r0,.int .i64 r1]∧r0.length=12∧Q r0 r1 S'
def fO (S:Mem) (x0:Pt) (x1:Int) (Q:Int→Mem→Prop):Prop:=
 Tr Tryz.prog 58 S [eP x0,.int .i64 x1] fun v S'=>∃ r0:Int,v=.int .i64 r0∧Q r0 S'
def xb (S:Mem) (x0:Pt) (x1:Int) (Q:Bool→Mem→Prop):Prop:=
 Tr Tryz.prog 59 S [eP x0,.int .i64 x1] fun v S'=>∃ r0:Bool,v=.bool r0∧Q r0 S'
def zfW (S:Mem) (x0:Pt) (x1:Value) (x2:Int) (x3:Int) (Q:List Value→Mem→Prop):Prop:=
 Tr Tryz.prog 61 S [eP x0,x1,.int .u64 x2,.int .i64 x3] fun v S'=>∃ r0:List Value,v=valL r0∧r0.length=2∧Q r0 S'
def zft (S:Mem) (x0:List Value) (Q:Int→Mem→Prop):Prop:=
 Tr Tryz.prog 68 S [valL x0] fun v S'=>∃ r0:Int,v=.int .u64 r0∧Q r0 S'
def zbF (S:Mem) (x0:Int) (x1:Int) (Q:Pt→Mem→Prop):Prop:=
 Tr Tryz.prog 70 S [.int .i64 x0,.int .i64 x1] fun v S'=>∃ r0:Pt,v=eP r0∧Q r0 S'
def xE (S:Mem) (x0:Pt) (x1:Int) (Q:Sl→Int→Mem→Prop):Prop:=
 Tr Tryz.prog 71 S [eP x0,.int .i64 x1] fun v S'=>∃ r0:Sl,∃ r1:Int,v=.tuple #[eL r0,.int .i64 r1]∧Q r0 r1 S'
def yp (S:Mem) (x0:Pt) (x1:Int) (x2:Int) (Q:Int→Mem→Prop):Prop:=
 Tr Tryz.prog 72 S [eP x0,.int .i64 x1,.int .i64 x2] fun v S'=>∃ r0:Int,v=.int .i64 r0∧Q r0 S'
def fJ (S:Mem) (x0:Pt) (x1:Int) (x2:Sl) (Q:List Value→Int→Mem→Prop):Prop:=
 Tr Tryz.prog 74 S [eP x0,.int .i64 x1,eL x2] fun v S'=>∃ r0:List Value,∃ r1:Int,v=.tuple #[valL r0,.int .i64 r1]∧r0.length=2∧Q r0 r1 S'
def crab_Crab_own (S:Mem) (x0:Pt) (x1:Int) (x2:Int) (x3:Int) (Q:Mem→Prop):Prop:=
 Tr Tryz.prog 75 S [eP x0,.int .i64 x1,.int .i64 x2,.int .i64 x3] fun v S'=>v=.tuple #[]∧Q S'
def qp (S:Mem) (x0:Pt) (x1:Int) (x2:Int) (x3:Sl) (Q:Int→Mem→Prop):Prop:=
 Tr Tryz.prog 76 S [eP x0,.int .i64 x1,.int .i64 x2,eL x3] fun v S'=>∃ r0:Int,v=.int .i64 r0∧Q r0 S'
def qN (S:Mem) (x0:Pt) (x1:Int) (x2:Int) (Q:Pt→Mem→Prop):Prop:=
 Tr Tryz.prog 77 S [eP x0,.int .i64 x1,.int .i64 x2] fun v S'=>∃ r0:Pt,v=eP r0∧Q r0 S'
def vv (S:Mem) (x0:Pt) (x1:Int) (Q:Int→Mem→Prop):Prop:=
 Tr Tryz.prog 78 S [eP x0,.int .i64 x1] fun v S'=>∃ r0:Int,v=.int .u64 r0∧Q r0 S'
def yN (S:Mem) (x0:Pt) (x1:Int) (x2:List Value) (Q:Mem→Prop):Prop:=
 Tr Tryz.prog 79 S [eP x0,.int .i64 x1,valL x2] fun v S'=>v=.tuple #[]∧Q S'
def jt (S:Mem) (x0:Pt) (x1:Int) (x2:Int) (x3:Int) (Q:Mem→Prop):Prop:=
 Tr Tryz.prog 80 S [eP x0,.int .i64 x1,.int .i64 x2,.int .u64 x3] fun v S'=>v=.tuple #[]∧Q S'
def qy (S:Mem) (x0:Pt) (x1:Int) (Q:Bool→Mem→Prop):Prop:=
 Tr Tryz.prog 81 S [eP x0,.int .i64 x1] fun v S'=>∃ r0:Bool,v=.bool r0∧Q r0 S'
def yL (S:Mem) (x0:Pt) (x1:Int) (Q:Pt→Int→Mem→Prop):Prop:=
 Tr Tryz.prog 82 S [eP x0,.int .i64 x1] fun v S'=>∃ r0:Pt,∃ r1:Int,v=.tuple #[eP r0,.int .i64 r1]∧Q r0 r1 S'
def yc (S:Mem) (x0:Pt) (x1:Int) (Q:Int→Mem→Prop):Prop:=
 Tr Tryz.prog 83 S [eP x0,.int .i64 x1] fun v S'=>∃ r0:Int,v=.int .i64 r0∧Q r0 S'
def jU (S:Mem) (x0:List Value) (x1:Int) (Q:Sl→Mem→Prop):Prop:=
 Tr Tryz.prog 84 S [valL x0,.int .i64 x1] fun v S'=>∃ r0:Sl,v=eL r0∧Q r0 S'
def zfU (S:Mem) (x0:Pt) (x1:Int) (Q:Mem→Prop):Prop:=
 Tr Tryz.prog 85 S [eP x0,.int .i64 x1] fun v S'=>v=.tuple #[]∧Q S'
def kr (S:Mem) (x0:List Value) (x1:Pt) (Q:Sl→Sl→Mem→Prop):Prop:=
 Tr Tryz.prog 86 S [valL x0,eP x1] fun v S'=>∃ r0:Sl,∃ r1:Sl,v=.tuple #[eL r0,eL r1]∧Q r0 r1 S'
def yS (S:Mem) (x0:Pt) (x1:Int) (x2:Int) (Q:Int→Mem→Prop):Prop:=
 Tr Tryz.prog 87 S [eP x0,.int .i64 x1,.int .i64 x2] fun v S'=>∃ r0:Int,v=.int .i64 r0∧Q r0 S'
def yg (S:Mem) (x0:Pt) (x1:Int) (Q:Int→Mem→Prop):Prop:=
 Tr Tryz.prog 88 S [eP x0,.int .i64 x1] fun v S'=>∃ r0:Int,v=.int .i64 r0∧Q r0 S'
def wc (S:Mem) (x0:Pt) (x1:Int) (Q:Int→Mem→Prop):Prop:=
 Tr Tryz.prog 89 S [eP x0,.int .i64 x1] fun v S'=>∃ r0:Int,v=.int .i64 r0∧Q r0 S'
def wq (S:Mem) (x0:Pt) (x1:Int) (Q:Mem→Prop):Prop:=
 Tr Tryz.prog 90 S [eP x0,.int .i64 x1] fun v S'=>v=.tuple #[]∧Q S'
def yW (S:Mem) (x0:Pt) (x1:Int) (Q:Mem→Prop):Prop:=
 Tr Tryz.prog 91 S [eP x0,.int .i64 x1] fun v S'=>v=.tuple #[]∧Q S'
def zae (S:Mem) (x0:Pt) (x1:Int) (x2:Int) (Q:Mem→Prop):Prop:=
 Tr Tryz.prog 92 S [eP x0,.int .i64 x1,.int .i64 x2] fun v S'=>v=.tuple #[]∧Q S'
def vt (S:Mem) (x0:Pt) (x1:Int) (x2:Int) (Q:Int→Mem→Prop):Prop:=
 Tr Tryz.prog 93 S [eP x0,.int .u8 x1,.int .i64 x2] fun v S'=>∃ r0:Int,v=.int .i64 r0∧Q r0 S'
def jH (S:Mem) (x0:Value) (Q:Mem→Prop):Prop:=
 Tr Tryz.prog 106 S [x0] fun v S'=>v=.tuple #[]∧Q S'
def yE (S:Mem) (x0:List Value) (x1:Pt) (x2:Int) (Q:Int→Int→Int→Mem→Prop):Prop:=
 Tr Tryz.prog 107 S [valL x0,eP x1,.int .i64 x2] fun v S'=>∃ r0:Int,∃ r1:Int,∃ r2:Int,v=.tuple #[.int .i64 r0,.int .i64 r1,.int .i64 r2]∧Q r0 r1 r2 S'
def yG (S:Mem) (x0:Pt) (x1:Int) (x2:Int) (Q:Int→Int→Mem→Prop):Prop:=
 Tr Tryz.prog 108 S [eP x0,.int .i64 x1,.int .i64 x2] fun v S'=>∃ r0:Int,∃ r1:Int,v=.tuple #[.int .u64 r0,.int .i64 r1]∧Q r0 r1 S'
def kY (S:Mem) (x0:Int) (x1:Int) (Q:List Value→Bool→Mem→Prop):Prop:=
 Tr Tryz.prog 109 S [.int .i64 x0,.int .u64 x1] fun v S'=>∃ r0:List Value,∃ r1:Bool,v=.tuple #[valL r0,.bool r1]∧r0.length=3∧Q r0 r1 S'
def qX (S:Mem) (x0:Pt) (x1:Int) (x2:Int) (x3:Int) (Q:Int→Mem→Prop):Prop:=
 Tr Tryz.prog 110 S [eP x0,.int .i64 x1,.int .i64 x2,.int .u64 x3] fun v S'=>∃ r0:Int,v=.int .i64 r0∧Q r0 S'
def jC (S:Mem) (x0:Int) (x1:List Value) (Q:Int→Mem→Prop):Prop:=
 Tr Tryz.prog 111 S [.int .i64 x0,valL x1] fun v S'=>∃ r0:Int,v=.int .u64 r0∧Q r0 S'
def zaE (S:Mem) (Q:List Value→Mem→Prop):Prop:=
 Tr Tryz.prog 115 S [] fun v S'=>∃ r0:List Value,v=valL r0∧r0.length=4∧Q r0 S'
def zid (S:Mem) (Q:List Value→Mem→Prop):Prop:=
 Tr Tryz.prog 116 S [] fun v S'=>∃ r0:List Value,v=valL r0∧r0.length=26∧Q r0 S'
def zch (S:Mem) (x0:Int) (Q:Bool→Mem→Prop):Prop:=
 Tr Tryz.prog 117 S [.int .i64 x0] fun v S'=>∃ r0:Bool,v=.bool r0∧Q r0 S'
def zbD (S:Mem) (x0:Pt) (Q:Mem→Prop):Prop:=
 Tr Tryz.prog 118 S [eP x0] fun v S'=>v=.tuple #[]∧Q S'
def zdV (S:Mem) (x0:Pt) (Q:Int→Bool→Mem→Prop):Prop:=
 Tr Tryz.prog 120 S [eP x0] fun v S'=>∃ r0:Int,∃ r1:Bool,v=.tuple #[.int .i64 r0,.bool r1]∧Q r0 r1 S'
def yt (S:Mem) (x0:List Value) (x1:Int) (x2:Int) (Q:List Value→Mem→Prop):Prop:=
 Tr Tryz.prog 121 S [valL x0,.int .u64 x1,.int .u64 x2] fun v S'=>∃ r0:List Value,v=valL r0∧r0.length=2∧Q r0 S'
def je (S:Mem) (x0:List Value) (x1:Int) (x2:Int) (Q:Int→Bool→Mem→Prop):Prop:=
 Tr Tryz.prog 122 S [valL x0,.int .u64 x1,.int .i64 x2] fun v S'=>∃ r0:Int,∃ r1:Bool,v=.tuple #[.int .u64 r0,.bool r1]∧Q r0 r1 S'
def zaJ (S:Mem) (x0:Int) (Q:List Value→Bool→Mem→Prop):Prop:=
 Tr Tryz.prog 123 S [.int .u32 x0] fun v S'=>∃ r0:List Value,∃ r1:Bool,v=.tuple #[valL r0,.bool r1]∧r0.length=5∧Q r0 r1 S'
def zco (S:Mem) (x0:List Value) (x1:List Value) (Q:List Value→Mem→Prop):Prop:=
 Tr Tryz.prog 124 S [valL x0,valL x1] fun v S'=>∃ r0:List Value,v=valL r0∧r0.length=2∧Q r0 S'
def yx (S:Mem) (x0:List Value) (x1:Int) (x2:Int) (Q:List Value→Int→Int→Mem→Prop):Prop:=
 Tr Tryz.prog 127 S [valL x0,.int .u64 x1,.int .u64 x2] fun v S'=>∃ r0:List Value,∃ r1:Int,∃ r2:Int,v=.tuple #[valL r0,.int .u8 r1,.int .u64 r2]∧r0.length=26∧Q r0 r1 r2 S'
def zaC (S:Mem) (x0:List Value) (x1:Pt) (x2:Int) (x3:Int) (Q:Int→Bool→Mem→Prop):Prop:=
 Tr Tryz.prog 128 S [valL x0,eP x1,.int .u64 x2,.int .i64 x3] fun v S'=>∃ r0:Int,∃ r1:Bool,v=.tuple #[.int .u64 r0,.bool r1]∧Q r0 r1 S'
def zaB (S:Mem) (x0:List Value) (x1:Pt) (x2:Int) (x3:Int) (Q:Bool→Mem→Prop):Prop:=
 Tr Tryz.prog 130 S [valL x0,eP x1,.int .u64 x2,.int .u64 x3] fun v S'=>∃ r0:Bool,v=.bool r0∧Q r0 S'
def zdJ (S:Mem) (x0:List Value) (Q:Sl→Mem→Prop):Prop:=
 Tr Tryz.prog 134 S [valL x0] fun v S'=>∃ r0:Sl,v=eL r0∧Q r0 S'
def zdf (S:Mem) (x0:Int) (x1:Int) (Q:Int→Mem→Prop):Prop:=
 Tr Tryz.prog 135 S [.int .u64 x0,.int .u64 x1] fun v S'=>∃ r0:Int,v=.int .u64 r0∧Q r0 S'
def zdQ (S:Mem) (x0:Int) (Q:Pt→Mem→Prop):Prop:=
 Tr Tryz.prog 138 S [.int .i64 x0] fun v S'=>∃ r0:Pt,v=eP r0∧Q r0 S'
def vi (S:Mem) (x0:Pt) (Q:Int→Int→Mem→Prop):Prop:=
 Tr Tryz.prog 139 S [eP x0] fun v S'=>∃ r0:Int,∃ r1:Int,v=.tuple #[.int .i64 r0,.int .i64 r1]∧Q r0 r1 S'
def yo (S:Mem) (x0:Pt) (x1:Int) (Q:Int→Mem→Prop):Prop:=
 Tr Tryz.prog 140 S [eP x0,.int .i64 x1] fun v S'=>∃ r0:Int,v=.int .i64 r0∧Q r0 S'
def wP (S:Mem) (x0:Pt) (x1:Int) (x2:Int) (x3:Int) (Q:Int→Mem→Prop):Prop:=
 Tr Tryz.prog 141 S [eP x0,.int .i64 x1,.int .i64 x2,.int .i64 x3] fun v S'=>∃ r0:Int,v=.int .i64 r0∧Q r0 S'
def wl (S:Mem) (x0:Pt) (x1:Int) (x2:Int) (x3:Int) (x4:Bool) (Q:Mem→Prop):Prop:=
 Tr Tryz.prog 142 S [eP x0,.int .i64 x1,.int .i64 x2,.int .i64 x3,.bool x4] fun v S'=>v=.tuple #[]∧Q S'
def vh (S:Mem) (x0:Pt) (x1:Int) (x2:Int) (x3:Int) (Q:Int→Int→Mem→Prop):Prop:=
 Tr Tryz.prog 143 S [eP x0,.int .i64 x1,.int .i64 x2,.int .i64 x3] fun v S'=>∃ r0:Int,∃ r1:Int,v=.tuple #[.int .i64 r0,.int .i64 r1]∧Q r0 r1 S'
def fd (S:Mem) (x0:Pt) (x1:Int) (x2:Int) (x3:Int) (x4:Int) (x5:Int) (x6:Bool) (Q:Int→Int→Mem→Prop):Prop:=
 Tr Tryz.prog 144 S [eP x0,.int .i64 x1,.int .i64 x2,.int .u64 x3,.int .u64 x4,.int .i64 x5,.bool x6] fun v S'=>∃ r0:Int,∃ r1:Int,v=.tuple #[.int .u64 r0,.int .i64 r1]∧Q r0 r1 S'
def yh (S:Mem) (x0:List Value) (x1:Int) (Q:List Value→Int→Mem→Prop):Prop:=
 Tr Tryz.prog 145 S [valL x0,.int .i64 x1] fun v S'=>∃ r0:List Value,∃ r1:Int,v=.tuple #[valL r0,.int .i64 r1]∧r0.length=6∧Q r0 r1 S'
def xc (S:Mem) (x0:Pt) (x1:Int) (x2:Int) (Q:Mem→Prop):Prop:=
 Tr Tryz.prog 146 S [eP x0,.int .i64 x1,.int .i64 x2] fun v S'=>v=.tuple #[]∧Q S'
def yR (S:Mem) (x0:Pt) (x1:Int) (x2:Int) (Q:Int→Mem→Prop):Prop:=
 Tr Tryz.prog 147 S [eP x0,.int .i64 x1,.int .i64 x2] fun v S'=>∃ r0:Int,v=.int .i64 r0∧Q r0 S'
def xa (S:Mem) (x0:Pt) (x1:Int) (x2:Int) (Q:Pt→Int→Mem→Prop):Prop:=
 Tr Tryz.prog 149 S [eP x0,.int .i64 x1,.int .i64 x2] fun v S'=>∃ r0:Pt,∃ r1:Int,v=.tuple #[eP r0,.int .i64 r1]∧Q r0 r1 S'
def gZ (S:Mem) (x0:Value) (x1:Value) (Q:Mem→Prop):Prop:=
 Tr Tryz.prog 150 S [x0,x1] fun v S'=>v=.tuple #[]∧Q S'
def xI (S:Mem) (x0:Pt) (x1:Value) (Q:Mem→Prop):Prop:=
 Tr Tryz.prog 151 S [eP x0,x1] fun v S'=>v=.tuple #[]∧Q S'
def fg (S:Mem) (x0:List Value) (x1:Pt) (Q:Bool→Mem→Prop):Prop:=
 Tr Tryz.prog 152 S [valL x0,eP x1] fun v S'=>∃ r0:Bool,v=.bool r0∧Q r0 S'
def xJ (S:Mem) (x0:Pt) (x1:Value) (Q:Mem→Prop):Prop:=
 Tr Tryz.prog 153 S [eP x0,x1] fun v S'=>v=.tuple #[]∧Q S'
def fF (S:Mem) (x0:List Value) (x1:Pt) (Q:Bool→Mem→Prop):Prop:=
 Tr Tryz.prog 154 S [valL x0,eP x1] fun v S'=>∃ r0:Bool,v=.bool r0∧Q r0 S'
def zfN (S:Mem) (x0:Value) (Q:Value→Mem→Prop):Prop:=
 Tr Tryz.prog 155 S [x0] fun v S'=>∃ r0:Value,v=r0∧Q r0 S'
def jV (S:Mem) (x0:List Value) (x1:Int) (x2:Int) (Q:Int→Mem→Prop):Prop:=
 Tr Tryz.prog 159 S [valL x0,.int .i64 x1,.int .i64 x2] fun v S'=>∃ r0:Int,v=.int .i64 r0∧Q r0 S'
def we (S:Mem) (x0:Pt) (x1:Int) (x2:Int) (Q:Bool→Mem→Prop):Prop:=
 Tr Tryz.prog 161 S [eP x0,.int .i64 x1,.int .i64 x2] fun v S'=>∃ r0:Bool,v=.bool r0∧Q r0 S'
def gY (S:Mem) (x0:Value) (x1:Int) (x2:Int) (Q:Bool→Mem→Prop):Prop:=
 Tr Tryz.prog 162 S [x0,.int .i64 x1,.int .i64 x2] fun v S'=>∃ r0:Bool,v=.bool r0∧Q r0 S'
def qY (S:Mem) (x0:Pt) (x1:Int) (x2:Int) (x3:Int) (Q:Sl→Int→Mem→Prop):Prop:=
 Tr Tryz.prog 163 S [eP x0,.int .i64 x1,.int .i64 x2,.int .i64 x3] fun v S'=>∃ r0:Sl,∃ r1:Int,v=.tuple #[eL r0,.int .i64 r1]∧Q r0 r1 S'
def zdm (S:Mem) (x0:Sl) (Q:Int→Mem→Prop):Prop:=
 Tr Tryz.prog 164 S [eL x0] fun v S'=>∃ r0:Int,v=.int .u64 r0∧Q r0 S'
def yK (S:Mem) (x0:Int) (x1:Int) (x2:Int) (Q:Int→Mem→Prop):Prop:=
 Tr Tryz.prog 165 S [.int .u64 x0,.int .i64 x1,.int .i64 x2] fun v S'=>∃ r0:Int,v=.int .u64 r0∧Q r0 S'
def fH (S:Mem) (x0:Int) (Q:Sl→Mem→Prop):Prop:=
 Tr Tryz.prog 166 S [.int .u64 x0] fun v S'=>∃ r0:Sl,v=eL r0∧Q r0 S'
def ym (S:Mem) (x0:Int) (x1:Int) (x2:Int) (x3:Int) (Q:Int→Mem→Prop):Prop:=
 Tr Tryz.prog 167 S [.int .u64 x0,.int .i64 x1,.int .i64 x2,.int .u64 x3] fun v S'=>∃ r0:Int,v=.int .u64 r0∧Q r0 S'
def zdW (S:Mem) (x0:Pt) (Q:Int→Bool→Mem→Prop):Prop:=
 Tr Tryz.prog 170 S [eP x0] fun v S'=>∃ r0:Int,∃ r1:Bool,v=.tuple #[.int .i64 r0,.bool r1]∧Q r0 r1 S'
def zdI (S:Mem) (x0:Pt) (x1:Int) (x2:Int) (Q:Mem→Prop):Prop:=
 Tr Tryz.prog 171 S [eP x0,.int .u64 x1,.int .u64 x2] fun v S'=>v=.tuple #[]∧Q S'
def kd (S:Mem) (x0:List Value) (x1:Int) (x2:Bool) (Q:Int→Int→Bool→Mem→Prop):Prop:=
 Tr Tryz.prog 172 S [valL x0,.int .u64 x1,.bool x2] fun v S'=>∃ r0:Int,∃ r1:Int,∃ r2:Bool,v=.tuple #[.int .i64 r0,.int .i64 r1,.bool r2]∧Q r0 r1 r2 S'
def kH (S:Mem) (x0:Int) (Q:List Value→Mem→Prop):Prop:=
 Tr Tryz.prog 173 S [.int .u8 x0] fun v S'=>∃ r0:List Value,v=valL r0∧r0.length=4∧Q r0 S'
def zaI (S:Mem) (x0:List Value) (Q:Int→Bool→Mem→Prop):Prop:=
 Tr Tryz.prog 174 S [valL x0] fun v S'=>∃ r0:Int,∃ r1:Bool,v=.tuple #[.int .u32 r0,.bool r1]∧Q r0 r1 S'
def ff (S:Mem) (x0:List Value) (x1:Int) (x2:Int) (Q:Bool→Mem→Prop):Prop:=
 Tr Tryz.prog 175 S [valL x0,.int .u64 x1,.int .u64 x2] fun v S'=>∃ r0:Bool,v=.bool r0∧Q r0 S'
def fe (S:Mem) (x0:Int) (x1:Int) (x2:Int) (Q:Bool→Mem→Prop):Prop:=
 Tr Tryz.prog 176 S [.int .u8 x0,.int .u64 x1,.int .u64 x2] fun v S'=>∃ r0:Bool,v=.bool r0∧Q r0 S'
def zfv (S:Mem) (x0:List Value) (x1:Int) (x2:Int) (x3:Int) (Q:Int→Bool→Mem→Prop):Prop:=
 Tr Tryz.prog 177 S [valL x0,.int .i64 x1,.int .u64 x2,.int .i64 x3] fun v S'=>∃ r0:Int,∃ r1:Bool,v=.tuple #[.int .u64 r0,.bool r1]∧Q r0 r1 S'
def zfu (S:Mem) (x0:Pt) (x1:Int) (x2:Int) (Q:Bool→Mem→Prop):Prop:=
 Tr Tryz.prog 178 S [eP x0,.int .i64 x1,.int .u64 x2] fun v S'=>∃ r0:Bool,v=.bool r0∧Q r0 S'
def zdK (S:Mem) (x0:Pt) (Q:Mem→Prop):Prop:=
 Tr Tryz.prog 179 S [eP x0] fun v S'=>v=.tuple #[]∧Q S'
def zfV (S:Mem) (x0:Int) (x1:Int) (x2:Int) (Q:Int→Mem→Prop):Prop:=
 Tr Tryz.prog 180 S [.int .u8 x0,.int .u64 x1,.int .u64 x2] fun v S'=>∃ r0:Int,v=.int .u64 r0∧Q r0 S'
def zbt (S:Mem) (x0:Bool) (Q:Int→Mem→Prop):Prop:=
 Tr Tryz.prog 199 S [.bool x0] fun v S'=>∃ r0:Int,v=.int .u64 r0∧Q r0 S'
def zcs (S:Mem) (x0:Int) (x1:Int) (Q:Int→Int→Mem→Prop):Prop:=
 Tr Tryz.prog 200 S [.int .u64 x0,.int .u64 x1] fun v S'=>∃ r0:Int,∃ r1:Int,v=.tuple #[.int .u64 r0,.int .u64 r1]∧Q r0 r1 S'
def wV (S:Mem) (x0:Int) (x1:Int) (Q:Int→Mem→Prop):Prop:=
 Tr Tryz.prog 201 S [.int .u64 x0,.int .i64 x1] fun v S'=>∃ r0:Int,v=.int .u64 r0∧Q r0 S'
def zfB (S:Mem) (x0:Int) (x1:Int) (Q:Bool→Mem→Prop):Prop:=
 Tr Tryz.prog 202 S [.int .i64 x0,.int .i64 x1] fun v S'=>∃ r0:Bool,v=.bool r0∧Q r0 S'
def yJ (S:Mem) (x0:Pt) (x1:Int) (x2:Int) (Q:Mem→Prop):Prop:=
 Tr Tryz.prog 203 S [eP x0,.int .i64 x1,.int .i64 x2] fun v S'=>v=.tuple #[]∧Q S'
def jq (S:Mem) (x0:Pt) (x1:Int) (x2:Int) (x3:Int) (Q:Int→Mem→Prop):Prop:=
 Tr Tryz.prog 204 S [eP x0,.int .i64 x1,.int .i64 x2,.int .i64 x3] fun v S'=>∃ r0:Int,v=.int .i64 r0∧Q r0 S'
def wK (S:Mem) (x0:Pt) (x1:Int) (x2:Int) (x3:Int) (Q:Int→Mem→Prop):Prop:=
 Tr Tryz.prog 205 S [eP x0,.int .i64 x1,.int .i64 x2,.int .u64 x3] fun v S'=>∃ r0:Int,v=.int .i64 r0∧Q r0 S'
def kE (S:Mem) (x0:Pt) (x1:Int) (x2:Int) (x3:Int) (x4:Bool) (Q:Int→Int→Mem→Prop):Prop:=
 Tr Tryz.prog 206 S [eP x0,.int .i64 x1,.int .i64 x2,.int .i64 x3,.bool x4] fun v S'=>∃ r0:Int,∃ r1:Int,v=.tuple #[.int .u64 r0,.int .i64 r1]∧Q r0 r1 S'
def vw (S:Mem) (x0:Pt) (x1:Int) (x2:Int) (x3:Int) (Q:Int→Mem→Prop):Prop:=
 Tr Tryz.prog 207 S [eP x0,.int .i64 x1,.int .i64 x2,.int .i64 x3] fun v S'=>∃ r0:Int,v=.int .i64 r0∧Q r0 S'
def kF (S:Mem) (x0:Pt) (x1:Int) (x2:Int) (Q:Int→Mem→Prop):Prop:=
 Tr Tryz.prog 208 S [eP x0,.int .i64 x1,.int .i64 x2] fun v S'=>∃ r0:Int,v=.int .i64 r0∧Q r0 S'
def wj (S:Mem) (x0:Pt) (x1:Int) (x2:Int) (Q:Int→Mem→Prop):Prop:=
 Tr Tryz.prog 209 S [eP x0,.int .i64 x1,.int .i64 x2] fun v S'=>∃ r0:Int,v=.int .i64 r0∧Q r0 S'
def js (S:Mem) (x0:Pt) (x1:Int) (x2:Int) (Q:Int→Mem→Prop):Prop:=
 Tr Tryz.prog 210 S [eP x0,.int .i64 x1,.int .i64 x2] fun v S'=>∃ r0:Int,v=.int .i64 r0∧Q r0 S'
def gd (S:Mem) (x0:Pt) (x1:Int) (x2:Int) (Q:Int→Mem→Prop):Prop:=
 Tr Tryz.prog 211 S [eP x0,.int .i64 x1,.int .i64 x2] fun v S'=>∃ r0:Int,v=.int .i64 r0∧Q r0 S'
def jr (S:Mem) (x0:Pt) (x1:Int) (x2:Int) (x3:Int) (Q:Int→Mem→Prop):Prop:=
 Tr Tryz.prog 212 S [eP x0,.int .i64 x1,.int .i64 x2,.int .i64 x3] fun v S'=>∃ r0:Int,v=.int .i64 r0∧Q r0 S'
def jp (S:Mem) (x0:Pt) (x1:Int) (x2:Int) (x3:Int) (Q:Int→Mem→Prop):Prop:=
 Tr Tryz.prog 213 S [eP x0,.int .i64 x1,.int .i64 x2,.int .i64 x3] fun v S'=>∃ r0:Int,v=.int .i64 r0∧Q r0 S'
def wO (S:Mem) (x0:List Value) (x1:Pt) (x2:Int) (Q:Int→Mem→Prop):Prop:=
 Tr Tryz.prog 214 S [valL x0,eP x1,.int .i64 x2] fun v S'=>∃ r0:Int,v=.int .i64 r0∧Q r0 S'
def zfM (S:Mem) (x0:Value) (x1:Int) (Q:Mem→Prop):Prop:=
 Tr Tryz.prog 215 S [x0,.int .i64 x1] fun v S'=>v=.tuple #[]∧Q S'
def qe (S:Mem) (x0:Sl) (x1:Value) (Q:Sl→Mem→Prop):Prop:=
 Tr Tryz.prog 216 S [eL x0,x1] fun v S'=>∃ r0:Sl,v=eL r0∧Q r0 S'
def zbM (S:Mem) (x0:Int) (Q:Int→Mem→Prop):Prop:=
 Tr Tryz.prog 218 S [.int .u64 x0] fun v S'=>∃ r0:Int,v=.int .i64 r0∧Q r0 S'
def zcp (S:Mem) (x0:List Value) (Q:Bool→Mem→Prop):Prop:=
 Tr Tryz.prog 219 S [valL x0] fun v S'=>∃ r0:Bool,v=.bool r0∧Q r0 S'
def vu (S:Mem) (x0:List Value) (x1:Int) (x2:Int) (x3:Int) (x4:Bool) (Q:List Value→Int→Int→Mem→Prop):Prop:=
 Tr Tryz.prog 221 S [valL x0,.int .i64 x1,.int .i64 x2,.int .i64 x3,.bool x4] fun v S'=>∃ r0:List Value,∃ r1:Int,∃ r2:Int,v=.tuple #[valL r0,.int .i64 r1,.int .i64 r2]∧r0.length=96∧Q r0 r1 r2 S'
def wS (S:Mem) (x0:List Value) (x1:Int) (x2:Int) (x3:Int) (Q:List Value→Int→Mem→Prop):Prop:=
 Tr Tryz.prog 222 S [valL x0,.int .i64 x1,.int .i64 x2,.int .i64 x3] fun v S'=>∃ r0:List Value,∃ r1:Int,v=.tuple #[valL r0,.int .i64 r1]∧r0.length=96∧Q r0 r1 S'
def xH (S:Mem) (x0:List Value) (x1:Int) (x2:Int) (Q:List Value→Int→Mem→Prop):Prop:=
 Tr Tryz.prog 223 S [valL x0,.int .i64 x1,.int .i64 x2] fun v S'=>∃ r0:List Value,∃ r1:Int,v=.tuple #[valL r0,.int .i64 r1]∧r0.length=96∧Q r0 r1 S'
def yv (S:Mem) (x0:List Value) (x1:Int) (x2:Int) (Q:List Value→Int→Mem→Prop):Prop:=
 Tr Tryz.prog 224 S [valL x0,.int .i64 x1,.int .i64 x2] fun v S'=>∃ r0:List Value,∃ r1:Int,v=.tuple #[valL r0,.int .i64 r1]∧r0.length=96∧Q r0 r1 S'
def ky (S:Mem) (x0:List Value) (x1:Int) (x2:Int) (Q:Bool→Mem→Prop):Prop:=
 Tr Tryz.prog 225 S [valL x0,.int .i64 x1,.int .i64 x2] fun v S'=>∃ r0:Bool,v=.bool r0∧Q r0 S'
def zaL (S:Mem) (x0:List Value) (x1:Pt) (x2:Pt) (Q:Bool→Mem→Prop):Prop:=
 Tr Tryz.prog 229 S [valL x0,eP x1,eP x2] fun v S'=>∃ r0:Bool,v=.bool r0∧Q r0 S'
def vS (S:Mem) (x0:Pt) (x1:Int) (x2:Int) (Q:Mem→Prop):Prop:=
 Tr Tryz.prog 230 S [eP x0,.int .i64 x1,.int .i64 x2] fun v S'=>v=.tuple #[]∧Q S'
def vk (S:Mem) (x0:Pt) (x1:Int) (x2:Int) (Q:Int→Int→Mem→Prop):Prop:=
 Tr Tryz.prog 231 S [eP x0,.int .i64 x1,.int .i64 x2] fun v S'=>∃ r0:Int,∃ r1:Int,v=.tuple #[.int .i64 r0,.int .i64 r1]∧Q r0 r1 S'
def vr (S:Mem) (x0:Pt) (x1:Int) (x2:Int) (Q:Int→Mem→Prop):Prop:=
 Tr Tryz.prog 232 S [eP x0,.int .i64 x1,.int .i64 x2] fun v S'=>∃ r0:Int,v=.int .i64 r0∧Q r0 S'
def gb (S:Mem) (x0:List Value) (x1:Int) (x2:Int) (x3:Sl) (Q:Int→Mem→Prop):Prop:=
 Tr Tryz.prog 233 S [valL x0,.int .i64 x1,.int .i64 x2,eL x3] fun v S'=>∃ r0:Int,v=.int .i64 r0∧Q r0 S'
def gc (S:Mem) (x0:List Value) (x1:Int) (x2:Int) (x3:Int) (Q:Sl→Int→Mem→Prop):Prop:=
 Tr Tryz.prog 234 S [valL x0,.int .i64 x1,.int .i64 x2,.int .i64 x3] fun v S'=>∃ r0:Sl,∃ r1:Int,v=.tuple #[eL r0,.int .i64 r1]∧Q r0 r1 S'
def qi (S:Mem) (x0:Sl) (x1:Value) (Q:Int→Mem→Prop):Prop:=
 Tr Tryz.prog 235 S [eL x0,x1] fun v S'=>∃ r0:Int,v=.int .i64 r0∧Q r0 S'
def vW (S:Mem) (x0:Int) (Q:Int→Mem→Prop):Prop:=
 Tr Tryz.prog 239 S [.int .u64 x0] fun v S'=>∃ r0:Int,v=.int .i64 r0∧Q r0 S'
def ge (S:Mem) (x0:Bool) (x1:Int) (Q:Bool→Mem→Prop):Prop:=
 Tr Tryz.prog 240 S [.bool x0,.int .u8 x1] fun v S'=>∃ r0:Bool,v=.bool r0∧Q r0 S'
def kw (S:Mem) (x0:Int) (x1:Int) (Q:Bool→Mem→Prop):Prop:=
 Tr Tryz.prog 241 S [.int .i64 x0,.int .i64 x1] fun v S'=>∃ r0:Bool,v=.bool r0∧Q r0 S'
def zaX (S:Mem) (x0:List Value) (x1:Pt) (x2:Pt) (Q:Bool→Mem→Prop):Prop:=
 Tr Tryz.prog 242 S [valL x0,eP x1,eP x2] fun v S'=>∃ r0:Bool,v=.bool r0∧Q r0 S'
def ka (S:Mem) (x0:List Value) (x1:Int) (Q:List Value→Int→Mem→Prop):Prop:=
 Tr Tryz.prog 243 S [valL x0,.int .i64 x1] fun v S'=>∃ r0:List Value,∃ r1:Int,v=.tuple #[valL r0,.int .i64 r1]∧r0.length=3∧Q r0 r1 S'
def vx (S:Mem) (x0:Pt) (x1:Int) (x2:Int) (Q:List Value→Bool→Mem→Prop):Prop:=
 Tr Tryz.prog 248 S [eP x0,.int .i64 x1,.int .i64 x2] fun v S'=>∃ r0:List Value,∃ r1:Bool,v=.tuple #[valL r0,.bool r1]∧r0.length=3∧Q r0 r1 S'
def kI (S:Mem) (x0:Pt) (x1:Int) (x2:Int) (x3:List Value) (Q:Mem→Prop):Prop:=
 Tr Tryz.prog 249 S [eP x0,.int .i64 x1,.int .i64 x2,valL x3] fun v S'=>v=.tuple #[]∧Q S'
def zga (S:Mem) (x0:Sl) (Q:Int→Mem→Prop):Prop:=
 Tr Tryz.prog 269 S [eL x0] fun v S'=>∃ r0:Int,v=.int .i64 r0∧Q r0 S'
def zao (S:Mem) (x0:Sl) (x1:Int) (x2:Int) (Q:Bool→Mem→Prop):Prop:=
 Tr Tryz.prog 270 S [eL x0,.int .i64 x1,.int .i64 x2] fun v S'=>∃ r0:Bool,v=.bool r0∧Q r0 S'
def zan (S:Mem) (x0:Sl) (x1:Int) (x2:Int) (Q:Mem→Prop):Prop:=
 Tr Tryz.prog 271 S [eL x0,.int .i64 x1,.int .i64 x2] fun v S'=>v=.tuple #[]∧Q S'
def wL (S:Mem) (x0:List Value) (x1:List Value) (Q:Bool→Mem→Prop):Prop:=
 Tr Tryz.prog 272 S [valL x0,valL x1] fun v S'=>∃ r0:Bool,v=.bool r0∧Q r0 S'
def zfz (S:Mem) (x0:Sl) (Q:Int→Mem→Prop):Prop:=
 Tr Tryz.prog 273 S [eL x0] fun v S'=>∃ r0:Int,v=.int .i64 r0∧Q r0 S'
def zaj (S:Mem) (x0:Sl) (x1:Int) (x2:Int) (Q:Bool→Mem→Prop):Prop:=
 Tr Tryz.prog 274 S [eL x0,.int .i64 x1,.int .i64 x2] fun v S'=>∃ r0:Bool,v=.bool r0∧Q r0 S'
def zai (S:Mem) (x0:Sl) (x1:Int) (x2:Int) (Q:Mem→Prop):Prop:=
 Tr Tryz.prog 275 S [eL x0,.int .i64 x1,.int .i64 x2] fun v S'=>v=.tuple #[]∧Q S'
def zfy (S:Mem) (x0:Pt) (Q:Value→Mem→Prop):Prop:=
 Tr Tryz.prog 276 S [eP x0] fun v S'=>∃ r0:Value,v=r0∧Q r0 S'
def zex (S:Mem) (x0:Pt) (x1:Value) (Q:Mem→Prop):Prop:=
 Tr Tryz.prog 277 S [eP x0,x1] fun v S'=>v=.tuple #[]∧Q S'
def zeB (S:Mem) (x0:Pt) (x1:Value) (Q:Mem→Prop):Prop:=
 Tr Tryz.prog 281 S [eP x0,x1] fun v S'=>v=.tuple #[]∧Q S'
instance:EqT Tryz.prog 45 [.i .u8,.i .i64,.i .u64,.i .u64]:=⟨by kernel_rfl,by kernel_rfl,by kernel_rfl⟩
instance:EqT Tryz.prog 262 [.i .i64,.i .i64]:=⟨by kernel_rfl,by kernel_rfl,by kernel_rfl⟩
instance:BoolT Tryz.prog 4:=⟨by kernel_rfl⟩
instance:BytesT Tryz.prog 22:=⟨⟨5,by kernel_rfl,by kernel_rfl⟩⟩
instance:IfaceT Tryz.prog 222:=⟨⟨_,Tryz.underlying222⟩⟩
end Go.Proofs.YtabdpmnhjlmnlaaGreatDoor
end
section
namespace Go.Proofs.YtabdpmnhjlmnlaaGreatDoor
open Go Go.Pt
attribute [local irreducible] Code.wp Back bodyPost wpList FR WL WC WQ WA AW Tr Yc HC AllC
set_option maxRecDepth 20000
set_option maxHeartbeats 4000000
set_option linter.unusedVariables false
def wE (S:Mem) (h:Pt) (seats:Int) (quota:Int) (pages:Int) (image:Sl) (Q:Int→Int→Mem→Prop):Prop:=
 fP S seats quota fun t t_1 Sx=>
 t.all (·.oneCell')=true ∧
 jn (fun (Sx_1:Mem)=>
 jn (fun (n:Int) (Sx_2:Mem)=>
 jn (fun (Sx_3:Mem)=>
 nn h fun b_1 o=>
 gP (Sx_3.cell b_1 (o+1)) fun t_2=>
 xE Sx_3 t_2 (IntKind.i64.wrap (5+pages)) fun t_3 t_4 Sx_4=>
 jn (fun (Sx_5:Mem)=>
 jn (fun (Sx_6:Mem)=>
 gP (Sx_6.cell b_1 o) fun t_5=>
 gP (Sx_6.cell b_1 (o+3)) fun t_6=>
 nn t_6 fun b_2 o_1=>
 gI (Sx_6.cell b_2 o_1) .i64 fun t_7=>
 (0:Int)≤5∧5≤(t_3.c:Int) ∧
 lt (slc 1 t_3 0 5) fun t_8=>
 fJ Sx_6 t_5 t_7 t_8 fun t_9 t_10 Sx_7=>
 Sx_7.cell b_1 (o+3)=some (.pointer (some ⟨b_2,o_1,none⟩)) ∧
 t_9.all (·.oneCell')=true ∧
 gP (Sx_7.cell b_1 (o+3)) fun t_11=>
 nn t_11 fun b_3 o_2=>
 gI (Sx_7.cell b_3 (o_2+1)) .u64 fun t_12=>
 gP (Sx_7.cell b_1 (o+3)) fun t_13=>
 nn t_13 fun b_4 o_3=>
 0≤n∧n<6 ∧
 (spl (spl t 2 t_9) 5 ([.int .u64 t_12])).all (·.oneCell')=true ∧
 pt Sx_7 b_4 (o_3+2+n.toNat*12) 12 (spl (spl t 2 t_9) 5 ([.int .u64 t_12])) fun Sx_8=>
 0≤n∧n<6 ∧
 pt Sx_8 b_1 (o+5+n.toNat*1) 1 ([.slice (none) 0 0]) fun Sx_9=>
 jn (fun (Sx_10:Mem)=>
 Q n 0 Sx_10) fun Jx=>
 (0:Int)≤5∧(5:Int)≤(t_3.n:Int)∧(t_3.n:Int)≤(t_3.c:Int) ∧
 lt (slc 1 t_3 5 (t_3.n:Int)) fun t_14=>
 lp (fun Xx (t_15:Int) (Sx_11:Mem)=>
 if t_15<(t_14.n:Int) then
 sl t_14 fun b_5 o_4 n_1 n_2=>
 0≤t_15∧t_15<((n_1:Nat):Int) ∧
 gI (Sx_11.cell b_5 (o_4+t_15.toNat*1)) .i64 fun t_16=>
 crab_Crab_own Sx_11 (some (b_1,o)) n t_15 t_16 fun Sx_12=>
 if IntKind.i64.wrap (256*t_15)<(image.n:Int) then
 gP (Sx_12.cell b_1 o) fun t_17=>
 (0:Int)≤IntKind.i64.wrap (256*t_15)∧(IntKind.i64.wrap (256*t_15):Int)≤(if (image.n:Int)<IntKind.i64.wrap ((IntKind.i64.wrap (256*t_15))+256) then (image.n:Int) else IntKind.i64.wrap ((IntKind.i64.wrap (256*t_15))+256))∧(if (image.n:Int)<IntKind.i64.wrap ((IntKind.i64.wrap (256*t_15))+256) then (image.n:Int) else IntKind.i64.wrap ((IntKind.i64.wrap (256*t_15))+256))≤(image.c:Int) ∧
 lt (slc 1 image (IntKind.i64.wrap (256*t_15)) (if (image.n:Int)<IntKind.i64.wrap ((IntKind.i64.wrap (256*t_15))+256) then (image.n:Int) else IntKind.i64.wrap ((IntKind.i64.wrap (256*t_15))+256))) fun t_18=>
 qp Sx_12 t_17 t_16 0 t_18 fun t_19 Sx_13=>
 Xx (IntKind.i64.wrap (t_15+1)) Sx_13
 else
 Xx (IntKind.i64.wrap (t_15+1)) Sx_12
 else
 Jx Sx_11) 0 Sx_9) fun Jx_1=>
 (0:Int)≤5∧5≤(t_3.c:Int) ∧
 lt (slc 1 t_3 0 5) fun t_20=>
 lp (fun Xx_1 (t_21:Int) (Sx_14:Mem)=>
 if t_21<(t_20.n:Int) then
 sl t_20 fun b_6 o_5 n_3 n_4=>
 0≤t_21∧t_21<((n_3:Nat):Int) ∧
 gI (Sx_14.cell b_6 (o_5+t_21.toNat*1)) .i64 fun t_22=>
 gP (Sx_14.cell b_1 (o+3)) fun t_23=>
 nn t_23 fun b_7 o_6=>
 gP (Sx_14.cell b_7 (o_6+74)) fun t_24=>
 yp Sx_14 t_24 t_22 n fun t_25 Sx_15=>
 Xx_1 (IntKind.i64.wrap (t_21+1)) Sx_15
 else
 Jx_1 Sx_14) 0 Sx_5) fun Jx_2=>
 if t_4≠0 then
 Q 0 t_4 Sx_4
 else
 Jx_2 Sx_4) fun Jx_3=>
 if n=6 then
 Q 0 2 Sx_2
 else
 Jx_3 Sx_2) fun Jx_4=>
 lp (fun Xx_2 (n_5:Int) (Sx_16:Mem)=>
 if n_5<6 then
 nn h fun b_8 o_7=>
 gP (Sx_16.cell b_8 (o_7+3)) fun t_26=>
 nn t_26 fun b_9 o_8=>
 0≤n_5∧n_5<6 ∧
 gB (Sx_16.cell b_9 (o_8+2+n_5.toNat*12)) fun t_27=>
 if t_27=true then
 Xx_2 (IntKind.i64.wrap (n_5+1)) Sx_16
 else
 Jx_4 n_5 Sx_16
 else
 Jx_4 n_5 Sx_16) 0 Sx_1) fun Jx_5=>
 if h=none then
 Q 0 2 Sx
 else
 if t_1≠0 then
 Q 0 t_1 Sx
 else
 if pages<1 then
 Q 0 1 Sx
 else
 if quota<pages then
 Q 0 1 Sx
 else
 if IntKind.i64.wrap (256*pages)<(image.n:Int) then
 Q 0 6 Sx
 else
 Jx_5 Sx
theorem zbm {S:Mem} {h:Pt} {seats:Int} {quota:Int} {pages:Int} {image:Sl} {Q:Int→Int→Mem→Prop} (H:wE S h seats quota pages image Q):yI S h seats quota pages image Q:=by
 unfold wE at H
 exact Tr.intro Tryz.func30 E Tryz.ntmps30 E fun w0=>csr<|gv E E<|gv E E<|nxr<|mv E E<|mv E E<|qr E E H fun rv Sx H1=>by obtain⟨t,t_1,rfl,ht,H2⟩:=H1;exact mv E E<|s_p E (zg E E)<|s_p E (zg E E)<|by refine zL E fun b=>?_;exact an H2 fun c H3=>zp 0 E E E E E ht E c<|gv E E<|nx<|zn H3 (fun (J:Mem→Prop) (z:Unit) S=>J S) (fun z=>⟨172,[(0,eP h),(3,.int .i64 pages),(4,eL image),(12,.pointer (some ⟨b,0,none⟩))]⟩) (fun z=>[⟨b,66,t⟩]) (fun _ Sx_1 H4=>csr<|gv E E<|nx<|zn H4 (fun (J:Int→Mem→Prop) (z:Int) S=>J z S) (fun z=>⟨172,[(0,eP h),(3,.int .i64 pages),(4,eL image),(12,.pointer (some ⟨b,0,none⟩)),(14,.int .i64 z)]⟩) (fun z=>[⟨b,66,t⟩]) (fun n Sx_2 H5=>zn H5 (fun (J:Mem→Prop) (z:Unit) S=>J S) (fun z=>⟨172,[(0,eP h),(3,.int .i64 pages),(4,eL image),(12,.pointer (some ⟨b,0,none⟩)),(14,.int .i64 n)]⟩) (fun z=>[⟨b,66,t⟩]) (fun _ Sx_3 H6=>csr<|mv E E<|by obtain⟨b_1,o,rfl,H7⟩:=H6;exact s_p E (zJ E)<|s_p E (zv E E)<|gx H7 fun t_2 ht_2 H8=>s_v E (zz E) (zH ht_2)<|mv E E<|s_p E (qh E E)<|gO E E H8 fun t_3 t_4 Sx_4 H9=>mv E E<|s_p E (zg E E)<|s_p E (zg E E)<|gv E E<|gv E E<|nx<|zn H9 (fun (J:Mem→Prop) (z:Unit) S=>J S) (fun z=>⟨172,[(0,.pointer (some ⟨b_1,o,none⟩)),(4,eL image),(12,.pointer (some ⟨b,0,none⟩)),(14,.int .i64 n),(15,eL t_3)]⟩) (fun z=>[⟨b,66,t⟩]) (fun _ Sx_5 H10=>zn H10 (fun (J:Mem→Prop) (z:Unit) S=>J S) (fun z=>⟨172,[(0,.pointer (some ⟨b_1,o,none⟩)),(4,eL image),(12,.pointer (some ⟨b,0,none⟩)),(14,.int .i64 n),(15,eL t_3)]⟩) (fun z=>[⟨b,66,t⟩]) (fun _ Sx_6 H11=>zC<|zM (by kernel_rfl)<|aTP 0 E (by decide +kernel) E (zm E)<|by exact aTP 1 E (by decide +kernel) E (zJ E)<|by exact aTP 2 E (by decide +kernel) E (zv E E)<|by exact gx H11 fun t_5 ht_5 H12=>aT 3 E (by decide +kernel) E (zz E) (zH ht_5)<|by exact aTP 4 E (by decide +kernel) E (zm E)<|by exact aTP 5 E (by decide +kernel) E (zJ E)<|by exact aTP 6 E (by decide +kernel) E (zv E E)<|by exact gx H12 fun t_6 ht_6 H13=>aT 7 E (by decide +kernel) E (zz E) (zH ht_6)<|by exact by obtain⟨b_2,o_1,rfl,H14⟩:=H13;exact aTP 8 E (by decide +kernel) E (zJ E)<|by exact aTP 9 E (by decide +kernel) E (zv E E)<|by exact gx H14 fun t_7 ht_7 H15=>aT 10 E (by decide +kernel) E (zz E) (zH ht_7)<|by exact aTP 11 E (by decide +kernel) E (zm E)<|by exact an2 H15 fun c_2 c_3 H16=>by obtain⟨t_8,et_8,H17⟩:=zjD H16;exact aTP 12 E (by decide +kernel) E (eqv (zcK (a:=0) (b:=5) E E E (by decide) c_2 c_3) (congrArg eL et_8))<|by exact zB 13 (by decide +kernel) E<|by exact qr E E H17 fun rv Sx_7 H18=>by obtain⟨t_9,t_10,rfl,ht_9,H19⟩:=H18;exact by obtain⟨k,H20⟩:=H19;exact zr<|zN (zx (zH k) zy)<|aTP 14 E (by decide +kernel) E (zm E)<|by exact aTP 15 E (by decide +kernel) E (zg E E)<|by exact aTP 16 E (by decide +kernel) E (zg E E)<|by exact aTP 17 E (by decide +kernel) E (zv E E)<|by exact zB 18 (by decide +kernel) E<|by exact an H20 fun c_4 H21=>qT (sz:=2) (vs:=t_9) 0 E E E E E ht_9 (wa ht (by omega)) c_4<|zr<|zN zy<|zK (by decide +kernel)<|by exact zt<|csr<|mv E E<|s_p E (zJ E)<|s_p E (zv E E)<|gx H21 fun t_11 ht_11 H22=>s_v E (zz E) (zH ht_11)<|by obtain⟨b_3,o_2,rfl,H23⟩:=H22;exact s_p E (zJ E)<|s_p E (zv E E)<|gx H23 fun t_12 ht_12 H24=>s_v E (zz E) (zH ht_12)<|s_p E (zv E E)<|qT (sz:=1) (vs:=[.int .u64 t_12]) 0 E E E E E E (wa (qR ht (by have:=ht_9;(try simp only[List.length_cons,List.length_nil]);omega)) (by omega)) E<|nx<|zC<|zM (by kernel_rfl)<|aTP 0 E (by decide +kernel) E (zm E)<|by exact aTP 1 E (by decide +kernel) E (zJ E)<|by exact aTP 2 E (by decide +kernel) E (zv E E)<|by exact gx H24 fun t_13 ht_13 H25=>aT 3 E (by decide +kernel) E (zz E) (zH ht_13)<|by exact aTP 4 E (by decide +kernel) E (zm E)<|by exact aTP 5 E (by decide +kernel) E (zm E)<|by exact aTP 6 E (by decide +kernel) E (zm E)<|by exact by refine aT 7 E (by decide +kernel) E (zT E (qR (qR ht (by have:=ht_9;(try simp only[List.length_cons,List.length_nil]);omega)) (by have:=True.intro;(try simp only[List.length_cons,List.length_nil]);omega))) (zE (k:=12) 0 E (zk (qR (qR ht (by have:=ht_9;(try simp only[List.length_cons,List.length_nil]);omega)) (by have:=True.intro;(try simp only[List.length_cons,List.length_nil]);omega)))) ?_;exact by obtain⟨b_4,o_3,rfl,H26⟩:=H25;exact aTP 8 E (by decide +kernel) E (zJ E)<|by exact aTP 9 E (by decide +kernel) E (zv E E)<|by exact an2 H26 fun c_5 c_6 H27=>aTP 10 E (by decide +kernel) E (qv E E c_5 c_6 E)<|by exact aTP 12 E (by decide +kernel) E (zJ E)<|by exact aTP 13 E (by decide +kernel) E (zv E E)<|by exact zB 11 (by decide +kernel) E<|by exact an H27 fun c_7 H28=>an H28 fun c_8 H29=>qo E E E E (qR (qR ht (by have:=ht_9;(try simp only[List.length_cons,List.length_nil]);omega)) (by have:=True.intro;(try simp only[List.length_cons,List.length_nil]);omega)) c_8 c_7<|zr<|zN zy<|an2 H29 fun c_9 c_10 H30=>aTP 14 E (by decide +kernel) E (qv E E c_9 c_10 E)<|by exact zB 15 (by decide +kernel) E<|by exact an H30 fun c_11 H31=>qo E E E E E c_11 E<|zr<|zN zy<|zK (by decide +kernel)<|by exact zt<|zn H31 (fun (J:Mem→Prop) (z:Unit) S=>J S) (fun z=>⟨172,[(14,.int .i64 n)]⟩) (fun z=>[]) (fun _ Sx_10 H32=>csr<|mv E E<|gv E E<|gv E E<|nx<|zi<|zh Tryz.results30 (zd E (zd E ze)) ⟨_,_,E,H32⟩) (fun Jx hJx H33=>csr<|mv E E<|an3 H33 fun c_12 c_13 c_14 H34=>by obtain⟨t_14,et_14,H35⟩:=zjD H34;exact s_p E (eqv (zcK (a:=5) (b:=(t_3.n:Int)) E E E c_12 c_13 c_14) (congrArg eL et_14))<|s_p E (yk E)<|mv E E<|nx<|zw<|qB (fun z=>⟨172,[(0,.pointer (some ⟨b_1,o,none⟩)),(4,eL image),(14,.int .i64 n),(138,eL t_14),(139,.int .i64 (t_14.n:Int)),(140,.int .i64 z)]⟩) (fun z=>[]) 0 (idx:=[]) H35 E ⟨E,E,E,E,E,E,True.intro⟩ E<|fun Xx hXx t_15 Sx_11 H36=>csr<|iteK H36 (fun c_15 H37=>s_p E (yT (zD E E) c_15)<|nx<|zC<|c_t E E<|qg<|zt<|zC<|zw<|csr<|mv E E<|by obtain⟨b_5,o_4,n_1,n_2,rfl,H38⟩:=H37;exact an2 H38 fun c_16 c_17 H39=>s_p E (qS E E c_16 c_17 E)<|gx H39 fun t_16 ht_16 H40=>s_v E (zz E) (zH ht_16)<|gv E E<|gv E E<|nxr<|mv E E<|mv E E<|mv E E<|mv E E<|fK E E H40 fun Sx_12 H41=>nxr<|mv E E<|s_p E (ji E E)<|gv E E<|nxr<|mv E E<|mv E E<|s_p E (yk E)<|iteK H41 (fun c_18 H42=>s_p E (yT (zD E E) c_18)<|nx<|c_t E E<|zM (by kernel_rfl)<|a_takeP 0 E (by decide +kernel) (zf (za (za (zf (za zc))))) E (zm E)<|by exact a_takeP 1 E (by decide +kernel) (zf (za (za (zf (za zc))))) E (zJ E)<|by exact a_takeP 2 E (by decide +kernel) (zf (za (za (zf (za zc))))) E (zv E E)<|by exact gx H42 fun t_17 ht_17 H43=>zV 3 E (by decide +kernel) (zf (za (za (zf (za zc))))) E (zz E) (zH ht_17)<|by exact a_takeP 4 E (by decide +kernel) (zf (za (za (zf (za zc))))) E (zm E)<|by exact a_takeP 5 E (by decide +kernel) (zf (za (za (zf (za zc))))) E (zm E)<|by exact a_takeP 6 E (by decide +kernel) (zf (za (za (zf (za zc))))) E (zm E)<|by exact a_takeP 7 E (by decide +kernel) (zf (za (za (zf (za zc))))) E (zm E)<|by exact a_takeP 8 E (by decide +kernel) (zf (za (za (zf (za zc))))) E (qh E E)<|by exact a_takeP 9 E (by decide +kernel) (zf (za (za (zf (za zc))))) E (zm E)<|by exact a_takeP 10 E (by decide +kernel) (zf (za (za (zf (za zc))))) E (yk E)<|by exact a_takeP 11 E (by decide +kernel) (zf (za (za (zf (za zc))))) E (zjE E E)<|by exact an3 H43 fun c_19 c_20 c_21 H44=>by obtain⟨t_18,et_18,H45⟩:=zjD H44;exact a_takeP 12 E (by decide +kernel) (zf (za (za (zf (za zc))))) E (eqv (zcK (a:=IntKind.i64.wrap (256*t_15)) (b:=(if (image.n:Int)<IntKind.i64.wrap ((IntKind.i64.wrap (256*t_15))+256) then (image.n:Int) else IntKind.i64.wrap ((IntKind.i64.wrap (256*t_15))+256))) E E E c_19 c_20 c_21) (congrArg eL et_18))<|by exact zB 13 (by decide +kernel) E<|by exact qC E E H45 fun t_19 Sx_13 H46=>zr<|zN zy<|zK (by decide +kernel)<|by exact zU<|zt<|zu<|s_p E (qh E E)<|mv E E<|zr<|hXx (IntKind.i64.wrap (t_15+1)) _ _ _ _ [] H46 E ⟨E,E,E,E,E,E,True.intro⟩ E) fun c_18 H42=>s_p E (yF (zD E E) c_18)<|nx<|cfs E E<|zU<|zt<|zu<|s_p E (qh E E)<|mv E E<|zr<|hXx (IntKind.i64.wrap (t_15+1)) _ _ _ _ [] H42 E ⟨E,E,E,E,E,E,True.intro⟩ E) fun c_15 H37=>s_p E (yF (zD E E) c_15)<|nx<|zC<|c_f E E<|qt<|zl<|zl<|zI<|hJx () _ _ _ _ [] H37 E ⟨E,True.intro⟩ E)) (fun Jx_1 hJx_1 H47=>csr<|mv E E<|an2 H47 fun c_23 c_24 H48=>by obtain⟨t_20,et_20,H49⟩:=zjD H48;exact s_p E (eqv (zcK (a:=0) (b:=5) E E E (by decide) c_23 c_24) (congrArg eL et_20))<|s_p E (yk E)<|mv E E<|nx<|zw<|qB (fun z=>⟨172,[(0,.pointer (some ⟨b_1,o,none⟩)),(4,eL image),(12,.pointer (some ⟨b,0,none⟩)),(14,.int .i64 n),(15,eL t_3),(80,eL t_20),(81,.int .i64 (t_20.n:Int)),(82,.int .i64 z)]⟩) (fun z=>[⟨b,66,t⟩]) 0 (idx:=[0]) H49 E ⟨E,E,E,E,E,E,E,E,True.intro⟩ E<|fun Xx_1 hXx_1 t_21 Sx_14 H50=>csr<|iteK H50 (fun c_25 H51=>s_p E (yT (zD E E) c_25)<|nx<|zC<|c_t E E<|qg<|zt<|zC<|zw<|csr<|by obtain⟨b_6,o_5,n_3,n_4,rfl,H52⟩:=H51;exact an2 H52 fun c_26 c_27 H53=>s_p E (qS E E c_26 c_27 E)<|gx H53 fun t_22 ht_22 H54=>s_v E (zz E) (zH ht_22)<|gv E E<|nx<|zu<|mv E E<|s_p E (zJ E)<|s_p E (zv E E)<|gx H54 fun t_23 ht_23 H55=>s_v E (zz E) (zH ht_23)<|by obtain⟨b_7,o_6,rfl,H56⟩:=H55;exact s_p E (zJ E)<|s_p E (zv E E)<|gx H56 fun t_24 ht_24 H57=>s_v E (zz E) (zH ht_24)<|mv E E<|mv E E<|qC E E H57 fun t_25 Sx_15 H58=>zr<|zU<|zt<|zu<|s_p E (qh E E)<|mv E E<|zr<|hXx_1 (IntKind.i64.wrap (t_21+1)) _ _ _ _ [0] H58 E ⟨E,E,E,E,E,E,E,E,True.intro⟩ E) fun c_25 H51=>s_p E (yF (zD E E) c_25)<|nx<|zC<|c_f E E<|qt<|zl<|zl<|zI<|hJx_1 () _ _ _ _ [0] H51 E ⟨E,E,E,E,E,True.intro⟩ E)) (fun Jx_2 hJx_2 H59=>csr<|mv E E<|iteK H59 (fun c_28 H60=>s_p E (yT (zQ E E) c_28)<|nx<|c_t E E<|csr<|mv E E<|gv E E<|gv E E<|nx<|zi<|zb<|zh Tryz.results30 (zd E (zd E ze)) ⟨_,_,E,H60⟩) fun c_28 H60=>s_p E (yF (zQ E E) c_28)<|nx<|cfs E E<|hJx_2 () _ _ _ _ [0] H60 E ⟨E,E,E,E,E,True.intro⟩ E)) (fun Jx_3 hJx_3 H61=>csr<|mv E E<|iteK H61 (fun c_29 H62=>ceT E E E (c_29)<|nx<|c_t E E<|csr<|gv E E<|gv E E<|nx<|zi<|zb<|zh Tryz.results30 (zd E (zd E ze)) ⟨_,_,E,H62⟩) fun c_29 H62=>ceF E E E (c_29)<|nx<|cfs E E<|hJx_3 () _ _ _ _ [0] H62 E ⟨E,E,E,E,E,True.intro⟩ E)) (fun Jx_4 hJx_4 H63=>zw<|qB (fun z=>⟨172,[(0,eP h),(3,.int .i64 pages),(4,eL image),(12,.pointer (some ⟨b,0,none⟩)),(14,.int .i64 z)]⟩) (fun z=>[⟨b,66,t⟩]) 0 (idx:=[0]) H63 E ⟨E,E,E,E,E,True.intro⟩ E<|fun Xx_2 hXx_2 n_5 Sx_16 H64=>zC<|csr<|mv E E<|iteK H64 (fun c_30 H65=>s_p E (yT (zD E E) c_30)<|mv E E<|mv E E<|by obtain⟨b_8,o_7,rfl,H66⟩:=H65;exact s_p E (zJ E)<|s_p E (zv E E)<|gx H66 fun t_26 ht_26 H67=>s_v E (zz E) (zH ht_26)<|mv E E<|by obtain⟨b_9,o_8,rfl,H68⟩:=H67;exact s_p E (zJ E)<|s_p E (zv E E)<|an2 H68 fun c_31 c_32 H69=>s_p E (qv E E c_31 c_32 E)<|s_p E (zv E E)<|gx H69 fun t_27 ht_27 H70=>by have H71:=wM H70;rcases H71 with ⟨rfl,H72⟩ | ⟨rfl,H72⟩;exact (s_v E (zz E) (zH ht_27)<|pk E E E<|nx<|c_t E E<|qg<|zt<|zw<|zu<|mv E E<|s_p E (qh E E)<|gv E E<|zr<|zU<|hXx_2 (IntKind.i64.wrap (n_5+1)) _ _ _ _ [0] H72 E ⟨E,E,E,E,E,True.intro⟩ E);exact (s_v E (zz E) (zH ht_27)<|pk E E E<|nx<|c_f E E<|qt<|zl<|zl<|zI<|hJx_4 n_5 _ _ _ _ [0] H72 E ⟨E,E,E,E,E,True.intro⟩ E)) fun c_30 H65=>s_p E (yF (zD E E) c_30)<|mv E E<|sk8 E E E E E E E E<|sk2 E E<|pk E E E<|nx<|c_f E E<|qt<|zl<|zl<|zI<|hJx_4 n_5 _ _ _ _ [0] H65 E ⟨E,E,E,E,E,True.intro⟩ E)) (fun Jx_5 hJx_5 H73=>zw<|csr<|mv E E<|iteK H73 (fun c_33 H74=>s_p E (yT (qE (p:=h) E E) c_33)<|gv E E<|nx<|c_t E E<|csr<|gv E E<|gv E E<|nx<|zi<|zj<|zb<|zh Tryz.results30 (zd E (zd E ze)) ⟨_,_,E,H74⟩) fun c_33 H74=>s_p E (yF (qE (p:=h) E E) c_33)<|gv E E<|nx<|c_f E E<|csr<|mv E E<|iteK H74 (fun c_34 H75=>s_p E (yT (zQ E E) c_34)<|gv E E<|nx<|c_t E E<|csr<|mv E E<|gv E E<|gv E E<|nx<|zi<|zj<|zb<|zh Tryz.results30 (zd E (zd E ze)) ⟨_,_,E,H75⟩) fun c_34 H75=>s_p E (yF (zQ E E) c_34)<|gv E E<|nx<|c_f E E<|csr<|mv E E<|iteK H75 (fun c_35 H76=>s_p E (yT (zD E E) c_35)<|mv E E<|sk2 E E<|zP E<|pk E E E<|gv E E<|nx<|c_t E E<|csr<|gv E E<|gv E E<|nx<|zi<|zj<|zb<|zh Tryz.results30 (zd E (zd E ze)) ⟨_,_,E,H76⟩) fun c_35 H76=>s_p E (yF (zD E E) c_35)<|mv E E<|mv E E<|mv E E<|iteK H76 (fun c_36 H77=>s_p E (yT (xu E E) c_36)<|pk E E E<|gv E E<|nx<|c_t E E<|csr<|gv E E<|gv E E<|nx<|zi<|zj<|zb<|zh Tryz.results30 (zd E (zd E ze)) ⟨_,_,E,H77⟩) fun c_36 H77=>s_p E (yF (xu E E) c_36)<|pk E E E<|gv E E<|nx<|c_f E E<|csr<|mv E E<|s_p E (yk E)<|mv E E<|s_p E (ji E E)<|iteK H77 (fun c_37 H78=>s_p E (yT (xu E E) c_37)<|gv E E<|nx<|c_t E E<|zC<|by exact zu<|gv E E<|gv E E<|nx<|zi<|zj<|zb<|zh Tryz.results30 (zd E (zd E ze)) ⟨_,_,E,H78⟩) fun c_37 H78=>s_p E (yF (xu E E) c_37)<|gv E E<|nx<|cfs E E<|zU<|by exact hJx_5 () _ _ _ _ [0] H78 E ⟨E,E,E,E,True.intro⟩ E)
def zcB (S:Mem) (form:Int) (frames:Int) (region:Int) (Q:Pt→Int→Mem→Prop):Prop:=
 jn (fun (Sx:Mem)=>
 gN Sx frames fun t Sx_1=>
 zbz Sx_1 frames fun t_1 Sx_2=>
 zbF Sx_2 form frames fun t_2 Sx_3=>
 al Sx_3 86 ([eP t,eP t_1,.slice (none) 0 0,eP t_2,.slice (none) 0 0,.slice (none) 0 0,.slice (none) 0 0,.slice (none) 0 0,.slice (none) 0 0,.slice (none) 0 0,.slice (none) 0 0]) fun b Sx_4=>
 gP (Sx_4.cell b 1) fun t_3=>
 xE Sx_4 t_3 region fun t_4 t_5 Sx_5=>
 pt Sx_5 b 4 1 ([eL t_4]) fun Sx_6=>
 jn (fun (Sx_7:Mem)=>
 Q (some (b,0)) 0 Sx_7) fun Jx=>
 gL (Sx_6.cell b 4) fun t_6=>
 lp (fun Xx (t_7:Int) (Sx_8:Mem)=>
 if t_7<(t_6.n:Int) then
 sl t_6 fun b_1 o n n_1=>
 0≤t_7∧t_7<((n:Nat):Int) ∧
 gI (Sx_8.cell b_1 (o+t_7.toNat*1)) .i64 fun t_8=>
 gP (Sx_8.cell b 3) fun t_9=>
 nn t_9 fun b_2 o_1=>
 gP (Sx_8.cell b_2 (o_1+74)) fun t_10=>
 yp Sx_8 t_10 t_8 (-1) fun t_11 Sx_9=>
 Xx (IntKind.i64.wrap (t_7+1)) Sx_9
 else
 Jx Sx_8) 0 Sx_6) fun Jx_1=>
 if frames<1 then
 Q none 1 S
 else
 if 512<frames then
 Q none 1 S
 else
 if region<1 then
 Q none 1 S
 else
 if frames<region then
 Q none 1 S
 else
 if form≠1 then
 if form≠2 then
 Q none 1 S
 else
 Jx_1 S
 else
 Jx_1 S
theorem ziN {S:Mem} {form:Int} {frames:Int} {region:Int} {Q:Pt→Int→Mem→Prop} (H:zcB S form frames region Q):zbI S form frames region Q:=by
 unfold zcB at H
 exact Tr.intro Tryz.func28 E Tryz.ntmps28 E fun w0=>csr<|gv E E<|gv E E<|nx<|zn H (fun (J:Mem→Prop) (z:Unit) S=>J S) (fun z=>⟨75,[(0,.int .i64 form),(1,.int .i64 frames),(2,.int .i64 region)]⟩) (fun z=>[]) (fun _ Sx H1=>csr<|mv E E<|qC E E H1 fun t Sx_1 H2=>mv E E<|qC E E H2 fun t_1 Sx_2 H3=>mv E E<|mv E E<|qC E E H3 fun t_2 Sx_3 H4=>s_p E (zF E E)<|by exact qM E E E fun b=>ku 0 E fun hb=>have H5:=H4 b hb;gv E E<|nxr<|mv E E<|mv E E<|s_p E (zJ E)<|s_p E (zv E E)<|gx H5 fun t_3 ht_3 H6=>s_v E (zz E) (zH ht_3)<|mv E E<|gO E E H6 fun t_4 t_5 Sx_5 H7=>mv E E<|s_p E (zg E E)<|s_p E (zg E E)<|s_p E (zJ E)<|s_p E (zv E E)<|an H7 fun c H8=>qo E E E E E c E<|nx<|zn H8 (fun (J:Mem→Prop) (z:Unit) S=>J S) (fun z=>⟨75,[(8,.pointer (some ⟨b,0,none⟩))]⟩) (fun z=>[]) (fun _ Sx_7 H9=>csr<|mv E E<|gv E E<|gv E E<|nx<|zi<|zh Tryz.results28 (zd E (zd E ze)) ⟨_,_,E,H9⟩) (fun Jx hJx H10=>csr<|mv E E<|s_p E (zJ E)<|s_p E (zv E E)<|gx H10 fun t_6 ht_6 H11=>s_v E (zz E) (zH ht_6)<|s_p E (yk E)<|mv E E<|nx<|zw<|qB (fun z=>⟨75,[(8,.pointer (some ⟨b,0,none⟩)),(58,eL t_6),(59,.int .i64 (t_6.n:Int)),(60,.int .i64 z)]⟩) (fun z=>[]) 0 (idx:=[]) H11 E ⟨E,E,E,E,True.intro⟩ E<|fun Xx hXx t_7 Sx_8 H12=>csr<|iteK H12 (fun c_1 H13=>s_p E (yT (zD E E) c_1)<|nx<|zC<|c_t E E<|qg<|zt<|zC<|zw<|zC<|by exact zu<|by obtain⟨b_1,o,n,n_1,rfl,H14⟩:=H13;exact an2 H14 fun c_2 c_3 H15=>s_p E (qS E E c_2 c_3 E)<|gx H15 fun t_8 ht_8 H16=>s_v E (zz E) (zH ht_8)<|gv E E<|nx<|zu<|mv E E<|s_p E (zJ E)<|s_p E (zv E E)<|gx H16 fun t_9 ht_9 H17=>s_v E (zz E) (zH ht_9)<|by obtain⟨b_2,o_1,rfl,H18⟩:=H17;exact s_p E (zJ E)<|s_p E (zv E E)<|gx H18 fun t_10 ht_10 H19=>s_v E (zz E) (zH ht_10)<|mv E E<|qC E E H19 fun t_11 Sx_9 H20=>zr<|zU<|zt<|zu<|s_p E (qh E E)<|mv E E<|zr<|hXx (IntKind.i64.wrap (t_7+1)) _ _ _ _ [] H20 E ⟨E,E,E,E,True.intro⟩ E) fun c_1 H13=>s_p E (yF (zD E E) c_1)<|nx<|zC<|c_f E E<|qt<|zl<|zl<|zI<|hJx () _ _ _ _ [] H13 E ⟨E,True.intro⟩ E)) (fun Jx_1 hJx_1 H21=>csr<|mv E E<|iteK H21 (fun c_4 H22=>s_p E (yT (zD E E) c_4)<|mv E E<|sk2 E E<|pk E E E<|mv E E<|sk2 E E<|pk E E E<|mv E E<|sk2 E E<|zP E<|pk E E E<|mv E E<|sk4 E E E E<|sk2 E E<|pk E E E<|nx<|c_t E E<|csr<|gv E E<|gv E E<|nx<|zi<|zb<|zh Tryz.results28 (zd E (zd E ze)) ⟨_,_,E,H22⟩) fun c_4 H22=>s_p E (yF (zD E E) c_4)<|mv E E<|mv E E<|iteK H22 (fun c_5 H23=>s_p E (yT (xu E E) c_5)<|pk E E E<|mv E E<|sk2 E E<|pk E E E<|mv E E<|sk2 E E<|zP E<|pk E E E<|mv E E<|sk4 E E E E<|sk2 E E<|pk E E E<|nx<|c_t E E<|csr<|gv E E<|gv E E<|nx<|zi<|zb<|zh Tryz.results28 (zd E (zd E ze)) ⟨_,_,E,H23⟩) fun c_5 H23=>s_p E (yF (xu E E) c_5)<|pk E E E<|mv E E<|mv E E<|iteK H23 (fun c_6 H24=>s_p E (yT (zD E E) c_6)<|pk E E E<|mv E E<|sk2 E E<|zP E<|pk E E E<|mv E E<|sk4 E E E E<|sk2 E E<|pk E E E<|nx<|c_t E E<|csr<|gv E E<|gv E E<|nx<|zi<|zb<|zh Tryz.results28 (zd E (zd E ze)) ⟨_,_,E,H24⟩) fun c_6 H24=>s_p E (yF (zD E E) c_6)<|pk E E E<|mv E E<|mv E E<|mv E E<|iteK H24 (fun c_7 H25=>s_p E (yT (xu E E) c_7)<|pk E E E<|mv E E<|sk4 E E E E<|sk2 E E<|pk E E E<|nx<|c_t E E<|csr<|gv E E<|gv E E<|nx<|zi<|zb<|zh Tryz.results28 (zd E (zd E ze)) ⟨_,_,E,H25⟩) fun c_7 H25=>s_p E (yF (xu E E) c_7)<|pk E E E<|mv E E<|mv E E<|iteK H25 (fun c_8 H26=>s_p E (yT (zQ E E) c_8)<|mv E E<|mv E E<|iteK H26 (fun c_9 H27=>s_p E (yT (zQ E E) c_9)<|pk E E E<|pk E E E<|nx<|c_t E E<|csr<|gv E E<|gv E E<|nx<|zi<|zb<|zh Tryz.results28 (zd E (zd E ze)) ⟨_,_,E,H27⟩) fun c_9 H27=>s_p E (yF (zQ E E) c_9)<|pk E E E<|pk E E E<|nx<|cfs E E<|hJx_1 () _ _ _ _ [] H27 E ⟨E,E,E,True.intro⟩ E) fun c_8 H26=>s_p E (yF (zQ E E) c_8)<|mv E E<|sk2 E E<|pk E E E<|pk E E E<|nx<|cfs E E<|hJx_1 () _ _ _ _ [] H26 E ⟨E,E,E,True.intro⟩ E)
def gi (S:Mem) (Q:List Value→Mem→Prop):Prop:=
 jn (fun (d:List Value) (Sx:Mem)=>
 d.length=4 ∧
 d.all (·.oneCell')=true ∧
 Q d Sx) fun Jx=>
 lp (fun Xx (z:Int×List Value) (Sx_1:Mem)=>
 match z with
 | (t,d_1)=>
 d_1.length=4 ∧
 if t<4 then
 al Sx_1 5 (zrep 256 [.int .u8 0]) fun b_2 Sx_2=>
 0≤t∧t<4 ∧
 Xx (IntKind.i64.wrap (t+1),spl d_1 (0+t.toNat*1) ([.slice (some ⟨b_2,0,none⟩) 256 256])) Sx_2
 else
 Jx d_1 Sx_1) (0,[.slice (none) 0 0,.slice (none) 0 0,.slice (none) 0 0,.slice (none) 0 0]) S
theorem zfn {S:Mem} {Q:List Value→Mem→Prop} (H:gi S Q):zaE S Q:=by
 unfold gi at H
 exact Tr.intro Tryz.func115 E Tryz.ntmps115 E fun w0=>csr<|by refine zL E fun b=>?_;exact nxr<|by refine zL E fun b_1=>?_;exact nx<|zn H (fun (J:List Value→Mem→Prop) (z:List Value) S=>J z S) (fun z=>⟨11,[(0,.pointer (some ⟨b,0,none⟩)),(1,.pointer (some ⟨b_1,0,none⟩))]⟩) (fun z=>[⟨b,64,[.slice (none) 0 0,.slice (none) 0 0,.slice (none) 0 0,.slice (none) 0 0]⟩,⟨b_1,64,z⟩]) (fun d Sx H1=>an H1 fun hd H2=>csr<|by refine s_v E (zT E hd) (zE (k:=4) 1 E (zk hd)) ?_;exact an H2 fun c H3=>zp 0 E E E E E hd E c<|nx<|zi<|zh Tryz.results115 (zA E (zE (k:=4) 0 E (zk hd)) hd ze) ⟨_,E,hd,H3⟩) (fun Jx hJx H4=>csr<|mv E E<|nx<|zw<|qB (fun z=>⟨11,[(0,.pointer (some ⟨b,0,none⟩)),(1,.pointer (some ⟨b_1,0,none⟩)),(3,.int .i64 z.1)]⟩) (fun z=>[⟨b,64,[.slice (none) 0 0,.slice (none) 0 0,.slice (none) 0 0,.slice (none) 0 0]⟩,⟨b_1,64,z.2⟩]) (0,[.slice (none) 0 0,.slice (none) 0 0,.slice (none) 0 0,.slice (none) 0 0]) (idx:=[0,0]) H4 E ⟨E,E,E,True.intro⟩ E<|by rintro Xx hXx ⟨t,d_1⟩ Sx_1 H5;exact an H5 fun hd_1 H6=>csr<|iteK H6 (fun c_1 H7=>s_p E (yT (zD E E) c_1)<|nx<|zC<|c_t E E<|qg<|zt<|zC<|zw<|csr<|mv E E<|gv E E<|nx<|zu<|mv E E<|zmX E E E (by decide) (by decide) (by decide) (by decide) fun b_2=>ku 2 E fun hb_2=>have H8:=H7 b_2 hb_2;an2 H8 fun c_2 c_3 H9=>s_p E (qv E E c_2 c_3 E)<|qT (sz:=1) (vs:=[.slice (some ⟨b_2,0,none⟩) 256 256]) 1 E E E E E E (wa hd_1 (by omega)) E<|zr<|zU<|zt<|zu<|s_p E (qh E E)<|mv E E<|zr<|hXx (IntKind.i64.wrap (t+1),spl d_1 (0+t.toNat*1) ([.slice (some ⟨b_2,0,none⟩) 256 256])) _ _ _ _ [0,0] H9 E ⟨E,E,E,True.intro⟩ E) fun c_1 H7=>s_p E (yF (zD E E) c_1)<|nx<|zC<|c_f E E<|qt<|zl<|zl<|zI<|hJx d_1 _ _ _ _ [0,0] H7 E ⟨E,E,True.intro⟩ E)
def jh (S:Mem) (seats:Int) (quota:Int) (Q:List Value→Int→Mem→Prop):Prop:=
 jn (fun (v:List Value) (Sx:Mem)=>
 v.length=12 ∧
 zaE Sx fun t Sx_1=>
 (spl (spl (spl ([.bool false,.slice (none) 0 0,.int .i64 0,.slice (none) 0 0,.int .i64 0,.int .u64 0,.slice (none) 0 0,.slice (none) 0 0,.slice (none) 0 0,.slice (none) 0 0,.slice (none) 0 0,.int .u32 0]) 0 [.bool true]) 4 [.int .i64 quota]) 7 t).all (·.oneCell')=true ∧
 jn (fun (v_1:List Value) (Sx_2:Mem)=>
 v_1.length=12 ∧
 v_1.all (·.oneCell')=true ∧
 Q v_1 0 Sx_2) fun Jx=>
 lp (fun Xx (z:Int×List Value) (Sx_3:Mem)=>
 match z with
 | (t_1,v_2)=>
 v_2.length=12 ∧
 if t_1<seats then
 gL (nthL v_2 1) fun t_2=>
 zid Sx_3 fun t_3 Sx_4=>
 t_3.all (·.oneCell')=true ∧
 ap Sx_4 43 26 192 z43 t_2 1 t_3 fun t_4 Sx_5=>
 Xx (IntKind.i64.wrap (t_1+1),spl v_2 1 ([eL t_4])) Sx_5
 else
 Jx v_2 Sx_3) (0,spl (spl (spl ([.bool false,.slice (none) 0 0,.int .i64 0,.slice (none) 0 0,.int .i64 0,.int .u64 0,.slice (none) 0 0,.slice (none) 0 0,.slice (none) 0 0,.slice (none) 0 0,.slice (none) 0 0,.int .u32 0]) 0 [.bool true]) 4 [.int .i64 quota]) 7 t) Sx_1) fun Jx_1=>
 if seats<1 then
 Q ([.bool false,.slice (none) 0 0,.int .i64 0,.slice (none) 0 0,.int .i64 0,.int .u64 0,.slice (none) 0 0,.slice (none) 0 0,.slice (none) 0 0,.slice (none) 0 0,.slice (none) 0 0,.int .u32 0]) 1 S
 else
 if 3<seats then
 Q ([.bool false,.slice (none) 0 0,.int .i64 0,.slice (none) 0 0,.int .i64 0,.int .u64 0,.slice (none) 0 0,.slice (none) 0 0,.slice (none) 0 0,.slice (none) 0 0,.slice (none) 0 0,.int .u32 0]) 1 S
 else
 if quota<1 then
 Q ([.bool false,.slice (none) 0 0,.int .i64 0,.slice (none) 0 0,.int .i64 0,.int .u64 0,.slice (none) 0 0,.slice (none) 0 0,.slice (none) 0 0,.slice (none) 0 0,.slice (none) 0 0,.int .u32 0]) 1 S
 else
 if 32<quota then
 Q ([.bool false,.slice (none) 0 0,.int .i64 0,.slice (none) 0 0,.int .i64 0,.int .u64 0,.slice (none) 0 0,.slice (none) 0 0,.slice (none) 0 0,.slice (none) 0 0,.slice (none) 0 0,.int .u32 0]) 1 S
 else
 Jx_1 ([.bool false,.slice (none) 0 0,.int .i64 0,.slice (none) 0 0,.int .i64 0,.int .u64 0,.slice (none) 0 0,.slice (none) 0 0,.slice (none) 0 0,.slice (none) 0 0,.slice (none) 0 0,.int .u32 0]) S
theorem zcF {S:Mem} {seats:Int} {quota:Int} {Q:List Value→Int→Mem→Prop} (H:jh S seats quota Q):fP S seats quota Q:=by
 unfold jh at H
 exact Tr.intro Tryz.func56 E Tryz.ntmps56 E fun w0=>csr<|by refine zL E fun b=>?_;exact gv E E<|nx<|zn H (fun (J:List Value→Mem→Prop) (z:List Value) S=>J z S) (fun z=>⟨36,[(0,.int .i64 seats),(1,.int .i64 quota),(4,.pointer (some ⟨b,0,none⟩))]⟩) (fun z=>[⟨b,66,z⟩]) (fun v Sx H1=>an H1 fun hv H2=>csr<|mv E E<|qr E E H2 fun rv Sx_1 H3=>by obtain⟨t,rfl,ht,H4⟩:=H3;exact s_p E (zF E (yd (off:=0) (size:=1) E E (wa (n:=12) E (by decide)) (yd (off:=4) (size:=1) E E (wa (n:=12) (vT (m:=1) E E (by decide)) (by decide)) (yd (off:=7) (size:=4) E ht (wa (n:=12) (vT (m:=1) (vT (m:=1) E E (by decide)) E (by decide)) (by decide)) fQ))))<|by exact by refine zL E fun b_1=>?_;exact an H4 fun c H5=>zp 1 E E E E E (vT (m:=4) (vT (m:=1) (vT (m:=1) E E (by decide)) E (by decide)) ht (by decide)) E c<|nx<|zn H5 (fun (J:List Value→Mem→Prop) (z:List Value) S=>J z S) (fun z=>⟨36,[(4,.pointer (some ⟨b,0,none⟩)),(6,.pointer (some ⟨b_1,0,none⟩))]⟩) (fun z=>[⟨b,66,v⟩,⟨b_1,66,z⟩]) (fun v_1 Sx_2 H6=>an H6 fun hv_1 H7=>csr<|by refine s_v E (zT E hv_1) (zE (k:=12) 1 E (zk hv_1)) ?_;exact an H7 fun c_1 H8=>zp 0 E E E E E hv_1 hv c_1<|gv E E<|nx<|zi<|zh Tryz.results56 (zA E (zE (k:=12) 0 E (zk hv_1)) hv_1 (zd E ze)) ⟨_,_,E,hv_1,H8⟩) (fun Jx hJx H9=>csr<|mv E E<|mv E E<|nx<|zw<|qB (fun z=>⟨36,[(4,.pointer (some ⟨b,0,none⟩)),(6,.pointer (some ⟨b_1,0,none⟩)),(25,.int .i64 seats),(26,.int .i64 z.1)]⟩) (fun z=>[⟨b,66,v⟩,⟨b_1,66,z.2⟩]) (0,spl (spl (spl ([.bool false,.slice (none) 0 0,.int .i64 0,.slice (none) 0 0,.int .i64 0,.int .u64 0,.slice (none) 0 0,.slice (none) 0 0,.slice (none) 0 0,.slice (none) 0 0,.slice (none) 0 0,.int .u32 0]) 0 [.bool true]) 4 [.int .i64 quota]) 7 t) (idx:=[0,0]) H9 E ⟨E,E,E,E,True.intro⟩ E<|by rintro Xx hXx ⟨t_1,v_2⟩ Sx_3 H10;exact an H10 fun hv_2 H11=>csr<|iteK H11 (fun c_2 H12=>s_p E (yT (zD E E) c_2)<|nx<|zC<|c_t E E<|qg<|zt<|zC<|zw<|zM (by kernel_rfl)<|a_takeP 0 E (by decide +kernel) (zf (za (za (zf (za zc))))) E (zv E E)<|by exact gx H12 fun t_2 ht_2 H13=>zV 1 E (by decide +kernel) (zf (za (za (zf (za zc))))) E (zz E) (zW 1 E ht_2)<|by exact zB 2 (by decide +kernel) E<|by exact qr E E H13 fun rv Sx_4 H14=>by obtain⟨t_3,rfl,ht_3,H15⟩:=H14;exact zr<|zN (zx (zW 1 E ht_2) zy)<|zB 3 (by decide +kernel) E<|by exact zgb E E (by decide) (jd (size:=26) E ht_3) fun b_2=>zr<|zN (zx (zW 1 E ht_2) zy)<|zB 4 (by decide +kernel) E<|by exact an H15 fun c_3 H16=>vY (sx:=t_2) (vs:=t_3) E E E (zgc 2 E (zk ht_3)) ht_3 c_3 (by decide) H16 fun t_4 Sx_5 H17=>zr<|zN zy<|a_takeP 5 E (by decide +kernel) (zf (za (za (zf (za zc))))) E (zv E E)<|by exact zB 6 (by decide +kernel) E<|by exact qT (sz:=1) (vs:=[eL t_4]) 1 E E E E E E (wa hv_2 (by omega)) E<|zr<|zN zy<|zK (by decide +kernel)<|by exact zU<|zt<|zu<|s_p E (qh E E)<|mv E E<|zr<|hXx (IntKind.i64.wrap (t_1+1),spl v_2 1 ([eL t_4])) _ _ _ _ [0,0] H17 E ⟨E,E,E,E,True.intro⟩ E) fun c_2 H12=>s_p E (yF (zD E E) c_2)<|nx<|zC<|c_f E E<|qt<|zl<|zl<|zI<|hJx v_2 _ _ _ _ [0,0] H12 E ⟨E,E,True.intro⟩ E)) (fun Jx_1 hJx_1 H18=>csr<|mv E E<|iteK H18 (fun c_4 H19=>s_p E (yT (zD E E) c_4)<|mv E E<|sk2 E E<|pk E E E<|mv E E<|sk2 E E<|pk E E E<|mv E E<|sk2 E E<|pk E E E<|nx<|c_t E E<|csr<|s_p E (zF E E)<|by exact qT (sz:=12) (vs:=[.bool false,.slice (none) 0 0,.int .i64 0,.slice (none) 0 0,.int .i64 0,.int .u64 0,.slice (none) 0 0,.slice (none) 0 0,.slice (none) 0 0,.slice (none) 0 0,.slice (none) 0 0,.int .u32 0]) 0 E E E E E E (Nat.le_of_ble_eq_true E) E<|gv E E<|nx<|zi<|zb<|zh Tryz.results56 (zA E (zE (k:=12) 0 E E) E (zd E ze)) ⟨_,_,E,E,H19⟩) fun c_4 H19=>s_p E (yF (zD E E) c_4)<|mv E E<|mv E E<|iteK H19 (fun c_5 H20=>s_p E (yT (xu E E) c_5)<|pk E E E<|mv E E<|sk2 E E<|pk E E E<|mv E E<|sk2 E E<|pk E E E<|nx<|c_t E E<|csr<|s_p E (zF E E)<|by exact qT (sz:=12) (vs:=[.bool false,.slice (none) 0 0,.int .i64 0,.slice (none) 0 0,.int .i64 0,.int .u64 0,.slice (none) 0 0,.slice (none) 0 0,.slice (none) 0 0,.slice (none) 0 0,.slice (none) 0 0,.int .u32 0]) 0 E E E E E E (Nat.le_of_ble_eq_true E) E<|gv E E<|nx<|zi<|zb<|zh Tryz.results56 (zA E (zE (k:=12) 0 E E) E (zd E ze)) ⟨_,_,E,E,H20⟩) fun c_5 H20=>s_p E (yF (xu E E) c_5)<|pk E E E<|mv E E<|mv E E<|iteK H20 (fun c_6 H21=>s_p E (yT (zD E E) c_6)<|pk E E E<|mv E E<|sk2 E E<|pk E E E<|nx<|c_t E E<|csr<|s_p E (zF E E)<|by exact qT (sz:=12) (vs:=[.bool false,.slice (none) 0 0,.int .i64 0,.slice (none) 0 0,.int .i64 0,.int .u64 0,.slice (none) 0 0,.slice (none) 0 0,.slice (none) 0 0,.slice (none) 0 0,.slice (none) 0 0,.int .u32 0]) 0 E E E E E E (Nat.le_of_ble_eq_true E) E<|gv E E<|nx<|zi<|zb<|zh Tryz.results56 (zA E (zE (k:=12) 0 E E) E (zd E ze)) ⟨_,_,E,E,H21⟩) fun c_6 H21=>s_p E (yF (zD E E) c_6)<|pk E E E<|mv E E<|mv E E<|iteK H21 (fun c_7 H22=>s_p E (yT (xu E E) c_7)<|pk E E E<|nx<|c_t E E<|csr<|s_p E (zF E E)<|by exact qT (sz:=12) (vs:=[.bool false,.slice (none) 0 0,.int .i64 0,.slice (none) 0 0,.int .i64 0,.int .u64 0,.slice (none) 0 0,.slice (none) 0 0,.slice (none) 0 0,.slice (none) 0 0,.slice (none) 0 0,.int .u32 0]) 0 E E E E E E (Nat.le_of_ble_eq_true E) E<|gv E E<|nx<|zi<|zb<|zh Tryz.results56 (zA E (zE (k:=12) 0 E E) E (zd E ze)) ⟨_,_,E,E,H22⟩) fun c_7 H22=>s_p E (yF (xu E E) c_7)<|pk E E E<|nx<|cfs E E<|hJx_1 ([.bool false,.slice (none) 0 0,.int .i64 0,.slice (none) 0 0,.int .i64 0,.int .u64 0,.slice (none) 0 0,.slice (none) 0 0,.slice (none) 0 0,.slice (none) 0 0,.slice (none) 0 0,.int .u32 0]) _ _ _ _ [0] H22 E ⟨E,E,E,True.intro⟩ E)
def zaV (S:Mem) (form:Int) (frames:Int) (Q:Pt→Mem→Prop):Prop:=
 zdQ S frames fun t Sx=>
 al Sx 127 ([.slice (none) 0 0]) fun b Sx_1=>
 al Sx_1 77 (spl (spl (spl z77 0 [.int .i64 form]) 74 [eP t]) 171 [.pointer (some ⟨b,0,none⟩)]) fun b_1 Sx_2=>
 Q (some (b_1,0)) Sx_2
theorem zho {S:Mem} {form:Int} {frames:Int} {Q:Pt→Mem→Prop} (H:zaV S form frames Q):zbF S form frames Q:=by
 unfold zaV at H
 exact Tr.intro Tryz.func70 E Tryz.ntmps70 E fun w0=>csr<|gv E E<|nxr<|mv E E<|mv E E<|qC E E H fun t Sx H1=>s_p E (zF E E)<|by exact qM E E E fun b=>ku 0 E fun hb=>have H2:=H1 b hb;s_p E (zF E (yd (off:=0) (size:=1) E E (wa (n:=190) zhb (by decide)) (yd (off:=74) (size:=1) E E (wa (n:=190) (vT (m:=1) zhb E (by decide)) (by decide)) (yd (off:=171) (size:=1) E E (wa (n:=190) (vT (m:=1) (vT (m:=1) zhb E (by decide)) E (by decide)) (by decide)) fQ))))<|by exact qM E E E fun b_1=>ku 0 E fun hb_1=>have H3:=H2 b_1 hb_1;gv E E<|nx<|zi<|zh Tryz.results70 (zd E ze) ⟨_,E,H3⟩
def zcw (S:Mem) (Q:List Value→Mem→Prop):Prop:=
 Q ([.int .u64 0,.int .u64 0,.int .u64 0,.int .u64 0,.int .u64 0,.int .u64 0,.int .u64 0,.int .u64 0,.int .u64 0,.int .u64 0,.int .u64 0,.int .u64 0,.int .u64 0,.int .u64 0,.int .u64 0,.int .u64 0,.int .u64 0,.int .u64 0,.int .u64 0,.int .u64 0,.int .u64 0,.int .u64 0,.bool false,.int .u8 0,.int .u32 0,.int .u32 0]) S
theorem ziI {S:Mem} {Q:List Value→Mem→Prop} (H:zcw S Q):zid S Q:=by
 unfold zcw at H
 exact Tr.intro Tryz.func116 E Tryz.ntmps116 E fun w0=>csr<|by refine zL E fun b=>?_;exact nxr<|s_p E (zF E E)<|by exact zp 0 E E E E E E zmE E<|nx<|zi<|zh Tryz.results116 (zA E (zE (k:=26) 0 E E) E ze) ⟨_,E,E,H⟩
end Go.Proofs.YtabdpmnhjlmnlaaGreatDoor
end
