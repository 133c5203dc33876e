/- Texts of this work,joined by program (pack.py): PtS,PsC. -/
import Derived.Test.YtabdpmnhjlmnlaaGreatDoorQLB
set_option linter.unusedVariables false
section
namespace Go.Proofs.YtabdpmnhjlmnlaaGreatDoor
open Go Go.Pt
def kJ (S:Mem) (x0:Sl) (x1:Int) (x2:Int) (Q:Bool→Mem→Prop):Prop:=
 Tr Tryz.prog 3 S [eL x0,.int .u8 x1,.int .u8 x2] fun v S'=>∃ r0:Bool,v=.bool r0∧Q r0 S'
def qP (S:Mem) (Q:Bool→Mem→Prop):Prop:=
 Tr Tryz.prog 15 S [] fun v S'=>∃ r0:Bool,v=.bool r0∧Q r0 S'
def zat (S:Mem) (x0:Int) (Q:Pt→Mem→Prop):Prop:=
 Tr Tryz.prog 16 S [.int .i64 x0] fun v S'=>∃ r0:Pt,v=eP r0∧Q r0 S'
def xZ (S:Mem) (x0:Int) (Q:Pt→Mem→Prop):Prop:=
 Tr Tryz.prog 17 S [.int .i64 x0] fun v S'=>∃ r0:Pt,v=eP r0∧Q r0 S'
def xd (S:Mem) (x0:Pt) (x1:Int) (x2:Int) (x3:Int) (x4:Sl) (Q:Int→Int→Mem→Prop):Prop:=
 Tr Tryz.prog 18 S [eP x0,.int .i64 x1,.int .i64 x2,.int .i64 x3,eL x4] fun v S'=>∃ r0:Int,∃ r1:Int,v=.tuple #[.int .i64 r0,.int .i64 r1]∧Q r0 r1 S'
def yO (S:Mem) (x0:Pt) (x1:Int) (x2:Int) (x3:Int) (x4:Sl) (Q:Int→Int→Mem→Prop):Prop:=
 Tr Tryz.prog 19 S [eP x0,.int .i64 x1,.int .i64 x2,.int .i64 x3,eL x4] fun v S'=>∃ r0:Int,∃ r1:Int,v=.tuple #[.int .i64 r0,.int .i64 r1]∧Q r0 r1 S'
def vN (S:Mem) (x0:Pt) (x1:Int) (x2:Int) (Q:Int→Mem→Prop):Prop:=
 Tr Tryz.prog 20 S [eP x0,.int .i64 x1,.int .u8 x2] fun v S'=>∃ r0:Int,v=.int .i64 r0∧Q r0 S'
def wa (S:Mem) (x0:Pt) (x1:Int) (x2:Int) (Q:Int→Mem→Prop):Prop:=
 Tr Tryz.prog 21 S [eP x0,.int .i64 x1,.int .u8 x2] fun v S'=>∃ r0:Int,v=.int .i64 r0∧Q r0 S'
def wy (S:Mem) (x0:Pt) (x1:Int) (x2:Int) (Q:Int→Mem→Prop):Prop:=
 Tr Tryz.prog 22 S [eP x0,.int .i64 x1,.int .i64 x2] fun v S'=>∃ r0:Int,v=.int .i64 r0∧Q r0 S'
def yv (S:Mem) (x0:Pt) (x1:Int) (x2:Int) (Q:Int→Mem→Prop):Prop:=
 Tr Tryz.prog 23 S [eP x0,.int .i64 x1,.int .i64 x2] fun v S'=>∃ r0:Int,v=.int .i64 r0∧Q r0 S'
def xN (S:Mem) (x0:Pt) (x1:Pt) (Q:Bool→Mem→Prop):Prop:=
 Tr Tryz.prog 24 S [eP x0,eP x1] fun v S'=>∃ r0:Bool,v=.bool r0∧Q r0 S'
def zbY (S:Mem) (x0:List Value) (x1:Int) (x2:Int) (x3:List Value) (Q:List Value→Mem→Prop):Prop:=
 Tr Tryz.prog 25 S [valL x0,.int .i64 x1,.int .u64 x2,valL x3] fun v S'=>∃ r0:List Value,v=valL r0∧r0.length=4∧Q r0 S'
def wb (S:Mem) (x0:List Value) (Q:Int→Mem→Prop):Prop:=
 Tr Tryz.prog 26 S [valL x0] fun v S'=>∃ r0:Int,v=.int .u64 r0∧Q r0 S'
def xM (S:Mem) (x0:Int) (x1:Int) (x2:Int) (x3:Int) (x4:Int) (Q:Int→Mem→Prop):Prop:=
 Tr Tryz.prog 29 S [.int .u8 x0,.int .u8 x1,.int .u8 x2,.int .u8 x3,.int .i16 x4] fun v S'=>∃ r0:Int,v=.int .u32 r0∧Q r0 S'
def qz (S:Mem) (x0:Int) (Q:Int→Mem→Prop):Prop:=
 Tr Tryz.prog 43 S [.int .u64 x0] fun v S'=>∃ r0:Int,v=.int .i64 r0∧Q r0 S'
def xX (S:Mem) (x0:Pt) (Q:Int→Mem→Prop):Prop:=
 Tr Tryz.prog 55 S [eP x0] fun v S'=>∃ r0:Int,v=.int .i64 r0∧Q r0 S'
def zaO (S:Mem) (x0:Int) (x1:Int) (Q:List Value→Int→Mem→Prop):Prop:=
 Tr Tryz.prog 56 S [.int .i64 x0,.int .i64 x1] fun v S'=>∃ r0:List Value,∃ r1:Int,v=.tuple #[valL r0,.int .i64 r1]∧r0.length=12∧Q r0 r1 S'
def qT (S:Mem) (x0:Pt) (x1:Int) (Q:Bool→Mem→Prop):Prop:=
 Tr Tryz.prog 57 S [eP x0,.int .i64 x1] fun v S'=>∃ r0:Bool,v=.bool r0∧Q r0 S'
def gG (S:Mem) (x0:Pt) (x1:Int) (Q:Int→Mem→Prop):Prop:=
 Tr Tryz.prog 58 S [eP x0,.int .i64 x1] fun v S'=>∃ r0:Int,v=.int .i64 r0∧Q r0 S'
def qA (S:Mem) (x0:Pt) (x1:Int) (Q:Bool→Mem→Prop):Prop:=
 Tr Tryz.prog 59 S [eP x0,.int .i64 x1] fun v S'=>∃ r0:Bool,v=.bool r0∧Q r0 S'
def qO (S:Mem) (x0:Pt) (x1:Int) (x2:Int) (x3:Int) (Q:Int→Mem→Prop):Prop:=
 Tr Tryz.prog 60 S [eP x0,.int .i64 x1,.int .i64 x2,.int .i64 x3] fun v S'=>∃ r0:Int,v=.int .i64 r0∧Q r0 S'
def zdu (S:Mem) (x0:Pt) (x1:Value) (x2:Int) (x3:Int) (Q:List Value→Mem→Prop):Prop:=
 Tr Tryz.prog 61 S [eP x0,x1,.int .u64 x2,.int .i64 x3] fun v S'=>∃ r0:List Value,v=valL r0∧r0.length=2∧Q r0 S'
def yK (S:Mem) (x0:Pt) (x1:Int) (x2:List Value) (Q:Mem→Prop):Prop:=
 Tr Tryz.prog 62 S [eP x0,.int .i64 x1,valL x2] fun v S'=>v=.tuple #[]∧Q S'
def vp (S:Mem) (x0:Pt) (x1:Int) (x2:Int) (x3:Int) (Q:Mem→Prop):Prop:=
 Tr Tryz.prog 63 S [eP x0,.int .i64 x1,.int .i64 x2,.int .u64 x3] fun v S'=>v=.tuple #[]∧Q S'
def xJ (S:Mem) (x0:List Value) (x1:Pt) (x2:Int) (x3:Int) (Q:List Value→Int→Int→Mem→Prop):Prop:=
 Tr Tryz.prog 64 S [valL x0,eP x1,.int .u64 x2,.int .i64 x3] fun v S'=>∃ r0:List Value,∃ r1:Int,∃ r2:Int,v=.tuple #[valL r0,.int .u8 r1,.int .u64 r2]∧r0.length=26∧Q r0 r1 r2 S'
def qy (S:Mem) (x0:Pt) (x1:Int) (x2:Int) (x3:Int) (x4:Int) (x5:Int) (Q:Mem→Prop):Prop:=
 Tr Tryz.prog 65 S [eP x0,.int .i64 x1,.int .i64 x2,.int .u8 x3,.int .u64 x4,.int .u64 x5] fun v S'=>v=.tuple #[]∧Q S'
def xH (S:Mem) (x0:Pt) (x1:Int) (x2:Int) (x3:Int) (x4:Int) (x5:Int) (x6:Int) (Q:Int→Int→Mem→Prop):Prop:=
 Tr Tryz.prog 66 S [eP x0,.int .i64 x1,.int .i64 x2,.int .u64 x3,.int .u64 x4,.int .u64 x5,.int .u64 x6] fun v S'=>∃ r0:Int,∃ r1:Int,v=.tuple #[.int .u64 r0,.int .i64 r1]∧Q r0 r1 S'
def wz (S:Mem) (x0:Pt) (x1:Int) (Q:Sl→Mem→Prop):Prop:=
 Tr Tryz.prog 67 S [eP x0,.int .i64 x1] fun v S'=>∃ r0:Sl,v=eL r0∧Q r0 S'
def zdc (S:Mem) (x0:List Value) (Q:Int→Mem→Prop):Prop:=
 Tr Tryz.prog 68 S [valL x0] fun v S'=>∃ r0:Int,v=.int .u64 r0∧Q r0 S'
def vO (S:Mem) (x0:List Value) (Q:Int→Mem→Prop):Prop:=
 Tr Tryz.prog 69 S [valL x0] fun v S'=>∃ r0:Int,v=.int .u64 r0∧Q r0 S'
def qH (S:Mem) (x0:Int) (Q:Int→Mem→Prop):Prop:=
 Tr Tryz.prog 73 S [.int .u8 x0] fun v S'=>∃ r0:Int,v=.int .i64 r0∧Q r0 S'
def xk (S:Mem) (x0:Pt) (x1:Int) (Q:Int→Mem→Prop):Prop:=
 Tr Tryz.prog 83 S [eP x0,.int .i64 x1] fun v S'=>∃ r0:Int,v=.int .i64 r0∧Q r0 S'
def yi (S:Mem) (x0:Pt) (x1:Int) (x2:Int) (Q:Mem→Prop):Prop:=
 Tr Tryz.prog 92 S [eP x0,.int .i64 x1,.int .i64 x2] fun v S'=>v=.tuple #[]∧Q S'
def zau (S:Mem) (x0:Value) (Q:Mem→Prop):Prop:=
 Tr Tryz.prog 106 S [x0] fun v S'=>v=.tuple #[]∧Q S'
def fu (S:Mem) (Q:List Value→Mem→Prop):Prop:=
 Tr Tryz.prog 115 S [] fun v S'=>∃ r0:List Value,v=valL r0∧r0.length=4∧Q r0 S'
def zfn (S:Mem) (Q:List Value→Mem→Prop):Prop:=
 Tr Tryz.prog 116 S [] fun v S'=>∃ r0:List Value,v=valL r0∧r0.length=26∧Q r0 S'
def zaL (S:Mem) (x0:Int) (Q:Bool→Mem→Prop):Prop:=
 Tr Tryz.prog 117 S [.int .i64 x0] fun v S'=>∃ r0:Bool,v=.bool r0∧Q r0 S'
def zar (S:Mem) (x0:Pt) (Q:Mem→Prop):Prop:=
 Tr Tryz.prog 118 S [eP x0] fun v S'=>v=.tuple #[]∧Q S'
def xI (S:Mem) (x0:List Value) (Q:List Value→Mem→Prop):Prop:=
 Tr Tryz.prog 119 S [valL x0] fun v S'=>∃ r0:List Value,v=valL r0∧r0.length=26∧Q r0 S'
def zbN (S:Mem) (x0:Pt) (Q:Int→Bool→Mem→Prop):Prop:=
 Tr Tryz.prog 120 S [eP x0] fun v S'=>∃ r0:Int,∃ r1:Bool,v=.tuple #[.int .i64 r0,.bool r1]∧Q r0 r1 S'
def yr (S:Mem) (x0:List Value) (x1:Int) (x2:Int) (Q:List Value→Mem→Prop):Prop:=
 Tr Tryz.prog 121 S [valL x0,.int .u64 x1,.int .u64 x2] fun v S'=>∃ r0:List Value,v=valL r0∧r0.length=2∧Q r0 S'
def kj (S:Mem) (x0:List Value) (x1:Int) (x2:Int) (Q:Int→Bool→Mem→Prop):Prop:=
 Tr Tryz.prog 122 S [valL x0,.int .u64 x1,.int .i64 x2] fun v S'=>∃ r0:Int,∃ r1:Bool,v=.tuple #[.int .u64 r0,.bool r1]∧Q r0 r1 S'
def fG (S:Mem) (x0:Int) (Q:List Value→Bool→Mem→Prop):Prop:=
 Tr Tryz.prog 123 S [.int .u32 x0] fun v S'=>∃ r0:List Value,∃ r1:Bool,v=.tuple #[valL r0,.bool r1]∧r0.length=5∧Q r0 r1 S'
def zaP (S:Mem) (x0:List Value) (x1:List Value) (Q:List Value→Mem→Prop):Prop:=
 Tr Tryz.prog 124 S [valL x0,valL x1] fun v S'=>∃ r0:List Value,v=valL r0∧r0.length=2∧Q r0 S'
def kH (S:Mem) (x0:Pt) (x1:Int) (Q:Value→Bool→Mem→Prop):Prop:=
 Tr Tryz.prog 125 S [eP x0,.int .u64 x1] fun v S'=>∃ r0:Value,∃ r1:Bool,v=.tuple #[r0,.bool r1]∧Q r0 r1 S'
def xK (S:Mem) (x0:List Value) (Q:Int→Mem→Prop):Prop:=
 Tr Tryz.prog 126 S [valL x0] fun v S'=>∃ r0:Int,v=.int .i64 r0∧Q r0 S'
def zL (S:Mem) (x0:List Value) (x1:Int) (x2:Int) (Q:List Value→Int→Int→Mem→Prop):Prop:=
 Tr Tryz.prog 127 S [valL x0,.int .u64 x1,.int .u64 x2] fun v S'=>∃ r0:List Value,∃ r1:Int,∃ r2:Int,v=.tuple #[valL r0,.int .u8 r1,.int .u64 r2]∧r0.length=26∧Q r0 r1 r2 S'
def qW (S:Mem) (x0:List Value) (x1:Pt) (x2:Int) (x3:Int) (Q:Int→Bool→Mem→Prop):Prop:=
 Tr Tryz.prog 128 S [valL x0,eP x1,.int .u64 x2,.int .i64 x3] fun v S'=>∃ r0:Int,∃ r1:Bool,v=.tuple #[.int .u64 r0,.bool r1]∧Q r0 r1 S'
def xo (S:Mem) (x0:Int) (x1:Int) (x2:Int) (x3:Int) (x4:Int) (Q:Bool→Mem→Prop):Prop:=
 Tr Tryz.prog 129 S [.int .u8 x0,.int .u8 x1,.int .u8 x2,.int .u8 x3,.int .i16 x4] fun v S'=>∃ r0:Bool,v=.bool r0∧Q r0 S'
def yw (S:Mem) (x0:List Value) (x1:Pt) (x2:Int) (x3:Int) (Q:Bool→Mem→Prop):Prop:=
 Tr Tryz.prog 130 S [valL x0,eP x1,.int .u64 x2,.int .u64 x3] fun v S'=>∃ r0:Bool,v=.bool r0∧Q r0 S'
def ya (S:Mem) (x0:Int) (Q:Int→Mem→Prop):Prop:=
 Tr Tryz.prog 131 S [.int .u64 x0] fun v S'=>∃ r0:Int,v=.int .i64 r0∧Q r0 S'
def yh (S:Mem) (x0:Pt) (x1:Int) (x2:Int) (Q:Int→Mem→Prop):Prop:=
 Tr Tryz.prog 132 S [eP x0,.int .i64 x1,.int .i64 x2] fun v S'=>∃ r0:Int,v=.int .i64 r0∧Q r0 S'
def xj (S:Mem) (x0:Pt) (x1:Int) (x2:Int) (x3:Int) (x4:Int) (Q:Int→Mem→Prop):Prop:=
 Tr Tryz.prog 133 S [eP x0,.int .i64 x1,.int .u64 x2,.int .i64 x3,.int .i64 x4] fun v S'=>∃ r0:Int,v=.int .i64 r0∧Q r0 S'
def zbE (S:Mem) (x0:List Value) (Q:Sl→Mem→Prop):Prop:=
 Tr Tryz.prog 134 S [valL x0] fun v S'=>∃ r0:Sl,v=eL r0∧Q r0 S'
def zbl (S:Mem) (x0:Int) (x1:Int) (Q:Int→Mem→Prop):Prop:=
 Tr Tryz.prog 135 S [.int .u64 x0,.int .u64 x1] fun v S'=>∃ r0:Int,v=.int .u64 r0∧Q r0 S'
def xm (S:Mem) (x0:List Value) (Q:Sl→Mem→Prop):Prop:=
 Tr Tryz.prog 136 S [valL x0] fun v S'=>∃ r0:Sl,v=eL r0∧Q r0 S'
def yx (S:Mem) (x0:Int) (x1:Int) (Q:Int→Mem→Prop):Prop:=
 Tr Tryz.prog 137 S [.int .u64 x0,.int .u64 x1] fun v S'=>∃ r0:Int,v=.int .u64 r0∧Q r0 S'
def yM (S:Mem) (x0:List Value) (x1:Int) (Q:List Value→Int→Mem→Prop):Prop:=
 Tr Tryz.prog 145 S [valL x0,.int .i64 x1] fun v S'=>∃ r0:List Value,∃ r1:Int,v=.tuple #[valL r0,.int .i64 r1]∧r0.length=6∧Q r0 r1 S'
def zbQ (S:Mem) (x0:Value) (x1:Value) (Q:Mem→Prop):Prop:=
 Tr Tryz.prog 150 S [x0,x1] fun v S'=>v=.tuple #[]∧Q S'
def vw (S:Mem) (x0:Pt) (x1:Value) (Q:Mem→Prop):Prop:=
 Tr Tryz.prog 153 S [eP x0,x1] fun v S'=>v=.tuple #[]∧Q S'
def zbP (S:Mem) (x0:Value) (x1:Int) (x2:Int) (Q:Bool→Mem→Prop):Prop:=
 Tr Tryz.prog 162 S [x0,.int .i64 x1,.int .i64 x2] fun v S'=>∃ r0:Bool,v=.bool r0∧Q r0 S'
def zcV (S:Mem) (x0:Sl) (Q:Int→Mem→Prop):Prop:=
 Tr Tryz.prog 164 S [eL x0] fun v S'=>∃ r0:Int,v=.int .u64 r0∧Q r0 S'
def wS (S:Mem) (x0:Int) (x1:Int) (x2:Int) (Q:Int→Mem→Prop):Prop:=
 Tr Tryz.prog 165 S [.int .u64 x0,.int .i64 x1,.int .i64 x2] fun v S'=>∃ r0:Int,v=.int .u64 r0∧Q r0 S'
def zaB (S:Mem) (x0:Int) (Q:Sl→Mem→Prop):Prop:=
 Tr Tryz.prog 166 S [.int .u64 x0] fun v S'=>∃ r0:Sl,v=eL r0∧Q r0 S'
def ww (S:Mem) (x0:Int) (x1:Int) (x2:Int) (x3:Int) (Q:Int→Mem→Prop):Prop:=
 Tr Tryz.prog 167 S [.int .u64 x0,.int .i64 x1,.int .i64 x2,.int .u64 x3] fun v S'=>∃ r0:Int,v=.int .u64 r0∧Q r0 S'
def zbO (S:Mem) (x0:Pt) (Q:Int→Bool→Mem→Prop):Prop:=
 Tr Tryz.prog 170 S [eP x0] fun v S'=>∃ r0:Int,∃ r1:Bool,v=.tuple #[.int .i64 r0,.bool r1]∧Q r0 r1 S'
def zbD (S:Mem) (x0:Pt) (x1:Int) (x2:Int) (Q:Mem→Prop):Prop:=
 Tr Tryz.prog 171 S [eP x0,.int .u64 x1,.int .u64 x2] fun v S'=>v=.tuple #[]∧Q S'
def vB (S:Mem) (x0:List Value) (x1:Int) (x2:Bool) (Q:Int→Int→Bool→Mem→Prop):Prop:=
 Tr Tryz.prog 172 S [valL x0,.int .u64 x1,.bool x2] fun v S'=>∃ r0:Int,∃ r1:Int,∃ r2:Bool,v=.tuple #[.int .i64 r0,.int .i64 r1,.bool r2]∧Q r0 r1 r2 S'
def vR (S:Mem) (x0:Int) (Q:List Value→Mem→Prop):Prop:=
 Tr Tryz.prog 173 S [.int .u8 x0] fun v S'=>∃ r0:List Value,v=valL r0∧r0.length=4∧Q r0 S'
def fF (S:Mem) (x0:List Value) (Q:Int→Bool→Mem→Prop):Prop:=
 Tr Tryz.prog 174 S [valL x0] fun v S'=>∃ r0:Int,∃ r1:Bool,v=.tuple #[.int .u32 r0,.bool r1]∧Q r0 r1 S'
def gk (S:Mem) (x0:List Value) (x1:Int) (x2:Int) (Q:Bool→Mem→Prop):Prop:=
 Tr Tryz.prog 175 S [valL x0,.int .u64 x1,.int .u64 x2] fun v S'=>∃ r0:Bool,v=.bool r0∧Q r0 S'
def gj (S:Mem) (x0:Int) (x1:Int) (x2:Int) (Q:Bool→Mem→Prop):Prop:=
 Tr Tryz.prog 176 S [.int .u8 x0,.int .u64 x1,.int .u64 x2] fun v S'=>∃ r0:Bool,v=.bool r0∧Q r0 S'
def zde (S:Mem) (x0:List Value) (x1:Int) (x2:Int) (x3:Int) (Q:Int→Bool→Mem→Prop):Prop:=
 Tr Tryz.prog 177 S [valL x0,.int .i64 x1,.int .u64 x2,.int .i64 x3] fun v S'=>∃ r0:Int,∃ r1:Bool,v=.tuple #[.int .u64 r0,.bool r1]∧Q r0 r1 S'
def zdd (S:Mem) (x0:Pt) (x1:Int) (x2:Int) (Q:Bool→Mem→Prop):Prop:=
 Tr Tryz.prog 178 S [eP x0,.int .i64 x1,.int .u64 x2] fun v S'=>∃ r0:Bool,v=.bool r0∧Q r0 S'
def zbF (S:Mem) (x0:Pt) (Q:Mem→Prop):Prop:=
 Tr Tryz.prog 179 S [eP x0] fun v S'=>v=.tuple #[]∧Q S'
def zdt (S:Mem) (x0:Int) (x1:Int) (x2:Int) (Q:Int→Mem→Prop):Prop:=
 Tr Tryz.prog 180 S [.int .u8 x0,.int .u64 x1,.int .u64 x2] fun v S'=>∃ r0:Int,v=.int .u64 r0∧Q r0 S'
def gg (S:Mem) (x0:Pt) (x1:Int) (x2:Int) (x3:List Value) (Q:Int→Int→Mem→Prop):Prop:=
 Tr Tryz.prog 181 S [eP x0,.int .i64 x1,.int .i64 x2,valL x3] fun v S'=>∃ r0:Int,∃ r1:Int,v=.tuple #[.int .u64 r0,.int .i64 r1]∧Q r0 r1 S'
def gh (S:Mem) (x0:Pt) (x1:Int) (x2:Int) (x3:List Value) (Q:Int→Int→Mem→Prop):Prop:=
 Tr Tryz.prog 182 S [eP x0,.int .i64 x1,.int .i64 x2,valL x3] fun v S'=>∃ r0:Int,∃ r1:Int,v=.tuple #[.int .u64 r0,.int .i64 r1]∧Q r0 r1 S'
def jr (S:Mem) (x0:Pt) (x1:Int) (x2:Int) (x3:List Value) (Q:Int→Int→Mem→Prop):Prop:=
 Tr Tryz.prog 183 S [eP x0,.int .i64 x1,.int .i64 x2,valL x3] fun v S'=>∃ r0:Int,∃ r1:Int,v=.tuple #[.int .u64 r0,.int .i64 r1]∧Q r0 r1 S'
def kI (S:Mem) (x0:Pt) (x1:Int) (x2:Int) (x3:List Value) (Q:Int→Int→Mem→Prop):Prop:=
 Tr Tryz.prog 184 S [eP x0,.int .i64 x1,.int .i64 x2,valL x3] fun v S'=>∃ r0:Int,∃ r1:Int,v=.tuple #[.int .u64 r0,.int .i64 r1]∧Q r0 r1 S'
def kF (S:Mem) (x0:Pt) (x1:Int) (x2:Int) (x3:List Value) (Q:Int→Int→Mem→Prop):Prop:=
 Tr Tryz.prog 185 S [eP x0,.int .i64 x1,.int .i64 x2,valL x3] fun v S'=>∃ r0:Int,∃ r1:Int,v=.tuple #[.int .u64 r0,.int .i64 r1]∧Q r0 r1 S'
def kd (S:Mem) (x0:Pt) (x1:Int) (x2:Int) (x3:List Value) (Q:Int→Int→Mem→Prop):Prop:=
 Tr Tryz.prog 186 S [eP x0,.int .i64 x1,.int .i64 x2,valL x3] fun v S'=>∃ r0:Int,∃ r1:Int,v=.tuple #[.int .u64 r0,.int .i64 r1]∧Q r0 r1 S'
def kG (S:Mem) (x0:Pt) (x1:Int) (x2:Int) (x3:List Value) (Q:Int→Int→Mem→Prop):Prop:=
 Tr Tryz.prog 187 S [eP x0,.int .i64 x1,.int .i64 x2,valL x3] fun v S'=>∃ r0:Int,∃ r1:Int,v=.tuple #[.int .u64 r0,.int .i64 r1]∧Q r0 r1 S'
def vy (S:Mem) (x0:Pt) (x1:Int) (x2:Int) (x3:List Value) (Q:Int→Int→Mem→Prop):Prop:=
 Tr Tryz.prog 188 S [eP x0,.int .i64 x1,.int .i64 x2,valL x3] fun v S'=>∃ r0:Int,∃ r1:Int,v=.tuple #[.int .u64 r0,.int .i64 r1]∧Q r0 r1 S'
def jt (S:Mem) (x0:Pt) (x1:Int) (x2:Int) (x3:List Value) (Q:Int→Int→Mem→Prop):Prop:=
 Tr Tryz.prog 189 S [eP x0,.int .i64 x1,.int .i64 x2,valL x3] fun v S'=>∃ r0:Int,∃ r1:Int,v=.tuple #[.int .u64 r0,.int .i64 r1]∧Q r0 r1 S'
def gi (S:Mem) (x0:Pt) (x1:Int) (x2:Int) (x3:List Value) (Q:Int→Int→Mem→Prop):Prop:=
 Tr Tryz.prog 190 S [eP x0,.int .i64 x1,.int .i64 x2,valL x3] fun v S'=>∃ r0:Int,∃ r1:Int,v=.tuple #[.int .u64 r0,.int .i64 r1]∧Q r0 r1 S'
def js (S:Mem) (x0:Pt) (x1:Int) (x2:Int) (x3:List Value) (Q:Int→Int→Mem→Prop):Prop:=
 Tr Tryz.prog 191 S [eP x0,.int .i64 x1,.int .i64 x2,valL x3] fun v S'=>∃ r0:Int,∃ r1:Int,v=.tuple #[.int .u64 r0,.int .i64 r1]∧Q r0 r1 S'
def kE (S:Mem) (x0:Pt) (x1:Int) (x2:Int) (x3:List Value) (Q:Int→Int→Mem→Prop):Prop:=
 Tr Tryz.prog 192 S [eP x0,.int .i64 x1,.int .i64 x2,valL x3] fun v S'=>∃ r0:Int,∃ r1:Int,v=.tuple #[.int .u64 r0,.int .i64 r1]∧Q r0 r1 S'
def gW (S:Mem) (x0:Pt) (x1:Int) (x2:Int) (x3:List Value) (Q:Int→Int→Mem→Prop):Prop:=
 Tr Tryz.prog 193 S [eP x0,.int .i64 x1,.int .i64 x2,valL x3] fun v S'=>∃ r0:Int,∃ r1:Int,v=.tuple #[.int .u64 r0,.int .i64 r1]∧Q r0 r1 S'
def jq (S:Mem) (x0:Pt) (x1:Int) (x2:Int) (x3:List Value) (Q:Int→Int→Mem→Prop):Prop:=
 Tr Tryz.prog 194 S [eP x0,.int .i64 x1,.int .i64 x2,valL x3] fun v S'=>∃ r0:Int,∃ r1:Int,v=.tuple #[.int .u64 r0,.int .i64 r1]∧Q r0 r1 S'
def xL (S:Mem) (x0:List Value) (x1:Int) (x2:Int) (Q:List Value→Mem→Prop):Prop:=
 Tr Tryz.prog 195 S [valL x0,.int .u64 x1,.int .u64 x2] fun v S'=>∃ r0:List Value,v=valL r0∧r0.length=26∧Q r0 S'
def yb (S:Mem) (x0:List Value) (x1:Pt) (x2:Int) (x3:Bool) (Q:Int→Int→Bool→Mem→Prop):Prop:=
 Tr Tryz.prog 196 S [valL x0,eP x1,.int .u64 x2,.bool x3] fun v S'=>∃ r0:Int,∃ r1:Int,∃ r2:Bool,v=.tuple #[.int .i64 r0,.int .i64 r1,.bool r2]∧Q r0 r1 r2 S'
def yj (S:Mem) (x0:Pt) (x1:Int) (x2:Int) (x3:Int) (Q:Sl→Bool→Mem→Prop):Prop:=
 Tr Tryz.prog 197 S [eP x0,.int .i64 x1,.int .i64 x2,.int .i64 x3] fun v S'=>∃ r0:Sl,∃ r1:Bool,v=.tuple #[eL r0,.bool r1]∧Q r0 r1 S'
def qG (S:Mem) (x0:Sl) (Q:Int→Mem→Prop):Prop:=
 Tr Tryz.prog 198 S [eL x0] fun v S'=>∃ r0:Int,v=.int .u64 r0∧Q r0 S'
def zai (S:Mem) (x0:Bool) (Q:Int→Mem→Prop):Prop:=
 Tr Tryz.prog 199 S [.bool x0] fun v S'=>∃ r0:Int,v=.int .u64 r0∧Q r0 S'
def zaR (S:Mem) (x0:Int) (x1:Int) (Q:Int→Int→Mem→Prop):Prop:=
 Tr Tryz.prog 200 S [.int .u64 x0,.int .u64 x1] fun v S'=>∃ r0:Int,∃ r1:Int,v=.tuple #[.int .u64 r0,.int .u64 r1]∧Q r0 r1 S'
def wY (S:Mem) (x0:Int) (x1:Int) (Q:Int→Mem→Prop):Prop:=
 Tr Tryz.prog 201 S [.int .u64 x0,.int .i64 x1] fun v S'=>∃ r0:Int,v=.int .u64 r0∧Q r0 S'
def wM (S:Mem) (x0:Pt) (x1:Int) (x2:Int) (x3:Int) (Q:Int→Mem→Prop):Prop:=
 Tr Tryz.prog 205 S [eP x0,.int .i64 x1,.int .i64 x2,.int .u64 x3] fun v S'=>∃ r0:Int,v=.int .i64 r0∧Q r0 S'
def zeV (S:Mem) (x0:Value) (x1:Int) (Q:Mem→Prop):Prop:=
 Tr Tryz.prog 215 S [x0,.int .i64 x1] fun v S'=>v=.tuple #[]∧Q S'
def qk (S:Mem) (x0:Sl) (x1:Value) (Q:Sl→Mem→Prop):Prop:=
 Tr Tryz.prog 216 S [eL x0,x1] fun v S'=>∃ r0:Sl,v=eL r0∧Q r0 S'
def zaA (S:Mem) (x0:Int) (Q:Int→Mem→Prop):Prop:=
 Tr Tryz.prog 218 S [.int .u64 x0] fun v S'=>∃ r0:Int,v=.int .i64 r0∧Q r0 S'
def zaQ (S:Mem) (x0:List Value) (Q:Bool→Mem→Prop):Prop:=
 Tr Tryz.prog 219 S [valL x0] fun v S'=>∃ r0:Bool,v=.bool r0∧Q r0 S'
def xW (S:Mem) (x0:Pt) (x1:Int) (x2:Int) (Q:Pt→Int→Mem→Prop):Prop:=
 Tr Tryz.prog 220 S [eP x0,.int .i64 x1,.int .i64 x2] fun v S'=>∃ r0:Pt,∃ r1:Int,v=.tuple #[eP r0,.int .i64 r1]∧Q r0 r1 S'
def vk (S:Mem) (x0:List Value) (x1:Int) (x2:Int) (x3:Int) (x4:Bool) (Q:List Value→Int→Int→Mem→Prop):Prop:=
 Tr Tryz.prog 221 S [valL x0,.int .i64 x1,.int .i64 x2,.int .i64 x3,.bool x4] fun v S'=>∃ r0:List Value,∃ r1:Int,∃ r2:Int,v=.tuple #[valL r0,.int .i64 r1,.int .i64 r2]∧r0.length=96∧Q r0 r1 r2 S'
def wV (S:Mem) (x0:List Value) (x1:Int) (x2:Int) (x3:Int) (Q:List Value→Int→Mem→Prop):Prop:=
 Tr Tryz.prog 222 S [valL x0,.int .i64 x1,.int .i64 x2,.int .i64 x3] fun v S'=>∃ r0:List Value,∃ r1:Int,v=.tuple #[valL r0,.int .i64 r1]∧r0.length=96∧Q r0 r1 S'
def vl (S:Mem) (x0:List Value) (x1:Int) (x2:Int) (Q:List Value→Int→Mem→Prop):Prop:=
 Tr Tryz.prog 223 S [valL x0,.int .i64 x1,.int .i64 x2] fun v S'=>∃ r0:List Value,∃ r1:Int,v=.tuple #[valL r0,.int .i64 r1]∧r0.length=96∧Q r0 r1 S'
def xY (S:Mem) (x0:List Value) (x1:Int) (x2:Int) (Q:List Value→Int→Mem→Prop):Prop:=
 Tr Tryz.prog 224 S [valL x0,.int .i64 x1,.int .i64 x2] fun v S'=>∃ r0:List Value,∃ r1:Int,v=.tuple #[valL r0,.int .i64 r1]∧r0.length=96∧Q r0 r1 S'
def vM (S:Mem) (x0:List Value) (x1:Int) (x2:Int) (Q:Bool→Mem→Prop):Prop:=
 Tr Tryz.prog 225 S [valL x0,.int .i64 x1,.int .i64 x2] fun v S'=>∃ r0:Bool,v=.bool r0∧Q r0 S'
def wW (S:Mem) (x0:Pt) (x1:Int) (Q:Int→Mem→Prop):Prop:=
 Tr Tryz.prog 226 S [eP x0,.int .i64 x1] fun v S'=>∃ r0:Int,v=.int .i64 r0∧Q r0 S'
def jc (S:Mem) (x0:Pt) (x1:Int) (x2:Int) (x3:Sl) (Q:Int→Mem→Prop):Prop:=
 Tr Tryz.prog 227 S [eP x0,.int .i64 x1,.int .i64 x2,eL x3] fun v S'=>∃ r0:Int,v=.int .i64 r0∧Q r0 S'
def jd (S:Mem) (x0:Pt) (x1:Int) (x2:Int) (x3:Int) (Q:Sl→Int→Mem→Prop):Prop:=
 Tr Tryz.prog 228 S [eP x0,.int .i64 x1,.int .i64 x2,.int .i64 x3] fun v S'=>∃ r0:Sl,∃ r1:Int,v=.tuple #[eL r0,.int .i64 r1]∧Q r0 r1 S'
def vx (S:Mem) (x0:Pt) (x1:Int) (x2:Int) (Q:Mem→Prop):Prop:=
 Tr Tryz.prog 230 S [eP x0,.int .i64 x1,.int .i64 x2] fun v S'=>v=.tuple #[]∧Q S'
def qo (S:Mem) (x0:Sl) (x1:Value) (Q:Int→Mem→Prop):Prop:=
 Tr Tryz.prog 235 S [eL x0,x1] fun v S'=>∃ r0:Int,v=.int .i64 r0∧Q r0 S'
def vz (S:Mem) (x0:Int) (Q:Int→Mem→Prop):Prop:=
 Tr Tryz.prog 239 S [.int .u64 x0] fun v S'=>∃ r0:Int,v=.int .i64 r0∧Q r0 S'
def jh (S:Mem) (x0:Bool) (x1:Int) (Q:Bool→Mem→Prop):Prop:=
 Tr Tryz.prog 240 S [.bool x0,.int .u8 x1] fun v S'=>∃ r0:Bool,v=.bool r0∧Q r0 S'
def vL (S:Mem) (x0:Int) (x1:Int) (Q:Bool→Mem→Prop):Prop:=
 Tr Tryz.prog 241 S [.int .i64 x0,.int .i64 x1] fun v S'=>∃ r0:Bool,v=.bool r0∧Q r0 S'
def fT (S:Mem) (x0:List Value) (x1:Pt) (x2:Pt) (Q:Bool→Mem→Prop):Prop:=
 Tr Tryz.prog 242 S [valL x0,eP x1,eP x2] fun v S'=>∃ r0:Bool,v=.bool r0∧Q r0 S'
def zdw (S:Mem) (x0:Sl) (Q:Int→Mem→Prop):Prop:=
 Tr Tryz.prog 269 S [eL x0] fun v S'=>∃ r0:Int,v=.int .i64 r0∧Q r0 S'
def gZ (S:Mem) (x0:Sl) (x1:Int) (x2:Int) (Q:Bool→Mem→Prop):Prop:=
 Tr Tryz.prog 270 S [eL x0,.int .i64 x1,.int .i64 x2] fun v S'=>∃ r0:Bool,v=.bool r0∧Q r0 S'
def gY (S:Mem) (x0:Sl) (x1:Int) (x2:Int) (Q:Mem→Prop):Prop:=
 Tr Tryz.prog 271 S [eL x0,.int .i64 x1,.int .i64 x2] fun v S'=>v=.tuple #[]∧Q S'
def wN (S:Mem) (x0:List Value) (x1:List Value) (Q:Bool→Mem→Prop):Prop:=
 Tr Tryz.prog 272 S [valL x0,valL x1] fun v S'=>∃ r0:Bool,v=.bool r0∧Q r0 S'
def zco (S:Mem) (x0:Pt) (x1:Value) (Q:Mem→Prop):Prop:=
 Tr Tryz.prog 281 S [eP x0,x1] fun v S'=>v=.tuple #[]∧Q S'
instance:EqT Tryz.prog 45 [.i .u8,.i .i64,.i .u64,.i .u64]:=⟨by kernel_rfl,by kernel_rfl,by kernel_rfl⟩
instance:IfaceT Tryz.prog 222:=⟨⟨_,Tryz.underlying222⟩⟩
end Go.Proofs.YtabdpmnhjlmnlaaGreatDoor
end
section
namespace Go.Proofs.YtabdpmnhjlmnlaaGreatDoor
open Go Go.Pt
attribute [local irreducible] Code.wp Back bodyPost wpList FR WL WC WQ WA AW Tr Yc HC AllC
set_option maxRecDepth 20000
set_option maxHeartbeats 4000000
set_option linter.unusedVariables false
def zaX (S:Mem) (s:Pt) (bus:Value) (time:Int) (me:Int) (Q:List Value→Mem→Prop):Prop:=
 bus.oneCell'=true ∧
 ([eP s,bus,.int .u64 time,.int .i64 me]).all (·.oneCell')=true ∧
 jn (fun (v:List Value) (Sx:Mem)=>
 v.length=2 ∧
 jn (fun (v_1:List Value) (Sx_1:Mem)=>
 v_1.length=2 ∧
 jn (fun (w:Int) (ok:Bool) (Sx_2:Mem)=>
 if ok=true then
 fG Sx_2 (IntKind.u32.wrap w) fun t t_1 Sx_3=>
 if t_1=true then
 t.all (·.oneCell')=true ∧
 zaP Sx_3 ([eP s,bus,.int .u64 time,.int .i64 me]) t fun t_2 Sx_4=>
 t_2.all (·.oneCell')=true ∧
 Q t_2 Sx_4
 else
 t.all (·.oneCell')=true ∧
 yr Sx_3 ([eP s,bus,.int .u64 time,.int .i64 me]) 1 w fun t_3 Sx_5=>
 t_3.all (·.oneCell')=true ∧
 Q t_3 Sx_5
 else
 nn s fun b_4 o=>
 gI (Sx_2.cell b_4 (o+16)) .u64 fun t_4=>
 yr Sx_2 ([.pointer (some ⟨b_4,o,none⟩),bus,.int .u64 time,.int .i64 me]) 2 t_4 fun t_5 Sx_6=>
 t_5.all (·.oneCell')=true ∧
 Q t_5 Sx_6) fun Jx=>
 nn s fun b_5 o_1=>
 gI (Sx_1.cell b_5 (o_1+16)) .u64 fun t_6=>
 kj Sx_1 ([.pointer (some ⟨b_5,o_1,none⟩),bus,.int .u64 time,.int .i64 me]) t_6 4 fun t_7 t_8 Sx_7=>
 if t_8=true then
 Jx t_7 true Sx_7
 else
 Jx t_7 false Sx_7) fun Jx_1=>
 zbN Sx s fun t_9 t_10 Sx_8=>
 if t_10=true then
 yr Sx_8 ([eP s,bus,.int .u64 time,.int .i64 me]) (IntKind.u64.wrap (16+(IntKind.u64.wrap t_9))) 0 fun t_11 Sx_9=>
 t_11.all (·.oneCell')=true ∧
 Q t_11 Sx_9
 else
 Jx_1 v Sx_8) fun Jx_2=>
 if s=none then
 Q ([.int .u8 5,.int .u64 0]) S
 else
 ni bus fun i=>
 if i=true then
 Q ([.int .u8 5,.int .u64 0]) S
 else
 nn s fun b_6 o_2=>
 gI (S.cell b_6 (o_2+23)) .u8 fun t_12=>
 if t_12≠0 then
 Q ([.int .u8 5,.int .u64 0]) S
 else
 Jx_2 ([.int .u8 0,.int .u64 0]) S
theorem zfS {S:Mem} {s:Pt} {bus:Value} {time:Int} {me:Int} {Q:List Value→Mem→Prop} (H:zaX S s bus time me Q):zdu S s bus time me Q:=by
 unfold zaX at H
 exact Tr.intro Tryz.func61 E Tryz.ntmps61 E fun w0=>csr<|by refine zP E fun b=>?_;exact nxr<|mv E E<|mv E E<|mv E E<|mv E E<|an H fun c H1=>s_p E (zR (cs:=[eP s,bus,.int .u64 time,.int .i64 me]) E (yL (off:=0) (size:=1) E E (Nat.le_of_ble_eq_true E) (zgu (off:=1) E c (Nat.le_of_ble_eq_true E) (yL (off:=2) (size:=1) E E (Nat.le_of_ble_eq_true E) (yL (off:=3) (size:=1) E E (Nat.le_of_ble_eq_true E) (ki))))))<|by exact by refine zP E fun b_1=>?_;exact an H1 fun c_1 H2=>qv (sz:=4) (vs:=[eP s,bus,.int .u64 time,.int .i64 me]) 1 E E E E E E (Nat.le_of_ble_eq_true E) c_1<|nx<|zm H2 (fun (J:List Value→Mem→Prop) (z:List Value) S=>J z S) (fun z=>⟨76,[(0,eP s),(8,.pointer (some ⟨b,0,none⟩)),(9,.pointer (some ⟨b_1,0,none⟩))]⟩) (fun z=>[⟨b,48,z⟩,⟨b_1,224,[eP s,bus,.int .u64 time,.int .i64 me]⟩]) (fun v Sx H3=>an H3 fun hv H4=>zm H4 (fun (J:List Value→Mem→Prop) (z:List Value) S=>J z S) (fun z=>⟨76,[(0,eP s),(8,.pointer (some ⟨b,0,none⟩)),(9,.pointer (some ⟨b_1,0,none⟩))]⟩) (fun z=>[⟨b,48,z⟩,⟨b_1,224,[eP s,bus,.int .u64 time,.int .i64 me]⟩]) (fun v_1 Sx_1 H5=>an H5 fun hv_1 H6=>zm H6 (fun (J:Int→Bool→Mem→Prop) (z:Int×Bool) S=>J z.1 z.2 S) (fun z=>⟨76,[(0,eP s),(8,.pointer (some ⟨b,0,none⟩)),(9,.pointer (some ⟨b_1,0,none⟩)),(12,.int .u64 z.1),(13,.bool z.2)]⟩) (fun z=>[⟨b,48,v_1⟩,⟨b_1,224,[eP s,bus,.int .u64 time,.int .i64 me]⟩]) (by rintro⟨w,ok⟩ Sx_2 H7;exact zG<|csr<|iteK H7 (fun c_2 H8=>s_p E (qZ E c_2)<|s_p E (yB (qe E) E)<|nx<|cfs E E<|zr<|csr<|mv E E<|s_p E (zN ⟨_,Tryz.underlying39⟩ E)<|qr E E H8 fun rv Sx_3 H9=>by obtain⟨t,t_1,rfl,ht,H10⟩:=H9;exact mv E E<|s_p E (zj E E)<|iteK H10 (fun c_3 H11=>s_p E (yB (zj E E) c_3)<|by refine zP E fun b_2=>?_;exact an H11 fun c_4 H12=>zq 2 E E E E E ht E c_4<|gv E E<|nx<|zG<|csr<|mv E E<|s_p E (yB (qe E) E)<|nx<|cfs E E<|zr<|csr<|by refine s_v E (zO (vs:=[eP s,bus,.int .u64 time,.int .i64 me]) E E) (zD (k:=4) 1 E E) ?_;exact by refine s_v E (zO E ht) (zD (k:=5) 2 E (zg ht)) ?_;exact qr E E H12 fun rv Sx_4 H13=>by obtain⟨t_2,rfl,ht_2,H14⟩:=H13;exact an H14 fun c_5 H15=>zq 0 E E E E E ht_2 hv_1 c_5<|nx<|zi<|zh Tryz.results61 (zy E (zD (k:=2) 0 E (zg ht_2)) ht_2 ze) ⟨_,E,ht_2,H15⟩) fun c_3 H11=>s_p E (yB (zj E E) (wQ c_3))<|by refine zP E fun b_3=>?_;exact an H11 fun c_6 H16=>zq 2 E E E E E ht E c_6<|gv E E<|nx<|zG<|csr<|mv E E<|s_p E (yB (qe E) E)<|nx<|c_t E E<|csr<|by refine s_v E (zO (vs:=[eP s,bus,.int .u64 time,.int .i64 me]) E E) (zD (k:=4) 1 E E) ?_;exact mv E E<|qr E E H16 fun rv Sx_5 H17=>by obtain⟨t_3,rfl,ht_3,H18⟩:=H17;exact an H18 fun c_7 H19=>zq 0 E E E E E ht_3 hv_1 c_7<|nx<|zi<|zb<|zh Tryz.results61 (zy E (zD (k:=2) 0 E (zg ht_3)) ht_3 ze) ⟨_,E,ht_3,H19⟩) fun c_2 H8=>s_p E (qZ E (wQ c_2))<|s_p E (yB (qe E) E)<|nx<|c_t E E<|zG<|zI (by kernel_rfl)<|by refine qp 0 E (by decide +kernel) (za (za zd)) E (zO (vs:=[eP s,bus,.int .u64 time,.int .i64 me]) E E) (zD (k:=4) 1 E E) ?_;exact a_takeP 1 E (by decide +kernel) (za (za zd)) E (zk E)<|by exact by obtain⟨b_4,o,rfl,H20⟩:=H8;exact a_takeP 2 E (by decide +kernel) (za (za zd)) E (zT E)<|by exact a_takeP 3 E (by decide +kernel) (za (za zd)) E (zp E E)<|by exact gx H20 fun t_4 ht_4 H21=>qp 4 E (by decide +kernel) (za (za zd)) E (zA E) (qc ht_4)<|by exact zw 5 (by decide +kernel) E<|by exact qr E E H21 fun rv Sx_6 H22=>by obtain⟨t_5,rfl,ht_5,H23⟩:=H22;exact zn<|zF zu<|zw 6 (by decide +kernel) E<|by exact an H23 fun c_8 H24=>zq 0 E E E E E ht_5 hv_1 c_8<|zn<|zF zu<|zJ (by decide +kernel)<|by exact zr<|zi<|zb<|zh Tryz.results61 (zy E (zD (k:=2) 0 E (zg ht_5)) ht_5 ze) ⟨_,E,ht_5,H24⟩) (fun Jx hJx H25=>zI (by kernel_rfl)<|by refine aT 0 E (by decide +kernel) E (zO (vs:=[eP s,bus,.int .u64 time,.int .i64 me]) E E) (zD (k:=4) 1 E E) ?_;exact aTP 1 E (by decide +kernel) E (zk E)<|by exact by obtain⟨b_5,o_1,rfl,H26⟩:=H25;exact aTP 2 E (by decide +kernel) E (zT E)<|by exact aTP 3 E (by decide +kernel) E (zp E E)<|by exact gx H26 fun t_6 ht_6 H27=>aT 4 E (by decide +kernel) E (zA E) (qc ht_6)<|by exact zw 5 (by decide +kernel) E<|by exact zcu E E H27 fun t_7 t_8 Sx_7 H28=>zn<|zF zu<|aTP 6 E (by decide +kernel) E (zk E)<|by exact aTP 7 E (by decide +kernel) E (zj E E)<|by exact iteK H28 (fun c_9 H29=>aTP 8 E (by decide +kernel) E (yB (zj E E) c_9)<|by exact aTP 9 E (by decide +kernel) E (zM E)<|by exact aTP 10 E (by decide +kernel) E (zM E)<|by exact zJ (by decide +kernel)<|by exact hJx (t_7,true) _ _ _ _ [0,0] H29 E ⟨E,E,E,E,E,True.intro⟩ E) fun c_9 H29=>aTP 8 E (by decide +kernel) E (yB (zj E E) (wQ c_9))<|by exact aTP 9 E (by decide +kernel) E (zM E)<|by exact aTP 10 E (by decide +kernel) E (zM E)<|by exact zJ (by decide +kernel)<|by exact hJx (t_7,false) _ _ _ _ [0,0] H29 E ⟨E,E,E,E,E,True.intro⟩ E)) (fun Jx_1 hJx_1 H30=>csr<|mv E E<|zcu E E H30 fun t_9 t_10 Sx_8 H31=>mv E E<|s_p E (zj E E)<|iteK H31 (fun c_10 H32=>s_p E (yB (zj E E) c_10)<|gv E E<|gv E E<|nxr<|mv E E<|nx<|c_t E E<|csr<|by refine s_v E (zO (vs:=[eP s,bus,.int .u64 time,.int .i64 me]) E E) (zD (k:=4) 1 E E) ?_;exact mv E E<|s_p E (zN ⟨_,Tryz.underlying3⟩ E)<|s_p E (qd E E)<|qr E E H32 fun rv Sx_9 H33=>by obtain⟨t_11,rfl,ht_11,H34⟩:=H33;exact an H34 fun c_11 H35=>zq 0 E E E E E ht_11 hv c_11<|nx<|zi<|zb<|zh Tryz.results61 (zy E (zD (k:=2) 0 E (zg ht_11)) ht_11 ze) ⟨_,E,ht_11,H35⟩) fun c_10 H32=>s_p E (yB (zj E E) (wQ c_10))<|gv E E<|gv E E<|nxr<|mv E E<|nx<|cfs E E<|hJx_1 v _ _ _ _ [0,0] H32 E ⟨E,E,E,True.intro⟩ E)) (fun Jx_2 hJx_2 H36=>csr<|mv E E<|iteK H36 (fun c_12 H37=>s_p E (yT (xE (p:=s) E E) c_12)<|mv E E<|sk2 E E<|pk E E E<|mv E E<|sk4 E E E E<|zK E<|pk E E E<|nx<|c_t E E<|csr<|s_p E (zR E E)<|by exact qv (sz:=2) (vs:=[.int .u8 5,.int .u64 0]) 0 E E E E E E (Nat.le_of_ble_eq_true E) E<|nx<|zi<|zb<|zh Tryz.results61 (zy E (zD (k:=2) 0 E E) E ze) ⟨_,E,E,H37⟩) fun c_12 H37=>s_p E (yF (xE (p:=s) E E) c_12)<|mv E E<|mv E E<|gx H37 fun i hi H38=>iteK H38 (fun c_13 H39=>s_p E (yB (zgF E hi) c_13)<|pk E E E<|mv E E<|sk4 E E E E<|zK E<|pk E E E<|nx<|c_t E E<|csr<|s_p E (zR E E)<|by exact qv (sz:=2) (vs:=[.int .u8 5,.int .u64 0]) 0 E E E E E E (Nat.le_of_ble_eq_true E) E<|nx<|zi<|zb<|zh Tryz.results61 (zy E (zD (k:=2) 0 E E) E ze) ⟨_,E,E,H39⟩) fun c_13 H39=>s_p E (yB (zgF E hi) (wQ c_13))<|pk E E E<|mv E E<|mv E E<|by obtain⟨b_6,o_2,rfl,H40⟩:=H39;exact s_p E (zT E)<|s_p E (zp E E)<|gx H40 fun t_12 ht_12 H41=>s_v E (zA E) (qc ht_12)<|iteK H41 (fun c_14 H42=>s_p E (yT (qm E E) c_14)<|pk E E E<|nx<|c_t E E<|csr<|s_p E (zR E E)<|by exact qv (sz:=2) (vs:=[.int .u8 5,.int .u64 0]) 0 E E E E E E (Nat.le_of_ble_eq_true E) E<|nx<|zi<|zb<|zh Tryz.results61 (zy E (zD (k:=2) 0 E E) E ze) ⟨_,E,E,H42⟩) fun c_14 H42=>s_p E (yF (qm E E) c_14)<|pk E E E<|nx<|cfs E E<|hJx_2 ([.int .u8 0,.int .u64 0]) _ _ _ _ [0,0] H42 E ⟨E,E,E,True.intro⟩ E)
def kr (S:Mem) (c:List Value) (cause:Int) (addr:Int) (Q:List Value→Mem→Prop):Prop:=
 c.length=4 ∧
 gP (nthL c 0) fun t=>
 zbD S t cause addr fun Sx=>
 gP (nthL c 0) fun t_1=>
 nn t_1 fun b_2 o=>
 gI (Sx.cell b_2 (o+23)) .u8 fun t_2=>
 if t_2=2 then
 Q ([.int .u8 4,.int .u64 cause]) Sx
 else
 Q ([.int .u8 1,.int .u64 cause]) Sx
theorem zci {S:Mem} {c:List Value} {cause:Int} {addr:Int} {Q:List Value→Mem→Prop} (H:kr S c cause addr Q):yr S c cause addr Q:=by
 unfold kr at H
 exact Tr.intro Tryz.func121 E Tryz.ntmps121 E fun w0=>an H fun hc H1=>csr<|qI E E E fun b=>by refine zP E fun b_1=>?_;exact nxr<|s_p E (zp E E)<|gx H1 fun t ht H2=>s_v E (zA E) (zQ 0 E ht)<|mv E E<|mv E E<|zaY E E H2 fun Sx H3=>nx<|zG<|csr<|s_p E (zp E E)<|gx H3 fun t_1 ht_1 H4=>s_v E (zA E) (zQ 0 E ht_1)<|by obtain⟨b_2,o,rfl,H5⟩:=H4;exact s_p E (zT E)<|s_p E (zp E E)<|gx H5 fun t_2 ht_2 H6=>s_v E (zA E) (qc ht_2)<|iteK H6 (fun c_1 H7=>ceT E E E (c_1)<|nx<|c_t E E<|csr<|mv E E<|s_p E (zR E E)<|by exact qv (sz:=2) (vs:=[.int .u8 4,.int .u64 cause]) 1 E E E E E E (Nat.le_of_ble_eq_true E) E<|nx<|zi<|zb<|zh Tryz.results121 (zy E (zD (k:=2) 1 E E) E ze) ⟨_,E,E,H7⟩) fun c_1 H7=>ceF E E E (c_1)<|nx<|cfs E E<|zr<|csr<|mv E E<|s_p E (zR E E)<|by exact qv (sz:=2) (vs:=[.int .u8 1,.int .u64 cause]) 1 E E E E E E (Nat.le_of_ble_eq_true E) E<|nx<|zi<|zh Tryz.results121 (zy E (zD (k:=2) 1 E E) E ze) ⟨_,E,E,H7⟩
def kw (S:Mem) (c:List Value) (addr:Int) (n:Int) (Q:Int→Bool→Mem→Prop):Prop:=
 c.length=4 ∧
 jn (fun (page:Int) (off:Int) (ok:Bool) (Sx:Mem)=>
 jn (fun (Sx_1:Mem)=>
 gV (nthL c 1) fun t=>
 ci Tryz.prog Sx_1 t "Load" [.int .i64 page, .int .i64 off, .int .i64 n] fun rv Sx_2 => ∃ t_1 : Sl, ∃ t_2 : Int, rv = .tuple #[eL t_1, .int .i64 t_2] ∧ 
 zcV Sx_2 t_1 fun t_3 Sx_3=>
 Q t_3 (decide (t_2=0)) Sx_3) fun Jx=>
 if ok=true then
 IntKind.u64.wrap n≠0 ∧
 if Int.tmod addr (IntKind.u64.wrap n)≠0 then
 Q 0 false Sx
 else
 Jx Sx
 else
 Q 0 false Sx) fun Jx_1=>
 vB S c addr false fun t_4 t_5 t_6 Sx_4=>
 if t_6=true then
 Jx_1 t_4 t_5 true Sx_4
 else
 Jx_1 t_4 t_5 false Sx_4
theorem zck {S:Mem} {c:List Value} {addr:Int} {n:Int} {Q:Int→Bool→Mem→Prop} (H:kw S c addr n Q):kj S c addr n Q:=by
 unfold kw at H
 exact Tr.intro Tryz.func122 E Tryz.ntmps122 E fun w0=>an H fun hc H1=>csr<|qI E E E fun b=>gv E E<|gv E E<|nx<|zm H1 (fun (J:Int→Int→Bool→Mem→Prop) (z:Int×Int×Bool) S=>J z.1 z.2.1 z.2.2 S) (fun z=>⟨42,[(1,.int .u64 addr),(2,.int .i64 n),(3,.pointer (some ⟨b,0,none⟩)),(8,.int .i64 z.1),(9,.int .i64 z.2.1),(10,.bool z.2.2)]⟩) (fun z=>[⟨b,224,c⟩]) (by rintro⟨page,off,ok⟩ Sx H2;exact zm H2 (fun (J:Mem→Prop) (z:Unit) S=>J S) (fun z=>⟨42,[(2,.int .i64 n),(3,.pointer (some ⟨b,0,none⟩)),(8,.int .i64 page),(9,.int .i64 off)]⟩) (fun z=>[⟨b,224,c⟩]) (fun _ Sx_1 H3=>csr<|s_p E (zp E E)<|gx H3 fun t ht H4=>s_v E (zA E) (zQ 0 E ht)<|mv E E<|mv E E<|mv E E<|zhb E E E H4 fun rv Sx_2 H5=>by obtain⟨t_1,t_2,rfl,H6⟩:=H5;exact mv E E<|s_p E (zj E E)<|s_p E (zj E E)<|gv E E<|gv E E<|nxr<|mv E E<|qM E E H6 fun t_3 Sx_3 H7=>mv E E<|s_p E (jz E E)<|gv E E<|gv E E<|nx<|zi<|zh Tryz.results122 (zc E (zc E ze)) ⟨_,_,E,H7⟩) (fun Jx hJx H8=>csr<|iteK H8 (fun c_1 H9=>s_p E (qZ E c_1)<|s_p E (yB (qe E) E)<|mv E E<|mv E E<|mv E E<|s_p E (zN ⟨_,Tryz.underlying3⟩ E)<|an H9 fun c_2 H10=>s_p E (xe E E c_2)<|iteK H10 (fun c_3 H11=>s_p E (yT (qm E E) c_3)<|pk E E E<|nx<|c_t E E<|csr<|gv E E<|gv E E<|nx<|zi<|zb<|zh Tryz.results122 (zc E (zc E ze)) ⟨_,_,E,H11⟩) fun c_3 H11=>s_p E (yF (qm E E) c_3)<|pk E E E<|nx<|cfs E E<|hJx () _ _ _ _ [0] H11 E ⟨E,E,E,E,True.intro⟩ E) fun c_1 H9=>s_p E (qZ E (wQ c_1))<|s_p E (yB (qe E) E)<|mv E E<|sk4 E E E E<|zK E<|pk E E E<|nx<|c_t E E<|csr<|gv E E<|gv E E<|nx<|zi<|zb<|zh Tryz.results122 (zc E (zc E ze)) ⟨_,_,E,H9⟩)) (fun Jx_1 hJx_1 H12=>zx<|by refine s_v E (zO E hc) (zD (k:=4) 0 E (zg hc)) ?_;exact mv E E<|zlj E E H12 fun t_4 t_5 t_6 Sx_4 H13=>mv E E<|s_p E (zj E E)<|s_p E (zj E E)<|iteK H13 (fun c_4 H14=>s_p E (yB (zj E E) c_4)<|gv E E<|gv E E<|gv E E<|zn<|hJx_1 (t_4,t_5,true) _ _ _ _ [0] H14 E ⟨E,E,E,E,E,E,True.intro⟩ E) fun c_4 H14=>s_p E (yB (zj E E) (wQ c_4))<|gv E E<|gv E E<|gv E E<|zn<|hJx_1 (t_4,t_5,false) _ _ _ _ [0] H14 E ⟨E,E,E,E,E,E,True.intro⟩ E)
def gz (S:Mem) (c:List Value) (o:List Value) (Q:List Value→Mem→Prop):Prop:=
 c.length=4 ∧
 o.length=5 ∧
 gP (nthL c 0) fun t=>
 gI (nthL o 4) .i16 fun t_1=>
 nn t fun b_3 o_1=>
 gI (S.cell b_3 (o_1+16)) .u64 fun t_2=>
 gI (nthL o 1) .u8 fun t_3=>
 0≤t_3∧t_3<16 ∧
 gI (S.cell b_3 (o_1+t_3.toNat*1)) .u64 fun t_4=>
 gI (nthL o 2) .u8 fun t_5=>
 0≤t_5∧t_5<16 ∧
 gI (S.cell b_3 (o_1+t_5.toNat*1)) .u64 fun t_6=>
 jn (fun (next:Int) (v:List Value) (Sx:Mem)=>
 v.length=2 ∧
 pt Sx b_3 (o_1+16) 1 ([.int .u64 next]) fun Sx_1=>
 Q ([.int .u8 0,.int .u64 0]) Sx_1) fun Jx=>
 gI (nthL o 0) .u8 fun t_7=>
 if t_7=1 then
 gI (nthL o 1) .u8 fun t_8=>
 0≤t_8∧t_8<16 ∧
 pt S b_3 (o_1+t_8.toNat*1) 1 ([.int .u64 (IntKind.u64.wrap (IntKind.i64.wrap t_1))]) fun Sx_2=>
 Jx (IntKind.u64.wrap (t_2+4)) ([.int .u8 0,.int .u64 0]) Sx_2
 else
 if t_7=2 then
 gI (nthL o 1) .u8 fun t_9=>
 ww S t_4 16 48 (IntKind.u64.wrap (IntKind.i64.wrap t_1)) fun t_10 Sx_3=>
 0≤t_9∧t_9<16 ∧
 pt Sx_3 b_3 (o_1+t_9.toNat*1) 1 ([.int .u64 t_10]) fun Sx_4=>
 Jx (IntKind.u64.wrap (t_2+4)) ([.int .u8 0,.int .u64 0]) Sx_4
 else
 if t_7=11 then
 gI (nthL o 1) .u8 fun t_11=>
 0≤t_11∧t_11<16 ∧
 pt S b_3 (o_1+t_11.toNat*1) 1 ([.int .u64 (IntKind.u64.wrap (t_6+(IntKind.u64.wrap (IntKind.i64.wrap t_1))))]) fun Sx_5=>
 Jx (IntKind.u64.wrap (t_2+4)) ([.int .u8 0,.int .u64 0]) Sx_5
 else
 if t_7=12 then
 kj S c (IntKind.u64.wrap (t_6+(IntKind.u64.wrap (IntKind.i64.wrap t_1)))) 8 fun t_12 t_13 Sx_6=>
 if t_13=true then
 gI (nthL o 1) .u8 fun t_14=>
 0≤t_14∧t_14<16 ∧
 pt Sx_6 b_3 (o_1+t_14.toNat*1) 1 ([.int .u64 t_12]) fun Sx_7=>
 Jx (IntKind.u64.wrap (t_2+4)) ([.int .u8 0,.int .u64 0]) Sx_7
 else
 yr Sx_6 c 3 (IntKind.u64.wrap (t_6+(IntKind.u64.wrap (IntKind.i64.wrap t_1)))) fun t_15 Sx_8=>
 t_15.all (·.oneCell')=true ∧
 Q t_15 Sx_8
 else
 if t_7=13 then
 gk S c (IntKind.u64.wrap (t_6+(IntKind.u64.wrap (IntKind.i64.wrap t_1)))) t_4 fun t_16 Sx_9=>
 if t_16=true then
 Jx (IntKind.u64.wrap (t_2+4)) ([.int .u8 0,.int .u64 0]) Sx_9
 else
 yr Sx_9 c 4 (IntKind.u64.wrap (t_6+(IntKind.u64.wrap (IntKind.i64.wrap t_1)))) fun t_17 Sx_10=>
 t_17.all (·.oneCell')=true ∧
 Q t_17 Sx_10
 else
 jn (fun (t_18:Bool) (Sx_11:Mem)=>
 if t_18=true then
 gI (nthL o 0) .u8 fun t_19=>
 gj Sx_11 t_19 t_4 t_6 fun t_20 Sx_12=>
 if t_20=true then
 gI (Sx_12.cell b_3 (o_1+16)) .u64 fun t_21=>
 Jx (IntKind.u64.wrap (t_21+(IntKind.u64.wrap (4*(IntKind.u64.wrap (IntKind.i64.wrap t_1)))))) ([.int .u8 0,.int .u64 0]) Sx_12
 else
 Jx (IntKind.u64.wrap (t_2+4)) ([.int .u8 0,.int .u64 0]) Sx_12
 else
 if t_7=17 then
 gI (nthL o 1) .u8 fun t_22=>
 0≤t_22∧t_22<16 ∧
 pt Sx_11 b_3 (o_1+t_22.toNat*1) 1 ([.int .u64 (IntKind.u64.wrap (t_2+4))]) fun Sx_13=>
 Jx (IntKind.u64.wrap (t_6+(IntKind.u64.wrap (IntKind.i64.wrap t_1)))) ([.int .u8 0,.int .u64 0]) Sx_13
 else
 if t_7=18 then
 gI (nthL o 1) .u8 fun t_23=>
 gA (Sx_11.part b_3 o_1 26) fun t_24=>
 gI (nthL o 4) .i16 fun t_25=>
 gI (nthL c 2) .u64 fun t_26=>
 gI (nthL c 3) .i64 fun t_27=>
 zde Sx_11 t_24 (IntKind.i64.wrap t_25) t_26 t_27 fun t_28 t_29 Sx_14=>
 0≤t_23∧t_23<16 ∧
 pt Sx_14 b_3 (o_1+t_23.toNat*1) 1 ([.int .u64 t_28]) fun Sx_15=>
 Jx (IntKind.u64.wrap (t_2+4)) ([.int .u8 0,.int .u64 0]) Sx_15
 else
 if t_7=19 then
 gI (nthL o 4) .i16 fun t_30=>
 zdd Sx_11 (some (b_3,o_1)) (IntKind.i64.wrap t_30) t_4 fun t_31 Sx_16=>
 if t_31=true then
 zar Sx_16 (some (b_3,o_1)) fun Sx_17=>
 Jx (IntKind.u64.wrap (t_2+4)) ([.int .u8 0,.int .u64 0]) Sx_17
 else
 gI (Sx_16.cell b_3 (o_1+16)) .u64 fun t_32=>
 yr Sx_16 c 1 t_32 fun t_33 Sx_18=>
 t_33.all (·.oneCell')=true ∧
 Q t_33 Sx_18
 else
 if t_7=20 then
 pt Sx_11 b_3 (o_1+16) 1 ([.int .u64 (IntKind.u64.wrap (t_2+4))]) fun Sx_19=>
 Q ([.int .u8 2,.int .u64 (IntKind.u64.wrap (IntKind.i64.wrap t_1))]) Sx_19
 else
 if t_7=21 then
 pt Sx_11 b_3 (o_1+16) 1 ([.int .u64 (IntKind.u64.wrap (t_2+4))]) fun Sx_20=>
 gI (Sx_20.cell b_3 (o_1+24)) .u32 fun t_34=>
 gI (Sx_20.cell b_3 (o_1+25)) .u32 fun t_35=>
 if iand .u32 t_34 t_35=0 then
 pt Sx_20 b_3 (o_1+23) 1 ([.int .u8 1]) fun Sx_21=>
 Q ([.int .u8 3,.int .u64 0]) Sx_21
 else
 Q ([.int .u8 0,.int .u64 0]) Sx_20
 else
 if t_7=22 then
 zbF Sx_11 (some (b_3,o_1)) fun Sx_22=>
 Q ([.int .u8 0,.int .u64 0]) Sx_22
 else
 gI (nthL o 0) .u8 fun t_36=>
 if 3≤t_36 then
 gI (nthL o 1) .u8 fun t_37=>
 gI (nthL o 0) .u8 fun t_38=>
 gI (nthL o 3) .u8 fun t_39=>
 0≤t_39∧t_39<16 ∧
 gI (Sx_11.cell b_3 (o_1+t_39.toNat*1)) .u64 fun t_40=>
 zdt Sx_11 t_38 t_6 t_40 fun t_41 Sx_23=>
 0≤t_37∧t_37<16 ∧
 pt Sx_23 b_3 (o_1+t_37.toNat*1) 1 ([.int .u64 t_41]) fun Sx_24=>
 Jx (IntKind.u64.wrap (t_2+4)) ([.int .u8 0,.int .u64 0]) Sx_24
 else
 Jx (IntKind.u64.wrap (t_2+4)) ([.int .u8 0,.int .u64 0]) Sx_11) fun Jx_1=>
 if t_7=14 then
 Jx_1 true S
 else
 if t_7=15 then
 Jx_1 true S
 else
 if t_7=16 then
 Jx_1 true S
 else
 Jx_1 false S
theorem zdF {S:Mem} {c:List Value} {o:List Value} {Q:List Value→Mem→Prop} (H:gz S c o Q):zaP S c o Q:=by
 unfold gz at H
 exact Tr.intro Tryz.func124 E Tryz.ntmps124 E fun w0=>an H fun hc H1=>an H1 fun ho H2=>csr<|qI E E E fun b=>qI E E E fun b_1=>by refine zP E fun b_2=>?_;exact nxr<|s_p E (zp E E)<|gx H2 fun t ht H3=>s_v E (zA E) (zQ 0 E ht)<|gv E E<|nxr<|s_p E (zp E E)<|gx H3 fun t_1 ht_1 H4=>s_v E (zA E) (zQ 1 E ht_1)<|s_p E (zN ⟨_,Tryz.underlying54⟩ E)<|s_p E (zN ⟨_,Tryz.underlying2⟩ E)<|gv E E<|nxr<|mv E E<|by obtain⟨b_3,o_1,rfl,H5⟩:=H4;exact s_p E (zT E)<|s_p E (zp E E)<|gx H5 fun t_2 ht_2 H6=>s_v E (zA E) (qc ht_2)<|s_p E (qd E E)<|gv E E<|nx<|zG<|zI (by kernel_rfl)<|aTP 0 E (by decide +kernel) E (zk E)<|by exact aTP 1 E (by decide +kernel) E (zp E E)<|by exact gx H6 fun t_3 ht_3 H7=>aT 2 E (by decide +kernel) E (zA E) (zQ 1 E ht_3)<|by exact aTP 3 E (by decide +kernel) E (zT E)<|by exact aTP 4 E (by decide +kernel) E (zp E E)<|by exact an2 H7 fun c_1 c_2 H8=>aTP 5 E (by decide +kernel) E (zz E E c_1 c_2 E)<|by exact gx H8 fun t_4 ht_4 H9=>aT 6 E (by decide +kernel) E (zA E) (qc ht_4)<|by exact aTP 7 E (by decide +kernel) E (zk E)<|by exact aTP 8 E (by decide +kernel) E (zp E E)<|by exact gx H9 fun t_5 ht_5 H10=>aT 9 E (by decide +kernel) E (zA E) (zQ 1 E ht_5)<|by exact aTP 10 E (by decide +kernel) E (zT E)<|by exact aTP 11 E (by decide +kernel) E (zp E E)<|by exact an2 H10 fun c_3 c_4 H11=>aTP 12 E (by decide +kernel) E (zz E E c_3 c_4 E)<|by exact gx H11 fun t_6 ht_6 H12=>aT 13 E (by decide +kernel) E (zA E) (qc ht_6)<|by exact aTP 14 E (by decide +kernel) E (zM E)<|by exact aTP 15 E (by decide +kernel) E (zM E)<|by exact zJ (by decide +kernel)<|by exact zr<|zm H12 (fun (J:Int→List Value→Mem→Prop) (z:Int×List Value) S=>J z.1 z.2 S) (fun z=>⟨234,[(4,.pointer (some ⟨b_2,0,none⟩)),(5,.pointer (some ⟨b_3,o_1,none⟩)),(7,.int .u64 z.1)]⟩) (fun z=>[⟨b_2,48,z.2⟩]) (by rintro⟨next,v⟩ Sx H13;exact an H13 fun hv H14=>csr<|mv E E<|mv E E<|s_p E (zT E)<|s_p E (zp E E)<|an H14 fun c_5 H15=>zY E E E E E c_5 E<|nxr<|s_p E (zR E E)<|by exact zq 0 E E E E E E hv E<|nx<|zi<|zh Tryz.results124 (zy E (zD (k:=2) 0 E E) E ze) ⟨_,E,E,H15⟩) (fun Jx hJx H16=>csr<|s_p E (zp E E)<|gx H16 fun t_7 ht_7 H17=>s_v E (zA E) (zQ 1 E ht_7)<|nx<|zE<|csr<|iteK H17 (fun c_6 H18=>ceT E E E (c_6)<|gv E E<|nx<|c_t E E<|zI (by kernel_rfl)<|a_takeP 0 E (by decide +kernel) (zf (za zd)) E (zk E)<|by exact a_takeP 1 E (by decide +kernel) (zf (za zd)) E (zp E E)<|by exact gx H18 fun t_8 ht_8 H19=>qp 2 E (by decide +kernel) (zf (za zd)) E (zA E) (zQ 1 E ht_8)<|by exact a_takeP 3 E (by decide +kernel) (zf (za zd)) E (zk E)<|by exact a_takeP 4 E (by decide +kernel) (zf (za zd)) E (zT E)<|by exact a_takeP 5 E (by decide +kernel) (zf (za zd)) E (zp E E)<|by exact an2 H19 fun c_7 c_8 H20=>a_takeP 6 E (by decide +kernel) (zf (za zd)) E (zz E E c_7 c_8 E)<|by exact zw 7 (by decide +kernel) E<|by exact an H20 fun c_9 H21=>zY E E E E E c_9 E<|zn<|zF zu<|zJ (by decide +kernel)<|by exact zS<|hJx (IntKind.u64.wrap (t_2+4),[.int .u8 0,.int .u64 0]) _ _ _ _ [2] H21 E ⟨E,E,E,True.intro⟩ E) fun c_6 H18=>ceF E E E (c_6)<|gv E E<|nx<|c_f E E<|csr<|iteK H18 (fun c_10 H22=>ceT E E E (c_10)<|gv E E<|nx<|c_t E E<|zI (by kernel_rfl)<|a_takeP 0 E (by decide +kernel) (zf (za zd)) E (zk E)<|by exact a_takeP 1 E (by decide +kernel) (zf (za zd)) E (zp E E)<|by exact gx H22 fun t_9 ht_9 H23=>qp 2 E (by decide +kernel) (zf (za zd)) E (zA E) (zQ 1 E ht_9)<|by exact a_takeP 3 E (by decide +kernel) (zf (za zd)) E (zk E)<|by exact a_takeP 4 E (by decide +kernel) (zf (za zd)) E (zk E)<|by exact a_takeP 6 E (by decide +kernel) (zf (za zd)) E (zT E)<|by exact a_takeP 7 E (by decide +kernel) (zf (za zd)) E (zp E E)<|by exact zw 5 (by decide +kernel) E<|by exact qM E E H23 fun t_10 Sx_3 H24=>zn<|zF (zB (zQ 1 E ht_9) zu)<|an2 H24 fun c_11 c_12 H25=>a_takeP 8 E (by decide +kernel) (zf (za zd)) E (zz E E c_11 c_12 E)<|by exact zw 9 (by decide +kernel) E<|by exact an H25 fun c_13 H26=>zY E E E E E c_13 E<|zn<|zF zu<|zJ (by decide +kernel)<|by exact zS<|hJx (IntKind.u64.wrap (t_2+4),[.int .u8 0,.int .u64 0]) _ _ _ _ [2] H26 E ⟨E,E,E,True.intro⟩ E) fun c_10 H22=>ceF E E E (c_10)<|gv E E<|nx<|c_f E E<|csr<|iteK H22 (fun c_14 H27=>ceT E E E (c_14)<|gv E E<|nx<|c_t E E<|zI (by kernel_rfl)<|a_takeP 0 E (by decide +kernel) (zf (za zd)) E (zk E)<|by exact a_takeP 1 E (by decide +kernel) (zf (za zd)) E (zp E E)<|by exact gx H27 fun t_11 ht_11 H28=>qp 2 E (by decide +kernel) (zf (za zd)) E (zA E) (zQ 1 E ht_11)<|by exact a_takeP 3 E (by decide +kernel) (zf (za zd)) E (zk E)<|by exact a_takeP 4 E (by decide +kernel) (zf (za zd)) E (zk E)<|by exact a_takeP 5 E (by decide +kernel) (zf (za zd)) E (qd E E)<|by exact a_takeP 6 E (by decide +kernel) (zf (za zd)) E (zT E)<|by exact a_takeP 7 E (by decide +kernel) (zf (za zd)) E (zp E E)<|by exact an2 H28 fun c_15 c_16 H29=>a_takeP 8 E (by decide +kernel) (zf (za zd)) E (zz E E c_15 c_16 E)<|by exact zw 9 (by decide +kernel) E<|by exact an H29 fun c_17 H30=>zY E E E E E c_17 E<|zn<|zF zu<|zJ (by decide +kernel)<|by exact zS<|hJx (IntKind.u64.wrap (t_2+4),[.int .u8 0,.int .u64 0]) _ _ _ _ [2] H30 E ⟨E,E,E,True.intro⟩ E) fun c_14 H27=>ceF E E E (c_14)<|gv E E<|nx<|c_f E E<|csr<|iteK H27 (fun c_18 H31=>ceT E E E (c_18)<|gv E E<|nx<|c_t E E<|csr<|by refine s_v E (zO E hc) (zD (k:=4) 0 E (zg hc)) ?_;exact mv E E<|mv E E<|s_p E (qd E E)<|zcu E E H31 fun t_12 t_13 Sx_6 H32=>mv E E<|s_p E (zj E E)<|iteK H32 (fun c_19 H33=>s_p E (yB (zj E E) c_19)<|gv E E<|gv E E<|nx<|zG<|csr<|mv E E<|s_p E (yB (qe E) E)<|nx<|cfs E E<|zr<|zI (by kernel_rfl)<|a_takeP 0 E (by decide +kernel) (zf (za zd)) E (zk E)<|by exact a_takeP 1 E (by decide +kernel) (zf (za zd)) E (zp E E)<|by exact gx H33 fun t_14 ht_14 H34=>qp 2 E (by decide +kernel) (zf (za zd)) E (zA E) (zQ 1 E ht_14)<|by exact a_takeP 3 E (by decide +kernel) (zf (za zd)) E (zk E)<|by exact a_takeP 4 E (by decide +kernel) (zf (za zd)) E (zT E)<|by exact a_takeP 5 E (by decide +kernel) (zf (za zd)) E (zp E E)<|by exact an2 H34 fun c_20 c_21 H35=>a_takeP 6 E (by decide +kernel) (zf (za zd)) E (zz E E c_20 c_21 E)<|by exact zw 7 (by decide +kernel) E<|by exact an H35 fun c_22 H36=>zY E E E E E c_22 E<|zn<|zF zu<|zJ (by decide +kernel)<|by exact zS<|hJx (IntKind.u64.wrap (t_2+4),[.int .u8 0,.int .u64 0]) _ _ _ _ [2] H36 E ⟨E,E,E,True.intro⟩ E) fun c_19 H33=>s_p E (yB (zj E E) (wQ c_19))<|gv E E<|gv E E<|nx<|zG<|csr<|mv E E<|s_p E (yB (qe E) E)<|nx<|c_t E E<|csr<|by refine s_v E (zO E hc) (zD (k:=4) 0 E (zg hc)) ?_;exact mv E E<|mv E E<|s_p E (qd E E)<|qr E E H33 fun rv Sx_8 H37=>by obtain⟨t_15,rfl,ht_15,H38⟩:=H37;exact an H38 fun c_23 H39=>zq 2 E E E E E ht_15 E c_23<|nx<|zi<|zb<|zl<|zb<|zh Tryz.results124 (zy E (zD (k:=2) 2 E (zg ht_15)) ht_15 ze) ⟨_,E,ht_15,H39⟩) fun c_18 H31=>ceF E E E (c_18)<|gv E E<|nx<|c_f E E<|csr<|iteK H31 (fun c_24 H40=>ceT E E E (c_24)<|gv E E<|nx<|c_t E E<|csr<|by refine s_v E (zO E hc) (zD (k:=4) 0 E (zg hc)) ?_;exact mv E E<|mv E E<|s_p E (qd E E)<|mv E E<|qM E E H40 fun t_16 Sx_9 H41=>by have H42:=wO H41;rcases H42 with ⟨rfl,H43⟩ | ⟨rfl,H43⟩;exact (s_p E (yB (qe E) E)<|nx<|cfs E E<|zS<|hJx (IntKind.u64.wrap (t_2+4),[.int .u8 0,.int .u64 0]) _ _ _ _ [2] H43 E ⟨E,E,E,True.intro⟩ E);exact (s_p E (yB (qe E) E)<|nx<|c_t E E<|csr<|by refine s_v E (zO E hc) (zD (k:=4) 0 E (zg hc)) ?_;exact mv E E<|mv E E<|s_p E (qd E E)<|qr E E H43 fun rv Sx_10 H44=>by obtain⟨t_17,rfl,ht_17,H45⟩:=H44;exact an H45 fun c_25 H46=>zq 2 E E E E E ht_17 E c_25<|nx<|zi<|zl<|zb<|zh Tryz.results124 (zy E (zD (k:=2) 2 E (zg ht_17)) ht_17 ze) ⟨_,E,ht_17,H46⟩)) fun c_24 H40=>ceF E E E (c_24)<|gv E E<|nx<|c_f E E<|zm H40 (fun (J:Bool→Mem→Prop) (z:Bool) S=>J z S) (fun z=>⟨234,[(2,.pointer (some ⟨b,0,none⟩)),(3,.pointer (some ⟨b_1,0,none⟩)),(4,.pointer (some ⟨b_2,0,none⟩)),(5,.pointer (some ⟨b_3,o_1,none⟩)),(6,.int .u64 (IntKind.u64.wrap (IntKind.i64.wrap t_1))),(7,.int .u64 (IntKind.u64.wrap (t_2+4))),(8,.int .u64 t_4),(9,.int .u64 t_6),(38,.int .u8 t_7),(128,.bool z)]⟩) (fun z=>[⟨b,224,c⟩,⟨b_1,231,o⟩,⟨b_2,48,[.int .u8 0,.int .u64 0]⟩]) (fun t_18 Sx_11 H47=>by have H48:=wO H47;rcases H48 with ⟨c_26,H49⟩ | ⟨c_26,H49⟩;exact (c_t E c_26<|csr<|s_p E (zp E E)<|gx H49 fun t_19 ht_19 H50=>s_v E (zA E) (zQ 1 E ht_19)<|mv E E<|mv E E<|qM E E H50 fun t_20 Sx_12 H51=>by have H52:=wO H51;rcases H52 with ⟨rfl,H53⟩ | ⟨rfl,H53⟩;exact (nx<|ctr E E<|mv E E<|s_p E (zT E)<|s_p E (zp E E)<|gx H53 fun t_21 ht_21 H54=>s_v E (zA E) (qc ht_21)<|mv E E<|s_p E (xg E E)<|s_p E (qd E E)<|gv E E<|zn<|zS<|hJx (IntKind.u64.wrap (t_21+(IntKind.u64.wrap (4*(IntKind.u64.wrap (IntKind.i64.wrap t_1))))),[.int .u8 0,.int .u64 0]) _ _ _ _ [2] H54 E ⟨E,E,E,True.intro⟩ E);exact (nx<|cfs E E<|zS<|hJx (IntKind.u64.wrap (t_2+4),[.int .u8 0,.int .u64 0]) _ _ _ _ [2] H53 E ⟨E,E,E,True.intro⟩ E));exact (c_f E c_26<|csr<|iteK H49 (fun c_27 H55=>ceT E E E (c_27)<|gv E E<|nx<|c_t E E<|zI (by kernel_rfl)<|a_takeP 0 E (by decide +kernel) (zf (za zd)) E (zk E)<|by exact a_takeP 1 E (by decide +kernel) (zf (za zd)) E (zp E E)<|by exact gx H55 fun t_22 ht_22 H56=>qp 2 E (by decide +kernel) (zf (za zd)) E (zA E) (zQ 1 E ht_22)<|by exact a_takeP 3 E (by decide +kernel) (zf (za zd)) E (zk E)<|by exact a_takeP 4 E (by decide +kernel) (zf (za zd)) E (zk E)<|by exact a_takeP 5 E (by decide +kernel) (zf (za zd)) E (zk E)<|by exact a_takeP 6 E (by decide +kernel) (zf (za zd)) E (qd E E)<|by exact a_takeP 7 E (by decide +kernel) (zf (za zd)) E (zT E)<|by exact a_takeP 8 E (by decide +kernel) (zf (za zd)) E (zp E E)<|by exact an2 H56 fun c_28 c_29 H57=>a_takeP 9 E (by decide +kernel) (zf (za zd)) E (zz E E c_28 c_29 E)<|by exact zw 10 (by decide +kernel) E<|by exact an H57 fun c_30 H58=>zY E E E E E c_30 E<|zn<|zF zu<|a_takeP 11 E (by decide +kernel) (zf (za zd)) E (zM E)<|by exact zJ (by decide +kernel)<|by exact zS<|hJx (IntKind.u64.wrap (t_6+(IntKind.u64.wrap (IntKind.i64.wrap t_1))),[.int .u8 0,.int .u64 0]) _ _ _ _ [2] H58 E ⟨E,E,E,True.intro⟩ E) fun c_27 H55=>ceF E E E (c_27)<|gv E E<|nx<|c_f E E<|csr<|iteK H55 (fun c_31 H59=>ceT E E E (c_31)<|gv E E<|nx<|c_t E E<|zI (by kernel_rfl)<|a_takeP 0 E (by decide +kernel) (zf (za zd)) E (zk E)<|by exact a_takeP 1 E (by decide +kernel) (zf (za zd)) E (zp E E)<|by exact gx H59 fun t_23 ht_23 H60=>qp 2 E (by decide +kernel) (zf (za zd)) E (zA E) (zQ 1 E ht_23)<|by exact a_takeP 3 E (by decide +kernel) (zf (za zd)) E (zk E)<|by exact a_takeP 4 E (by decide +kernel) (zf (za zd)) E (zT E)<|by exact gx H60 fun t_24 ht_24 H61=>by refine qp 5 E (by decide +kernel) (zf (za zd)) E (zO E (zX ht_24)) (qX ht_24) ?_;exact a_takeP 6 E (by decide +kernel) (zf (za zd)) E (zp E E)<|by exact gx H61 fun t_25 ht_25 H62=>qp 7 E (by decide +kernel) (zf (za zd)) E (zA E) (zQ 1 E ht_25)<|by exact a_takeP 8 E (by decide +kernel) (zf (za zd)) E (zN ⟨_,Tryz.underlying54⟩ E)<|by exact a_takeP 9 E (by decide +kernel) (zf (za zd)) E (zp E E)<|by exact gx H62 fun t_26 ht_26 H63=>qp 10 E (by decide +kernel) (zf (za zd)) E (zA E) (zQ 0 E ht_26)<|by exact a_takeP 11 E (by decide +kernel) (zf (za zd)) E (zp E E)<|by exact gx H63 fun t_27 ht_27 H64=>qp 12 E (by decide +kernel) (zf (za zd)) E (zA E) (zQ 0 E ht_27)<|by exact a_takeP 17 E (by decide +kernel) (zf (za zd)) E (zT E)<|by exact a_takeP 18 E (by decide +kernel) (zf (za zd)) E (zp E E)<|by exact zw 13 (by decide +kernel) E<|by exact zcu E E H64 fun t_28 t_29 Sx_14 H65=>zn<|zF (zB (zQ 1 E ht_25) (zB (zQ 1 E ht_23) zu))<|a_takeP 14 E (by decide +kernel) (zf (za zd)) E (zk E)<|by exact a_takeP 15 E (by decide +kernel) (zf (za zd)) E (zj E E)<|by exact a_takeP 16 E (by decide +kernel) (zf (za zd)) E (zj E E)<|by exact an2 H65 fun c_32 c_33 H66=>a_takeP 19 E (by decide +kernel) (zf (za zd)) E (zz E E c_32 c_33 E)<|by exact zw 20 (by decide +kernel) E<|by exact an H66 fun c_34 H67=>zY E E E E E c_34 E<|zn<|zF zu<|zJ (by decide +kernel)<|by exact zS<|hJx (IntKind.u64.wrap (t_2+4),[.int .u8 0,.int .u64 0]) _ _ _ _ [2] H67 E ⟨E,E,E,True.intro⟩ E) fun c_31 H59=>ceF E E E (c_31)<|gv E E<|nx<|c_f E E<|csr<|iteK H59 (fun c_35 H68=>ceT E E E (c_35)<|gv E E<|nx<|c_t E E<|zG<|csr<|mv E E<|s_p E (zp E E)<|gx H68 fun t_30 ht_30 H69=>s_v E (zA E) (zQ 1 E ht_30)<|s_p E (zN ⟨_,Tryz.underlying54⟩ E)<|mv E E<|qM E E H69 fun t_31 Sx_16 H70=>by have H71:=wO H70;rcases H71 with ⟨rfl,H72⟩ | ⟨rfl,H72⟩;exact (s_p E (yB (qe E) E)<|nx<|cfs E E<|zr<|zx<|mv E E<|zaY E E H72 fun Sx_17 H73=>zn<|zS<|hJx (IntKind.u64.wrap (t_2+4),[.int .u8 0,.int .u64 0]) _ _ _ _ [2] H73 E ⟨E,E,E,True.intro⟩ E);exact (s_p E (yB (qe E) E)<|nx<|c_t E E<|zG<|zI (by kernel_rfl)<|by refine qp 0 E (by decide +kernel) (za (za (zf (za zd)))) E (zO E hc) (zD (k:=4) 0 E (zg hc)) ?_;exact a_takeP 1 E (by decide +kernel) (za (za (zf (za zd)))) E (zk E)<|by exact a_takeP 2 E (by decide +kernel) (za (za (zf (za zd)))) E (zT E)<|by exact a_takeP 3 E (by decide +kernel) (za (za (zf (za zd)))) E (zp E E)<|by exact gx H72 fun t_32 ht_32 H74=>qp 4 E (by decide +kernel) (za (za (zf (za zd)))) E (zA E) (qc ht_32)<|by exact zw 5 (by decide +kernel) E<|by exact qr E E H74 fun rv Sx_18 H75=>by obtain⟨t_33,rfl,ht_33,H76⟩:=H75;exact zn<|zF zu<|zw 6 (by decide +kernel) E<|by exact an H76 fun c_36 H77=>zq 2 E E E E E ht_33 E c_36<|zn<|zF zu<|zJ (by decide +kernel)<|by exact zr<|zi<|zb<|zl<|zb<|zh Tryz.results124 (zy E (zD (k:=2) 2 E (zg ht_33)) ht_33 ze) ⟨_,E,ht_33,H77⟩)) fun c_35 H68=>ceF E E E (c_35)<|gv E E<|nx<|c_f E E<|csr<|iteK H68 (fun c_37 H78=>ceT E E E (c_37)<|gv E E<|nx<|c_t E E<|csr<|mv E E<|mv E E<|s_p E (zT E)<|s_p E (zp E E)<|an H78 fun c_38 H79=>zY E E E E E c_38 E<|nxr<|mv E E<|s_p E (zR E E)<|by exact qv (sz:=2) (vs:=[.int .u8 2,.int .u64 (IntKind.u64.wrap (IntKind.i64.wrap t_1))]) 2 E E E E E E (Nat.le_of_ble_eq_true E) E<|nx<|zi<|zl<|zb<|zh Tryz.results124 (zy E (zD (k:=2) 2 E E) E ze) ⟨_,E,E,H79⟩) fun c_37 H78=>ceF E E E (c_37)<|gv E E<|nx<|c_f E E<|csr<|iteK H78 (fun c_39 H80=>ceT E E E (c_39)<|gv E E<|nx<|c_t E E<|csr<|mv E E<|mv E E<|s_p E (zT E)<|s_p E (zp E E)<|an H80 fun c_40 H81=>zY E E E E E c_40 E<|nx<|zG<|zG<|zI (by kernel_rfl)<|a_takeP 0 E (by decide +kernel) (za (za (zf (za zd)))) E (zk E)<|by exact a_takeP 1 E (by decide +kernel) (za (za (zf (za zd)))) E (zT E)<|by exact a_takeP 2 E (by decide +kernel) (za (za (zf (za zd)))) E (zp E E)<|by exact gx H81 fun t_34 ht_34 H82=>qp 3 E (by decide +kernel) (za (za (zf (za zd)))) E (zA E) (qc ht_34)<|by exact a_takeP 4 E (by decide +kernel) (za (za (zf (za zd)))) E (zk E)<|by exact a_takeP 5 E (by decide +kernel) (za (za (zf (za zd)))) E (zT E)<|by exact a_takeP 6 E (by decide +kernel) (za (za (zf (za zd)))) E (zp E E)<|by exact gx H82 fun t_35 ht_35 H83=>qp 7 E (by decide +kernel) (za (za (zf (za zd)))) E (zA E) (qc ht_35)<|by exact a_takeP 8 E (by decide +kernel) (za (za (zf (za zd)))) E (vH E E)<|by exact iteK H83 (fun c_41 H84=>a_takeP 9 E (by decide +kernel) (za (za (zf (za zd)))) E (yT (jz E E) c_41)<|by exact zJ (by decide +kernel)<|by exact zr<|c_t E E<|csr<|mv E E<|s_p E (zT E)<|s_p E (zp E E)<|an H84 fun c_42 H85=>zY E E E E E c_42 E<|nxr<|s_p E (zR E E)<|by exact qv (sz:=2) (vs:=[.int .u8 3,.int .u64 0]) 2 E E E E E E (Nat.le_of_ble_eq_true E) E<|nx<|zi<|zb<|zl<|zb<|zh Tryz.results124 (zy E (zD (k:=2) 2 E E) E ze) ⟨_,E,E,H85⟩) fun c_41 H84=>a_takeP 9 E (by decide +kernel) (za (za (zf (za zd)))) E (yF (jz E E) c_41)<|by exact zJ (by decide +kernel)<|by exact zr<|cfs E E<|zr<|csr<|s_p E (zR E E)<|by exact qv (sz:=2) (vs:=[.int .u8 0,.int .u64 0]) 2 E E E E E E (Nat.le_of_ble_eq_true E) E<|nx<|zi<|zl<|zb<|zh Tryz.results124 (zy E (zD (k:=2) 2 E E) E ze) ⟨_,E,E,H84⟩) fun c_39 H80=>ceF E E E (c_39)<|gv E E<|nx<|c_f E E<|csr<|iteK H80 (fun c_43 H86=>ceT E E E (c_43)<|gv E E<|nx<|c_t E E<|csr<|mv E E<|zaY E E H86 fun Sx_22 H87=>nx<|zG<|by exact zx<|s_p E (zR E E)<|by exact qv (sz:=2) (vs:=[.int .u8 0,.int .u64 0]) 2 E E E E E E (Nat.le_of_ble_eq_true E) E<|nx<|zi<|zl<|zb<|zh Tryz.results124 (zy E (zD (k:=2) 2 E E) E ze) ⟨_,E,E,H87⟩) fun c_43 H86=>ceF E E E (c_43)<|gv E E<|nx<|c_f E E<|csr<|s_p E (zp E E)<|gx H86 fun t_36 ht_36 H88=>s_v E (zA E) (zQ 1 E ht_36)<|iteK H88 (fun c_44 H89=>by exact s_p E (yT (qq E E) c_44)<|nx<|c_t E E<|zI (by kernel_rfl)<|a_takeP 0 E (by decide +kernel) (zf (za zd)) E (zk E)<|by exact a_takeP 1 E (by decide +kernel) (zf (za zd)) E (zp E E)<|by exact gx H89 fun t_37 ht_37 H90=>qp 2 E (by decide +kernel) (zf (za zd)) E (zA E) (zQ 1 E ht_37)<|by exact a_takeP 3 E (by decide +kernel) (zf (za zd)) E (zp E E)<|by exact gx H90 fun t_38 ht_38 H91=>qp 4 E (by decide +kernel) (zf (za zd)) E (zA E) (zQ 1 E ht_38)<|by exact a_takeP 5 E (by decide +kernel) (zf (za zd)) E (zk E)<|by exact a_takeP 6 E (by decide +kernel) (zf (za zd)) E (zk E)<|by exact a_takeP 7 E (by decide +kernel) (zf (za zd)) E (zp E E)<|by exact gx H91 fun t_39 ht_39 H92=>qp 8 E (by decide +kernel) (zf (za zd)) E (zA E) (zQ 1 E ht_39)<|by exact a_takeP 9 E (by decide +kernel) (zf (za zd)) E (zT E)<|by exact a_takeP 10 E (by decide +kernel) (zf (za zd)) E (zp E E)<|by exact an2 H92 fun c_45 c_46 H93=>a_takeP 11 E (by decide +kernel) (zf (za zd)) E (zz E E c_45 c_46 E)<|by exact gx H93 fun t_40 ht_40 H94=>qp 12 E (by decide +kernel) (zf (za zd)) E (zA E) (qc ht_40)<|by exact a_takeP 14 E (by decide +kernel) (zf (za zd)) E (zT E)<|by exact a_takeP 15 E (by decide +kernel) (zf (za zd)) E (zp E E)<|by exact zw 13 (by decide +kernel) E<|by exact qM E E H94 fun t_41 Sx_23 H95=>zn<|zF (zB (zQ 1 E ht_39) (zB (zQ 1 E ht_37) zu))<|an2 H95 fun c_47 c_48 H96=>a_takeP 16 E (by decide +kernel) (zf (za zd)) E (zz E E c_47 c_48 E)<|by exact zw 17 (by decide +kernel) E<|by exact an H96 fun c_49 H97=>zY E E E E E c_49 E<|zn<|zF zu<|zJ (by decide +kernel)<|by exact zS<|hJx (IntKind.u64.wrap (t_2+4),[.int .u8 0,.int .u64 0]) _ _ _ _ [2] H97 E ⟨E,E,E,True.intro⟩ E) fun c_44 H89=>by exact s_p E (yF (qq E E) c_44)<|nx<|cfs E E<|zS<|hJx (IntKind.u64.wrap (t_2+4),[.int .u8 0,.int .u64 0]) _ _ _ _ [2] H89 E ⟨E,E,E,True.intro⟩ E)) (fun Jx_1 hJx_1 H98=>csr<|by exact iteK H98 (fun c_50 H99=>ceT E E E (c_50)<|gv E E<|nx<|c_t E E<|qw<|hJx_1 true _ _ _ _ [0,0,0] H99 E ⟨E,E,E,E,E,E,E,E,E,E,True.intro⟩ E) fun c_50 H99=>ceF E E E (c_50)<|gv E E<|nx<|c_f E E<|csr<|iteK H99 (fun c_51 H100=>ceT E E E (c_51)<|gv E E<|nx<|c_t E E<|qw<|hJx_1 true _ _ _ _ [0,0,0] H100 E ⟨E,E,E,E,E,E,E,E,E,E,True.intro⟩ E) fun c_51 H100=>ceF E E E (c_51)<|gv E E<|nx<|cfr E E<|iteK H100 (fun c_52 H101=>ceT E E E (c_52)<|gv E E<|zn<|hJx_1 true _ _ _ _ [0,0,0] H101 E ⟨E,E,E,E,E,E,E,E,E,E,True.intro⟩ E) fun c_52 H101=>ceF E E E (c_52)<|gv E E<|zn<|hJx_1 false _ _ _ _ [0,0,0] H101 E ⟨E,E,E,E,E,E,E,E,E,E,True.intro⟩ E))
def vW (S:Mem) (c:List Value) (addr:Int) (write:Bool) (Q:Int→Int→Bool→Mem→Prop):Prop:=
 c.length=4 ∧
 jn (fun (Sx:Mem)=>
 jn (fun (Sx_1:Mem)=>
 gP (nthL c 0) fun t=>
 nn t fun b_1 o=>
 gI (Sx_1.cell b_1 (o+17)) .u64 fun t_1=>
 jn (fun (Sx_2:Mem)=>
 gV (nthL c 1) fun t_2=>
 ci Tryz.prog Sx_2 t_2 "Load" [.int .i64 (IntKind.i64.wrap (IntKind.u64.wrap (Int.tdiv t_1 256))), .int .i64 (IntKind.i64.wrap (IntKind.u64.wrap (8 * (IntKind.u64.wrap (Int.tdiv addr 256))))), .int .i64 8] fun rv Sx_3 => ∃ t_3 : Sl, ∃ t_4 : Int, rv = .tuple #[eL t_3, .int .i64 t_4] ∧ 
 zcV Sx_3 t_3 fun t_5 Sx_4=>
 jn (fun (Sx_5:Mem)=>
 Q (IntKind.i64.wrap (ishr .u64 t_5 8)) (IntKind.i64.wrap (Int.tmod addr 256)) true Sx_5) fun Jx=>
 if t_4≠0 then
 Q 0 0 false Sx_4
 else
 if iand .u64 t_5 1=0 then
 Q 0 0 false Sx_4
 else
 if write=true then
 if iand .u64 t_5 2=0 then
 Q 0 0 false Sx_4
 else
 if 32≤ishr .u64 t_5 8 then
 Q 0 0 false Sx_4
 else
 Jx Sx_4
 else
 if 32≤ishr .u64 t_5 8 then
 Q 0 0 false Sx_4
 else
 Jx Sx_4) fun Jx_1=>
 if 32≤IntKind.u64.wrap (Int.tdiv t_1 256) then
 Q 0 0 false Sx_1
 else
 Jx_1 Sx_1) fun Jx_2=>
 gP (nthL c 0) fun t_6=>
 nn t_6 fun b_2 o_1=>
 gI (Sx.cell b_2 (o_1+17)) .u64 fun t_7=>
 if t_7=0 then
 Q (IntKind.i64.wrap (IntKind.u64.wrap (Int.tdiv addr 256))) (IntKind.i64.wrap (Int.tmod addr 256)) true Sx
 else
 Jx_2 Sx) fun Jx_3=>
 if 32≤IntKind.u64.wrap (Int.tdiv addr 256) then
 Q 0 0 false S
 else
 Jx_3 S
theorem zbx {S:Mem} {c:List Value} {addr:Int} {write:Bool} {Q:Int→Int→Bool→Mem→Prop} (H:vW S c addr write Q):vB S c addr write Q:=by
 unfold vW at H
 exact Tr.intro Tryz.func172 E Tryz.ntmps172 E fun w0=>an H fun hc H1=>csr<|qI E E E fun b=>gv E E<|gv E E<|gv E E<|nxr<|mv E E<|s_p E (xf E E (by decide))<|mv E E<|s_p E (xe E E (by decide))<|s_p E (zN ⟨_,Tryz.underlying39⟩ E)<|gv E E<|gv E E<|nx<|zm H1 (fun (J:Mem→Prop) (z:Unit) S=>J S) (fun z=>⟨76,[(2,.bool write),(3,.pointer (some ⟨b,0,none⟩)),(9,.int .u64 (IntKind.u64.wrap (Int.tdiv addr 256))),(10,.int .i64 (IntKind.i64.wrap (Int.tmod addr 256)))]⟩) (fun z=>[⟨b,224,c⟩]) (fun _ Sx H2=>zm H2 (fun (J:Mem→Prop) (z:Unit) S=>J S) (fun z=>⟨76,[(2,.bool write),(3,.pointer (some ⟨b,0,none⟩)),(9,.int .u64 (IntKind.u64.wrap (Int.tdiv addr 256))),(10,.int .i64 (IntKind.i64.wrap (Int.tmod addr 256)))]⟩) (fun z=>[⟨b,224,c⟩]) (fun _ Sx_1 H3=>csr<|s_p E (zp E E)<|gx H3 fun t ht H4=>s_v E (zA E) (zQ 0 E ht)<|by obtain⟨b_1,o,rfl,H5⟩:=H4;exact s_p E (zT E)<|s_p E (zp E E)<|gx H5 fun t_1 ht_1 H6=>s_v E (zA E) (qc ht_1)<|s_p E (xf E E (by decide))<|gv E E<|nx<|zm H6 (fun (J:Mem→Prop) (z:Unit) S=>J S) (fun z=>⟨76,[(2,.bool write),(3,.pointer (some ⟨b,0,none⟩)),(9,.int .u64 (IntKind.u64.wrap (Int.tdiv addr 256))),(10,.int .i64 (IntKind.i64.wrap (Int.tmod addr 256))),(11,.int .u64 (IntKind.u64.wrap (Int.tdiv t_1 256)))]⟩) (fun z=>[⟨b,224,c⟩]) (fun _ Sx_2 H7=>csr<|s_p E (zp E E)<|gx H7 fun t_2 ht_2 H8=>s_v E (zA E) (zQ 0 E ht_2)<|mv E E<|s_p E (zN ⟨_,Tryz.underlying39⟩ E)<|mv E E<|s_p E (xg E E)<|s_p E (zN ⟨_,Tryz.underlying39⟩ E)<|zhb E E E H8 fun rv Sx_3 H9=>by obtain⟨t_3,t_4,rfl,H10⟩:=H9;exact mv E E<|s_p E (zj E E)<|s_p E (zj E E)<|gv E E<|gv E E<|nxr<|mv E E<|qM E E H10 fun t_5 Sx_4 H11=>gv E E<|nx<|zm H11 (fun (J:Mem→Prop) (z:Unit) S=>J S) (fun z=>⟨76,[(10,.int .i64 (IntKind.i64.wrap (Int.tmod addr 256))),(14,.int .u64 t_5)]⟩) (fun z=>[]) (fun _ Sx_5 H12=>csr<|mv E E<|s_p E (jy E E (by decide))<|s_p E (zN ⟨_,Tryz.underlying39⟩ E)<|mv E E<|gv E E<|gv E E<|gv E E<|nx<|zi<|zh Tryz.results172 (zc E (zc E (zc E ze))) ⟨_,_,_,E,H12⟩) (fun Jx hJx H13=>csr<|mv E E<|iteK H13 (fun c_1 H14=>s_p E (yT (qm E E) c_1)<|mv E E<|sk2 E E<|zK E<|pk E E E<|mv E E<|sk4 E E E E<|sk2 E E<|pk E E E<|mv E E<|sk2 E E<|zK E<|pk E E E<|nx<|c_t E E<|csr<|gv E E<|gv E E<|gv E E<|nx<|zi<|zb<|zh Tryz.results172 (zc E (zc E (zc E ze))) ⟨_,_,_,E,H14⟩) fun c_1 H14=>s_p E (yF (qm E E) c_1)<|mv E E<|mv E E<|s_p E (vH E E)<|iteK H14 (fun c_2 H15=>ceT E E E (c_2)<|pk E E E<|mv E E<|sk4 E E E E<|sk2 E E<|pk E E E<|mv E E<|sk2 E E<|zK E<|pk E E E<|nx<|c_t E E<|csr<|gv E E<|gv E E<|gv E E<|nx<|zi<|zb<|zh Tryz.results172 (zc E (zc E (zc E ze))) ⟨_,_,_,E,H15⟩) fun c_2 H15=>ceF E E E (c_2)<|pk E E E<|mv E E<|iteK H15 (fun c_3 H16=>s_p E (qZ E c_3)<|mv E E<|mv E E<|s_p E (vH E E)<|iteK H16 (fun c_4 H17=>ceT E E E (c_4)<|pk E E E<|pk E E E<|mv E E<|sk2 E E<|zK E<|pk E E E<|nx<|c_t E E<|csr<|gv E E<|gv E E<|gv E E<|nx<|zi<|zb<|by exact zh Tryz.results172 (zc E (zc E (zc E ze))) ⟨_,_,_,E,H17⟩) fun c_4 H17=>ceF E E E (c_4)<|pk E E E<|pk E E E<|mv E E<|mv E E<|s_p E (jy E E (by decide))<|iteK H17 (fun c_5 H18=>s_p E (yT (qq E E) c_5)<|pk E E E<|nx<|c_t E E<|csr<|gv E E<|gv E E<|gv E E<|nx<|by exact zi<|zb<|zh Tryz.results172 (zc E (zc E (zc E ze))) ⟨_,_,_,E,H18⟩) fun c_5 H18=>s_p E (yF (qq E E) c_5)<|pk E E E<|nx<|cfs E E<|hJx () _ _ _ _ [] H18 E ⟨E,E,True.intro⟩ E) fun c_3 H16=>s_p E (qZ E (wQ c_3))<|mv E E<|sk2 E E<|zK E<|pk E E E<|pk E E E<|mv E E<|mv E E<|s_p E (jy E E (by decide))<|iteK H16 (fun c_6 H19=>s_p E (yT (qq E E) c_6)<|pk E E E<|nx<|c_t E E<|csr<|gv E E<|gv E E<|gv E E<|nx<|zi<|zb<|by exact zh Tryz.results172 (zc E (zc E (zc E ze))) ⟨_,_,_,E,H19⟩) fun c_6 H19=>s_p E (yF (qq E E) c_6)<|pk E E E<|nx<|cfs E E<|hJx () _ _ _ _ [] H19 E ⟨E,E,True.intro⟩ E)) (fun Jx_1 hJx_1 H20=>csr<|mv E E<|iteK H20 (fun c_7 H21=>s_p E (yT (qq E E) c_7)<|nx<|c_t E E<|csr<|gv E E<|gv E E<|gv E E<|nx<|zi<|zb<|zh Tryz.results172 (zc E (zc E (zc E ze))) ⟨_,_,_,E,H21⟩) fun c_7 H21=>s_p E (yF (qq E E) c_7)<|nx<|cfs E E<|hJx_1 () _ _ _ _ [0] H21 E ⟨E,E,E,E,E,True.intro⟩ E)) (fun Jx_2 hJx_2 H22=>csr<|s_p E (zp E E)<|gx H22 fun t_6 ht_6 H23=>s_v E (zA E) (zQ 0 E ht_6)<|by obtain⟨b_2,o_1,rfl,H24⟩:=H23;exact s_p E (zT E)<|s_p E (zp E E)<|gx H24 fun t_7 ht_7 H25=>s_v E (zA E) (qc ht_7)<|iteK H25 (fun c_8 H26=>ceT E E E (c_8)<|nx<|c_t E E<|csr<|mv E E<|s_p E (zN ⟨_,Tryz.underlying39⟩ E)<|mv E E<|gv E E<|gv E E<|gv E E<|nx<|zi<|zb<|zh Tryz.results172 (zc E (zc E (zc E ze))) ⟨_,_,_,E,H26⟩) fun c_8 H26=>ceF E E E (c_8)<|nx<|cfs E E<|hJx_2 () _ _ _ _ [0] H26 E ⟨E,E,E,E,True.intro⟩ E)) (fun Jx_3 hJx_3 H27=>csr<|mv E E<|iteK H27 (fun c_9 H28=>s_p E (yT (qq E E) c_9)<|nx<|c_t E E<|csr<|gv E E<|gv E E<|gv E E<|nx<|zi<|zb<|zh Tryz.results172 (zc E (zc E (zc E ze))) ⟨_,_,_,E,H28⟩) fun c_9 H28=>s_p E (yF (qq E E) c_9)<|nx<|cfs E E<|hJx_3 () _ _ _ _ [0] H28 E ⟨E,E,E,E,True.intro⟩ E)
def ku (S:Mem) (c:List Value) (addr:Int) (w:Int) (Q:Bool→Mem→Prop):Prop:=
 c.length=4 ∧
 jn (fun (page:Int) (off:Int) (ok:Bool) (Sx:Mem)=>
 if ok=true then
 if Int.tmod addr 8=0 then
 gV (nthL c 1) fun t=>
 isI t ∧
 zaB Sx w fun t_1 Sx_1=>
 ci Tryz.prog Sx_1 t "Save" [.int .i64 page, .int .i64 off, eL t_1] fun rv Sx_2 => ∃ t_2 : Int, rv = .int .i64 t_2 ∧ 
 Q (decide (t_2=0)) Sx_2
 else
 Q false Sx
 else
 Q false Sx) fun Jx=>
 vB S c addr true fun t_3 t_4 t_5 Sx_3=>
 if t_5=true then
 Jx t_3 t_4 true Sx_3
 else
 Jx t_3 t_4 false Sx_3
theorem zcj {S:Mem} {c:List Value} {addr:Int} {w:Int} {Q:Bool→Mem→Prop} (H:ku S c addr w Q):gk S c addr w Q:=by
 unfold ku at H
 exact Tr.intro Tryz.func175 E Tryz.ntmps175 E fun w0=>an H fun hc H1=>csr<|qI E E E fun b=>gv E E<|nx<|zm H1 (fun (J:Int→Int→Bool→Mem→Prop) (z:Int×Int×Bool) S=>J z.1 z.2.1 z.2.2 S) (fun z=>⟨35,[(1,.int .u64 addr),(2,.int .u64 w),(3,.pointer (some ⟨b,0,none⟩)),(7,.int .i64 z.1),(8,.int .i64 z.2.1),(9,.bool z.2.2)]⟩) (fun z=>[⟨b,224,c⟩]) (by rintro⟨page,off,ok⟩ Sx H2;exact zG<|zI (by kernel_rfl)<|iteK H2 (fun c_1 H3=>aTP 0 E (by decide +kernel) E (qZ E c_1)<|by exact aTP 1 E (by decide +kernel) E (zk E)<|by exact aTP 2 E (by decide +kernel) E (zk E)<|by exact aTP 3 E (by decide +kernel) E (xe E E (by decide))<|by exact iteK H3 (fun c_2 H4=>aTP 4 E (by decide +kernel) E (yT (jz E E) c_2)<|by exact aTP 5 E (by decide +kernel) E (xS E E)<|by exact aTP 6 E (by decide +kernel) E (zk E)<|by exact aTP 7 E (by decide +kernel) E (zp E E)<|by exact gx H4 fun t ht H5=>aT 8 E (by decide +kernel) E (zA E) (zQ 0 E ht)<|by exact aTP 9 E (by decide +kernel) E (zk E)<|by exact aTP 10 E (by decide +kernel) E (zk E)<|by exact aTP 11 E (by decide +kernel) E (zk E)<|by exact an H5 fun c_3 H6=>aTP 13 E (by decide +kernel) E (zll c_3 E)<|by exact aTP 14 E (by decide +kernel) E (zk E)<|by exact zw 12 (by decide +kernel) E<|by exact qM E E H6 fun t_1 Sx_1 H7=>zn<|zF (zB (zQ 0 E ht) zu)<|zw 15 (by decide +kernel) E<|by exact zhb E E E H7 fun rv Sx_2 H8=>by obtain⟨t_2,rfl,H9⟩:=H8;exact zn<|zF (zB (zQ 0 E ht) zu)<|aTP 16 E (by decide +kernel) E (jz E E)<|by exact aTP 17 E (by decide +kernel) E (xS E E)<|by exact aTP 18 E (by decide +kernel) E (zM E)<|by exact zJ (by decide +kernel)<|by exact zr<|zi<|zh Tryz.results175 (zc E ze) ⟨_,E,H9⟩) fun c_2 H4=>aTP 4 E (by decide +kernel) E (yF (jz E E) c_2)<|by exact aTP 5 E (by decide +kernel) E (xS E E)<|by exact aTP 6 E (by decide +kernel) E (zk E)<|by exact qa 7 E (by decide +kernel) (za zd) E<|by exact qa 8 E (by decide +kernel) (za zd) E<|by exact qa 9 E (by decide +kernel) (za zd) E<|by exact qa 10 E (by decide +kernel) (za zd) E<|by exact qa 11 E (by decide +kernel) (za zd) E<|by exact qa 12 E (by decide +kernel) (za zd) E<|by exact qa 13 E (by decide +kernel) (za zd) E<|by exact qa 14 E (by decide +kernel) (za zd) E<|by exact qa 15 E (by decide +kernel) (za zd) E<|by exact qa 16 E (by decide +kernel) (za zd) E<|by exact aTP 17 E (by decide +kernel) E (xS E E)<|by exact aTP 18 E (by decide +kernel) E (zM E)<|by exact zJ (by decide +kernel)<|by exact zr<|zi<|zh Tryz.results175 (zc E ze) ⟨_,E,H4⟩) fun c_1 H3=>aTP 0 E (by decide +kernel) E (qZ E (wQ c_1))<|by exact aTP 1 E (by decide +kernel) E (zk E)<|by exact qa 2 E (by decide +kernel) (za zd) E<|by exact qa 3 E (by decide +kernel) (za zd) E<|by exact qa 4 E (by decide +kernel) (za zd) E<|by exact aTP 5 E (by decide +kernel) E (xS E E)<|by exact aTP 6 E (by decide +kernel) E (zk E)<|by exact qa 7 E (by decide +kernel) (za zd) E<|by exact qa 8 E (by decide +kernel) (za zd) E<|by exact qa 9 E (by decide +kernel) (za zd) E<|by exact qa 10 E (by decide +kernel) (za zd) E<|by exact qa 11 E (by decide +kernel) (za zd) E<|by exact qa 12 E (by decide +kernel) (za zd) E<|by exact qa 13 E (by decide +kernel) (za zd) E<|by exact qa 14 E (by decide +kernel) (za zd) E<|by exact qa 15 E (by decide +kernel) (za zd) E<|by exact qa 16 E (by decide +kernel) (za zd) E<|by exact aTP 17 E (by decide +kernel) E (xS E E)<|by exact aTP 18 E (by decide +kernel) E (zM E)<|by exact zJ (by decide +kernel)<|by exact zr<|zi<|zh Tryz.results175 (zc E ze) ⟨_,E,H3⟩) (fun Jx hJx H10=>zx<|by refine s_v E (zO E hc) (zD (k:=4) 0 E (zg hc)) ?_;exact mv E E<|zlj E E H10 fun t_3 t_4 t_5 Sx_3 H11=>mv E E<|s_p E (zj E E)<|s_p E (zj E E)<|iteK H11 (fun c_4 H12=>s_p E (yB (zj E E) c_4)<|gv E E<|gv E E<|gv E E<|zn<|hJx (t_3,t_4,true) _ _ _ _ [0] H12 E ⟨E,E,E,E,E,E,True.intro⟩ E) fun c_4 H12=>s_p E (yB (zj E E) (wQ c_4))<|gv E E<|gv E E<|gv E E<|zn<|hJx (t_3,t_4,false) _ _ _ _ [0] H12 E ⟨E,E,E,E,E,E,True.intro⟩ E)
def vV (S:Mem) (k:Int) (a:Int) (b:Int) (Q:Bool→Mem→Prop):Prop:=
 jn (fun (Sx:Mem)=>
 Q (decide (IntKind.i64.wrap a<IntKind.i64.wrap b)) Sx) fun Jx=>
 if k=14 then
 Q (decide (a=b)) S
 else
 if k=15 then
 Q (decide (a≠b)) S
 else
 Jx S
theorem fi {S:Mem} {k:Int} {a:Int} {b:Int} {Q:Bool→Mem→Prop} (H:vV S k a b Q):gj S k a b Q:=by
 unfold vV at H
 exact Tr.intro Tryz.func176 E Tryz.ntmps176 E fun w0=>csr<|gv E E<|nx<|zm H (fun (J:Mem→Prop) (z:Unit) S=>J S) (fun z=>⟨23,[(1,.int .u64 a),(2,.int .u64 b)]⟩) (fun z=>[]) (fun _ Sx H1=>csr<|mv E E<|s_p E (zN ⟨_,Tryz.underlying39⟩ E)<|mv E E<|s_p E (zN ⟨_,Tryz.underlying39⟩ E)<|s_p E (zH E E)<|gv E E<|nx<|zi<|zh Tryz.results176 (zc E ze) ⟨_,E,H1⟩) (fun Jx hJx H2=>csr<|mv E E<|nx<|zE<|csr<|iteK H2 (fun c H3=>ceT E E E (c)<|gv E E<|nx<|c_t E E<|csr<|mv E E<|mv E E<|s_p E (jz E E)<|gv E E<|nx<|zi<|zl<|zb<|zh Tryz.results176 (zc E ze) ⟨_,E,H3⟩) fun c H3=>ceF E E E (c)<|gv E E<|nx<|c_f E E<|csr<|iteK H3 (fun c_1 H4=>ceT E E E (c_1)<|gv E E<|nx<|c_t E E<|csr<|mv E E<|mv E E<|s_p E (qm E E)<|gv E E<|nx<|zi<|zl<|zb<|zh Tryz.results176 (zc E ze) ⟨_,E,H4⟩) fun c_1 H4=>ceF E E E (c_1)<|gv E E<|nx<|cfs E E<|zS<|hJx () _ _ _ _ [] H4 E ⟨E,E,True.intro⟩ E)
def zcg (S:Mem) (k:Int) (b:Int) (c:Int) (Q:Int→Mem→Prop):Prop:=
 jn (fun (Sx:Mem)=>
 0≤iand .u64 c 63 ∧
 Q (ishr .u64 b (iand .u64 c 63)) Sx) fun Jx=>
 if k=3 then
 Q (IntKind.u64.wrap (b+c)) S
 else
 if k=4 then
 Q (IntKind.u64.wrap (b-c)) S
 else
 if k=5 then
 Q (IntKind.u64.wrap (b*c)) S
 else
 if k=6 then
 Q (iand .u64 b c) S
 else
 if k=7 then
 Q (ior .u64 b c) S
 else
 if k=8 then
 Q (ixor .u64 b c) S
 else
 if k=9 then
 0≤iand .u64 c 63 ∧
 Q (ishl .u64 b (iand .u64 c 63)) S
 else
 Jx S
theorem zgP {S:Mem} {k:Int} {b:Int} {c:Int} {Q:Int→Mem→Prop} (H:zcg S k b c Q):zdt S k b c Q:=by
 unfold zcg at H
 exact Tr.intro Tryz.func180 E Tryz.ntmps180 E fun w0=>csr<|gv E E<|nx<|zm H (fun (J:Mem→Prop) (z:Unit) S=>J S) (fun z=>⟨48,[(1,.int .u64 b),(2,.int .u64 c)]⟩) (fun z=>[]) (fun _ Sx H1=>csr<|mv E E<|mv E E<|s_p E (vH E E)<|an H1 fun c_1 H2=>s_p E (jy E E c_1)<|gv E E<|nx<|zi<|zh Tryz.results180 (zc E ze) ⟨_,E,H2⟩) (fun Jx hJx H3=>csr<|mv E E<|nx<|zE<|csr<|iteK H3 (fun c_2 H4=>ceT E E E (c_2)<|gv E E<|nx<|c_t E E<|csr<|mv E E<|mv E E<|s_p E (qd E E)<|gv E E<|nx<|zi<|zl<|zb<|zh Tryz.results180 (zc E ze) ⟨_,E,H4⟩) fun c_2 H4=>ceF E E E (c_2)<|gv E E<|nx<|c_f E E<|csr<|iteK H4 (fun c_3 H5=>ceT E E E (c_3)<|gv E E<|nx<|c_t E E<|csr<|mv E E<|mv E E<|s_p E (jw E E)<|gv E E<|nx<|zi<|zl<|zb<|zh Tryz.results180 (zc E ze) ⟨_,E,H5⟩) fun c_3 H5=>ceF E E E (c_3)<|gv E E<|nx<|c_f E E<|csr<|iteK H5 (fun c_4 H6=>ceT E E E (c_4)<|gv E E<|nx<|c_t E E<|csr<|mv E E<|mv E E<|s_p E (xg E E)<|gv E E<|nx<|zi<|zl<|zb<|zh Tryz.results180 (zc E ze) ⟨_,E,H6⟩) fun c_4 H6=>ceF E E E (c_4)<|gv E E<|nx<|c_f E E<|csr<|iteK H6 (fun c_5 H7=>ceT E E E (c_5)<|gv E E<|nx<|c_t E E<|csr<|mv E E<|mv E E<|s_p E (vH E E)<|gv E E<|nx<|zi<|zl<|zb<|zh Tryz.results180 (zc E ze) ⟨_,E,H7⟩) fun c_5 H7=>ceF E E E (c_5)<|gv E E<|nx<|c_f E E<|csr<|iteK H7 (fun c_6 H8=>ceT E E E (c_6)<|gv E E<|nx<|c_t E E<|csr<|by exact mv E E<|mv E E<|s_p E (zie E E)<|gv E E<|nx<|zi<|zl<|zb<|zh Tryz.results180 (zc E ze) ⟨_,E,H8⟩) fun c_6 H8=>ceF E E E (c_6)<|gv E E<|nx<|c_f E E<|csr<|by exact iteK H8 (fun c_7 H9=>ceT E E E (c_7)<|gv E E<|nx<|c_t E E<|csr<|mv E E<|mv E E<|s_p E (zfJ E E)<|gv E E<|nx<|zi<|zl<|zb<|zh Tryz.results180 (zc E ze) ⟨_,E,H9⟩) fun c_7 H9=>ceF E E E (c_7)<|gv E E<|nx<|c_f E E<|csr<|iteK H9 (fun c_8 H10=>ceT E E E (c_8)<|gv E E<|nx<|c_t E E<|csr<|mv E E<|mv E E<|s_p E (vH E E)<|an H10 fun c_9 H11=>s_p E (zaz E E c_9)<|gv E E<|nx<|zi<|zl<|zb<|zh Tryz.results180 (zc E ze) ⟨_,E,H11⟩) fun c_8 H10=>ceF E E E (c_8)<|gv E E<|nx<|cfs E E<|zS<|hJx () _ _ _ _ [] H10 E ⟨E,E,True.intro⟩ E)
end Go.Proofs.YtabdpmnhjlmnlaaGreatDoor
end
