/- Texts of this work,joined by program (pack.py): Wm,Tp,Cg,PsE,St,Cf,Ch,Rf. -/
import Derived.Test.YtabdpmnhjlmnlaaGreatDoorQLF
import Derived.Test.YtabdpmnhjlmnlaaGreatDoorQLC
set_option linter.unusedVariables false
section
namespace Go.Cr
open Go Go.Pt
def upd {α:Type} (f:Nat→α) (i:Nat) (v:α):Nat→α:=fun x=>if x=i then v else f x
theorem zt {α:Type} {f:Nat→α} {i:Nat} {v:α}:upd f i v i=v:=by simp[upd]
theorem zv {α:Type} {f:Nat→α} {i j:Nat} {v:α} (h:j≠i):upd f i v j=f j:=by simp[upd,h]
theorem jQ {α:Type} {f:Nat→α} {i:Nat} {v w:α}:upd (upd f i v) i w=upd f i w:=by
 funext x;simp only[upd];split <;> rfl
theorem yg {α:Type} {f:Nat→α} {i:Nat}:upd f i (f i)=f:=by
 funext x;simp only[upd];split
 ·rename_i h;rw[h]
 ·rfl
structure Ls where
 on:Bool
 fr:Nat
 pg:Nat
 to:Nat
 wr:Bool
 at_:Int
def Ls.setA (l:Ls) (a:Int):Ls:=⟨l.on,l.fr,l.pg,l.to,l.wr,a⟩
def ls0:Ls:=⟨false,0,0,0,false,0⟩
structure Evt where
 kind:Int
 seat:Int
 a:Int
 b:Int
structure Bv where
 on:Bool
 seats:List Seat
 quota:Int
 keys:List Int
 disk:Nat→List Int
 bells:Nat→Bool
def bv0:Bv:=⟨false,[],0,[],fun _=>[],fun _=>false⟩
structure Wd where
 free:Int
 vm:Nat→Bv
 time:Nat→Int
 own:Nat→Nat→Option (List Int)
 alarm:Nat→Nat→Option Int
 ls:Nat→Ls
 ev:Nat→List Evt
def W0 (free:Int):Wd:=⟨free,fun _=>bv0,fun _=>0,fun _ _=>none,fun _ _=>none,fun _=>ls0,fun _=>[]⟩
def Wd.there (W:Wd) (n:Int):Prop:=0≤n∧n<6∧(W.vm n.toNat).on=true
instance (W:Wd) (n:Int):Decidable (W.there n):=inferInstanceAs (Decidable (_∧_∧_))
def fit256 (l:List Int):List Int:=l.take 256++List.replicate (256-l.length) 0
theorem zcL (l:List Int):(fit256 l).length=256:=by simp[fit256];omega
def pageB (img:List Int) (i:Nat):List Int:=fit256 (img.drop (256*i))
def noughts:List Int:=List.replicate 256 0
theorem qJ:noughts.length=256:=List.length_replicate
theorem zbK {x:Int} (h:x∈noughts):x=0:=List.eq_of_mem_replicate h
theorem ja {x:Int} (h:x∈noughts):0≤x∧x≤255:=by rw[zbK h];decide
def firstOff (f:Nat→Bool) (n:Nat):Option Nat:=(List.range n).find? fun i=>! f i
def count (f:Nat→Bool) (n:Nat):Nat:=((List.range n).filter f).length
def Wd.pages (W:Wd) (n:Nat):Nat:=count (fun p=>(W.own n p).isSome) 32
def mkV (seats quota:Int):Bv:={ on:=true,seats:=List.replicate seats.toNat seat0,quota:=quota,keys:=[],disk:=fun _=>noughts,bells:=fun _=>false }
def Wd.create (W:Wd) (seats quota pages:Int) (img:List Int):Int×Int×Wd:=
 if seats<1∨3<seats∨quota<1∨32<quota∨pages<1∨quota<pages then (0,1,W)
 else if 256*pages<img.length then (0,6,W)
 else match firstOff (fun n=>(W.vm n).on) 6 with
  | none=>(0,2,W)
  | some n=>if W.free<5+pages then (0,3,W)
   else (n,0,{ W with free:=W.free-(5+pages),vm:=upd W.vm n (mkV seats quota),time:=upd W.time n 0,ev:=upd W.ev n [],own:=upd W.own n fun p=>if (p:Int)<pages then some (pageB img p) else none })
def Wd.destroy (W:Wd) (n:Int):Int×Wd:=
 if ¬W.there n then (2,W)
 else (0,{ W with free:=W.free+(5+W.pages n.toNat),vm:=fun i=>if i=n.toNat then bv0 else { W.vm i with bells:=upd (W.vm i).bells n.toNat false },own:=upd W.own n.toNat fun _=>none,alarm:=upd W.alarm n.toNat fun _=>none,ls:=fun i=>if (W.ls i).on=true∧((W.ls i).fr=n.toNat∨(W.ls i).to=n.toNat) then ls0 else W.ls i })
def Bv.ring (v:Bv) (n:Nat) (on:Bool):Bv:={ v with bells:=upd v.bells n on }
def Wd.setV (W:Wd) (n:Nat) (v:Bv):Wd:={ W with vm:=upd W.vm n v }
def Wd.join (W:Wd) (a b:Int) (on:Bool):Int×Wd:=
 if ¬W.there a∨¬W.there b then (2,W)
 else if a=b then (1,W)
 else (0,(W.setV a.toNat ((W.vm a.toNat).ring b.toNat on)).setV b.toNat ((W.vm b.toNat).ring a.toNat on))
def Bv.setSeat (v:Bv) (k:Nat) (s:Seat):Bv:={ v with seats:=v.seats.set k s }
def Seat.raise (s:Seat) (i:Nat):Seat:=if s.st=2 then s else Seat.wake { s with pend:=ior .u32 s.pend (2 ^ i) }
def Bv.seat (v:Bv) (k:Nat):Seat:=v.seats.getD k seat0
def Wd.raise (W:Wd) (n k i:Nat):Int×Wd:=
 if ((W.vm n).seat k).st=2 then (10,W) else (0,W.setV n ((W.vm n).setSeat k (((W.vm n).seat k).raise i)))
def Bv.setKeys (v:Bv) (l:List Int):Bv:={ v with keys:=l }
def Wd.key (W:Wd) (n b:Int):Int×Wd:=
 if ¬W.there n then (2,W)
 else if 64≤(W.vm n.toNat).keys.length then (3,W)
 else (0,((W.setV n.toNat ((W.vm n.toNat).setKeys ((W.vm n.toNat).keys++[b]))).raise n.toNat 0 6).2)
def dueA (al:Nat→Option Int) (time:Int) (k:Nat):Bool:=match al k with
 | some a=>decide (a≤time)
 | none=>false
def Wd.tick (W:Wd):Wd:=
 { W with time:=fun n=>W.time n+1,vm:=fun n=>{ W.vm n with seats:=(W.vm n).seats.mapIdx fun k s=>if dueA (W.alarm n) (W.time n+1) k=true then s.raise 7 else s },alarm:=fun n k=>if dueA (W.alarm n) (W.time n+1) k=true then none else W.alarm n k }
def Wd.tell (W:Wd) (n:Nat) (e:Evt):Wd:={ W with ev:=upd W.ev n (W.ev n++[e]) }
def leaseAt (ls:Nat→Ls) (n:Nat) (page:Int):Option Nat:=(List.range 16).find? fun i=>(ls i).on && (decide ((ls i).to=n) && decide ((ls i).at_=page))
def Wd.where_ (W:Wd) (n p:Nat):Option (Nat×Nat×Bool):=
 if (W.own n p).isSome then some (n,p,true)
 else (leaseAt W.ls n p).map fun i=>((W.ls i).fr,(W.ls i).pg,(W.ls i).wr)
def Wd.gm (W:Wd) (n:Nat):GM:=
 ⟨fun p=>if 32≤p then none else (W.where_ n p).map fun q=>(32*q.1+q.2.1,q.2.2),fun f=>(W.own (f/32) (f%32)).getD []⟩
def Wd.setDat (W:Wd) (d:Nat→List Int):Wd:={ W with own:=fun n p=>(W.own n p).map fun _=>d (32*n+p) }
def Wd.setO (W:Wd) (n p:Nat) (o:Option (List Int)):Wd:={ W with own:=upd W.own n (upd (W.own n) p o) }
def small (w:Int):Int:=if 65535<w then -1 else w
def Wd.mine (W:Wd) (n:Nat) (p:Int):Int:=
 if p<0∨31<p∨W.where_ n p.toNat=none then 11 else if (W.own n p.toNat).isSome=true then 0 else 7
def Wd.setL (W:Wd) (i:Nat) (l:Ls):Wd:={ W with ls:=upd W.ls i l }
def Wd.lease (W:Wd) (n:Nat) (c:Int) (i page:Int):Int×Wd:=
 if i<0∨15<i∨(W.ls i.toNat).on=false then (2,W)
 else if c<7∧(W.ls i.toNat).to≠n∨c=7∧(W.ls i.toNat).fr≠n then (7,W)
 else if c=6 then (if (W.ls i.toNat).at_<0 then (10,W) else (0,W.setL i.toNat ((W.ls i.toNat).setA (-1))))
 else if 0≤(W.ls i.toNat).at_ then (8,W)
 else if c=7 then (0,W.setL i.toNat ls0)
 else if page<0∨31<page then (1,W)
 else if W.where_ n page.toNat≠none then (8,W)
 else (0,W.setL i.toNat ((W.ls i.toNat).setA page))
def lentL (ls:Nat→Ls) (n:Nat) (p:Int):Bool:=(List.range 16).any fun i=>(ls i).on && (decide ((ls i).fr=n) && decide (((ls i).pg:Int)=p))
def Wd.ring (W:Wd) (n:Nat) (a b:Int):Int×Wd:=
 if ¬W.there a∨(W.vm n).bells a.toNat=false then (2,W)
 else if b<0∨7<b then (1,W)
 else W.raise a.toNat 0 b.toNat
def Wd.offer (W:Wd) (n:Nat) (p to:Int) (w:Bool):Int×Int×Wd:=
 if W.mine n p≠0 then (0,W.mine n p,W)
 else if ¬W.there to then (0,2,W)
 else if (n:Int)=to then (0,1,W)
 else match firstOff (fun i=>(W.ls i).on) 16 with
  | none=>(0,3,W)
  | some i=>(i,0,W.setL i ⟨true,n,p.toNat,to.toNat,w,-1⟩)
def Wd.give (W:Wd) (n:Nat) (p:Int):Int×Wd:=
 if W.mine n p≠0 then (W.mine n p,W)
 else if lentL W.ls n p=true then (8,W)
 else (0,{ W.setO n p.toNat none with free:=W.free+1 })
def Wd.get (W:Wd) (n:Nat) (p:Int):Int×Wd:=
 if p<0∨31<p then (1,W)
 else if W.where_ n p.toNat≠none then (8,W)
 else if (W.vm n).quota≤W.pages n then (9,W)
 else if W.free=0 then (3,W)
 else (0,{ W.setO n p.toNat (some noughts) with free:=W.free-1 })
def Wd.load (W:Wd) (n:Nat) (sec p:Int):Int×Wd:=
 if sec<0∨3<sec then (1,W)
 else if p<0∨31<p then (11,W)
 else match W.where_ n p.toNat with
  | some (m,q,true)=>(0,W.setO m q (some ((W.vm n).disk sec.toNat)))
  | _=>(11,W)
def Bv.setDisk (v:Bv) (k:Nat) (l:List Int):Bv:={ v with disk:=upd v.disk k l }
def Wd.save (W:Wd) (n:Nat) (sec p:Int):Int×Wd:=
 if sec<0∨3<sec then (1,W)
 else if p<0∨31<p then (11,W)
 else match W.where_ n p.toNat with
  | some (m,q,_)=>(0,W.setV n ((W.vm n).setDisk sec.toNat ((W.own m q).getD [])))
  | none=>(11,W)
def Wd.nextKey (W:Wd) (n:Nat):Int×Int×Wd:=match (W.vm n).keys with
 | []=>(0,2,W)
 | x :: l=>(x,0,W.setV n ((W.vm n).setKeys l))
def Wd.setAlarm (W:Wd) (n k:Nat) (w:Int):Wd:={ W with alarm:=upd W.alarm n (upd (W.alarm n) k (some w)) }
def Seat.die (s:Seat):Seat:={ s with st:=2 }
def Wd.call (W:Wd) (n k:Nat) (c w1 w2 w3:Int):Int×Int×Wd:=
 if c=0 then (0,0,W.tell n ⟨3,k,w1%256,0⟩)
 else if c=1 then W.nextKey n
 else if c=2 then ((0:Int),W.ring n (small w1) (small w2))
 else if c=3 then (0,0,W.setAlarm n k w1)
 else if c=4 then W.offer n (small w1) (small w2) (decide (w3≠0))
 else if 5≤c∧c≤7 then ((0:Int),W.lease n c (small w1) (small w2))
 else if c=8 then ((0:Int),W.give n (small w1))
 else if c=9 then ((0:Int),W.get n (small w1))
 else if c=10 then ((0:Int),W.load n (small w1) (small w2))
 else if c=11 then ((0:Int),W.save n (small w1) (small w2))
 else if c=12 then (n,0,W)
 else if c=13 then (0,0,W.setV n ((W.vm n).setSeat k ((W.vm n).seat k).die))
 else (0,1,W)
def told (x n:Int) (k:Int) (pc:Int) (s:Seat):Evt:=if x=1 then ⟨4,k,n,pc⟩ else if x=4 then ⟨5,k,n,pc⟩ else ⟨1,k,pc,s.sum⟩
def Seat.answer (s:Seat) (e v:Int):Seat:=(s.setr 0 e).setr 1 v
def Wd.putSeat (W:Wd) (n k:Nat) (s:Seat):Wd:=W.setV n ((W.vm n).setSeat k s)
def Wd.hyper (W:Wd) (n k:Nat) (c:Int) (s:Seat):Wd:=
 let r:=W.call n k c (s.r 1) (s.r 2) (s.r 3)
 (r.2.2.putSeat n k (((r.2.2.vm n).seat k).answer r.2.1 r.1)).tell n ⟨2,k,ior .u64 (x64 (c*256)) r.2.1,r.1⟩
def Wd.run (W:Wd) (n k:Int):Int×Wd:=
 if ¬W.there n∨k<0∨(W.vm n.toNat).seats.length≤k then (2,W)
 else
  let s:=(W.vm n.toNat).seat k.toNat
  let o:=stepM s (W.gm n.toNat) (W.time n.toNat) k
  if o.k=5 then (10,W)
  else
   let W2:=((W.setDat o.g.dat).putSeat n.toNat k.toNat o.s).tell n.toNat (told o.k o.n k s.pc o.s)
   (0,if o.k=2 then W2.hyper n.toNat k.toNat o.n o.s else W2)
end Go.Cr
end
section
namespace Go.Cr
open Go Go.Pt
def pk (form:Int) (f:Nat) (wr:Bool):Int:=
 if form=1 then 1+256*f+(if wr=true then 2 else 0)
 else 9223372036854775808+(65535-f)+(if wr=true then 4611686018427387904 else 0)
theorem zlw {form:Int} {f:Nat} (hf:f≤65535) {wr:Bool}:W64 (pk form f wr)∧pk form f wr≠0:=by
 unfold pk
 split <;> split <;> exact⟨⟨by omega,by omega⟩,by omega⟩
end Go.Cr
end
section
namespace Go.Cr
open Go Go.Pt
def spB (d:List Int) (off:Nat) (l:List Int):List Int:=d.take off++l++d.drop (off+l.length)
theorem zeE {d:List Int} {off:Nat} {l:List Int} (h:off+l.length≤d.length):(spB d off l).length=d.length:=by
 unfold spB;simp only[List.length_append,List.length_take,List.length_drop];omega
theorem zeF {d:List Int} {off:Nat} {l:List Int} (h:Byt d) (hl:Byt l):Byt (spB d off l):=fun x hx=>by
 unfold spB at hx
 rcases List.mem_append.1 hx with hx | hx
 ·rcases List.mem_append.1 hx with hx | hx
  ·exact h x (List.mem_of_mem_take hx)
  ·exact hl x hx
 ·exact h x (List.mem_of_mem_drop hx)
def rdB (d:List Int) (off n:Nat):List Int:=(d.drop off).take n
theorem ziw {d:List Int} {off:Nat} {l:List Int} (h:off+l.length≤d.length):rdB (spB d off l) off l.length=l:=by
 unfold rdB spB
 rw[List.append_assoc,List.drop_left' (by rw[List.length_take];omega),List.take_left' rfl]
theorem zjx {d:List Int} {off j:Nat} {l:List Int} (h:off+l.length≤d.length):(spB d off l)[j]? = if off≤j∧j<off+l.length then l[j-off]? else d[j]?:=by
 unfold spB
 rw[List.append_assoc,List.getElem?_append,List.length_take,Nat.min_eq_left (by omega)]
 split
 ·rw[if_neg (by omega),List.getElem?_take,if_pos (by omega)]
 ·rw[List.getElem?_append]
  split
  ·rw[if_pos (by omega)]
  ·rw[if_neg (by omega),List.getElem?_drop];congr 1;omega
theorem zhk {d:List Int} {off n j:Nat}:(rdB d off n)[j]? = if j<n then d[off+j]? else none:=by
 unfold rdB
 rw[List.getElem?_take,List.getElem?_drop]
theorem zhj {d:List Int} {off o n:Nat} {l:List Int} (h:off+l.length≤d.length) (h2:o+n≤off∨off+l.length≤o):rdB (spB d off l) o n=rdB d o n:=by
 apply List.ext_getElem?
 intro j
 rw[zhk,zhk]
 by_cases hj:j<n
 ·rw[if_pos hj,if_pos hj,zjx h,if_neg (by omega)]
 ·rw[if_neg hj,if_neg hj]
def ld (d:Nat→List Int) (f i:Nat):Int:=num (rdB (d f) (8*i) 8)
def wr (d:Nat→List Int) (f off:Nat) (l:List Int):Nat→List Int:=upd d f (spB (d f) off l)
def unp (form w:Int):Option (Nat×Bool):=
 if w=0 then none
 else
  let f:=if form=1 then (w/256%65536).toNat else (65535-w%65536).toNat
  let b:=if form=1 then decide (w/2%2=1) else decide (w/4611686018427387904%2=1)
  if pk form f b=w then some (f,b) else none
theorem zfk {form:Int}:unp form 0=none:=by simp[unp]
theorem ziZ {form:Int} {f:Nat} {b:Bool} (h:f≤65535):unp form (pk form f b)=some (f,b):=by
 have h0:=(zlw (form:=form) h (wr:=b)).2
 unfold unp
 rw[if_neg h0]
 by_cases h1:form=1
 ·rw[if_pos h1,if_pos h1]
  have e1:(pk form f b/256%65536).toNat=f:=by unfold pk;rw[if_pos h1];split <;> omega
  have e2:decide (pk form f b/2%2=1)=b:=by
   unfold pk;rw[if_pos h1];cases b
   ·simp;omega
   ·simp;omega
  simp only[e1,e2];rw[if_pos trivial]
 ·rw[if_neg h1,if_neg h1]
  have e1:(65535-pk form f b%65536).toNat=f:=by unfold pk;rw[if_neg h1];split <;> omega
  have e2:decide (pk form f b/4611686018427387904%2=1)=b:=by
   unfold pk;rw[if_neg h1];cases b
   ·simp;omega
   ·simp;omega
  simp only[e1,e2];rw[if_pos trivial]
structure Ow where
 kind:Int
 vm:Int
 page:Int
 sh:Int
def ow0:Ow:=⟨0,0,0,0⟩
structure Cw where
 vm:Int
 page:Int
 f:Nat
 w:Bool
structure Kn where
 form:Int
 now:Int
 vm:Nat→Bv
 late:Nat→Int
 tf:Nat→Int
 fr:Nat→List Nat
 ls:Nat→Ls
 turns:Nat→Int
structure Cst extends Kn where
 N:Nat
 dat:Nat→List Int
 used:Nat→Bool
 left:Int
 cache:List Cw
 own:Nat→Ow
 alm:Nat→Nat→Option Int
 region:List Nat
 ev:Nat→List Evt
def leafC (d:Nat→List Int) (N:Nat) (form:Int) (fr:List Nat) (page:Int):Option (Nat×Nat):=
 if page<0∨31<page then none
 else match fr with
  | []=>none
  | r :: _=>if r<N then (unp form (ld d r (page/8).toNat)).map fun x=>(x.1,(page%8).toNat) else none
def walkC (d:Nat→List Int) (N:Nat) (form:Int) (fr:List Nat) (page:Int):Option (Nat×Bool):=match leafC d N form fr page with
 | none=>none
 | some (f,i)=>if f<N then unp form (ld d f i) else none
def setC (d:Nat→List Int) (N:Nat) (form:Int) (fr:List Nat) (page w:Int):Nat→List Int:=match leafC d N form fr page with
 | none=>d
 | some (f,i)=>if f<N then wr d f (8*i) (bytes8 w) else d
def Cst.walk (C:Cst) (n:Nat) (page:Int):Option (Nat×Bool):=walkC C.dat C.N (C.tf n) (C.fr n) page
def dropC (l:List Cw) (vm page:Int):List Cw:=l.filter fun r=>! (decide (r.vm=vm) && decide (r.page=page))
def putC (l:List Cw) (r:Cw):List Cw:=(if (dropC l r.vm r.page).length=8 then (dropC l r.vm r.page).tail else dropC l r.vm r.page)++[r]
def lookC (l:List Cw) (vm page:Int):Option (Nat×Bool):=(l.find? fun r=>decide (r.vm=vm) && decide (r.page=page)).map fun r=>(r.f,r.w)
def Cst.find (C:Cst) (n:Nat) (page:Int):Option (Nat×Bool)×List Cw:=match lookC C.cache n page with
 | some x=>(some x,C.cache)
 | none=>match C.walk n page with
  | some x=>(some x,putC C.cache ⟨n,page,x.1,x.2⟩)
  | none=>(none,C.cache)
def takeN (N:Nat):Nat→(Nat→Bool)→Option (List Nat×(Nat→Bool))
 | 0,u=>some ([],u)
 | k+1,u=>match firstOff u N with
  | none=>none
  | some f=>match takeN N k (upd u f true) with
   | none=>none
   | some (l,u')=>some (f :: l,u')
def donC (own:Nat→Ow) (f:Nat) (n page:Int):Nat→Ow:=if (own f).kind=0 then upd own f ⟨3,n,page,0⟩ else own
def keepC (own:Nat→Ow) (f:Nat) (n:Int):Nat→Ow:=if (own f).kind=0 then upd own f (if 0≤n then ⟨2,n,0,0⟩ else ⟨1,0,0,0⟩) else own
end Go.Cr
end
section
namespace Go.Proofs.YtabdpmnhjlmnlaaGreatDoor
open Go Go.Pt
attribute [local irreducible] Code.wp Back bodyPost wpList FR WL WC WQ WA AW Tr Yc HC AllC
set_option maxRecDepth 20000
set_option maxHeartbeats 4000000
set_option linter.unusedVariables false
end Go.Proofs.YtabdpmnhjlmnlaaGreatDoor
end
section
namespace Go.Cr
open Go Go.Pt
structure StoreAt (S:Mem) (m B N:Nat) (M:List Int):Prop where
 hd:S m=some (bw 180 [eL ⟨some (B,0),256*N,256*N⟩])
 dt:S B=some (bw 5 (bL M))
 ne:m≠B
 len:M.length=256*N
 byt:Byt M
 lim:N≤512
theorem StoreAt.keep {S S':Mem} {m B N:Nat} {M:List Int} (h:StoreAt S m B N M) (hk:Keeps S S' []):StoreAt S' m B N M:=
 ⟨hk.get h.hd (by simp),hk.get h.dt (by simp),h.ne,h.len,h.byt,h.lim⟩
end Go.Cr
namespace Go.Proofs.YtabdpmnhjlmnlaaGreatDoor
open Go Go.Pt Go.Cr
section
variable {S:Mem} {m B N:Nat} {M:List Int}
end
end Go.Proofs.YtabdpmnhjlmnlaaGreatDoor
namespace Go.Proofs.YtabdpmnhjlmnlaaGreatDoor
open Go Go.Pt Go.Cr
section
variable {S:Mem} {m B N:Nat} {M:List Int}
def rdF (M:List Int) (f off n:Nat):List Int:=(M.drop (256*f+off)).take n
end
end Go.Proofs.YtabdpmnhjlmnlaaGreatDoor
namespace Go.Proofs.YtabdpmnhjlmnlaaGreatDoor
open Go Go.Pt Go.Cr
section
variable {S:Mem} {m B N:Nat} {M:List Int}
def wrF (M:List Int) (f off:Nat) (l:List Int):List Int:=M.take (256*f+off)++l++M.drop (256*f+off+l.length)
end
end Go.Proofs.YtabdpmnhjlmnlaaGreatDoor
namespace Go.Proofs.YtabdpmnhjlmnlaaGreatDoor
open Go Go.Pt Go.Cr
section
variable {S:Mem} {m B N:Nat} {M:List Int}
theorem zlg {t:Sl} {xs:List Int} (h:Row S 1 t (bL xs)) (hb:Byt xs):By S t xs:=by
 have hl:=h.len
 simp only[bL,List.length_map,Nat.mul_one] at hl
 refine⟨hl,h.cap,hb,?_⟩
 by_cases h0:t.n=0
 ·exact .inl h0
 right
 rcases h.lie with ⟨_,e2⟩ | ⟨b,k,e1,e2,_,_,e5⟩
 ·have:=h.cap;omega
 ·refine⟨b,0,e1,fun i hi=>?_⟩
  rw[Nat.zero_add,qK e2,qi]
  have:(k.cs.take (t.n*1))[i]? = some (.int .u8 xs[i]):=by rw[e5];simp[bL,List.getElem?_eq_getElem hi]
  rw[List.getElem?_take,if_pos (by omega)] at this
  exact this
end
end Go.Proofs.YtabdpmnhjlmnlaaGreatDoor
namespace Go.Proofs.YtabdpmnhjlmnlaaGreatDoor
open Go Go.Pt Go.Cr
section
variable {S:Mem} {m B N:Nat} {M:List Int}
end
end Go.Proofs.YtabdpmnhjlmnlaaGreatDoor
namespace Go.Proofs.YtabdpmnhjlmnlaaGreatDoor
open Go Go.Pt Go.Cr
section
variable {S:Mem} {m B N:Nat} {M:List Int}
theorem zgB:∀ n:Nat,zrep n [Value.int .u8 0]=bL (List.replicate n 0)
 | 0=>rfl
 | n+1=>by
  have:=zgB n
  simp only[bL,List.map_replicate] at this ⊢
  simp[zrep,List.replicate_succ] at this ⊢
  exact this
end
end Go.Proofs.YtabdpmnhjlmnlaaGreatDoor
end
section
namespace Go.Cr
open Go Go.Pt
open Go.Proofs.YtabdpmnhjlmnlaaGreatDoor (rdF wrF)
def cF {α:Type}:Nat→(Nat→List α)→List α
 | 0,_=>[]
 | n+1,f=>cF n f++f n
section
variable {α:Type} {n w i:Nat} {f g:Nat→List α}
theorem yk:∀ {n:Nat},(∀ i,i<n→f i=g i)→cF n f=cF n g
 | 0,_=>rfl
 | n+1,h=>by simp only[cF];rw[yk fun i hi=>h i (by omega),h n (by omega)]
theorem xp:∀ {n:Nat},(∀ i,i<n→(f i).length=w)→(cF n f).length=n*w
 | 0,_=>by simp[cF]
 | n+1,h=>by simp only[cF,List.length_append];rw[xp fun i hi=>h i (by omega),h n (by omega),Nat.add_mul];omega
theorem zfH:∀ {n i:Nat},(∀ i,i<n→(f i).length=w)→i<n→∃ A B,A.length=i*w∧∀ v,cF n (upd f i v)=A++(v++B)
 | 0,_,_,h=>by omega
 | n+1,i,h,hi=>by
  by_cases e:i=n
  ·subst e
   refine⟨cF i f,[],xp fun j hj=>h j (by omega),fun v=>?_⟩
   simp only[cF,zt,List.append_nil]
   rw[yk fun j hj=>zv (f:=f) (v:=v) (show j≠i by omega)]
  ·obtain⟨A,B,h1,h2⟩:=zfH (n:=n) (i:=i) (fun j hj=>h j (by omega)) (by omega)
   refine⟨A,B++f n,h1,fun v=>?_⟩
   simp only[cF]
   rw[h2,zv (Ne.symm e)];simp
theorem zkc (h:∀ i,i<n→(f i).length=w) (hi:i<n):∃ A B,A.length=i*w∧cF n f=A++(f i++B)∧∀ v,cF n (upd f i v)=A++(v++B):=by
 obtain⟨A,B,h1,h2⟩:=zfH h hi
 exact⟨A,B,h1,by rw[←h2,yg],h2⟩
theorem zjl {x:α}:∀ {n:Nat},x∈cF n f→∃ i,i<n∧x∈f i
 | 0,h=>by simp[cF] at h
 | n+1,h=>by
  simp only[cF,List.mem_append] at h
  rcases h with h | h
  ·obtain⟨i,h1,h2⟩:=zjl h;exact⟨i,by omega,h2⟩
  ·exact⟨n,by omega,h⟩
end
variable {n w i k:Nat} {f g:Nat→List Value}
theorem zca (h:∀ i,i<n→(f i).length=w) (hi:i<n) (hk:k<w):nthL (cF n f) (i*w+k)=nthL (f i) k:=by
 obtain⟨A,B,h2,h1,_⟩:=zkc h hi
 have hl:=h i hi
 rw[qi,qi,h1,List.getElem?_append_right (by omega),List.getElem?_append_left (by omega)]
 congr 1;omega
theorem zbZ {m:Nat} (h:∀ i,i<n→(f i).length=w) (hi:i<n) (hk:k+m≤w):lpart (cF n f) (i*w+k) m=lpart (f i) k m:=by
 obtain⟨A,B,h2,h1,_⟩:=zkc h hi
 have hl:=h i hi
 have ht:(cF n f).length=n*w:=xp h
 have hb:i*w+w≤n*w:=by
  have:=Nat.mul_le_mul_right w (show i+1≤n by omega)
  rw[Nat.add_mul,Nat.one_mul] at this;exact this
 rw[qR (by omega),qR (by omega)]
 congr 1
 apply List.ext_getElem?
 intro j
 rw[List.getElem?_take,List.getElem?_take,List.getElem?_drop,List.getElem?_drop,h1]
 by_cases hj:j<m
 ·rw[if_pos hj,if_pos hj,List.getElem?_append_right (by omega),List.getElem?_append_left (by omega)]
  congr 1;omega
 ·rw[if_neg hj,if_neg hj]
theorem zen {vs:List Value} (h:∀ i,i<n→(f i).length=w) (hi:i<n) (hk:k+vs.length≤w):spl (cF n f) (i*w+k) vs=cF n (upd f i (spl (f i) k vs)):=by
 have hl:=h i hi
 obtain⟨A,B,h1,h2,h3⟩:=zkc h hi
 rw[h3,h2,←h1,zU rfl]
 congr 1
 rw[xF _ _ _ (by rw[List.length_append];omega),xF _ _ _ (by omega),List.take_append_of_le_length (by omega),List.drop_append_of_le_length (by omega)]
 simp
theorem ql {A B:List Value} {n j:Nat} (h:A.length=n):nthL (A++B) (n+j)=nthL B j:=zft h
theorem xT {A B:List Value} {j:Nat} (h:j<A.length):nthL (A++B) j=nthL A j:=by
 rw[qi,qi,List.getElem?_append_left h]
theorem xD {A B:List Value} {n j m:Nat} (h:A.length=n):lpart (A++B) (n+j) m=lpart B j m:=by
 by_cases hb:j+m≤B.length
 ·rw[qR (by simp;omega),qR hb]
  congr 1
  rw[←List.drop_drop,List.drop_left' h]
 ·unfold lpart
  have e1:Nat.ble (n+j+m) (A++B).length=false:=by
   cases hh:Nat.ble (n+j+m) (A++B).length
   ·rfl
   ·have:=Nat.le_of_ble_eq_true hh;simp at this;omega
  have e2:Nat.ble (j+m) B.length=false:=by
   cases hh:Nat.ble (j+m) B.length
   ·rfl
   ·have:=Nat.le_of_ble_eq_true hh;omega
  rw[e1,e2]
theorem wU {A B:List Value} {j m:Nat} (h:j+m≤A.length):lpart (A++B) j m=lpart A j m:=by
 rw[qR (by simp;omega),qR h]
 congr 1
 apply List.ext_getElem?
 intro x
 rw[List.getElem?_take,List.getElem?_take,List.getElem?_drop,List.getElem?_drop]
 by_cases hx:x<m
 ·rw[if_pos hx,if_pos hx,List.getElem?_append_left (by omega)]
 ·rw[if_neg hx,if_neg hx]
theorem xU {A B v:List Value} {j:Nat} (h:j+v.length≤A.length):spl (A++B) j v=spl A j v++B:=by
 rw[xF _ _ _ (by rw[List.length_append];omega),xF _ _ _ (by omega),List.take_append_of_le_length (by omega),List.drop_append_of_le_length (by omega),List.append_assoc,List.append_assoc,List.append_assoc]
end Go.Cr
end
section
namespace Go.Cr
open Go Go.Pt
structure Pc (S:Mem) (ρ:Rho) (r b:Nat) (l:List Value):Prop where
 at_:At S b 0 l
 rol:ρ b=some r
section
variable {S S' S0:Mem} {ρ ρ' ρ0:Rho} {R:Nat→Prop} {r b:Nat} {l:List Value}
theorem Pc.keep (h:Pc S ρ r b l) (m:Mv S ρ S' ρ' R) (hr:¬R r):Pc S' ρ' r b l:=
 ⟨h.at_.keep (m.kp b h.at_.some fun r' e=>by rw[h.rol] at e;cases e;exact hr),m.ext b r h.rol⟩
theorem Pc.cell (h:Pc S ρ r b l) {x:Nat} (i:Nat) (hi:i<l.length) (hx:x=i):S.cell b x=nthL l i:=by
 subst hx
 have:=h.at_.cell hi
 rwa [Nat.zero_add] at this
theorem Pc.part (h:Pc S ρ r b l) {x n:Nat} (i:Nat) (hi:i+n≤l.length) (hx:x=i):S.part b x n=lpart l i n:=by
 subst hx
 have:=h.at_.part hi
 rwa [Nat.zero_add] at this
theorem Pc.ne {r' b':Nat} {l':List Value} (h:Pc S ρ r b l) (h':Pc S ρ r' b' l') (hr:r≠r'):b≠b':=fun e=>by
 have:=h.rol;rw[e,h'.rol] at this;cases this;exact hr rfl
theorem Pc.pt (h:Pc S ρ r b l) (hg:∀ b r,ρ b=some r→S b≠none) {x n:Nat} {vs:List Value} (i:Nat) (hn:n=vs.length) (hi:i+vs.length≤l.length) (hx:x=i) {K:Mem→Prop}
  (hK:∀ S',Mv S ρ S' ρ (· = r)→Pc S' ρ r b (spl l i vs)→K S'):Go.Pt.pt S b x n vs K:=by
 subst hx
 have e:x=0+x:=(Nat.zero_add x).symm
 rw[e]
 refine h.at_.pt (i:=x) hn hi ?_
 have hl:(spl l x vs).length=l.length:=qj hi
 exact hK _ (h.at_.mv (R:=(· = r)) (Mv.refl hg) h.rol rfl _) ⟨h.at_.put hl,h.rol⟩
end
def evL (e:Evt):List Value:=[.int .u8 e.kind,.int .i64 e.seat,.int .u64 e.a,.int .u64 e.b]
def lsL (l:Ls):List Value:=[.bool l.on,.int .i64 l.fr,.int .i64 l.pg,.int .i64 l.to,.bool l.wr,.int .i64 l.at_]
def owL (o:Ow):List Value:=[.int .u8 o.kind,.int .i64 o.vm,.int .i64 o.page,.int .i64 o.sh]
def cwL (r:Cw):List Value:=[.int .i64 r.vm,.int .i64 r.page,.bool true,.int .i64 r.f,.bool r.w]
def nL (l:List Nat):List Value:=l.map fun (n:Nat)=>Value.int .i64 n
def bI (f:Nat→Bool):Nat:=(f 0).toNat+2*(f 1).toNat+4*(f 2).toNat+8*(f 3).toNat+16*(f 4).toNat+32*(f 5).toNat
structure Vx where
 ss:Sl
 fs:Sl
 ks:Sl
 d:Nat→Sl
def vx0:Vx:=⟨⟨none,0,0⟩,⟨none,0,0⟩,⟨none,0,0⟩,fun _=>⟨none,0,0⟩⟩
def vmC (x:Vx) (v:Bv) (tf late:Int):List Value:=
 [.bool v.on,eL x.ss,.int .i64 tf,eL x.fs,.int .i64 v.quota,.int .u64 late,eL x.ks,eL (x.d 0),eL (x.d 1),eL (x.d 2),eL (x.d 3),.int .u32 (bI v.bells)]
theorem vI {x:Vx} {v:Bv} {tf late:Int}:(vmC x v tf late).length=12:=rfl
def knL (k:Kn) (x:Nat→Vx) (ob kb:Nat):List Value:=
 [.int .i64 k.form,.int .u64 k.now]++(cF 6 (fun i=>vmC (x i) (k.vm i) (k.tf i) (k.late i))++([eP (some (ob,0))]++(cF 16 (fun i=>lsL (k.ls i))++([eP (some (kb,0))]++cF 18 fun i=>[.int .i64 (k.turns i)]))))
section
variable {k:Kn} {x:Nat→Vx} {ob kb:Nat}
theorem zgJ:(cF 6 fun i=>vmC (x i) (k.vm i) (k.tf i) (k.late i)).length=72:=xp (w:=12) fun _ _=>rfl
theorem zjH:(cF 16 fun i=>lsL (k.ls i)).length=96:=xp (w:=6) fun _ _=>rfl
theorem zju:(cF 18 fun i=>[Value.int .i64 (k.turns i)]).length=18:=xp (w:=1) fun _ _=>rfl
theorem zjN:(knL k x ob kb).length=190:=by
 unfold knL
 simp only[List.length_append,zgJ,zjH,zju,List.length_cons,List.length_nil]
theorem zkP {i j:Nat} (hi:i<6) (hj:j<12):nthL (knL k x ob kb) (2+(i*12+j))=nthL (vmC (x i) (k.vm i) (k.tf i) (k.late i)) j:=by
 unfold knL
 rw[ql (n:=2) rfl,xT (by rw[zgJ];omega)]
 exact zca (w:=12) (fun _ _=>rfl) hi hj
end
end Go.Cr
end
section
namespace Go.Cr
open Go Go.Pt
structure Rv where
 ss:Sl
 ks:Sl
 d:Nat→Sl
 mb:Pt
 begun:Int
 at_:Nat→Int
def nilL:Sl:=⟨none,0,0⟩
def rv0:Rv:=⟨nilL,nilL,fun _=>nilL,none,0,fun _=>0⟩
def rvL (x:Rv) (v:Bv) (ow al:Nat→Bool):List Value:=
 [.bool v.on,eL x.ss,.int .i64 v.quota,.int .u64 x.begun,eL x.ks]++(cF 4 (fun j=>[eL (x.d j)])++(cF 6 (fun j=>[.bool (v.bells j)])++([eP x.mb]++(cF 32 (fun p=>[.bool (ow p)])++(cF 3 (fun k=>[.bool (al k)])++cF 3 fun k=>[.int .u64 (x.at_ k)])))))
section
variable {x:Rv} {v:Bv} {ow al:Nat→Bool}
theorem zay:(cF 4 (fun j=>[eL (x.d j)])).length=4:=xp (w:=1) fun _ _=>rfl
theorem zcc:(cF 6 (fun j=>[Value.bool (v.bells j)])).length=6:=xp (w:=1) fun _ _=>rfl
theorem zcd:(cF 32 (fun j=>[Value.bool (ow j)])).length=32:=xp (w:=1) fun _ _=>rfl
theorem zhZ:(cF 3 (fun j=>[Value.bool (al j)])).length=3:=xp (w:=1) fun _ _=>rfl
theorem zke:(cF 3 (fun j=>[Value.int .u64 (x.at_ j)])).length=3:=xp (w:=1) fun _ _=>rfl
theorem yN:(rvL x v ow al).length=54:=by
 unfold rvL
 simp only[List.length_append,zay,zcc,zcd,zhZ,zke,List.length_cons,List.length_nil]
theorem fm {f:Nat→Value} {n i:Nat} (hi:i<n):nthL (cF n fun j=>[f j]) i=some (f i):=by
 have:=zca (w:=1) (k:=0) (n:=n) (f:=fun j=>[f j]) (fun _ _=>rfl) hi (by decide)
 rw[Nat.mul_one] at this;exact this
theorem gc {f g:Nat→Value} {n i:Nat} {y:Value} (hi:i<n) (hg:∀ j,j<n→g j=if j=i then y else f j):spl (cF n fun j=>[f j]) i [y]=cF n fun j=>[g j]:=by
 have:=zen (w:=1) (k:=0) (n:=n) (vs:=[y]) (f:=fun j=>[f j]) (fun _ _=>rfl) hi (by simp)
 rw[Nat.mul_one] at this
 rw[show spl (cF n fun j=>[f j]) i [y]=_ from this]
 refine yk fun j hj=>?_
 rw[hg j hj]
 unfold upd
 split <;> rfl
theorem zkH {j:Nat} (hj:j<4):nthL (rvL x v ow al) (5+j)=some (eL (x.d j)):=by
 unfold rvL
 rw[ql (n:=5) rfl,xT (by rw[zay];omega)]
 exact fm hj
theorem zir {j:Nat} (hj:j<6):nthL (rvL x v ow al) (9+j)=some (.bool (v.bells j)):=by
 unfold rvL
 rw[show 9+j=5+(4+j) by omega,ql (n:=5) rfl,ql (n:=4) zay,xT (by rw[zcc];omega)]
 exact fm hj
theorem rvL_m:nthL (rvL x v ow al) 15=some (eP x.mb):=by
 unfold rvL
 rw[show 15=5+(4+(6+0)) by omega,ql (n:=5) rfl,ql (n:=4) zay,ql (n:=6) zcc];rfl
theorem rvL_own {j:Nat} (hj:j<32):nthL (rvL x v ow al) (16+j)=some (.bool (ow j)):=by
 unfold rvL
 rw[show 16+j=5+(4+(6+(1+j))) by omega,ql (n:=5) rfl,ql (n:=4) zay,ql (n:=6) zcc,ql (n:=1) rfl,xT (by rw[zcd];omega)]
 exact fm hj
theorem zbp {j:Nat} (hj:j<32) {b:Bool}:spl (rvL x v ow al) (16+j) [.bool b]=rvL x v (upd ow j b) al:=by
 unfold rvL
 rw[show 16+j=5+(4+(6+(1+j))) by omega,zU (n:=5) rfl,zU (n:=4) zay,zU (n:=6) zcc,zU (n:=1) rfl,xU (by rw[zcd];simp;omega)]
 rw[gc (g:=fun p=>.bool (upd ow j b p)) hj fun p _=>by unfold upd;split <;> rfl]
theorem zjB {j:Nat} (hj:j<3) {b:Bool}:spl (rvL x v ow al) (48+j) [.bool b]=rvL x v ow (upd al j b):=by
 unfold rvL
 rw[show 48+j=5+(4+(6+(1+(32+j)))) by omega,zU (n:=5) rfl,zU (n:=4) zay,zU (n:=6) zcc,zU (n:=1) rfl,zU (n:=32) zcd,xU (by rw[zhZ];simp;omega)]
 rw[gc (g:=fun p=>.bool (upd al j b p)) hj fun p _=>by unfold upd;split <;> rfl]
theorem zjA {j:Nat} (hj:j<3) {t:Int}:spl (rvL x v ow al) (51+j) [.int .u64 t]=rvL { x with at_:=upd x.at_ j t } v ow al:=by
 unfold rvL
 rw[show 51+j=5+(4+(6+(1+(32+(3+j))))) by omega,zU (n:=5) rfl,zU (n:=4) zay,zU (n:=6) zcc,zU (n:=1) rfl,zU (n:=32) zcd,zU (n:=3) zhZ]
 rw[gc (g:=fun p=>.int .u64 (upd x.at_ j t p)) hj fun p _=>by unfold upd;split <;> rfl]
end
structure Rc0 where
 now:Int
 free:Int
 x:Nat→Rv
 vm:Nat→Bv
 ow:Nat→Nat→Bool
 al:Nat→Nat→Bool
 ls:Nat→Ls
 es:Nat→Sl
def Rc0.L (c:Rc0):List Value:=
 [.int .u64 c.now,.int .i64 c.free]++(cF 6 (fun n=>rvL (c.x n) (c.vm n) (c.ow n) (c.al n))++(cF 16 (fun i=>lsL (c.ls i))++cF 6 fun n=>[eL (c.es n)]))
section
variable {c:Rc0}
theorem km:(cF 6 (fun n=>rvL (c.x n) (c.vm n) (c.ow n) (c.al n))).length=324:=xp (w:=54) fun _ _=>yN
theorem zcb:(cF 16 (fun i=>lsL (c.ls i))).length=96:=xp (w:=6) fun _ _=>rfl
theorem zkd:(cF 6 fun n=>[eL (c.es n)]).length=6:=xp (w:=1) fun _ _=>rfl
theorem Rc0.len:c.L.length=428:=by
 unfold Rc0.L
 simp only[List.length_append,km,zcb,zkd,List.length_cons,List.length_nil]
theorem Rc0.get {n j i:Nat} (hn:n<6) (hj:j<54) (hi:i=2+(n*54+j)):nthL c.L i=nthL (rvL (c.x n) (c.vm n) (c.ow n) (c.al n)) j:=by
 subst hi
 unfold Rc0.L
 rw[ql (n:=2) rfl,xT (by rw[km];omega)]
 exact zca (w:=54) (fun _ _=>yN) hn hj
theorem Rc0.gets {n j m i:Nat} (hn:n<6) (hj:j+m≤54) (hi:i=2+(n*54+j)):lpart c.L i m=lpart (rvL (c.x n) (c.vm n) (c.ow n) (c.al n)) j m:=by
 subst hi
 unfold Rc0.L
 rw[xD (n:=2) rfl,wU (by rw[km];omega)]
 exact zbZ (w:=54) (fun _ _=>yN) hn hj
theorem Rc0.getl {i j k:Nat} (hi:i<16) (hj:j<6) (hk:k=326+(i*6+j)):nthL c.L k=nthL (lsL (c.ls i)) j:=by
 subst hk
 unfold Rc0.L
 rw[show 326+(i*6+j)=2+(324+(i*6+j)) by omega,ql (n:=2) rfl,ql (n:=324) km,xT (by rw[zcb];omega)]
 exact zca (w:=6) (fun _ _=>rfl) hi hj
theorem Rc0.getls {i k:Nat} (hi:i<16) (hk:k=326+i*6):lpart c.L k 6=some (lsL (c.ls i)):=by
 subst hk
 unfold Rc0.L
 rw[show 326+i*6=2+(324+(i*6+0)) by omega,xD (n:=2) rfl,xD (n:=324) km,wU (by rw[zcb];omega),zbZ (w:=6) (fun _ _=>rfl) hi (by decide)]
 rfl
theorem Rc0.gete {n k:Nat} (hn:n<6) (hk:k=422+n):nthL c.L k=some (eL (c.es n)):=by
 subst hk
 unfold Rc0.L
 rw[show 422+n=2+(324+(96+n)) by omega,ql (n:=2) rfl,ql (n:=324) km,ql (n:=96) zcb]
 exact fm hn
theorem Rc0.set {n j i:Nat} {vs:List Value} (hn:n<6) (hj:j+vs.length≤54) (hi:i=2+(n*54+j)) {x':Rv} {v':Bv} {ow' al':Nat→Bool} (he:spl (rvL (c.x n) (c.vm n) (c.ow n) (c.al n)) j vs=rvL x' v' ow' al') :
  spl c.L i vs=({ c with x:=upd c.x n x',vm:=upd c.vm n v',ow:=upd c.ow n ow',al:=upd c.al n al' }:Rc0).L:=by
 subst hi
 unfold Rc0.L
 rw[zU (n:=2) rfl,xU (by rw[km];omega),zen (w:=54) (fun _ _=>yN) hn hj,he]
 have e:cF 6 (upd (fun n=>rvL (c.x n) (c.vm n) (c.ow n) (c.al n)) n (rvL x' v' ow' al'))=cF 6 fun m=>rvL (upd c.x n x' m) (upd c.vm n v' m) (upd c.ow n ow' m) (upd c.al n al' m):=yk fun m _=>by
  by_cases e:m=n
  ·subst e;simp only[zt]
  ·simp only[zv e]
 rw[e]
theorem Rc0.sete {n k:Nat} (hn:n<6) (hk:k=422+n) {s:Sl}:spl c.L k [eL s]=({ c with es:=upd c.es n s }:Rc0).L:=by
 subst hk
 unfold Rc0.L
 rw[show 422+n=2+(324+(96+n)) by omega,zU (n:=2) rfl,zU (n:=324) km,zU (n:=96) zcb]
 rw[gc (g:=fun m=>eL (upd c.es n s m)) hn fun m _=>by unfold upd;split <;> rfl]
theorem Rc0.setf {f:Int}:spl c.L 1 [.int .i64 f]=({ c with free:=f }:Rc0).L:=rfl
end
end Go.Cr
end
