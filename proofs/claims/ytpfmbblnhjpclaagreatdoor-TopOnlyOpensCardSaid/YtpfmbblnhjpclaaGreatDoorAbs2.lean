import Derived.Test.YtpfmbblnhjpclaaGreatDoorJ0
set_option linter.unusedVariables false
set_option linter.unusedSimpArgs false
namespace Go.an
open Go.RowKit
inductive Kd where|pure|flat|any|map (ag st:Bool)
 deriving DecidableEq,Inhabited
structure ak where
 e:Nat
 sz:Nat
 kd:Kd
 aa:List (List AV)
 fF:List (List AV):=[]
 deriving Inhabited
structure aM where
 fr:List (Nat×AV)
 O:List (Nat×ak)
 deriving Inhabited
def lk:List (Nat×AV)->Nat->AV
 |[],_=>.top
 |(t,v)::r,s=>match Nat.beq t s with|true=>v|false=>lk r s
def aK:List (Nat×ak)->Nat->Option ak
 |[],_=>none
 |(t,v)::r,s=>match Nat.beq t s with|true=>some v|false=>aK r s
inductive tG where
 |int (k:IntKind)|bool|str|slice (e:Nat)|struct (fs:List (Nat×Nat))|array (n e:Nat)|map (k e:Nat)|other
 deriving DecidableEq,Inhabited
def tG.of:TypeDesc->tG
 |.int k=>.int k
 |.bool=>.bool
 |.string=>.str
 |.slice e=>.slice e
 |.struct fs=>.struct (fs.toList.map λf=>(f.offset,f.type))
 |.array n e=>.array n e
 |.map k e=>.map k e
 |_=>.other
def tG.isAgg:tG->Bool
 |.struct _=>true
 |.array _ _=>true
 |_=>false
inductive CK where|i (k:IntKind)|b|s
structure JM where
 k:tG
 size:Nat
 bytes:Nat
 zero:Value
 eq:List CK:=[]
abbrev dD:=List (Nat×JM)
def dD.get:dD->Nat->Option JM
 |[],_=>none
 |(t,v)::r,s=>match Nat.beq t s with|true=>some v|false=>dD.get r s
def AV.qF:Value->AV
 |.bool b=>.bool b
 |.int k n=>.int k n
 |.string s=>.str s
 |.slice none 0 0=>.ai
 |.nilFunc=>.fc
 |.map none=>.lit (.map none)
 |_=>.top
def AV.jJ:Value->AV
 |.agg cs=>.agg (cs.toList.map AV.qF)
 |v=>AV.qF v
def fH:Value->Bool
 |.agg cs=>cs.toList.all (·.oneCell')
 |_=>true
def AV.fp:AV->Bool
 |.bool _=>true
 |.int _ _=>true
 |.str _=>true
 |.ai=>true
 |.fc=>true
 |_=>false
mutual
def AV.bq:AV->Bool
 |.bn _ _ _=>false
 |.dq _ _ _ _=>false
 |.af _ _=>false
 |.dX _=>false
 |.dP _ _ _ _=>false
 |.dh _ _ _ _ _=>false
 |.opt _ _ _=>false
 |.agg xs=>AV.cW xs
 |.bY xs=>AV.cW xs
 |.func _ xs=>AV.cW xs
 |_=>true
def AV.cW:List AV->Bool
 |[]=>true
 |u::us=>AV.bq u&&AV.cW us
end
def AV.kW:List AV->Bool
 |[]=>true
 |u::us=>u.fp&&AV.kW us
def AV.tH:List AV->Bool
 |[]=>true
 |.top::us=>AV.tH us
 |u::us=>u.fp&&AV.tH us
def AV.kX:AV->Bool
 |.dh p _ _ _ _=>p
 |.agg xs=>AV.tH xs
 |v=>v.fp
def AV.uL:AV->Bool
 |.bY []=>true
 |.bY (x::xs)=>x.kX&&AV.kW xs
 |v=>v.kX
def FH:AV->Bool
 |.bY (.dh _ _ _ _ _::xs)=>AV.kW xs
 |_=>true
def Kd.fits:Kd->AV->Bool
 |.pure,u=>u.fp
 |.flat,u=>u.bq
 |.any,u=>match u with|.opt _ _ _=>false|.dh _ _ _ _ _=>false|.agg _=>false|.bY _=>false|_=>true
 |.map _ _,_=>false
structure iS where
 v:AV
 D:List (Nat×ak):=[]
 pg:Option Nat:=none
 nw:Bool:=false
inductive jh where
 |no
 |ret (r:iS)
 |eg (p:Prop) (a:jh)
 |Rr (k:Int->jh)
 |RV (k:List AV->jh)
 |exB (k:Bool->jh)
 |call (f:FuncId) (args:List AV) (k:AV->jh)
 |NB (f:FuncId) (e sz:Nat) (aa:List (List AV)) (args:List AV) (k:AV->jh)
 |NC (f:FuncId) (args:List AV) (O:List (Nat×ak)) (k:List (Nat×ak)->AV->jh)
def Xg:Value->Option (List AV)
 |.map none=>some [.lit (.map none)]
 |_=>none
theorem wv{v:Value}{cs:List AV}(h:Xg v=some cs):v=.map none/\cs=[.lit (.map none)]:=by
 unfold Xg at h
 split at h
 .injection h with h;exact⟨rfl,h.symm⟩
 .cases h
def AV.cellsOf:AV->Option (List AV)
 |.agg xs=>some xs
 |.top=>none
 |.o9=>none
 |.lit v=>Xg v
 |.dq _ _ _ _=>none
 |.bY _=>none
 |.opt _ _ _=>none
 |.dh _ _ _ _ _=>none
 |v=>some [v]
def Ci:Nat->List AV->Option (List AV)
 |0,_=>some []
 |_+1,[]=>none
 |n+1,x::xs=>match Ci n xs with|some ys=>some (x::ys)|none=>none
def FI:Nat->List AV->Option (List AV)
 |0,xs=>some xs
 |_+1,[]=>none
 |n+1,_::xs=>FI n xs
def mN(i:JM)(row:List AV)(off:Nat):Option AV:=
 match FI off row with
 |none=>none
 |some ys=>match i.k.isAgg with
  |true=>match Ci i.size ys with|some zs=>some (.agg zs)|none=>none
  |false=>match ys with|y::_=>some y|[]=>none
def eO:Nat->List AV->List AV->Option (List AV)
 |_,[],ys=>some ys
 |0,x::xs,_::ys=>match eO 0 xs ys with|some r=>some (x::r)|none=>none
 |0,_::_,[]=>none
 |n+1,xs,y::ys=>match eO n xs ys with|some r=>some (y::r)|none=>none
 |_+1,_::_,[]=>none
def fX(kd:Kd):List AV->Bool
 |[]=>true
 |x::xs=>kd.fits x&&fX kd xs
def AV.oF:AV->AV
 |.opt _ _ _=>.top
 |v=>v
def AV.strip(d:Nat)(bf:Bool):AV->AV
 |.opt d' w' v=>match Nat.beq d d',w',bf with
  |true,true,true=>v
  |true,false,false=>v
  |_,_,_=>.opt d' w' v
 |v=>v
def qG(k:IntKind)(n:Int)(f:Int->jh):jh:=.Rr λm=>.eg (k.wrap n=m) (f m)
def bu(v:AV):jh:=.ret {v:=v}
def H9(op:BinOp)(k:IntKind)(a b:Int):jh:=
 match op with
 |.add=>qG k (a+b) λm=>bu (.int k m)
 |.sub=>qG k (a-b) λm=>bu (.int k m)
 |.mul=>qG k (a*b) λm=>bu (.int k m)
 |.quo=>.eg (b≠0) (qG k (a.tdiv b) λm=>bu (.int k m))
 |.rem=>.eg (b≠0) (bu (.int k (a.tmod b)))
 |.eql=>bu (.bool (a==b))
 |.neq=>bu (.bool (a !=b))
 |.lss=>bu (.bool (decide (a<b)))
 |.leq=>bu (.bool (decide (a<=b)))
 |.gtr=>bu (.bool (decide (a>b)))
 |.geq=>bu (.bool (decide (a>=b)))
 |.shl=>.eg (0<=b/\b<=k.bits) (qG k (a*2^b.toNat) λm=>bu (.int k m))
 |.shr=>.eg (0<=b/\b<=k.bits) (bu (.int k (a/2^b.toNat)))
 |.and=>.Rr λm=>.eg (bits .and k a b=m) (bu (.int k m))
 |.or=>.Rr λm=>.eg (bits .or k a b=m) (bu (.int k m))
 |.xor=>.Rr λm=>.eg (bits .xor k a b=m) (bu (.int k m))
 |.andNot=>.Rr λm=>.eg (bits .andNot k a b=m) (bu (.int k m))
def Ia(op:BinOp)(k:IntKind)(a b:Int):jh:=
 match op with
 |.shl=>.eg (0<=b/\b<=k.bits) (qG k (a*2^b.toNat) λm=>bu (.int k m))
 |.shr=>.eg (0<=b/\b<=k.bits) (bu (.int k (a/2^b.toNat)))
 |_=>.no
def D3(a b:IntKind):Bool:=decide (a=b)
def CK.fits:CK->AV->Bool
 |.i k,.int k' _=>D3 k k'
 |.b,.bool _=>true
 |.s,.str _=>true
 |_,_=>false
def gV:List CK->List AV->Bool
 |[],[]=>true
 |c::cs,u::us=>c.fits u&&gV cs us
 |_,_=>false
def eqC:AV->AV->Bool
 |.int _ a,.int _ b=>a==b
 |.bool a,.bool b=>a==b
 |.str a,.str b=>a.toList==b.toList
 |_,_=>false
def HY:List AV->List AV->Bool
 |x::xs,y::ys=>eqC x y&&HY xs ys
 |_,_=>true
def RX:List CK->List AV->List AV->Bool
 |[],_,_=>false
 |UW,xs,ys=>gV UW xs&&gV UW ys
def ND(T:dD)(op:BinOp)(t:Nat)(x y:AV):jh:=
 match x,y with
 |.int k a,.int k' b=>match D3 k k' with|true=>H9 op k a b|false=>Ia op k a b
 |.bool a,.bool b=>match T.get t with
  |some i=>match i.k,op with
   |.bool,.eql=>bu (.bool (a==b))
   |.bool,.neq=>bu (.bool (a !=b))
   |_,_=>.no
  |none=>.no
 |.agg xs,.agg ys=>match T.get t with
  |some i=>match RX i.eq xs ys,op with
   |true,.eql=>bu (.bool (HY xs ys))
   |true,.neq=>bu (.bool (!HY xs ys))
   |_,_=>.no
  |none=>.no
 |.str a,.str b=>match op with
  |.add=>.eg (a.size+b.size<=9223372036854775807) (bu (.str (a++b)))
  |.eql=>bu (.bool (a.toList==b.toList))
  |.neq=>bu (.bool !(a.toList==b.toList))
  |.lss=>bu (.bool (Op.bytesLess a.toList b.toList))
  |.gtr=>bu (.bool !(Op.bytesLess a.toList b.toList||a.toList==b.toList))
  |_=>.no
 |.ai,.ai=>match T.get t with
  |some i=>match i.k,op with
   |.slice _,.eql=>bu (.bool true)
   |.slice _,.neq=>bu (.bool false)
   |_,_=>.no
  |none=>.no
 |.nU,.ai=>match T.get t with
  |some i=>match i.k,op with
   |.slice _,.eql=>bu (.bool false)
   |.slice _,.neq=>bu (.bool true)
   |_,_=>.no
  |none=>.no
 |.aL _ n _,.ai=>match T.get t with
  |some i=>match i.k,op with
   |.slice _,.eql=>.eg (0<n) (bu (.bool false))
   |.slice _,.neq=>.eg (0<n) (bu (.bool true))
   |_,_=>.no
  |none=>.no
 |.bn _ _ n,.ai=>match T.get t with
  |some i=>match i.k,op with
   |.slice _,.eql=>.eg (0<n) (bu (.bool false))
   |.slice _,.neq=>.eg (0<n) (bu (.bool true))
   |_,_=>.no
  |none=>.no
 |_,_=>.no
def iX(own:Nat->Option ak)(b:Nat):Option ak:=
 match own b with
 |some ae=>match ae.kd with
  |.map _ _=>none
  |_=>some ae
 |none=>none
def mh:AV->AV->Bool
 |.int _ a,.int _ b=>a==b
 |.str a,.str b=>a==b
 |_,_=>false
def mB(key:AV):List (List AV)->Option (List AV)
 |[]=>none
 |[]::r=>mB key r
 |(k::cs)::r=>match mh key k with|true=>some cs|false=>mB key r
def uM(key:AV):List (List AV)->Nat
 |[]=>0
 |[]::r=>uM key r+1
 |(k::cs)::r=>match mh key k with|true=>0|false=>uM key r+1
def wx(key:AV)(v:List AV):List (List AV)->List (List AV)
 |[]=>[key::v]
 |[]::r=>[]::wx key v r
 |(k::cs)::r=>match mh key k with|true=>(key::v)::r|false=>(k::cs)::wx key v r
def iy(key:AV)(z:List AV):List (List AV)->List (List AV)
 |[]=>[key::z]
 |[]::r=>[]::iy key z r
 |(k::cs)::r=>match mh key k with|true=>(key::cs)::r|false=>(k::cs)::iy key z r
def FJ(v:List AV):Nat->List (List AV)->List (List AV)
 |_,[]=>[]
 |0,row::r=>(row.take 1++v)::r
 |n+1,row::r=>row::FJ v n r
def zA(st:Bool)(t:tG):Bool:=
 match t with
 |.int .i64=>match st with|true=>false|false=>true
 |.str=>st
 |_=>false
def elemOf(ag:Bool)(cs:List AV):Option AV:=
 match ag with
 |true=>some (.agg cs)
 |false=>match cs with|[u]=>some u|_=>none
def tI:AV->Bool
 |.agg _=>true
 |_=>false
def FK:Bool->Bool->Bool
 |true,true=>true
 |false,false=>true
 |_,_=>false
def cI(d:Option Nat)(k:Nat):Nat:=match d with|some d=>16*d+k|none=>0
def dQ(own:Nat->Option ak):AV->Option AV
 |.bn b sz n=>match own b with
  |some ae=>match Nat.beq sz ae.sz,ae.kd with
   |true,.pure=>some (.aL sz n (ae.aa.take n))
   |true,.flat=>some (.aL sz n (ae.aa.take n))
   |_,_=>none
  |none=>none
 |.dX b=>match own b with
  |some ae=>match ae.kd with
   |.map ag st=>some (.iB ag st ae.sz ae.fF)
   |_=>none
  |none=>none
 |.af _ _=>none
 |.dP _ _ _ _=>none
 |.opt _ _ _=>none
 |.dh _ _ _ _ _=>none
 |v=>match v.bq with|true=>some v|false=>none
def cT(own:Nat->Option ak):List AV->Option (List AV)
 |[]=>some []
 |x::xs=>match dQ own x,cT own xs with
  |some y,some ys=>some (y::ys)
  |_,_=>none
def iJ(own:Nat->Option ak):List (List AV)->Option (List (List AV))
 |[]=>some []
 |x::xs=>match cT own x,iJ own xs with
  |some y,some ys=>some (y::ys)
  |_,_=>none
def gM(own:Nat->Option ak):AV->Option AV
 |.bn b sz n=>match own b with
  |some ae=>match ae.kd with
   |.any=>match Nat.beq sz ae.sz,iJ own (ae.aa.take n)with
    |true,some rs=>some (.aL sz n rs)
    |_,_=>none
   |_=>dQ own (.bn b sz n)
  |none=>none
 |.af b off=>match own b with
  |some ae=>match ae.kd,ae.aa with
   |.any,[row]=>match cT own row with|some r=>some (.aw r off)|none=>none
   |_,_=>none
  |none=>none
 |.agg xs=>match cT own xs with|some ys=>some (.agg ys)|none=>none
 |v=>dQ own v
def j7(own:Nat->Option ak):List AV->Option (List AV)
 |[]=>some []
 |x::xs=>match gM own x,j7 own xs with
  |some y,some ys=>some (y::ys)
  |_,_=>none
def view(own:Nat->Option ak):AV->Option AV
 |.func f dt=>match j7 own dt with|some cs=>some (.func f cs)|none=>none
 |v=>gM own v
def nF(own:Nat->Option ak):List AV->Option (List AV)
 |[]=>some []
 |x::xs=>match view own x,nF own xs with
  |some y,some ys=>some (y::ys)
  |_,_=>none
def kdP:Bool->Kd
 |true=>.pure
 |false=>.flat
def eR(id:Nat):AV->AV×List (Nat×ak)
 |.dh p e sz n aa=>(.bn id sz n,[(id,{e:=e,sz:=sz,kd:=kdP p,aa:=aa})])
 |v=>(v,[])
def zB:AV->AV
 |.dh _ _ sz n aa=>.aL sz n aa
 |v=>v
def isF:AV->Bool
 |.dh _ _ _ _ _=>true
 |.bY (.dh _ _ _ _ _::_)=>true
 |_=>false
def gN(dr:Bool)(d:Option Nat)(x:AV):iS:=
 match dr,x with
 |false,.bY (x::xs)=>{v:=.bY ((eR (cI d 0) x).1::xs),D:=(eR (cI d 0) x).2,nw:=true}
 |false,v=>{v:=(eR (cI d 0) v).1,D:=(eR (cI d 0) v).2,nw:=true}
 |true,.bY (x::xs)=>{v:=.bY (zB x::xs)}
 |true,v=>{v:=zB v}
def mO(x:AV)(k:Nat):Option AV:=
 match x with
 |.aw xs o=>some (.aw xs (o+k))
 |.af b o=>some (.af b (o+k))
 |.dP b sz i o=>some (.dP b sz i (o+k))
 |_=>none
def Cj(i:JM)(own:Nat->Option ak)(x:AV):jh:=
 match x with
 |.aw xs off=>match mN i xs off with|some v=>bu v|none=>.no
 |.af b off=>match own b with
  |some ae=>match ae.aa with
   |[row]=>match mN i row off with|some v=>bu v|none=>.no
   |_=>.no
  |none=>.no
 |.dP b sz k off=>match own b with
  |some ae=>match Nat.beq sz ae.sz with
   |true=>.RV λrow=>.eg (ae.aa[k]?=some row) (match mN i row off with|some v=>bu v|none=>.no)
   |false=>.no
  |none=>.no
 |_=>.no
def wy(i:JM)(own:Nat->Option ak)(x v:AV):jh:=
 match v.cellsOf with
 |none=>.no
 |some cs=>match Nat.beq cs.length i.size with
  |false=>.no
  |true=>match x with
   |.af b off=>match own b with
    |some ae=>match ae.aa,fX ae.kd cs with
     |[row],true=>match eO off cs row with|some r=>.ret {v:=.top,D:=[(b,{ae with aa:=[r]})]}|none=>.no
     |_,_=>.no
    |none=>.no
   |.dP b sz k off=>match own b with
    |some ae=>match Nat.beq sz ae.sz,fX ae.kd cs with
     |true,true=>.RV λrow=>.eg (ae.aa[k]?=some row) (match eO off cs row with|some r=>.ret {v:=.top,D:=[(b,{ae with aa:=ae.aa.set k r})]}|none=>.no)
     |_,_=>.no
    |none=>.no
   |_=>.no
def dA(own:Nat->Option ak)(UX:Nat):AV->Option (Nat×List (List AV)×Kd)
 |.ai=>some (0,[],.pure)
 |.nU=>some (0,[],.pure)
 |.aL sz n aa=>match Nat.beq sz UX with|true=>some (n,aa,.flat)|false=>none
 |.bn b sz n=>match own b with
  |some ae=>match Nat.beq sz UX,Nat.beq ae.sz UX with
   |true,true=>some (n,ae.aa.take n,ae.kd)
   |_,_=>none
  |none=>none
 |_=>none
def jm(aa:List (List AV)):Prop:=∀row∈aa,∀u∈row,u.fp=true
def nG(tk sk:Kd)(aa:List (List AV))(a:jh):jh:=
 match tk,sk with
 |.pure,.pure=>a
 |.pure,.flat=>.eg (jm aa) a
 |.flat,.pure=>a
 |.flat,.flat=>a
 |.any,.any=>a
 |_,_=>.no
def aat(dr:Bool)(kd:Kd):Bool:=
 match dr,kd with
 |false,.any=>false
 |_,_=>true
def rZ(dr:Bool)(T:dD)(own:Nat->Option ak)(dst:Option Nat)(t:Nat)(s x:AV):jh:=
 match T.get t with
 |some ti=>match ti.k with
  |.slice e=>match T.get e with
   |some ei=>match dA own ei.size x,Nat.ble 1 ei.size with
    |some (m,aa,kd),true=>match s with
     |.ai=>.eg (m*ei.bytes<=140737488355328/\m<=9223372036854775807) (.exB λp=>match p with
      |true=>nG .pure kd aa (.ret {v:=.bn (cI dst 0) ei.size m,D:=[(cI dst 0,{e:=e,sz:=ei.size,kd:=.pure,aa:=aa})],nw:=true})
      |false=>nG .flat kd aa (.ret {v:=.bn (cI dst 0) ei.size m,D:=[(cI dst 0,{e:=e,sz:=ei.size,kd:=.flat,aa:=aa})],nw:=true}))
     |.bn b sz n=>match own b with
      |some ae=>match Nat.beq sz ei.size&&Nat.ble (b %16) 1&&aat dr ae.kd,Nat.beq ae.sz ei.size,Nat.beq ae.e e with
       |true,true,true=>.eg ((n+m)*ei.bytes<=140737488355328/\n+m<=9223372036854775807) (nG ae.kd kd aa (.ret (match dr with
        |false=>{v:=.bn b sz (n+m),D:=[(b,{ae with aa:=ae.aa.take n++aa,fF:=[]})],pg:=some b}
        |true=>{v:=.bn (cI dst 0) sz (n+m),D:=[(cI dst 0,{ae with aa:=ae.aa.take n++aa,fF:=[]})],pg:=some b,nw:=true})))
       |_,_,_=>.no
      |none=>.no
     |_=>.no
    |_,_=>.no
   |none=>.no
  |_=>.no
 |none=>.no
def aau:AV->Bool
 |.dq _ _ _ _=>true
 |_=>false
def oG(T:dD)(own:Nat->Option ak)(t:Nat)(s x:AV):jh:=
 match T.get t with
 |some ti=>match ti.k with
  |.slice e=>match T.get e with
   |some ei=>match s,x with
    |.bn b sz n,.dq b' yJ lo m=>match own b with
     |some ae=>match Nat.beq b b',Nat.beq sz yJ,Nat.beq sz ae.sz with
      |true,true,true=>match Nat.beq sz ei.size,Nat.beq ae.e e,Nat.ble 1 sz with
       |true,true,true=>.eg (n<=lo/\lo+m<=ae.aa.length) (.ret {v:=.bn b sz (n+m),D:=[(b,{ae with aa:=ae.aa.take n++(ae.aa.drop lo).take m++ae.aa.drop (n+m)})]})
       |_,_,_=>.no
      |_,_,_=>.no
     |none=>.no
    |_,_=>.no
   |none=>.no
  |_=>.no
 |none=>.no
def wz(T:dD)(own:Nat->Option ak)(t:Nat)(x:AV):jh:=
 match T.get t with
 |some ti=>match ti.k with
  |.slice e=>match T.get e with
   |some ei=>match x with
    |.dq b sz lo n=>match own b with
     |some ae=>match Nat.beq sz ae.sz,Nat.beq sz ei.size,(AV.jJ ei.zero).cellsOf with
      |true,true,some z=>match Nat.beq z.length sz,Nat.ble 1 sz,fX ae.kd z with
       |true,true,true=>.eg (lo+n<=ae.aa.length) (.ret {v:=.top,D:=[(b,{ae with aa:=ae.aa.take lo++List.replicate n z++ae.aa.drop (lo+n)})]})
       |_,_,_=>.no
      |_,_,_=>.no
     |none=>.no
    |_=>.no
   |none=>.no
  |_=>.no
 |none=>.no
def iK(x y:Int):Int:=if y<x then y else x
def tJ(x y:Int):Int:=if y>x then y else x
def foldI(f:Int->Int->Int)(k:IntKind)(a:Int):List AV->Option Int
 |[]=>some a
 |.int k' b::r=>match D3 k k' with|true=>foldI f k (f a b) r|false=>none
 |_=>none
def jK(place:Nat->Option (Nat×Nat))(val:Operand->AV):List (Nat×Operand)->List AV->Option (List AV)
 |[],row=>some row
 |(i,x)::r,row=>match place i with
  |none=>none
  |some (off,size)=>match(val x).cellsOf with
   |none=>none
   |some cs=>match Nat.beq cs.length size,Nat.ble (off+cs.length) row.length with
    |true,true=>match eO off cs row with
     |some tK=>jK place val r tK
     |none=>none
    |_,_=>none
def qH(T:dD)(fs:List (Nat×Nat))(i:Nat):Option (Nat×Nat):=
 match fs[i]? with
 |some (off,t)=>match T.get t with|some ti=>some (off,ti.size)|none=>none
 |none=>none
def sa(T:dD):List (Nat×Nat)->Option (List (Nat×Nat))
 |[]=>some []
 |(off,t)::r=>match T.get t,sa T r with
  |some ti,some ps=>some ((off,ti.size)::ps)
  |_,_=>none
def chunk(sz:Nat):Nat->List AV->List (List AV)
 |0,_=>[]
 |n+1,xs=>xs.take sz::chunk sz n (xs.drop sz)
def Ib(aa:List (List AV)):Kd:=
 match aa.all (fX .pure)with
 |true=>.pure
 |false=>match aa.all (fX .flat)with|true=>.flat|false=>.any
def Ic(T:dD)(t:Nat)(x:AV)(lo hi:Option AV):jh:=
 match T.get t with
 |some ti=>match ti.k with
  |.slice e=>match T.get e with
   |some ei=>match x,lo,hi with
    |.aL sz n aa,none,some (.int _ h)=>match Nat.beq sz ei.size with
     |true=>.eg (0<=h/\h<=n) (bu (.aL sz h.toNat (aa.take h.toNat)))
     |false=>.no
    |.aL sz n aa,some (.int _ l),none=>match Nat.beq sz ei.size with
     |true=>.eg (0<=l/\l<=n) (bu (.aL sz (n-l.toNat) (aa.drop l.toNat)))
     |false=>.no
    |.bn b sz n,none,some (.int _ h)=>match Nat.beq sz ei.size with
     |true=>.eg (0<=h/\h<=n) (bu (.bn b sz h.toNat))
     |false=>.no
    |.bn b sz n,some (.int _ l),none=>match Nat.beq sz ei.size with
     |true=>.eg (0<=l/\l<=n) (bu (.dq b sz l.toNat (n-l.toNat)))
     |false=>.no
    |.dq b sz lo0 n,some (.int _ l),none=>match Nat.beq sz ei.size with
     |true=>.eg (0<=l/\l<=n/\0<n) (bu (.dq b sz (lo0+l.toNat) (n-l.toNat)))
     |false=>.no
    |_,_,_=>.no
   |none=>.no
  |_=>.no
 |none=>.no
def aav:AV->Option AV->Option AV->Bool
 |.bn _ _ _,some _,some _=>true
 |_,_,_=>false
def Lv(T:dD)(own:Nat->Option ak)(t:Nat)(x:AV)(lo hi:Option AV):jh:=
 match T.get t with
 |some ti=>match ti.k with
  |.slice e=>match T.get e with
   |some ei=>match x,lo,hi with
    |.bn b sz _,some (.int _ l),some (.int _ h)=>match own b with
     |some ae=>match Nat.beq sz ei.size,Nat.beq sz ae.sz,Nat.ble 1 sz with
      |true,true,true=>.eg (0<=l/\l<=h/\h<=ae.aa.length) (bu (.dq b sz l.toNat (h.toNat-l.toNat)))
      |_,_,_=>.no
     |none=>.no
    |_,_,_=>.no
   |none=>.no
  |_=>.no
 |none=>.no
def NF(T:dD)(t:Nat)(x lo hi mx:AV):jh:=
 match T.get t with
 |some ti=>match ti.k with
  |.slice e=>match T.get e with
   |some _=>match x,lo,hi,mx with
    |.bn _ _ n,.int _ l,.int _ h,.int _ m=>.eg (0<=l/\l<=h/\h<=m/\m<=n) (bu .top)
    |_,_,_,_=>.no
   |none=>.no
  |_=>.no
 |none=>.no
def D4(T:dD)(t:Nat):Bool:=
 match T.get t with
 |some ti=>match ti.k with|.slice _=>true|_=>false
 |none=>false
def isStr(T:dD)(t:Nat):Bool:=
 match T.get t with
 |some ti=>match ti.k with|.str=>true|_=>false
 |none=>false
def Xh(T:dD)(t:Nat)(x:AV):jh:=
 match x with
 |.aL _ n _=>match D4 T t with|true=>bu (.int .i64 n)|false=>.no
 |.bn _ _ n=>match D4 T t with|true=>bu (.int .i64 n)|false=>.no
 |.dq _ _ _ n=>match D4 T t with|true=>bu (.int .i64 n)|false=>.no
 |.ai=>match D4 T t with|true=>bu (.int .i64 0)|false=>.no
 |.nU=>match D4 T t with|true=>bu (.int .i64 0)|false=>.no
 |.str s=>match isStr T t with|true=>bu (.int .i64 s.size)|false=>.no
 |_=>.no
def Ie(x:AV)(lo hi:Option AV):jh:=
 match x,lo,hi with
 |.str s,none,some (.int _ h)=>.eg (0<=h/\h<=s.size) (bu (.str (s.extract 0 h.toNat)))
 |.str s,some (.int _ l),none=>.eg (0<=l/\l<=s.size) (bu (.str (s.extract l.toNat s.size)))
 |.str s,some (.int _ l),some (.int _ h)=>.eg (0<=l/\l<=h/\h<=s.size) (bu (.str (s.extract l.toNat h.toNat)))
 |_,_,_=>.no
def If(T:dD)(t:Nat)(x ix:AV):jh:=
 match T.get t,x,ix with
 |some i,.str s,.int _ j=>match i.k with
  |.str=>.Rr λm=>.eg (0<=j/\∃h:j.toNat<s.size,m=((s[j.toNat]'h).toNat:Nat)) (bu (.int .u8 m))
  |_=>.no
 |some i,.agg xs,.int _ j=>match i.k with
  |.array n e=>match T.get e with
   |some ei=>match ei.k.isAgg,Nat.beq ei.size 1 with
    |false,true=>.RV λrow=>match row with
     |[u]=>.eg (0<=j/\j<n/\xs[j.toNat]?=some u) (bu u)
     |_=>.no
    |_,_=>.no
   |none=>.no
  |_=>.no
 |_,_,_=>.no
def JN:Operand->Bool
 |.const _=>true
 |_=>false
def UY(x y z:Operand)(vx vy vz:AV):jh:=
 match x,y,z with
 |.tmp d,_,.const (.bool false)=>match vx,vy.strip d true with
  |.bool t,.bool x=>bu (.bool (t&&x))
  |.bool false,_=>bu (.bool false)
  |_,_=>.no
 |.tmp d,.const (.bool true),_=>match vx,vz.strip d false with
  |.bool t,.bool x=>bu (.bool (t||x))
  |.bool true,_=>bu (.bool true)
  |_,_=>.no
 |_,_,_=>.no
def bm(n:Nat):List Nat->Bool
 |[]=>false
 |m::r=>match Nat.beq n m with|true=>true|false=>bm n r
def aaw:AV->Bool
 |.func g _=>bm g Xe
 |_=>false
def RY(f:AV):List AV->Bool
 |.bn _ _ _::_=>aaw f
 |_=>false
def qI(own:Nat->Option ak)(b:Nat):AV->Option AV
 |.af b' off=>match Nat.beq b b' with
  |true=>none
  |false=>match own b' with
   |some ae=>match ae.kd,ae.aa with
    |.any,[row]=>match fX .pure row with|true=>some (.aw row off)|false=>none
    |_,_=>none
   |none=>none
 |v=>match v.bq with|true=>some v|false=>none
def nH(own:Nat->Option ak)(b:Nat):List AV->Option (List AV)
 |[]=>some []
 |x::xs=>match qI own b x,nH own b xs with
  |some y,some ys=>some (y::ys)
  |_,_=>none
def xy(own:Nat->Option ak)(b:Nat):AV->Option AV
 |.func f dt=>match nH own b dt with|some cs=>some (.func f cs)|none=>none
 |v=>qI own b v
def nV(own:Nat->Option ak)(b:Nat):List AV->Option (List AV)
 |[]=>some []
 |x::xs=>match xy own b x,nV own b xs with
  |some y,some ys=>some (y::ys)
  |_,_=>none
def qJ(own:Nat->Option ak)(dst:Option Nat)(f:AV)(args:List AV):jh:=
 match f,args with
 |.func g [],.bn b sz n::rest=>match own b with
  |some ae=>match Nat.beq sz ae.sz,ae.kd,nV own b rest with
   |true,.pure,some us=>.eg (n=ae.aa.length) (.NB g ae.e ae.sz ae.aa us λr=>match r with
    |.dh true e' yJ n' gO=>.ret {v:=.bn (cI dst 0) yJ n',D:=[(cI dst 0,{e:=e',sz:=yJ,kd:=.pure,aa:=gO})],pg:=some b,nw:=true}
    |_=>.no)
   |_,_,_=>.no
  |none=>.no
 |_,_=>.no
def posOf(g:Nat):List (Nat×List Nat)->List Nat
 |[]=>[]
 |(f,ps)::r=>match Nat.beq f g with|true=>ps|false=>posOf g r
def aax:AV->Bool
 |.func g _=>match posOf g tC with|[]=>false|_=>true
 |_=>false
def RZ(f:AV)(args:List AV):Bool:=
 match f.bq&&AV.cW args with
 |true=>false
 |false=>aax f
def fY(own:Nat->Option ak):List AV->Option (List (Nat×ak))
 |[]=>some []
 |.bn b _ _::r=>match own b,fY own r with
  |some ae,some l=>some ((b,ae)::l)
  |_,_=>none
 |.dX b::r=>match own b,fY own r with
  |some ae,some l=>some ((b,ae)::l)
  |_,_=>none
 |v::r=>match v.bq with|true=>fY own r|false=>none
def jz(own:Nat->Option ak):AV->Option (List (Nat×ak))
 |.af b _=>match own b with
  |some ae=>match ae.kd,ae.aa with
   |.any,[row]=>match fY own row with|some l=>some ((b,ae)::l)|none=>none
   |_,_=>none
  |none=>none
 |.bn b _ _=>match own b with|some ae=>some [(b,ae)] |none=>none
 |.dX b=>match own b with|some ae=>some [(b,ae)] |none=>none
 |_=>none
def iY(own:Nat->Option ak)(ps:List Nat):Nat->List AV->Option (List (Nat×ak))
 |_,[]=>some []
 |i,x::xs=>match bm i ps with
  |true=>match jz own x,iY own ps (i+1) xs with
   |some l,some m=>some (l++m)
   |_,_=>none
  |false=>iY own ps (i+1) xs
def fe:List (Nat×ak)->List Nat
 |[]=>[]
 |(b,_)::r=>b::fe r
def xz(own:Nat->Option ak)(bs:List Nat):AV->Option AV
 |.bn b sz n=>match bm b bs,own b with
  |false,some ae=>match Nat.beq sz ae.sz,ae.kd with
   |true,.pure=>some (.aL sz n (ae.aa.take n))
   |_,_=>none
  |_,_=>none
 |.af b off=>match bm b bs,own b with
  |false,some ae=>match ae.kd,ae.aa with
   |.any,[row]=>match fX .pure row with|true=>some (.aw row off)|false=>none
   |_,_=>none
  |_,_=>none
 |v=>match v.bq with|true=>some v|false=>none
def l7(own:Nat->Option ak)(ps bs:List Nat):Nat->List AV->Option (List AV)
 |_,[]=>some []
 |i,x::xs=>match bm i ps,l7 own ps bs (i+1) xs with
  |true,some ys=>some (x::ys)
  |false,some ys=>match xz own bs x with
   |some y=>some (y::ys)
   |none=>none
  |_,none=>none
def Ig:AV->Bool
 |.bn _ _ _=>true
 |.af _ _=>true
 |.dX _=>true
 |v=>v.fp
def FM(ae:ak):Bool:=
 match ae.kd with
 |.pure=>true
 |.any=>ae.aa.all (·.all Ig)
 |.flat=>false
 |.map _ _=>ae.fF.all (·.all AV.fp)
def okO:List (Nat×ak)->Bool
 |[]=>true
 |(_,ae)::r=>FM ae&&okO r
def JO:List (Nat×ak)->List (Nat×ak)->Bool
 |[],[]=>true
 |(b,x)::r,(b',y)::r'=>Nat.beq b b'&&(Nat.beq x.e y.e&&Nat.beq x.sz y.sz&&decide (x.kd=y.kd))&&JO r r'
 |_,_=>false
def FN:AV->Bool
 |.bY xs=>AV.kW xs
 |v=>v.fp
def qK(own:Nat->Option ak)(f:AV)(args:List AV):jh:=
 match f with
 |.func g dt=>match iY own (posOf g tC) 0 (args++dt)with
  |some O=>match l7 own (posOf g tC) (fe O) 0 (args++dt)with
   |some us=>.NC g us O λO' r=>match JO O O'&&okO O'&&FN r with
    |true=>.ret {v:=r,D:=O'}
    |false=>.no
   |none=>.no
  |none=>.no
 |_=>.no
def drs(dr:Bool):Bool:=match Xf with|true=>true|false=>dr
def xA(dr:Bool)(T:dD)(val:Operand->AV)(own:Nat->Option ak)(dst:Option Nat)(c:Call):jh:=
  match c.callee with
  |.builtin .len=>match c.args.toList.map val,c.argTypes.toList with
    |[x],[t]=>Xh T t x
    |_,_=>.no
  |.builtin .append=>match c.args.toList.map val,c.argTypes.toList with
    |[s,x],[t,t']=>match Nat.beq t t' with
      |true=>match aau x with
        |true=>oG T own t s x
        |false=>rZ dr T own dst t s x
      |false=>.no
    |_,_=>.no
  |.builtin .clear=>match c.args.toList.map val,c.argTypes.toList with
    |[x],[t]=>wz T own t x
    |_,_=>.no
  |.builtin .min=>match c.args.toList.map val with
    |.int k a::r=>match foldI iK k a r with|some m=>bu (.int k m)|none=>.no
    |_=>.no
  |.builtin .max=>match c.args.toList.map val with
    |.int k a::r=>match foldI tJ k a r with|some m=>bu (.int k m)|none=>.no
    |_=>.no
  |.value f=>match RZ (val f) (c.args.toList.map val)with
   |true=>qK own (val f) (c.args.toList.map val)
   |false=>match RY (val f) (c.args.toList.map val)with
   |true=>qJ own dst (val f) (c.args.toList.map val)
   |false=>match view own (val f),nF own (c.args.toList.map val)with
    |some (.func g dt),some as=>.call g (as++dt) λr=>match(val f).bq&&AV.cW (c.args.toList.map val)||r.uL,FH r with
      |true,true=>match drs dr,isF r with
        |true,true=>.exB λp=>.ret (gN p dst r)
        |dr,_=>.ret (gN dr dst r)
      |_,_=>.no
    |_,_=>.no
  |_=>.no
def NG(T:dD)(dst:Option Nat)(t:Nat)(l c:AV):jh:=
 match T.get t with
 |some i=>match i.k with
  |.slice e=>match T.get e with
   |some ei=>match(AV.jJ ei.zero).cellsOf with
    |some z=>match Nat.beq z.length ei.size&&Nat.ble 1 ei.size&&fX .pure z with
     |true=>match l,c with
      |.int .i64 n,.int .i64 m=>.eg (m=n/\0<=n/\(ei.bytes:Int)*n<=140737488355328/\n<=9223372036854775807)
       (.ret {v:=.bn (cI dst 0) ei.size n.toNat,D:=[(cI dst 0,{e:=e,sz:=ei.size,kd:=.pure,aa:=List.replicate n.toNat z})],nw:=true})
      |_,_=>.no
     |false=>.no
    |none=>.no
   |none=>.no
  |_=>.no
 |none=>.no
def BT(own:Nat->Option ak)(m:AV):Option (Bool×Bool×Nat×List (List AV)):=
 match m with
 |.dX b=>match own b with
  |some ae=>match ae.kd with|.map ag st=>some (ag,st,ae.sz,ae.fF)|_=>none
  |none=>none
 |.iB ag st sz aa=>some (ag,st,sz,aa)
 |_=>none
def JP(T:dD)(own:Nat->Option ak)(t:Nat)(m key:AV)(ok:Bool):jh:=
 match T.get t with
 |some i=>match i.k with
  |.map kt et=>match T.get kt,T.get et with
   |some ki,some ei=>match BT own m with
    |some (ag,st,sz,aa)=>match fR st key&&zA st ki.k&&FK ag ei.k.isAgg&&Nat.beq sz (ei.size+1)with
     |true=>.exB λp=>match p with
      |true=>.RV λrow=>.eg (mB key aa=some row) (match elemOf ag row with
       |some v=>bu (match ok with|true=>.bY [v,.bool true] |false=>v)
       |none=>.no)
      |false=>.eg (mB key aa=none) (match FK ei.k.isAgg (tI (AV.jJ ei.zero))with
       |true=>bu (match ok with|true=>.bY [AV.jJ ei.zero,.bool false] |false=>AV.jJ ei.zero)
       |false=>.no)
     |false=>.no
    |none=>.no
   |_,_=>.no
  |_=>.no
 |none=>.no
def zC(T:dD)(own:Nat->Option ak)(t:Nat)(m key v:AV):jh:=
 match T.get t with
 |some i=>match i.k with
  |.map kt et=>match T.get kt,T.get et,m with
   |some ki,some ei,.dX b=>match own b,v.cellsOf with
    |some ae,some cs=>match ae.kd with
     |.map ag st=>match fR st key&&zA st ki.k&&FK ag ei.k.isAgg&&FK ag (tI v)&&Nat.beq ae.sz (ei.size+1)&&Nat.beq cs.length ei.size&&fX .flat cs with
      |true=>.ret {v:=.top,D:=[(b,{ae with fF:=wx key cs ae.fF})]}
      |false=>.no
     |_=>.no
    |_,_=>.no
   |_,_,_=>.no
  |_=>.no
 |none=>.no
def Cm(T:dD)(own:Nat->Option ak)(t:Nat)(m key:AV):jh:=
 match T.get t with
 |some i=>match i.k with
  |.map kt et=>match T.get kt,T.get et,m with
   |some ki,some ei,.dX b=>match own b,(AV.jJ ei.zero).cellsOf with
    |some ae,some z=>match ae.kd with
     |.map ag st=>match fR st key&&zA st ki.k&&FK ag ei.k.isAgg&&FK ag (tI (AV.jJ ei.zero))&&Nat.beq ae.sz (ei.size+1)&&Nat.beq z.length ei.size&&fX .pure z with
      |true=>.ret {v:=.bY [.top,.int .i64 (uM key ae.fF)],D:=[(b,{ae with fF:=iy key z ae.fF})]}
      |false=>.no
     |_=>.no
    |_,_=>.no
   |_,_,_=>.no
  |_=>.no
 |none=>.no
def Cn(own:Nat->Option ak)(m j v:AV):jh:=
 match m,j,v.cellsOf with
 |.dX b,.int .i64 n,some cs=>match own b with
  |some ae=>match ae.kd with
   |.map ag st=>match FK ag (tI v)&&Nat.beq ae.sz (cs.length+1)&&fX .flat cs with
    |true=>.eg (0<=n/\n<ae.fF.length) (.ret {v:=.top,D:=[(b,{ae with fF:=FJ cs n.toNat ae.fF})]})
    |false=>.no
   |_=>.no
  |none=>.no
 |_,_,_=>.no
def bytesOf(ns:List Int):ByteArray:=ns.foldl (λr n=>r.push (UInt8.ofNat n.toNat)) ByteArray.empty
def JQ:List AV->List Int
 |.int _ n::r=>n::JQ r
 |_::r=>JQ r
 |[]=>[]
def wA(T:dD)(own:Nat->Option ak)(s t:Nat)(x:AV):jh:=
 match T.get s,T.get t with
 |some si,some ti=>match si.k,ti.k with
  |.slice e,.str=>match T.get e with
   |some ei=>match ei.k with
    |.int .u8=>match Nat.beq ei.size 1,dA own 1 x with
     |true,some (_,aa,_)=>.RV λus=>.eg (aa=us.map (λu=>[u])/\∀u∈us,∃n,u=.int .u8 n) (bu (.str (bytesOf (JQ us))))
     |_,_=>.no
    |_=>.no
   |none=>.no
  |_,_=>.no
 |_,_=>.no
def R0(t n:Nat):List (Nat×Nat)->Bool
 |[]=>false
 |(a,b)::r=>match Nat.beq a t&&Nat.beq b n with|true=>true|false=>R0 t n r
def NH(t n d:Nat):Bool:=R0 t n aht&& !R0 t d ahu
def Xi(t d:Nat)(aa:List (List AV)):Kd:=match R0 t d aas with|true=>(match aa with|[]=>.flat|_=>Ib aa)|false=>Ib aa
def cQ(dr:Bool)(T:dD)(val:Operand->AV)(own:Nat->Option ak)(o:Oper):jh:=
 match o.op with
 |.move x=>bu (val x).oF
 |.assign x=>bu (val x).oF
 |.pick x y z=>UY x y z (val x) (val y) (val z)
 |.alloc t=>match T.get t with
  |some i=>match(AV.jJ i.zero).cellsOf with
   |some cs=>match Nat.beq cs.length i.size with
    |true=>.ret {v:=.af (cI o.dst 0) 0,D:=[(cI o.dst 0,{e:=t,sz:=i.size,kd:=.any,aa:=[cs]})],nw:=true}
    |false=>.no
   |none=>.no
  |none=>.no
 |.box t x=>match T.get t,(val x).cellsOf with
  |some i,some cs=>match Nat.beq cs.length i.size,fX .any cs with
   |true,true=>.ret {v:=.af (cI o.dst 0) 0,D:=[(cI o.dst 0,{e:=t,sz:=i.size,kd:=.any,aa:=[cs]})],nw:=true}
   |_,_=>.no
  |_,_=>.no
 |.load t x=>match T.get t with
  |some i=>Cj i (iX own) (val x)
  |none=>.no
 |.store t x v=>match T.get t with
  |some i=>wy i (iX own) (val x) (val v)
  |none=>.no
 |.binOp op t x y _=>ND T op t (val x) (val y)
 |.unOp .not _ x=>match val x with|.bool b=>bu (.bool !b)|_=>.no
 |.unOp .neg _ x=>match val x with|.int k n=>qG k (0-n) λm=>bu (.int k m)|_=>.no
 |.unOp .xor _ x=>match val x with|.int k n=>.Rr λm=>.eg (bits .xor k (if k.signed then-1 else k.max) n=m) (bu (.int k m))|_=>.no
 |.convert s t x=>match D4 T s with
  |true=>wA T own s t (val x)
  |false=>match T.get s,T.get t,val x with
   |some si,some i,.int _ n=>match si.k,i.k with|.int _,.int k'=>qG k' n λm=>bu (.int k' m)|_,_=>.no
   |_,_,_=>.no
 |.makeFunc (.func f) first dt=>match first.toList with
  |[]=>bu (.func f (dt.toList.map λx=>(val x).oF))
  |_=>.no
 |.fieldAddr s x f=>match T.get s with
  |some i=>match i.k with
   |.struct fs=>match qH T fs f with
    |some (off,sz)=>match Nat.beq sz 0 with
     |true=>.no
     |false=>match mO (val x) off with|some p=>bu p|none=>.no
    |none=>.no
   |_=>.no
  |none=>.no
 |.field s x f=>match T.get s,val x with
  |some i,.agg xs=>match i.k with
   |.struct fs=>match fs[f]? with
    |some (off,ft)=>match T.get ft with
     |some fi=>match mN fi xs off with|some v=>bu v|none=>.no
     |none=>.no
    |none=>.no
   |_=>.no
  |_,_=>.no
 |.indexAddr t x ix=>match T.get t,val ix with
  |some i,.int _ j=>match i.k with
   |.slice e=>match T.get e,val x with
    |some ei,.aL sz n aa=>match Nat.beq sz ei.size with
     |true=>.eg (0<=j/\j<n) (.RV λrow=>.eg (aa[j.toNat]?=some row) (bu (.aw row 0)))
     |false=>.no
    |some ei,.bn b sz n=>match Nat.beq sz ei.size with
     |true=>.eg (0<=j/\j<n) (bu (.dP b sz j.toNat 0))
     |false=>.no
    |some ei,.dq b sz lo n=>match Nat.beq sz ei.size with
     |true=>.eg (0<=j/\j<n) (bu (.dP b sz (lo+j.toNat) 0))
     |false=>.no
    |_,_=>.no
   |.array n e=>match T.get e with
    |some ei=>match JN ix with
     |true=>match decide (0<=j/\j<n)with
      |true=>match mO (val x) (j.toNat*ei.size)with|some p=>bu p|none=>.no
      |false=>.no
     |false=>.eg (0<=j/\j<n) (match mO (val x) (j.toNat*ei.size)with|some p=>bu p|none=>.no)
    |none=>.no
   |_=>.no
  |_,_=>.no
 |.extract x k=>match val x with
  |.bY xs=>match xs[k]? with|some v=>bu v|none=>.no
  |_=>.no
 |.build t fz=>match T.get t with
  |some i=>match i.k,(AV.jJ i.zero).cellsOf with
   |.struct fs,some z=>match sa T fs with
    |some ps=>match jK (λi=>ps[i]?) val fz.toList z with
     |some cs=>bu (.agg cs)
     |none=>.no
    |none=>.no
   |.array _ e,some z=>match T.get e with
    |some ei=>match jK (λi=>some (i*ei.size,ei.size)) val fz.toList z with
     |some cs=>bu (.agg cs)
     |none=>.no
    |none=>.no
   |_,_=>.no
  |none=>.no
 |.buildSlice t len fz=>match T.get t with
  |some i=>match i.k with
   |.slice e=>match T.get e with
    |some ei=>match(AV.jJ ei.zero).cellsOf with
     |some z=>match Nat.beq z.length ei.size&&Nat.ble 1 ei.size with
      |true=>match jK (λi=>some (i*ei.size,ei.size)) val fz.toList (List.replicate len z).flatten with
       |some cs=>match Nat.beq cs.length (len*ei.size),Nat.ble (len*ei.size) 1000000 with
        |true,true=>match NH t len (cI o.dst 0)&&AV.cW cs with
         |true=>.ret {v:=.aL ei.size len (chunk ei.size len cs),D:=[],nw:=true}
         |false=>.ret {v:=.bn (cI o.dst 0) ei.size len,D:=[(cI o.dst 0,{e:=e,sz:=ei.size,kd:=Xi t (cI o.dst 0) (chunk ei.size len cs),aa:=chunk ei.size len cs})],nw:=true}
        |_,_=>.no
       |none=>.no
      |false=>.no
     |none=>.no
    |none=>.no
   |_=>.no
  |none=>.no
 |.makeSlice t l c=>NG T o.dst t (val l) (val c)
 |.index t x ix=>If T t (val x) (val ix)
 |.slice t x lo hi none=>match isStr T t with
  |true=>Ie (val x) (lo.map val) (hi.map val)
  |false=>match aav (val x) (lo.map val) (hi.map val)with
   |true=>Lv T own t (val x) (lo.map val) (hi.map val)
   |false=>Ic T t (val x) (lo.map val) (hi.map val)
 |.slice t x (some lo) (some hi) (some mx)=>NF T t (val x) (val lo) (val hi) (val mx)
 |.call c=>xA dr T val own o.dst c
 |.makeMap t none=>match T.get t with
  |some i=>match i.k with
   |.map kt et=>match T.get kt,T.get et with
    |some ki,some ei=>.ret {v:=.dX (cI o.dst 0),D:=[(cI o.dst 0,{e:=t,sz:=ei.size+1,kd:=.map ei.k.isAgg (zA true ki.k),aa:=[]})],nw:=true}
    |_,_=>.no
   |_=>.no
  |none=>.no
 |.lookup t m k ok=>JP T own t (val m) (val k) ok
 |.mapUpdate t m k v=>zC T own t (val m) (val k) (val v)
 |.insert t m k v=>zC T own t (val m) (val k) (val v)
 |.mapEntry t m k=>Cm T own t (val m) (val k)
 |.entryStore _ m s v=>Cn own (val m) (val s) (val v)
 |.range t x=>match T.get t with
  |some i=>match i.k with
   |.map _ _=>match val x with|.iB _ _ _ []=>.ret {v:=.xx,D:=[],nw:=true}|_=>.no
   |_=>.no
  |none=>.no
 |.next it false=>match val it with|.xx=>bu (.bY [.bool false])|_=>.no
 |.nilCheck x=>match val x with
  |.aw xs off=>bu (.aw xs off)
  |.af b off=>bu (.af b off)
  |.dP b sz i off=>bu (.dP b sz i off)
  |_=>.no
 |_=>.no
end Go.an
