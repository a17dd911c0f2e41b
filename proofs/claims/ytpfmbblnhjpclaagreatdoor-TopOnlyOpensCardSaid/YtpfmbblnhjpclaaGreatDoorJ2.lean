import Derived.Test.YtpfmbblnhjpclaaGreatDoorAbs2
set_option linter.unusedVariables false
set_option linter.unusedSimpArgs false
namespace Go.an
open Go.RowKit
def Nh(w:World)(B:Nat)(X:Nat->Prop)(r:AV)(v:Value):Prop:=
 match r with
 |.dh p e sz n aa=>n=aa.length/\(∀row∈aa,row.length=sz)/\((n=0/\v=.slice none 0 0)∨
   ∃(g cap:Nat)(aJ:Array Value),v=.slice (some ⟨g,0,none⟩) n cap/\n<=cap/\B<=g/\w.heap[g]?=some (.cells aJ e (0,0))/\cap<=maxLen/\cap*sz=aJ.size/\
    ∀(j:Nat) u,aa.flatten[j]?=some u->∃c,aJ[j]?=some c/\c.oneCell'=true/\VR w (λh=>p=true∨X h∨h=g) K0 u c)
 |u=>VR w X K0 u v
def RR(w:World)(B:Nat)(X:Nat->Prop)(r:AV)(v:Value):Prop:=
 match r with
 |.bY (x::xs)=>∃vs:Array Value,v=.tuple vs/\vs.size=xs.length+1/\(∃c,vs[0]?=some c/\Nh w B X x c)/\∀(j:Nat) u c,xs[j]?=some u->vs[j+1]?=some c->VR w X K0 u c
 |r=>Nh w B X r v
def Head(P:Program)(f:FuncId):Prop:=∃fn,P.funcs[f]?=some fn/\(fn.name== "runtime.NumGoroutine")=false/\fn.body.isNone=false
def Fn(P:Program)(f:FuncId)(args:List AV)(r:AV):Prop:=
 Head P f/\∀(X:Nat->Prop)(w:World)(vs:Array Value),WI w->args.length=vs.size->(∀(j:Nat) u c,args[j]?=some u->vs[j]?=some c->VR w X K0 u c)->
  Calls P f vs w λe w'=>∃v,e=.returned v/\RR w' w.heap.size (λg=>X g/\g<w.heap.size) r v/\Below w.heap.size w w'
def kY:Value->Option Nat
 |.slice (some a) _ _=>some a.block
 |_=>none
def aay(w:World)(X:Nat->Prop)(e sz:Nat)(aa:List (List AV))(v:Value):Prop:=
 (∀row∈aa,row.length=sz)/\((aa=[] /\v=.slice none 0 0)∨
  ∃(g cap:Nat)(aJ:Array Value),v=.slice (some ⟨g,0,none⟩) aa.length cap/\aa.length<=cap/\cap<=maxLen/\cap*sz=aJ.size/\w.heap[g]?=some (.cells aJ e (0,0))/\X g/\
   ∀(j:Nat) u,aa.flatten[j]?=some u->∃c,aJ[j]?=some c/\c.oneCell'=true/\VR w (λ_=>True) K0 u c)
structure NI(X0:Nat->Prop)(w w':World):Prop where
 os:w'.os=w.os
 tape:w'.tape=w.tape
 output:w'.output=w.output
 size:w.heap.size<=w'.heap.size
 block:∀g,g<w.heap.size->¬X0 g->w'.heap[g]?=w.heap[g]?
 shape:∀(g:Nat)(aJ:Array Value)(e:TypeId),w.heap[g]?=some (Obj.cells aJ e (0,0))->∃dw:Array Value,w'.heap[g]?=some (Obj.cells dw e (0,0))/\dw.size=aJ.size
def FnM(P:Program)(f:FuncId)(e sz:Nat)(aa:List (List AV))(args:List AV)(r:AV):Prop:=
 Head P f/\∀(X:Nat->Prop)(w:World)(v:Value)(vs:Array Value),aay w X e sz aa v->(∀w',NI (λg=>kY v=some g) w w'->WI w')->args.length=vs.size->(∀(j:Nat) u c,args[j]?=some u->vs[j]?=some c->VR w X K0 u c)->
  Calls P f (#[v]++vs) w λen w'=>∃v',en=.returned v'/\(∃p e' yJ n' gO,r=.dh p e' yJ n' gO/\n'=gO.length/\(∀row∈gO,row.length=yJ)/\((gO=[] /\v'=.slice none 0 0)∨
   ∃(g cap:Nat)(aJ:Array Value),v'=.slice (some ⟨g,0,none⟩) n' cap/\n'<=cap/\(w.heap.size<=g∨kY v=some g)/\w'.heap[g]?=some (.cells aJ e' (0,0))/\cap<=maxLen/\cap*yJ=aJ.size/\
    ∀(j:Nat) u,gO.flatten[j]?=some u->∃c,aJ[j]?=some c/\c.oneCell'=true/\VR w' (λ_=>True) K0 u c))/\NI (λg=>kY v=some g) w w'
def bH(K:KM)(O:List (Nat×ak)):Nat->Prop:=λg=>∃b,(aK O b).isSome=true/\aG K b=some g
def uN(kd:Kd)(X:Nat->Prop):Nat->Prop:=match kd with|.pure=>λ_=>True|_=>X
def zD(kd:Kd)(K:KM):KM:=match kd with|.any=>K|_=>K0
def tL(w:World)(X:Nat->Prop)(st:Bool)(sz:Nat)(row:List AV)(e:MapEntry):Prop:=
 row.length=sz/\tE st row=true/\(j6 e).length=sz/\(∀c∈j6 e,c.oneCell'=true)/\∀(j:Nat) u c,row[j]?=some u->(j6 e)[j]?=some c->VR w X K0 u c
structure nW(w:World)(X:Nat->Prop)(g:Nat)(ag st:Bool)(sz:Nat)(aa:List (List AV))(es:Array MapEntry):Prop where
 obj:w.heap[g]?=some (.map es es.size)
 born:∀(i:Nat) e,es[i]?=some e->e.born=i
 agg:∀e∈es.toList,(∃vs,e.val=.agg vs)↔ag=true
 key:∀e∈es.toList,(st=true->∃s,e.key=.string s)/\(st=false->∃n,e.key=.int .i64 n)
 size:es.size=aa.length
 FO:∀(i:Nat) row e,aa[i]?=some row->es[i]?=some e->tL w X st sz row e
def aV(w:World)(X:Nat->Prop)(g:Nat)(ae:ak)(aJ:Array Value):Prop:=
 match ae.kd with
 |.map ag st=>aJ=#[] /\ae.aa=[] /\∃es,nW w X g ag st ae.sz ae.fF es
 |_=>w.heap[g]?=some (.cells aJ ae.e (0,0))
def l8(w:World)(X:Nat->Prop)(K:KM)(g:Nat)(ae:ak):Prop:=
 ∃aJ:Array Value,aV w X g ae aJ/\∀(j:Nat) u,ae.aa.flatten[j]?=some u->∃c,aJ[j]?=some c/\c.oneCell'=true/\VR w (uN ae.kd X) (zD ae.kd K) u c
structure Ext(X0:Nat->Prop)(w w':World):Prop where
 os:w'.os=w.os
 tape:w'.tape=w.tape
 output:w'.output=w.output
 size:w.heap.size<=w'.heap.size
 block:∀g,g<w.heap.size->¬X0 g->w'.heap[g]?=w.heap[g]?
 shape:∀(g:Nat)(aJ:Array Value)(e:TypeId),w.heap[g]?=some (Obj.cells aJ e (0,0))->∃dw:Array Value,w'.heap[g]?=some (Obj.cells dw e (0,0))/\dw.size=aJ.size
structure yq(w:World)(X:Nat->Prop)(K:KM)(O:List (Nat×ak)):Prop where
 aa:∀b ae,aK O b=some ae->∀row∈ae.aa,row.length=ae.sz
 own:∀b ae,aK O b=some ae->(K b=some (none,0)/\ae.aa=[])∨∃g,K b=some (some g,ae.aa.length)/\l8 w X K g ae
 inj:∀b b' g,(aK O b).isSome=true->(aK O b').isSome=true->aG K b=some g->aG K b'=some g->b=b'
def FnS(P:Program)(f:FuncId)(args:List AV)(O O':List (Nat×ak))(r:AV):Prop:=
 Head P f/\∀(w:World)(K:KM)(vs:Array Value),(∀w',Ext (bH K O) w w'->WI w')->yq w (bH K O) K O->args.length=vs.size->(∀(j:Nat) u c,args[j]?=some u->vs[j]?=some c->VR w (bH K O) K u c)->
  Calls P f vs w λe w'=>∃v,e=.returned v/\VR w' (bH K O) K r v/\yq w' (bH K O) K O'/\Ext (bH K O) w w'
def jh.holds(P:Program):jh->(iS->Prop)->Prop
 |.no,_=>False
 |.ret r,K=>K r
 |.eg p a,K=>p/\a.holds P K
 |.Rr k,K=>∃n,(k n).holds P K
 |.RV k,K=>∃n,(k n).holds P K
 |.exB k,K=>∃n,(k n).holds P K
 |.call f args k,K=>∃r,Fn P f args r/\(k r).holds P K
 |.NB f e sz aa args k,K=>∃r,FnM P f e sz aa args r/\(k r).holds P K
 |.NC f args O k,K=>∃O' r,FnS P f args O O' r/\(k O' r).holds P K
def AV.force(v:AV)(K:AV->Prop):Prop:=
 match v with
 |.top=>K .top
 |.bool b=>K (.bool b)
 |.int k n=>K (.int k n)
 |.str s=>K (.str s)
 |.ai=>K .ai
 |.fc=>K .fc
 |.nU=>K .nU
 |.o9=>K .o9
 |.lit v=>K (.lit v)
 |.aL sz n aa=>K (.aL sz n aa)
 |.aw xs off=>K (.aw xs off)
 |.bn b sz n=>K (.bn b sz n)
 |.dq b sz lo n=>K (.dq b sz lo n)
 |.af b off=>K (.af b off)
 |.dP b sz i off=>K (.dP b sz i off)
 |.dh p e sz n aa=>K (.dh p e sz n aa)
 |.agg xs=>K (.agg xs)
 |.bY xs=>K (.bY xs)
 |.func f dt=>K (.func f dt)
 |.dX b=>K (.dX b)
 |.iB ag st sz aa=>K (.iB ag st sz aa)
 |.xx=>K .xx
 |.opt d w v=>K (.opt d w v)
def j8(c:aM):Operand->AV
 |.tmp t=>lk c.fr t
 |.const v=>match fH v with|true=>AV.jJ v|false=>.top
 |.global _=>.top
 |.func f=>.func f []
def iL(d:Nat):List (Nat×AV)->Bool
 |[]=>true
 |(_,.opt d' _ _)::r=>match Nat.beq d d' with|true=>false|false=>iL d r
 |_::r=>iL d r
def cw(b:Nat):List (List AV)->Bool
 |[]=>false
 |r::rs=>AV.cN b r||cw b rs
def zE(b:Nat):List (Nat×AV)->Bool
 |[]=>true
 |(_,v)::r=>match v.has b with|true=>false|false=>zE b r
def gn(b:Nat):List (Nat×ak)->Bool
 |[]=>true
 |(i,ae)::r=>match Nat.beq b i with
  |true=>false
  |false=>match ae.kd with
   |.any=>match cw b ae.aa with|true=>false|false=>gn b r
   |_=>gn b r
def eP(b:Nat)(c:aM):Bool:=zE b c.fr&&gn b c.O&&Nat.ble (b %16) 1
def fq(c:aM)(nw:Bool):List (Nat×ak)->Bool
 |[]=>true
 |(b,_)::r=>match nw with
  |true=>match eP b c with|true=>fq c nw r|false=>false
  |false=>match aK c.O b with|some _=>fq c nw r|none=>false
def fg(N:Nat)(c:aM):Option Nat->Bool
 |none=>true
 |some d=>Nat.blt d N&&iL d c.fr
def di(b:Nat)(x:ak):List (Nat×ak)->List (Nat×ak)
 |[]=>[(b,x)]
 |(i,y)::r=>match Nat.beq i b with
  |true=>(b,x)::r
  |false=>(i,y)::di b x r
def R3(b:Nat)(x:ak):List (Nat×ak)->(List (Nat×ak)->Prop)->Prop
 |[],K=>K [(b,x)]
 |(i,y)::r,K=>match Nat.beq i b with
  |true=>K ((b,x)::r)
  |false=>R3 b x r λr'=>K ((i,y)::r')
def im:List (Nat×ak)->List (Nat×ak)->List (Nat×ak)
 |[],O=>O
 |(b,x)::D,O=>di b x (im D O)
def Co:List (Nat×ak)->List (Nat×ak)->(List (Nat×ak)->Prop)->Prop
 |[],O,K=>K O
 |(b,x)::D,O,K=>Co D O λO'=>R3 b x O' K
def qi(dst:Option Nat)(v:AV)(fr:List (Nat×AV)):List (Nat×AV):=
 match dst with
 |some d=>(d,v)::fr
 |none=>fr
def iq(b:Nat):List (Nat×AV)->List (Nat×AV)
 |[]=>[]
 |(t,v)::r=>match v.has b with
  |true=>(t,.top)::iq b r
  |false=>(t,v)::iq b r
def uO(b:Nat):List (Nat×AV)->(List (Nat×AV)->Prop)->Prop
 |[],K=>K []
 |(t,v)::r,K=>match v.has b with
  |true=>uO b r λr'=>K ((t,.top)::r')
  |false=>uO b r λr'=>K ((t,v)::r')
def jE(b:Nat):List AV->List AV
 |[]=>[]
 |v::r=>match v.has b with
  |true=>.top::jE b r
  |false=>v::jE b r
def kZ(b:Nat):List (List AV)->List (List AV)
 |[]=>[]
 |v::r=>jE b v::kZ b r
def eS(b:Nat):List (Nat×ak)->List (Nat×ak)
 |[]=>[]
 |(i,ae)::r=>match ae.kd with
  |.any=>(i,{ae with aa:=kZ b ae.aa})::eS b r
  |_=>(i,ae)::eS b r
def iC(b:Nat):List (Nat×ak)->List (Nat×ak)
 |[]=>[]
 |(i,x)::r=>match Nat.beq i b with
  |true=>iC b r
  |false=>(i,x)::iC b r
def NJ(b:Nat):List (Nat×ak)->(List (Nat×ak)->Prop)->Prop
 |[],K=>K []
 |(i,x)::r,K=>match Nat.beq i b with
  |true=>NJ b r K
  |false=>NJ b r λr'=>K ((i,x)::r')
def aM.app(c:aM)(dst:Option Nat)(r:iS):aM:=
 match r.pg,r.nw with
 |none,_=>{fr:=qi dst r.v c.fr,O:=im r.D c.O}
 |some b,false=>{fr:=qi dst r.v (iq b c.fr),O:=im r.D (eS b c.O)}
 |some b,true=>{fr:=qi dst r.v c.fr,O:=im r.D (iC b c.O)}
def R4(dst:Option Nat)(v:AV)(fr:List (Nat×AV))(K:List (Nat×AV)->Prop):Prop:=
 match dst with
 |some d=>K ((d,v)::fr)
 |none=>K fr
def aM.FP:aM->Option Nat->iS->(aM->Prop)->Prop
 |⟨fr,O⟩,dst,⟨v,D,none,_⟩,K=>R4 dst v fr λfr=>Co D O λO=>K ⟨fr,O⟩
 |⟨fr,O⟩,dst,⟨v,D,some b,false⟩,K=>uO b fr λf=>R4 dst v f λfr=>Co D (eS b O) λO=>K ⟨fr,O⟩
 |⟨fr,O⟩,dst,⟨v,D,some b,true⟩,K=>R4 dst v fr λfr=>NJ b O λO=>Co D O λO=>K ⟨fr,O⟩
def iS.JR:iS->(List (Nat×ak)->Option Nat->Bool->AV->Prop)->Prop
 |⟨v,D,pg,nw⟩,K=>v.force λv=>K D pg nw v
def sW(aB:Array Oper)(j:Nat):Option Nat:=(aB[j]?).bind (·.dst)
def lkd:List (Nat×Bool)->Nat->Option Bool
 |[],_=>none
 |(t,v)::r,s=>match Nat.beq t s with|true=>some v|false=>lkd r s
def NK(c:aM)(d:Nat)(bf:Bool)(x:Operand):AV:=
 match lk c.fr d with
 |.opt d1 w1 _=>((j8 c x).strip d bf).strip d1 w1
 |_=>(j8 c x).strip d bf
def pk(d:Nat)(bf:Bool)(v:AV):AV:=
 match v with
 |.opt _ _ _=>.top
 |v=>.opt d bf v
def eqB:Bool->Bool->Bool
 |true,true=>true
 |false,false=>true
 |_,_=>false
def told(dm:List (Nat×Bool))(i:Nat)(v:AV)(K:AV->Prop):Prop:=
 match lkd dm i with
 |none=>K v
 |some b=>match v with
  |.bool x=>x=b/\K (.bool b)
  |_=>False
def ir:AV->Bool
 |.opt _ _ _=>false
 |_=>true
def isLit:AV->Bool->Bool
 |.bool x,b=>eqB x b
 |_,_=>false
def neD(d:Nat):Option Nat->Bool
 |none=>true
 |some e=>match Nat.beq d e with|true=>false|false=>true
def isU:AV->Bool
 |.o9=>true
 |_=>false
def isB:AV->Bool
 |.bool _=>true
 |.opt _ _ (.bool _)=>true
 |_=>false
def pn(aB:List Oper):List Nat:=
 aB.foldl (λbX o=>bX++[o.after.toList.foldl (λs e=>match Region.binds .any e with|true=>s|||2^e.on|||bX.getD e.on 0|false=>s) 0]) []
def FQ(bs:List Nat)(i j:Nat):Bool:=(bs.getD j 0).testBit i
structure Rec where
 yt:List AV
 O:List (Nat×ak)
 v:AV
 D:List (Nat×ak)
 pg:Option Nat
def iD:List (Nat×ak)->Option Nat->List Nat
 |[],none=>[]
 |[],some b=>[b]
 |(b,_)::r,p=>b::iD r p
def zF(O:List (Nat×ak))(yt:List AV)(b:Nat):Bool:=
 match O with
 |[]=>false
 |(i,x)::r=>match x.kd with
  |.any=>match AV.cN i yt with
   |true=>match cw b x.aa with|true=>true|false=>zF r yt b
   |false=>zF r yt b
  |_=>zF r yt b
def tM(s:Rec)(b:Nat):Bool:=match AV.cN b s.yt with|true=>true|false=>zF s.O s.yt b
def yu(b:Nat):List (Nat×ak)->Bool
 |[]=>false
 |(i,x)::r=>match Nat.beq i b with
  |true=>true
  |false=>match x.kd with
   |.any=>match cw b x.aa with|true=>true|false=>yu b r
   |_=>yu b r
def isP(b:Nat):Option Nat->Bool
 |none=>false
 |some p=>Nat.beq p b
def zG(s:Rec)(b:Nat):Bool:=match s.v.has b with|true=>true|false=>match yu b s.D with|true=>true|false=>isP b s.pg
def wB(s:Rec):List Nat->Bool
 |[]=>true
 |b::r=>match tM s b with
  |true=>false
  |false=>match zG s b with|true=>false|false=>wB s r
def D5(q s:Rec):Bool:=match wB s (iD q.D q.pg)with|true=>wB q (iD s.D s.pg)|false=>false
def R5(b:Nat):List Nat->Bool
 |[]=>false
 |x::r=>match Nat.beq x b with|true=>true|false=>R5 b r
def wC(q s:Rec):List Nat->Bool
 |[]=>true
 |b::r=>match tM s b with
  |true=>false
  |false=>match(match q.pg,aK q.O b with|none,some _=>R5 b (iD s.D s.pg)|_,_=>zG s b)with|true=>false|false=>wC q s r
def D6(q s:Rec):Bool:=match wC q s (iD q.D q.pg)with|true=>wC s q (iD s.D s.pg)|false=>false
def Ih(bs:List Nat)(i:Nat)(s:Rec):List (Nat×Rec)->Bool
 |[]=>true
 |(k,q)::r=>match FQ bs k i with
  |true=>Ih bs i s r
  |false=>match D5 q s with
   |true=>Ih bs i s r
   |false=>match D6 q s with|true=>Ih bs i s r|false=>false
def FR(b:Nat):List (Nat×Rec)->Bool
 |[]=>true
 |(_,q)::r=>match zG q b with|true=>false|false=>FR b r
def R6(c0:aM)(qs:List (Nat×Rec)):List (Nat×ak)->Bool
 |[]=>true
 |(b,_)::r=>match eP b c0 with
  |true=>match FR b qs with|true=>R6 c0 qs r|false=>false
  |false=>false
structure Acc where
 c0:aM
 ws:List (Nat×Rec)
 qs:List (Nat×Rec)
def Acc.push(A:Acc)(i:Nat)(q:Rec):Acc:=
 match iD q.D q.pg with
 |[]=>{A with qs:=(i,q)::A.qs}
 |_=>{A with ws:=(i,q)::A.ws,qs:=(i,q)::A.qs}
def BU(dr:Bool)(aB:Array Oper)(A:Acc)(nw:Bool)(i:Nat)(s:Rec):Bool:=
 match dr with
 |false=>true
 |true=>match iD s.D s.pg with
  |[]=>match A.ws with
   |[]=>true
   |ws=>Ih (pn aB.toList) i s ws
  |_=>match Ih (pn aB.toList) i s A.qs,nw,s.pg with
   |true,true,_=>R6 A.c0 A.qs s.D
   |true,false,none=>true
   |_,_,_=>false
def Cp(o:Oper):Bool:=match o.op with
 |.move _=>false
 |.nilCheck _=>false
 |.fieldAddr _ _ _=>false
 |_=>true
def lL(o:Oper)(c:aM)(D:List (Nat×ak))(pg:Option Nat)(v:AV):Rec:=⟨match Cp o with|false=>[] |true=>o.op.operands.toList.map (j8 c),match Cp o with|false=>[] |true=>c.O,v,D,pg⟩
def cZ(dr:Bool)(P:Program)(T:dD)(N:Nat)(dm:List (Nat×Bool))(aB:Array Oper):Acc->Nat->List Oper->aM->(aM->Prop)->Prop
  |_,_,[],c,K=>K c
  |A,i,o::rest,c,K=>
    match fg N c o.dst with
    |false=>False
    |true=>match o.guard with
      |none=>(cQ dr T (j8 c) (aK c.O) o).holds P λr=>r.JR λD pg nw v=>match fq c nw D&&BU dr aB A nw i (lL o c D pg v)&&ir v with
        |true=>told dm i v λv=>c.FP o.dst ⟨v,D,pg,nw⟩ λc'=>cZ dr P T N dm aB (A.push i (lL o c D pg v)) (i+1) rest c' K
        |false=>False
      |some (j,bf)=>match sW aB j with
        |none=>False
        |some d=>match lkd dm j with
          |some b=>match eqB b bf with
            |true=>match isLit (lk c.fr d) b with
              |true=>(cQ dr T (j8 c) (aK c.O) o).holds P λr=>r.JR λD pg nw v=>match fq c nw D&&BU dr aB A nw i (lL o c D pg v)&&ir v with
                |true=>told dm i v λv=>c.FP o.dst ⟨v,D,pg,nw⟩ λc'=>cZ dr P T N dm aB (A.push i (lL o c D pg v)) (i+1) rest c' K
                |false=>False
              |false=>False
            |false=>match isLit (lk c.fr d) b with
              |true=>match BU dr aB A false i (lL o c [] none .o9)with
                |true=>c.FP o.dst ⟨.o9,[],none,false⟩ λc'=>cZ dr P T N dm aB (A.push i (lL o c [] none .o9)) (i+1) rest c' K
                |false=>False
              |false=>False
          |none=>match isU (lk c.fr d)with
           |true=>match BU dr aB A false i (lL o c [] none .o9)with
            |true=>c.FP o.dst ⟨.o9,[],none,false⟩ λc'=>cZ dr P T N dm aB (A.push i (lL o c [] none .o9)) (i+1) rest c' K
            |false=>False
           |false=>match isB (lk c.fr d)&&neD d o.dst with
            |true=>(cQ dr T (NK c d bf) (aK c.O) o).holds P λr=>r.JR λD pg _ v=>match D,pg with
              |[],none=>(pk d bf v).force λv=>match BU dr aB A false i (lL o c [] none v)with
                |true=>c.FP o.dst ⟨v,[],none,false⟩ λc'=>cZ dr P T N dm aB (A.push i (lL o c [] none v)) (i+1) rest c' K
                |false=>False
              |_,_=>False
            |false=>False
def gH(fr:List (Nat×AV)):List Nat->List (Nat×AV)
 |[]=>[]
 |t::ts=>match lk fr t with
  |.top=>gH fr ts
  |.o9=>gH fr ts
  |.opt _ _ _=>gH fr ts
  |v=>(t,v)::gH fr ts
def zH(fr:List (Nat×AV)):List Nat->(List (Nat×AV)->Prop)->Prop
 |[],K=>K []
 |t::ts,K=>(lk fr t).force λv=>match v with
  |.top=>zH fr ts K
  |.o9=>zH fr ts K
  |.opt _ _ _=>zH fr ts K
  |v=>zH fr ts λr=>K ((t,v)::r)
def lf(ks:List Nat):aM->(aM->Prop)->Prop
 |⟨fr,O⟩,K=>zH fr ks λfr=>K ⟨fr,O⟩
def oH(O:List (Nat×ak)):List Nat->List (Nat×ak)
 |[]=>[]
 |b::bs=>match aK O b with
  |some x=>(b,x)::oH O bs
  |none=>oH O bs
def aM.only(c:aM)(ks ids:List Nat):aM:=⟨gH c.fr ks,oH c.O ids⟩
def uP:List Oper->Bool
 |[]=>false
 |o::r=>match o.guard with|some _=>true|none=>uP r
def FV(w:World)(X:Nat->Prop)(K:KM)(tmps:Array Value)(u:AV)(v:Value):Prop:=
 match u with
 |.opt d bf u'=>(tmps.getD d undef=.bool bf/\VR w X K u' v)∨(tmps.getD d undef≠.bool bf/\v=undef)
 |u=>VR w X K u v
structure Env where
 X0:Nat->Prop
 XF:Nat->Prop
 w0:World
 N:Nat
 kS:∀w,Ext X0 w0 w->WI w
 gK:Nat->Option (Option Nat×Nat)
 yv:∀b x,gK b=some x->Nat.ble 2 (b %16)=true
 Fw:∀g,XF g->¬X0 g
abbrev zI(X0 XF:Nat->Prop)(w0:World)(N:Nat)(kS:∀w,Ext X0 w0 w->WI w):Env:=⟨X0,λg=>XF g/\¬X0 g,w0,N,kS,λ_=>none,λ_ _ h=>(by cases h),λ_ h=>h.2⟩
def XX(E:Env)(K:KM)(O:List (Nat×ak)):Nat->Prop:=λg=>bH K O g∨(E.XF g/\g<E.w0.heap.size)
structure bC(E:Env)(K:KM)(c:aM)(a:Act)(w:World):Prop where
 size:a.tmps.size=E.N
 defers:a.defers=[]
 ext:Ext E.X0 E.w0 w
 fr:∀t,FV w (XX E K c.O) K a.tmps (lk c.fr t) (a.tmps.getD t undef)
 aa:∀b ae,aK c.O b=some ae->∀row∈ae.aa,row.length=ae.sz
 own:∀b ae,aK c.O b=some ae->(K b=some (none,0)/\ae.aa=[])∨∃g,K b=some (some g,ae.aa.length)/\l8 w (XX E K c.O) K g ae
 inj:∀b b' g,(aK c.O b).isSome=true->(aK c.O b').isSome=true->aG K b=some g->aG K b'=some g->b=b'
 fI:∀b g,(aK c.O b).isSome=true->aG K b=some g->E.X0 g∨E.w0.heap.size<=g
 gK:∀b x,E.gK b=some x->K b=some x
def SR(E:Env)(c:aM)(a:Act)(w:World):Prop:=∃K,bC E K c a w
def Wk(c c':aM):Prop:=∀E a w,SR E c a w->SR E c' a w
inductive Ex where|normal|exit (id:Nat)|ret
def ev(P:Program)(T:dD)(N:Nat)(ks:List Nat):Code->aM->(Ex->aM->Prop)->Prop
 |.skip,c,Q=>Q .normal c
 |.region _ aB dr,c,Q=>match uP aB.toList with
  |false=>cZ dr P T N [] aB ⟨c,[],[]⟩ 0 aB.toList c λc'=>lf ks c' (Q .normal)
  |true=>∃dm,cZ dr P T N dm aB ⟨c,[],[]⟩ 0 aB.toList c λc'=>lf ks c' (Q .normal)
 |.seq x y,c,Q=>ev P T N ks x c λe c'=>match e with
  |.normal=>ev P T N ks y c' Q
  |e=>Q e c'
 |.cond x thn els,c,Q=>match j8 c x with
  |.bool b=>(b=true->ev P T N ks thn c Q)/\(b=false->ev P T N ks els c Q)
  |_=>False
 |.block id b,c,Q=>ev P T N ks b c λe c'=>match e with
  |.exit HZ=>match Nat.beq HZ id with|true=>Q .normal c'|false=>Q (.exit HZ) c'
  |e=>Q e c'
 |.exit id,c,Q=>Q (.exit id) c
 |.ret,c,Q=>Q .ret c
 |.loop b,c,Q=>∃(I:Nat->aM->Prop),(∃n c',Wk c c'/\I n c')/\∀n c,I n c->ev P T N ks b c λe c'=>match e with
  |.normal=>∃m wD,Wk c' wD/\m<n/\I m wD
  |e=>Q e c'
 |_,_,_=>False
theorem AV.wE{v:AV}{K:AV->Prop}:v.force K↔K v:=by cases v<;>exact pd
theorem iS.wF{r:iS}{K:List (Nat×ak)->Option Nat->Bool->AV->Prop}:r.JR K↔K r.D r.pg r.nw r.v:=by
 cases r;exact AV.wE
theorem FT{b:Nat}{x:ak}:∀{O:List (Nat×ak)}{K:List (Nat×ak)->Prop},R3 b x O K↔K (di b x O)
 |[],_=>pd
 |(i,y)::r,K=>by
  unfold R3 di
  cases Nat.beq i b
  .exact FT
  .exact pd
theorem wG:∀{D O:List (Nat×ak)}{K:List (Nat×ak)->Prop},Co D O K↔K (im D O)
 |[],_,_=>pd
 |(b,x)::D,O,K=>by
  unfold Co im;rw[wG,FT]
theorem xB{b:Nat}:∀{fr:List (Nat×AV)}{K:List (Nat×AV)->Prop},uO b fr K↔K (iq b fr)
 |[],_=>pd
 |(t,v)::r,K=>by
  unfold uO iq
  cases v.has b<;>exact xB
theorem FU{dst:Option Nat}{v:AV}{fr:List (Nat×AV)}{K:List (Nat×AV)->Prop}:R4 dst v fr K↔K (qi dst v fr):=by
 cases dst<;>exact pd
theorem FW{b:Nat}:∀{O:List (Nat×ak)}{K:List (Nat×ak)->Prop},NJ b O K↔K (iC b O)
 |[],_=>pd
 |(i,x)::r,K=>by
  unfold NJ iC
  cases Nat.beq i b<;>exact FW
theorem aM.qL{c:aM}{dst:Option Nat}{r:iS}{K:aM->Prop}:c.FP dst r K↔K (c.app dst r):=by
 obtain⟨fr,O⟩:=c;obtain⟨v,D,pg,nw⟩:=r
 cases pg with
 |none=>simp only[aM.FP,aM.app,FU,wG]
 |some b=>cases nw<;>simp only[aM.FP,aM.app,FU,wG,xB,FW]
theorem JT{dm:List (Nat×Bool)}{i:Nat}{v:AV}{K:AV->Prop}(h:told dm i v K):K v:=by
 unfold told at h
 split at h
 .exact h
 .split at h
  .obtain⟨rfl,h⟩:=h;exact h
  .exact h.elim
theorem Cq{fr:List (Nat×AV)}:∀{ts:List Nat}{K:List (Nat×AV)->Prop},zH fr ts K↔K (gH fr ts)
 |[],_=>pd
 |t::ts,K=>by
  unfold zH gH;rw[AV.wE]
  cases lk fr t<;>exact Cq
theorem uQ{ks:List Nat}{c:aM}{K:aM->Prop}:lf ks c K↔K ⟨gH c.fr ks,c.O⟩:=by
 obtain⟨fr,O⟩:=c;exact Cq
theorem ie{P:Program}:∀{a:jh}{K:iS->Prop},a.holds P K->∃r,a.holds P (· =r)/\K r
 |.no,_,h=>h.elim
 |.ret r,_,h=>⟨r,rfl,h⟩
 |.eg p a,_,⟨hp,h⟩=>let⟨r,h1,h2⟩:=ie h;⟨r,⟨hp,h1⟩,h2⟩
 |.Rr k,_,⟨n,h⟩=>let⟨r,h1,h2⟩:=ie h;⟨r,⟨n,h1⟩,h2⟩
 |.RV k,_,⟨n,h⟩=>let⟨r,h1,h2⟩:=ie h;⟨r,⟨n,h1⟩,h2⟩
 |.exB k,_,⟨n,h⟩=>let⟨r,h1,h2⟩:=ie h;⟨r,⟨n,h1⟩,h2⟩
 |.call f args k,_,⟨r0,hf,h⟩=>let⟨r,h1,h2⟩:=ie h;⟨r,⟨r0,hf,h1⟩,h2⟩
 |.NB f e sz aa args k,_,h=>by
  obtain⟨r0,hf,h⟩:=h;obtain⟨r,h1,h2⟩:=ie h;exact⟨r,⟨r0,hf,h1⟩,h2⟩
 |.NC f args O k,_,h=>by
  obtain⟨O',r0,hf,h⟩:=h;obtain⟨r,h1,h2⟩:=ie h;exact⟨r,⟨O',r0,hf,h1⟩,h2⟩
theorem beq_true{a b:Nat}(h:Nat.beq a b=true):a=b:=H8 h
theorem beq_false{a b:Nat}(h:Nat.beq a b=false):a≠b:=Nat.ne_of_beq_eq_false h
theorem gC(t:Nat)(v:AV)(r:List (Nat×AV))(s:Nat):lk ((t,v)::r) s=if t=s then v else lk r s:=by
 conv=>lhs;unfold lk
 cases h:Nat.beq t s
 .rw[if_neg (beq_false h)]
 .rw[if_pos (beq_true h)]
theorem aZ(t:Nat)(v:ak)(r:List (Nat×ak))(s:Nat):aK ((t,v)::r) s=if t=s then some v else aK r s:=by
 conv=>lhs;unfold aK
 cases h:Nat.beq t s
 .rw[if_neg (beq_false h)]
 .rw[if_pos (beq_true h)]
theorem ba(b:Nat)(x:ak):∀(O:List (Nat×ak))(s:Nat),aK (di b x O) s=if b=s then some x else aK O s
 |[],s=>by rw[di,aZ]
 |(i,y)::r,s=>by
  unfold di
  cases h:Nat.beq i b
  .have:=beq_false h
   simp only[aZ,ba b x r]
   by_cases h1:i=s
   .subst h1;rw[if_pos rfl,if_neg (λe=>this e.symm),if_pos rfl]
   .simp only[if_neg h1]
  .have:=beq_true h
   subst this;simp only[aZ]
   by_cases h1:i=s
   .simp only[if_pos h1]
   .simp only[if_neg h1]
theorem uR(b:Nat):∀(fr:List (Nat×AV))(t:Nat),lk (iq b fr) t=if(lk fr t).has b=true then .top else lk fr t
 |[],t=>by simp[iq,lk,AV.has]
 |(i,v)::r,t=>by
  unfold iq
  cases h:v.has b<;>simp only[gC,uR b r] <;>by_cases h1:i=t<;>simp[h1,h]
theorem jL(b:Nat):∀(O:List (Nat×ak))(t:Nat),aK (eS b O) t=(aK O t).map λae=>match ae.kd with|.any=>{ae with aa:=kZ b ae.aa}|_=>ae
 |[],t=>by simp[eS,aK]
 |(i,y)::r,t=>by
  unfold eS
  cases h:y.kd<;>simp only[aZ,jL b r] <;>by_cases h1:i=t<;>simp[h1,h]
theorem yK(fr:List (Nat×AV)):∀(ks:List Nat)(t:Nat),lk (gH fr ks) t=lk fr t∨lk (gH fr ks) t=.top
 |[],t=>.inr rfl
 |k::ks,t=>by
  have ih:=yK fr ks t;unfold gH
  split
  .exact ih
  .exact ih
  .exact ih
  .rw[gC]
   by_cases h:k=t
   .subst h;rw[if_pos rfl];exact .inl rfl
   .rw[if_neg h];exact ih
theorem qM(O:List (Nat×ak)):∀(ks:List Nat)(b:Nat)(x:ak),aK (oH O ks) b=some x->aK O b=some x
 |[],b,x,h=>by simp[oH,aK]at h
 |k::ks,b,x,h=>by
  unfold oH at h
  split at h
  .rename_i y hy
   rw[aZ]at h
   by_cases e:k=b
   .subst e;rw[if_pos rfl]at h;rw[hy];exact h
   .rw[if_neg e]at h;exact qM O ks b x h
  .exact qM O ks b x h
theorem Cr{b:Nat}:∀{fr:List (Nat×AV)}(t:Nat),zE b fr=true->(lk fr t).has b=false
 |[],t,_=>rfl
 |(i,v)::r,t,h=>by
  unfold zE at h
  split at h
  .cases h
  .rename_i hv
   rw[gC]
   by_cases e:i=t
   .rw[if_pos e];exact hv
   .rw[if_neg e];exact Cr t h
theorem iM{b:Nat}:∀{aa:List (List AV)}{j:Nat}{u:AV},cw b aa=false->aa.flatten[j]?=some u->u.has b=false
 |[],_,_,_,h=>by simp at h
 |r::rs,j,u,h,hj=>by
  simp only[cw,tD]at h;simp only[iH]at hj
  rcases eJ j r.length with aC|kT
  .rw[bM aC]at hj
   cases hu:u.has b
   .rfl
   .exact absurd (AV.mA hj hu) (by rw[h.1];simp)
  .rw[cm kT]at hj
   exact iM h.2 hj
theorem tN{b:Nat}:∀{O:List (Nat×ak)}{i:Nat}{ae:ak},gn b O=true->aK O i=some ae->b≠i/\(ae.kd=.any->cw b ae.aa=false)
 |[],_,_,_,h=>by simp[aK]at h
 |(k,y)::r,i,ae,h,hi=>by
  unfold gn at h;rw[aZ]at hi
  split at h
  .cases h
  .rename_i hb
   by_cases e:k=i
   .rw[if_pos e]at hi
    injection hi with hi
    subst hi e;refine⟨beq_false hb,λhk=>?_⟩;rw[hk]at h;simp only at h
    split at h
    .cases h
    .assumption
   .rw[if_neg e]at hi
    refine tN ?_ hi
    split at h
    .split at h
     .cases h
     .exact h
    .exact h
theorem zJ{b:Nat}:∀{xs:List AV}{j:Nat}{u:AV},(jE b xs)[j]?=some u->∃u',xs[j]?=some u'/\u=(if u'.has b=true then .top else u')
 |[],_,_,h=>by simp[jE]at h
 |x::xs,j,u,h=>by
  unfold jE at h
  cases hx:x.has b<;>rw[hx]at h<;>cases j with
  |zero=>simp at h;subst h;exact⟨x,by simp,by simp[hx]⟩
  |succ j=>simp at h;simpa using zJ h
theorem sX{b:Nat}:∀(xs:List AV),(jE b xs).length=xs.length
 |[]=>rfl
 |x::xs=>by unfold jE;cases x.has b<;>simp[sX xs]
theorem qN{b:Nat}:∀(aa:List (List AV)),(kZ b aa).flatten=jE b aa.flatten
 |[]=>rfl
 |r::rs=>by
  have app:∀(xs ys:List AV),jE b (xs++ys)=jE b xs++jE b ys:=by
   intro xs ys
   induction xs with
   |nil=>rfl
   |cons x xs ih=>simp only[nB,jE,ih];cases x.has b<;>rfl
  simp only[kZ,iH,app,qN rs]
theorem zK{b n:Nat}:∀{aa:List (List AV)},(∀row∈aa,row.length=n)->∀row∈kZ b aa,row.length=n
 |[],_,row,h=>by simp[kZ]at h
 |r::rs,hr,row,h=>by
  simp only[kZ,bK]at h
  rcases h with rfl|h
  .rw[sX];exact hr r (by simp)
  .exact zK (λr' h'=>hr r' (by simp[h'])) row h
end Go.an
