import Derived.Calls
import Derived.StepT
import Derived.Shelf.Sort.Plain
import Derived.Test.YtpfmbblnhjpclaaGreatDoorJ17
import Derived.Shelf.SlSortCmp.NoneTotal
import Derived.Lib.QuietBelow
import Derived.Test.YtpfmbblnhjpclaaGreatDoorJ24
set_option linter.unusedVariables false
set_option linter.unusedSimpArgs false
set_option maxRecDepth 20000
namespace Go.an
open Go
def Rw{α:Type}:Result α->World
 |.ok _ w=>w
 |.halt _ w=>w
theorem I8{α:Type}:∀(x:Ask α)(w:World),w.drawn<=(w.ask x).2.drawn
 |.done a,w=>Nat.le_refl _
 |.ask am9 range k,w=>by
  rw[World.ask]
  split
  .exact I8 (k 0) w
  .exact Nat.le_trans (Nat.le_succ w.drawn) (I8 (k _) {w with drawn:=w.drawn+1})
theorem Y5(w:World)(c:Sys):w.drawn<=(w.sys c).2.drawn:=by
 have h:=I8 (Kernel.perform c w.os) w;unfold World.sys
 split
 .exact Nat.le_refl _
 .rename_i e;rw[e]at h;exact h
theorem ET{p:Program}{w w':World}{a:Addr}{u:TypeId}{k:Addr}{v:Value}{at_:Bool}{l:List Addr}(h:w.viewStore p a u k v at_=.ok (w',l)):w'.drawn=w.drawn:=by
 unfold World.viewStore at h;simp only[bind,Except.bind,pure,Except.pure]at h
 repeat' split at h
 all_goals first|cases h;rfl|cases h
theorem Ha{p:Program}{w w':World}{a:Addr}{v:Value}{at_:Bool}{l:List Addr}(h:w.farStore p a v at_=.ok (w',l)):w'.drawn=w.drawn:=by
 unfold World.farStore at h
 split at h
 .split at h
  .rename_i e;cases h;exact ET e
  .cases h
 .cases h
theorem PV{α:Type}(p:Program)(s:Sem α):∀w:World,w.drawn<=(Rw (s.run p w)).drawn:=by
 induction s with
 |pure a=>exactλw=>Nat.le_refl _
 |load m a k ih=>
  intro w;unfold Sem.run;split
  .exact ih _ w
  .split
   .exact ih _ w
   .exact Nat.le_refl _
 |store m a v k ih=>
  intro w;have key:w.drawn<=(Rw (match w.cell? a with
   |some _=>if w.frozen? a then(.halt (.unsupported (.unsafePointer "a write to bytes that a string shares")) w)else k.run p (w.setCell a v)
   |none=>match w.farStore p a v (m==.atomic)with
    |.ok (w,_)=>k.run p w
    |.error h=>.halt h w)).drawn:=by
   split
   .split
    .exact Nat.le_refl _
    .exact ih (w.setCell a v)
   .split
    .rename_i e;rw[<-Ha e];exact ih _
    .exact Nat.le_refl _
  cases v
  case agg=>exact Nat.le_refl _
  case tuple=>exact Nat.le_refl _
  all_goals exact key
 |new o k ih=>exactλw=>ih _ {w with heap:=w.heap.push o}
 |shape r k ih=>exactλw=>ih _ w
 |freeze a n k ih=>
  intro w;have h:=ih (w.freeze a n);have:(w.freeze a n).drawn=w.drawn:=by unfold World.freeze;split<;>rfl
  rw[this]at h;exact h
 |frozen a k ih=>exactλw=>ih _ w
 |getObj r k ih=>
  intro w;unfold Sem.run;split
  .exact Nat.le_refl _
  .exact ih _ w
  .exact Nat.le_refl _
 |setObj r o k ih=>
  intro w;unfold Sem.run;split
  .exact Nat.le_refl _
  .exact ih {w with heap:=w.heap.setIfInBounds r o}
  .exact Nat.le_refl _
 |choose q k ih=>
  intro w;unfold Sem.run;split
  .exact ih _ w
  .exact Nat.le_trans (Nat.le_succ _) (ih _ {w with drawn:=w.drawn+1})
 |sys c k ih=>exactλw=>Nat.le_trans (Y5 w c) (ih _ _)
 |program k ih=>exactλw=>ih _ w
 |mark m k ih=>exactλw=>ih w
 |halt h=>exactλw=>Nat.le_refl _
section
variable{α:Type} {p:Program} {s:Sem α} {w w':World} {d:Nat}
theorem iO{a:α}(h:s.run p w=.ok a w')(hd:d<=w.drawn):d<=w'.drawn:=by
 have:=PV p s w;rw[h]at this;exact Nat.le_trans hd this
theorem jC{e:Halt}(h:s.run p w=.halt e w')(hd:d<=w.drawn):d<=w'.drawn:=by
 have:=PV p s w;rw[h]at this;exact Nat.le_trans hd this
def GD(d:Nat):GStep->Prop
 |.go _ w _=>d<=w.drawn
 |.comm _ _ _ _ w _=>d<=w.drawn
 |.spawn _ _ w _=>d<=w.drawn
 |.count _ w _=>d<=w.drawn
 |.timer _ _ w _=>d<=w.drawn
 |.alone _ _ w _=>d<=w.drawn
 |.newcoro _ _ _ w _=>d<=w.drawn
 |.coroswitch _ _ _ w _=>d<=w.drawn
 |.collect _ w _=>d<=w.drawn
 |.watch _ w _=>d<=w.drawn
 |.ended _ _ _=>True
theorem rq{s:GStep}(es:Array Event):GD d (s.after es)=GD d s:=by cases s<;>rfl
theorem I9(fd:Nat)(t:ByteArray)(o:Outcome):GD d (endWith w fd t o):=by
 unfold endWith;dsimp only
 repeat' first|exact trivial|split
theorem ru(fr:Frame)(m:String)(hd:d<=w.drawn):GD d (endThrow fr m w):=hd
theorem ry(fr:Frame)(v:Value)(hd:d<=w.drawn):GD d (endPrinting p fr v w):=by
 unfold endPrinting;dsimp only
 repeat' first|exact trivial|exact hd|split
theorem ya(fr:Frame)(cs:List Frame)(dy:Option Dying)(m:String)(hd:d<=w.drawn):GD d (endFatal p fr cs dy m w):=by
 unfold endFatal;dsimp only
 split
 .exact iO (by assumption) hd
 .exact trivial
 .exact trivial
theorem Ja(fr:Frame)(dy:Dying)(f:Fatal)(hd:d<=w.drawn):GD d (writeOn p fr dy f w):=by
 unfold writeOn;dsimp only
 split
 .exact trivial
 .simp only[Sem.runT_eq]
  split
  .rename_i e;injection e with e;exact iO e hd
  .rename_i e;injection e with e;exact jC e hd
  .exact trivial
  .exact trivial
theorem Y6(fr:Frame)(dy:Dying)(hd:d<=w.drawn):GD d (die p fr dy w):=by
 unfold die;simp only[Sem.runT_eq]
 repeat' first|rw[rq] |exact trivial|exact hd|exact Ja _ _ _ hd|exact I9 _ _ _|exact iO (by assumption) hd|exact jC (by assumption) hd|exact ry _ _ (jC (by assumption) hd)|split
theorem rz(main:Bool)(fr:Frame)(cs:List Frame)(dy:Option Dying)(v:Value)(hd:d<=w.drawn):GD d (doReturn p main fr cs dy v w):=by
 unfold doReturn;dsimp only
 repeat' first|exact trivial|exact hd|split
theorem yD(fr:Frame)(cs:List Frame)(dy:Option Dying)(df:Deferred)(hd:d<=w.drawn):GD d (callDeferred p fr cs dy df w):=by
 unfold callDeferred;simp only[Sem.runT_eq]
 repeat' first|rw[rq] |exact trivial|exact iO (by assumption) hd|exact jC (by assumption) hd|exact ya _ _ _ _ (jC (by assumption) hd)|exact ru _ _ (jC (by assumption) hd)|split
theorem Mw(main:Bool)(fr:Frame)(cs:List Frame)(dy:Option Dying)(hd:d<=w.drawn):GD d (unwind p main fr cs dy w):=by
 unfold unwind;simp only[Sem.runT_eq]
 repeat' first|rw[rq] |exact trivial|exact hd|exact iO (by assumption) hd|exact jC (by assumption) hd|exact yD _ _ _ _ hd|exact ry _ _ hd|exact rz _ _ _ _ _ hd|exact rz _ _ _ _ _ (iO (by assumption) hd)|split
theorem PW(fr:Frame)(cs:List Frame)(dy:Option Dying)(g:Nat)(hd:d<=w.drawn):GD d (early p fr cs dy g w):=by
 unfold early;dsimp only
 repeat' first|exact trivial|exact hd|exact iO (by assumption) hd|(have h0:=iO ‹Sem.run _ _ w=Result.ok _ _› hd;exact h0)|split
theorem Bb(l:Bool)(fr:Frame)(cs:List Frame)(dy:Option Dying)(s:Sem Next)(hd:d<=w.drawn):GD d (stepG.apply p l fr cs dy s w):=by
 unfold stepG.apply;simp only[Sem.runT_eq];have e:∀es:Array Event,(if l then(s.run p w,es)else(s.run p w,#[]))=(s.run p w,if l then es else #[]):=λes=>by cases l<;>rfl
 rw[e];dsimp only
 repeat' first|rw[rq] |exact trivial|exact iO (by assumption) hd|exact jC (by assumption) hd|exact ya _ _ _ _ (jC (by assumption) hd)|exact ru _ _ (jC (by assumption) hd)|exact ru _ _ (iO (by assumption) hd)|exact PW _ _ _ _ (jC (by assumption) hd)|split
theorem TQ{β:Type}{o:Option β}{b:GStep}{f:β->GStep}(h1:GD d b)(h2:∀x,GD d (f x)):GD d (o.elim b f):=by cases o<;>first|exact h1|exact h2 _
theorem TR(l:Bool)(fr:Frame)(cs:List Frame)(dy:Option Dying)(hd:d<=w.drawn):GD d (stepG.oper p l fr cs dy w):=by
 unfold stepG.oper
 repeat' first|exact trivial|exact Bb _ _ _ _ _ hd|split
theorem TU(main l:Bool)(fr:Frame)(cs:List Frame)(dy:Option Dying)(hd:d<=w.drawn):GD d (stepG.exec p main l fr cs dy w):=by
 unfold stepG.exec;simp only[Sem.runT_eq]
 repeat' first|rw[rq] |exact trivial|exact hd|exact iO (by assumption) hd|exact jC (by assumption) hd|exact rz _ _ _ _ _ (iO (by assumption) hd)|exact Bb _ _ _ _ _ hd|exact Bb _ _ _ _ _ (iO (by assumption) hd)|exact TR _ _ _ _ hd|refine TQ ?_ λ_=>?_|split
theorem PX(main l:Bool)(g:Goroutine)(hd:d<=w.drawn):GD d (stepG p main g w l):=by
 unfold stepG;dsimp only
 split
 .exact Y6 _ _ hd
 .exact TU _ _ _ _ _ hd
 .exact Mw _ _ _ _ hd
def SD(d:Nat):Stepped->Prop
 |.next m=>d<=m.world.drawn
 |.ended _ _=>True
theorem EU{rest:Rest}{cs:Array CommCase}(h:waitingAt rest cs w=some w'):w'.drawn=w.drawn:=by
 unfold waitingAt at h
 split at h
 .split at h<;>cases h;rfl
 .cases h;rfl
theorem Bc(rest:Rest)(gs:Array Goroutine)(i:Nat)(g:Goroutine)(cs:Array CommCase)(b:Bool)(sh:CommShape)(hd:d<=w.drawn):SD d (communicate p rest gs i g cs b sh w).1:=by
 unfold communicate;dsimp only
 repeat' first|exact trivial|exact hd|(have h0:=iO ‹Sem.run _ _ w=Result.ok _ _› hd;exact h0)|(have h0:=iO ‹Sem.run _ _ w=Result.ok _ _› hd;have h1:=iO (by assumption) h0;exact h1)|(rename_i e;rw[<-EU e]at hd;exact hd)|split
theorem KH(gs:Array Goroutine)(rest:Rest)(hd:d<=w.drawn):SD d (look p gs rest w):=by
 unfold look;dsimp only
 repeat' first|exact trivial|(have h0:=iO ‹Sem.run _ _ w=Result.ok _ _› hd;exact h0)|(have h0:=iO ‹Sem.run _ _ w=Result.ok _ _› hd;have h1:=iO (by assumption) h0;exact h1)|split
theorem PY(c:Nat):(drain w c).2.drawn=w.drawn:=by unfold drain;split<;>rfl
theorem Dw(m:Machine)(k:Nat)(t:Timer)(a b:Nat):(retime m k t a b).2.world.drawn=m.world.drawn:=by
 unfold retime
 cases t.chan with
 |none=>rfl
 |some c=>exact PY c
theorem Hb{m m':Machine}{var:Addr}{f:Nat->Timer->Value×Machine}{v:Value}(hf:∀k t,(f k t).2.world.drawn=d)(h:timerOp.named m var f=.ok (v,m')):m'.world.drawn=d:=by
 unfold timerOp.named at h
 split at h
 .rename_i k _
  have:=hf k (m.rest.timers.getD k default);injection h with h;rw[h]at this;exact this
 .cases h
theorem Mx{m m':Machine}{var:Addr}(h:timerOp.opened m var=some m'):m'.world.drawn=m.world.drawn:=by
 unfold timerOp.opened at h
 split at h
 .split at h<;>cases h;rfl
 .cases h;rfl
theorem Jb{m m':Machine}{op:TimerOp}{v:Value}(h:timerOp m op=.ok (v,m')):m'.world.drawn=m.world.drawn:=by
 unfold timerOp at h
 split at h
 .split at h
  .cases h;rfl
  .split at h
   .split at h
    .cases h
    .cases h;rfl
   .cases h
 .exact Hb (λ_ _=>Dw _ _ _ _ _) h
 .split at h
  .rename_i e
   rw[<-Mx e];exact Hb (λ_ _=>Dw _ _ _ _ _) h
  .cases h
 .cases h;rfl
theorem TV(m:Machine)(i:Nat)(l:Bool):SD m.world.drawn (runT p m i l).1:=by
 unfold runT;dsimp only;generalize m.gs.swapAt! i _=q;obtain⟨g,gs⟩:=q;dsimp only;have hg:=PX (p:=p) (w:=m.world) (d:=m.world.drawn) (i==0) l g (Nat.le_refl _);generalize stepG p (i==0) g m.world l=s at hg⊢
 cases s with
 |ended o w es=>exact trivial
 |comm g c b sh w es=>
  have:=Bc (p:=p) (w:=w) (d:=m.world.drawn) m.rest gs i g c b sh hg;dsimp only;generalize communicate p m.rest gs i g c b sh w=q at this⊢;obtain⟨r,mo⟩:=q;exact this
 |go g w es=>exact hg
 |spawn g ch w es=>exact hg
 |count g w es=>dsimp only;split<;>first|exact trivial|exact hg
 |alone g on w es=>exact hg
 |collect g w es=>exact KH _ _ hg
 |watch g w es=>exact hg
 |newcoro g c df w es=>exact hg
 |coroswitch g c ex w es=>
  dsimp only
  split
  .exact hg
  .exact hg
  .exact trivial
 |timer g op w es=>
  dsimp only
  split
  .rename_i e
   have:=Jb e
   show m.world.drawn<=_
   have h2:m.world.drawn<=w.drawn:=hg;have h3:=this;dsimp only at h3⊢;omega
  .exact hg
  .exact trivial
  .exact trivial
theorem PZ(m:Machine)(k:Nat):SD m.world.drawn (serve p m k):=by
 unfold serve
 split
 .exact trivial
 .exact Nat.le_refl _
 .dsimp only
  split
  .exact trivial
  .exact Nat.le_refl _
def MD(d:Nat):Move->Prop
 |.goroutine m _=>d<=m.world.drawn
 |.machine s _=>SD d s
theorem aeC{d d':Nat}{s:Stepped}(h:d<=d')(k:SD d' s):SD d s:=by
 cases s with
 |next m=>exact Nat.le_trans h k
 |ended o w=>exact trivial
theorem Bd(m:Machine)(hd:d<=m.world.drawn):MD d (askOn p m):=by
 have h0:∀{s:Sem Nat}{k:Nat}{w0 w1:World},s.run p w0=.ok k w1->d<=w0.drawn->d<=w1.drawn:=λe h=>iO e h
 have h1:∀{s:Sem Nat}{k t:Nat}{m:Machine}{w1:World},s.run p (m.advanceTo t).world=.ok k w1->d<=m.world.drawn->d<=w1.drawn:=λe h=>iO e h
 unfold askOn;dsimp only
 repeat' first
  |exact trivial
  |exact hd
  |(have a1:=h0 ‹Sem.run _ _ m.world=Result.ok _ _› hd;exact a1)
  |(have a1:=h0 ‹Sem.run _ _ m.world=Result.ok _ _› hd;exact aeC a1 (PZ {m with world:=_} _))
  |(have a1:=h0 ‹Sem.run _ _ m.world=Result.ok _ _› hd;have a2:=h0 (by assumption) a1;exact a2)
  |(have a1:=h0 ‹Sem.run _ _ m.world=Result.ok _ _› hd;have a2:=h0 (by assumption) a1;have a3:=h0 (by assumption) a2;exact a3)
  |(have a1:=h0 ‹Sem.run _ _ m.world=Result.ok _ _› hd;have a2:=h0 (by assumption) a1;have a3:=h0 (by assumption) a2;have a4:=h0 (by assumption) a3;exact a4)
  |(have a1:=h0 ‹Sem.run _ _ m.world=Result.ok _ _› hd;have a2:=h0 (by assumption) a1;have a3:=h1 ‹Sem.run _ _ (Machine.advanceTo _ _).world=Result.ok _ _› a2;exact a3)
  |(have a1:=h0 ‹Sem.run _ _ m.world=Result.ok _ _› hd;have a2:=h0 (by assumption) a1;have a3:=h1 ‹Sem.run _ _ (Machine.advanceTo _ _).world=Result.ok _ _› a2;have a4:=h0 (by assumption) a3;exact a4)
  |split
theorem P0(m:Machine)(hd:d<=m.world.drawn):MD d (ask p m):=by
 unfold ask
 split
 .split
  .exact trivial
  .rename_i w1 e
   have h1:=KH (p:=p) m.gs m.rest (iO e hd)
   split
   .rename_i e2;rw[e2]at h1;exact Bd _ h1
   .exact h1
  .rename_i e;exact Bd _ (iO e hd)
 .exact Bd _ hd
theorem TW(m:Machine)(hd:d<=m.world.drawn):MD d (move p m):=by
 unfold move
 split
 .split
  .exact hd
  .exact trivial
 .split
  .split
   .exact hd
   .exact P0 _ hd
  .exact P0 _ hd
theorem TY{m m':Machine}(h:step p m=.next m'):m.world.drawn<=m'.world.drawn:=by
 have h1:=TW (p:=p) m (Nat.le_refl _);unfold step stepT at h
 split at h
 .rename_i m1 i e
  rw[e]at h1;have h2:=TV (p:=p) m1 i true;rw[h]at h2;exact Nat.le_trans h1 h2
 .rename_i s o e
  rw[e]at h1;have h:s=.next m':=h;rw[h]at h1;exact h1
theorem KI:∀{n:Nat}{m m':Machine},runN p n m=.next m'->m.world.drawn<=m'.world.drawn
 |0,m,m',h=>by
  have h:Stepped.next m=.next m':=h
  cases h;exact Nat.le_refl _
 |n+1,m,m',h=>by
  unfold runN at h
  split at h
  .rename_i e;exact Nat.le_trans (TY e) (KI h)
  .rename_i e;rw[h]at e;exact absurd rfl (e _)
theorem P1{f:FuncId}{args:Array Value}{R:Ending->World->Prop}(h:Calls p f args w R):Calls p f args w λe w'=>R e w'/\((∃v,e=.returned v)->w.drawn<=w'.drawn):=by
 intro cs;obtain⟨e,w',fr,hR,hc,hf,hl⟩:=h cs;refine⟨e,w',fr,⟨hR,?_⟩,hc,hf,hl⟩;rintro⟨v,rfl⟩;obtain⟨n,hn⟩:=hc;exact KI hn
end
end Go.an
namespace Go.an
open Go.RowKit Go.Sort
theorem My{w:World}{g n:Nat}{d:Array Int}{os:Array Obj}{aJ:Array Value}{e:TypeId}(hc:w.heap[g]?=some (.cells aJ e (0,0))):∃w',w'=grow (putRow (Value.int .i64) (Go.Sort.ahead w n) g 0 d) os/\w'.os=w.os/\w'.tape=w.tape/\w'.output=w.output/\w.heap.size<=w'.heap.size/\
  (∀i,i<w.heap.size->i≠g->w'.heap[i]?=w.heap[i]?)/\w'.heap[g]?=some (.cells (putCells (Value.int .i64) 0 d aJ) e (0,0)):=by
 have hg:=(bd.1 hc).1;refine⟨_,rfl,rfl,rfl,rfl,by simp[grow,putRow,mapBlock,Go.Sort.ahead],λi hi dW=>?_,?_⟩
 .show((w.heap.modify g _)++os)[i]?=_
  rw[D1 (by simpa using hi),jX,if_neg (Ne.symm dW)]
 .show((w.heap.modify g _)++os)[g]?=_
  rw[D1 (by simpa using hg),jX,if_pos rfl,hc]
  rfl
theorem KJ{P:Program}{f:FuncId}(hd:Head P f)(zs ts:List Int)(hl:ts.length=zs.length)(b:Nat)(us:List AV)(zP:AV.cW us=true)
  (h0:zs=[] ->∀(p:Option Addr)(cap:Nat)(w:World)(vs:Array Value),us.length=vs.size->(∀(j:Nat) u c,us[j]?=some u->vs[j]?=some c->VR w (λ_=>False) K0 u c)->Calls P f (#[.slice p 0 cap]++vs) w λe w'=>e=.returned (.tuple #[])/\w'=w)
  (h:∀(w:World)(g cap:Nat)(vs:Array Value),(∀w',Ext (λi=>i=g) w w'->WI w')->us.length=vs.size->(∀(j:Nat) u c,us[j]?=some u->vs[j]?=some c->VR w (λi=>i=g) K0 u c)->Holds (Value.int .i64) w g 0 zs.toArray->g<w.heap.size->
   Calls P f (#[.slice (some ⟨g,0,none⟩) zs.length cap]++vs) w λe w'=>e=.returned (.tuple #[])/\∃n os,w'=grow (putRow (Value.int .i64) (Go.Sort.ahead w n) g 0 ts.toArray) os):
  FnS P f (.bn b 1 zs.length::us) [(b,⟨3,1,.pure,zs.map λn=>[AV.int .i64 n],[]⟩)] [(b,⟨3,1,.pure,ts.map λn=>[AV.int .i64 n],[]⟩)] (.bY []):=by
 refine⟨hd,λw K vs kS gz cz fU=>?_⟩;obtain⟨v,RD,rfl⟩:∃v RD,vs=#[v]++RD:=by
  obtain⟨l⟩:=vs
  cases l with
  |nil=>simp at cz
  |cons v l=>exact⟨v,⟨l⟩,by simp⟩
 have hv:=fU 0 _ v rfl (by rw[D1 (by simp)];rfl);have Ko:us.length=RD.size:=by simp at cz;omega
 have ha:∀(j:Nat) u c,us[j]?=some u->RD[j]?=some c->VR w (bH K [(b,⟨3,1,.pure,zs.map λn=>[AV.int .i64 n],[]⟩)]) K0 u c:=λj u c hu hc=>
  mU (eK zP hu) (fU (j+1) u c (by simpa using hu) (by rw[lC (by simp)];simpa using hc))
 have bY:∀(w':World) X,VR w' X K (.bY []) (.tuple #[]):=λw' X=>.bY rfl λj u c hu=>by simp at hu
 have gy:aK [(b,(⟨3,1,.pure,zs.map λn=>[AV.int .i64 n],[]⟩:ak))] b=some ⟨3,1,.pure,zs.map λn=>[AV.int .i64 n],[]⟩:=by rw[aZ,if_pos rfl]
 have nil:∀(p:Option Addr)(cap:Nat),v=.slice p 0 cap->zs=[] ->Calls P f (#[v]++RD) w λe w'=>∃v,e=.returned v/\VR w' (bH K [(b,⟨3,1,.pure,zs.map λn=>[AV.int .i64 n],[]⟩)]) K (.bY []) v/\yq w' (bH K [(b,⟨3,1,.pure,zs.map λn=>[AV.int .i64 n],[]⟩)]) K [(b,⟨3,1,.pure,ts.map λn=>[AV.int .i64 n],[]⟩)] /\Ext (bH K [(b,⟨3,1,.pure,zs.map λn=>[AV.int .i64 n],[]⟩)]) w w':=by
  rintro p cap rfl rfl;have:ts=[]:=oD.1 hl;subst this;refine(h0 rfl p cap w RD Ko λj u c hu hc=>(ha j u c hu hc).sub λ_ _ h=>h.elim).mono ?_;rintro e w' ⟨rfl,rfl⟩;exact⟨_,rfl,bY _ _,gz,Ext.refl _ _⟩
 rcases VR.c9 hv with⟨_,hz,rfl⟩|⟨g,cap,aJ,e,m,hK,nu,rfl,hc,h1,h2,h3⟩
 .exact nil none 0 rfl (oD.1 hz)
 .by_cases hz:zs=[]
  .subst hz;exact nil _ cap rfl rfl
  .rcases gz.own b _ gy with⟨k1,_⟩|⟨g',k1,dw,hcB,lq⟩
   .rw[hK]at k1;cases k1
   .rw[hK]at k1;injection k1 with k1;injection k1 with k1 k2;injection k1 with k1;subst k1
    have hcB:w.heap[g]?=some (.cells dw 3 (0,0)):=hcB;rw[hc]at hcB;injection hcB with hcB;injection hcB with q1 q2;subst q1 q2
    have qw:=(bd.1 hc).1;have P2:∀i,bH K [(b,⟨3,1,.pure,zs.map λn=>[AV.int .i64 n],[]⟩)] i↔i=g:=by
     intro i
     constructor
     .rintro⟨b',jS,hk⟩
      rw[aZ]at jS
      by_cases e:b=b'
      .subst e;rw[aU hK]at hk;injection hk with hk;exact hk.symm
      .rw[if_neg e]at jS;simp[aK]at jS
     .rintro rfl;exact⟨b,by rw[gy];rfl,aU hK⟩
    have sZ:∀l:List Int,(l.map λn=>[AV.int .i64 n]).flatten=l.map (AV.int .i64):=λl=>by induction l<;>simp_all
    have wo:zs.length<=aJ.size:=by omega
    have cH:∀(j:Nat)(z:Int),zs[j]?=some z->aJ[j]?=some (Value.int .i64 z):=by
     intro j z hj;obtain⟨c,hc1,_,hvr⟩:=lq j (AV.int .i64 z) (by show(zs.map λn=>[AV.int .i64 n]).flatten[j]?=_;rw[sZ,aS,hj];rfl)
     cases c<;>cases hvr
     exact hc1
    have hH:Holds (Value.int .i64) w g 0 zs.toArray:=by
     intro j hj;have FY:j<zs.length:=by simpa using hj
     have:=cH j zs[j] (aW FY);refine⟨?_,?_⟩
     .simp only[World.cell?,hc,dp]
      rw[this];simp[FY]
     .simp[World.frozen?,hc]
    refine(h w g cap RD (λw' hx=>kS w' ⟨hx.os,hx.tape,hx.output,hx.size,λi hi hn=>hx.block i hi λq=>hn ((P2 i).2 q),hx.shape⟩) Ko (λj u c hu hc=>(ha j u c hu hc).sub λi _ q=>(P2 i).2 q) hH qw).mono ?_;rintro en w' ⟨rfl,n,os,rfl⟩;obtain⟨w',e0,e1,e2,e3,e4,e5,e6⟩:=My (n:=n) (d:=ts.toArray) (os:=os) hc;rw[<-e0];refine⟨_,rfl,bY _ _,⟨λb' ae jS row hr=>?_,λb' ae jS=>?_,λb1 b2 i h1 h2 _ _=>?_⟩,⟨e1,e2,e3,e4,λi hi hn=>e5 i hi λq=>hn ((P2 i).2 q),λi cu ty RJ=>?_⟩⟩
    .rw[aZ]at jS
     by_cases q:b=b'
     .rw[if_pos q]at jS;injection jS with jS;subst jS
      obtain⟨z,_,rfl⟩:=cK.1 hr;rfl
     .rw[if_neg q]at jS;simp[aK]at jS
    .rw[aZ]at jS
     by_cases q:b=b'
     .rw[if_pos q]at jS;injection jS with jS;subst jS q
      refine .inr ⟨g,by rw[hK];simp[hl]at k2⊢;omega,putCells (Value.int .i64) 0 ts.toArray aJ,e6,λj u hu=>?_⟩;have hu:(ts.map λn=>[AV.int .i64 n]).flatten[j]?=some u:=hu;rw[sZ,aS]at hu
      cases hj:ts[j]? with
      |none=>rw[hj]at hu;cases hu
      |some z=>
       rw[hj]at hu;injection hu with hu;subst hu
       have so:=(aE.1 hj).1;refine⟨.int .i64 z,?_,rfl,.int⟩;have hjc:j<aJ.size:=by omega
       simp only[putCells,Array.getElem?_mapIdx,nD hjc,iU,cF,rQ,dp,lz];rw[if_pos (by simpa using so)];have hz:=(aE.1 hj).2;simp[so,hz]
     .rw[if_neg q]at jS;simp[aK]at jS
    .rw[aZ]at h1 h2
     by_cases q1:b=b1
     .by_cases q2:b=b2
      .exact q1.symm.trans q2
      .rw[if_neg q2]at h2;simp[aK]at h2
     .rw[if_neg q1]at h1;simp[aK]at h1
    .by_cases q:i=g
     .subst q
      rw[hc]at RJ;injection RJ with RJ;injection RJ with q1 q2;subst q1 q2
      exact⟨_,e6,by simp[putCells]⟩
     .exact⟨cu,(e5 i (bd.1 RJ).1 q).trans RJ,rfl⟩
end Go.an
namespace Go.an
open Go Go.RowKit Go.Sort Go.Shelf Go.Proofs
theorem below_grown{w w':World}(h:Go.RowKit.Below w.heap.size w w')(hd:w.drawn<=w'.drawn):∃q os,w'=grow (w.drewN q) os:=by
 obtain⟨p,hp⟩:=regrown_of_below h;have e:w'.drawn=p.d:=by rw[hp];rfl
 refine⟨p.d-w.drawn,p.os,hp.trans ?_⟩
 show grow (redrawn w p.d) p.os=grow {w with drawn:=w.drawn+(p.d-w.drawn)} p.os
 rw[show w.drawn+(p.d-w.drawn)=p.d by omega];rfl
theorem sF:∀l,Op.bytesLess l l=false
 |[]=>rfl
 |a::x=>by simp[Op.bytesLess,sF x]
theorem Hc:∀{a b c:List UInt8},Op.bytesLess a b=true->Op.bytesLess b c=true->Op.bytesLess a c=true
 |_,[],_,h,_=>by simp[Op.bytesLess]at h
 |_,_::_,[],_,h=>by simp[Op.bytesLess]at h
 |[],_::_,_::_,_,_=>rfl
 |a::x,b::y,c::z,h,k=>by
  simp only[Op.bytesLess,pj,zp,aA,lK,UInt8.lt_iff_toNat_lt]at h k⊢
  rcases h with h|⟨rfl,h⟩<;>rcases k with k|⟨rfl,k⟩
  .exact .inl (by omega)
  .exact .inl h
  .exact .inl k
  .exact .inr ⟨rfl,Hc h k⟩
theorem P3:∀{a b:List UInt8},Op.bytesLess a b=false->Op.bytesLess b a=false->a=b
 |[],[],_,_=>rfl
 |[],_::_,h,_=>by simp[Op.bytesLess]at h
 |_::_,[],_,h=>by simp[Op.bytesLess]at h
 |a::x,b::y,h,k=>by
  simp only[Op.bytesLess,tD,decide_eq_false_iff_not,UInt8.lt_iff_toNat_lt]at h k;have e:a=b:=UInt8.toNat_inj.1 (by omega);subst e;rw[P3 (a:=x) (b:=y) (by simpa using h.2) (by simpa using k.2)]
def Be(a b:ByteArray):Int:=if Op.bytesLess a.toList b.toList=true then-1 else if(!(Op.bytesLess a.toList b.toList||a.toList==b.toList))=true then 1 else 0
def KK:={n:Int// -9223372036854775808<=n/\n<=9223372036854775807}
instance:Inhabited KK:=⟨⟨0,by omega,by omega⟩⟩
def qq(sd:Int->ByteArray)(cn:Int->Int->Int)(x y:KK):Int:=if Be (sd x.1) (sd y.1)=0 then cn x.1 y.1 else Be (sd x.1) (sd y.1)
theorem TZ(a b:ByteArray):Be a b<0↔Op.bytesLess a.toList b.toList=true:=by
 unfold Be
 split
 .rename_i h;simp[h]
 .rename_i h
  split<;>simp[h]
theorem KL(a b:ByteArray):Be a b=0↔a.toList=b.toList:=by
 unfold Be
 split
 .rename_i h
  refine⟨λe=>by omega,λe=>?_⟩;rw[e,sF]at h;cases h
 .rename_i h
  split
  .rename_i h'
   refine⟨λe=>by omega,λe=>?_⟩;simp[e]at h'
  .rename_i h'
   refine⟨λ_=>?_,λ_=>rfl⟩;have h0:Op.bytesLess a.toList b.toList=false:=by simpa using h
   rw[h0]at h';simpa using h'
theorem EW{sd:Int->ByteArray}{cn:Int->Int->Int}(Nv:∀x y:Int,cn x y<0↔x<y)(x y:KK):ltOf (qq sd cn) x y=true↔Op.bytesLess (sd x.1).toList (sd y.1).toList=true∨((sd x.1).toList=(sd y.1).toList/\x.1<y.1):=by
 unfold ltOf qq;rw[zp]
 split
 .rename_i h
  have h:=(KL _ _).1 h;rw[Nv,h,sF];simp
 .rename_i h
  have h:¬(sd x.1).toList=(sd y.1).toList:=λe=>h ((KL _ _).2 e)
  rw[TZ];simp[h]
theorem Hd{sd:Int->ByteArray}{cn:Int->Int->Int}(Nv:∀x y:Int,cn x y<0↔x<y)(x y:KK)(h:ltOf (qq sd cn) x y=false)(k:ltOf (qq sd cn) y x=false):x=y:=by
 have h':¬(ltOf (qq sd cn) x y=true):=by rw[h];simp
 have k':¬(ltOf (qq sd cn) y x=true):=by rw[k];simp
 rw[EW Nv]at h' k';have e:=P3 (by simpa usingλq=>h' (.inl q)) (by simpa usingλq=>k' (.inl q));have h1:¬x.1<y.1:=λq=>h' (.inr ⟨e,q⟩)
 have h2:¬y.1<x.1:=λq=>k' (.inr ⟨e.symm,q⟩)
 exact Subtype.ext (by omega)
theorem P4{sd:Int->ByteArray}{cn:Int->Int->Int}(Nv:∀x y:Int,cn x y<0↔x<y):SWO (ltOf (qq sd cn)):=by
 have tr:∀x y z,ltOf (qq sd cn) x y=true->ltOf (qq sd cn) y z=true->ltOf (qq sd cn) x z=true:=by
  intro x y z h k;rw[EW Nv]at h k⊢
  rcases h with h|⟨e,h⟩<;>rcases k with k|⟨e',k⟩
  .exact .inl (Hc h k)
  .exact .inl (e'▸h)
  .exact .inl (e▸k)
  .exact .inr ⟨e.trans e',by omega⟩
 refine⟨λx=>?_,tr,λx y z h k=>?_⟩
 .cases h:ltOf (qq sd cn) x x with
  |false=>rfl
  |true=>
   rw[EW Nv,sF]at h;simp at h
 .cases h1:ltOf (qq sd cn) x z with
  |false=>rfl
  |true=>
   exfalso
   cases h2:ltOf (qq sd cn) y x with
   |true=>rw[tr y x z h2 h1]at k;cases k
   |false=>
    have:=Hd Nv x y h h2;subst this;rw[h1]at k;cases k
theorem Bf{w:World}{g:Nat}(d:Array KK):putRow (λx:KK=>Value.int .i64 x.1) w g 0 d=putRow (Value.int .i64) w g 0 (d.map (·.1)):=by
 unfold putRow
 congr 1
 funext c
 unfold putCells
 congr 1
 funext k x
 rw[Array.size_map]
 by_cases h:0<=k/\k<0+d.size
 .rw[if_pos h,if_pos h]
  have hk:k-0<d.size:=by omega
  rw[bL d _ hk,bL (d.map (·.1)) _ (by simpa using hk),Array.getElem_map]
 .rw[if_neg h,if_neg h]
theorem P5(w:World)(g n:Nat)(d:Array Int)(os:Array Obj):Ext (λi=>i=g) w (grow (putRow (Value.int .i64) (Go.Sort.ahead w n) g 0 d) os):=by
 refine⟨rfl,rfl,rfl,by simp[grow,putRow,mapBlock,Go.Sort.ahead],λi hi dW=>?_,λi cu ty RJ=>?_⟩
 .show((w.heap.modify g _)++os)[i]?=_
  rw[D1 (by simpa using hi),jX,if_neg (Ne.symm dW)]
 .have hi:=(bd.1 RJ).1
  by_cases q:g=i
  .subst q
   refine⟨putCells (Value.int .i64) 0 d cu,?_,by simp[putCells]⟩
   show((w.heap.modify g _)++os)[g]?=_
   rw[D1 (by simpa using hi),jX,if_pos rfl,RJ]
   rfl
  .refine⟨cu,?_,rfl⟩
   show((w.heap.modify g _)++os)[i]?=_
   rw[D1 (by simpa using hi),jX,if_neg q,RJ]
theorem P6{P:Program}{ρ:Ren}(L:SlLaysF.n6 P ρ)(hd:Head P (ρ.f 6)){g:Nat}(hg:∀args w,(callFunc g args).run P w=.ok (.enter g args) w)(dt:List AV)(iW:AV.cW dt=true){sd:Int->ByteArray}{cn:Int->Int->Int}(Nv:∀x y:Int,cn x y<0↔x<y)
  (hc:∀x y:KK,Fn P g (.int .i64 x.1:: .int .i64 y.1::dt) (.int .i64 (qq sd cn x y)))(zl:List KK)(hz:zl.length<=1000)(b:Nat):∃ts:List Int,ts.length=zl.length/\
  FnS P (ρ.f 6) [.bn b 1 (zl.map (·.1)).length,.func g dt] [(b,⟨3,1,.pure,(zl.map (·.1)).map λn=>[AV.int .i64 n],[]⟩)] [(b,⟨3,1,.pure,ts.map λn=>[AV.int .i64 n],[]⟩)] (.bY []):=by
 refine⟨(zl.mergeSort λx y=> !(ltOf (qq sd cn)) y x).map (·.1),by simp[List.length_mergeSort],?_⟩;refine KJ hd (zl.map (·.1)) ((zl.mergeSort λx y=> !(ltOf (qq sd cn)) y x).map (·.1)) (by simp[List.length_mergeSort]) b [.func g dt] (by simp[AV.cW,AV.bq,iW]) (λ_ p cap w vs hl hv=>?_) λw gb cap vs kS hl hv hH hgb=>?_
 .obtain⟨fv,rfl⟩:∃fv,vs=#[fv]:=by
   obtain⟨l⟩:=vs
   match l,hl with
   |[x],_=>exact⟨x,rfl⟩
  exact AnyF.slices_SortFunc_none {L with} p cap fv w
 .obtain⟨fv,rfl⟩:∃fv,vs=#[fv]:=by
   obtain⟨l⟩:=vs
   match l,hl with
   |[x],_=>exact⟨x,rfl⟩
  obtain⟨cb,rfl,mR,Y7⟩:=VR.fJ (hv 0 _ fv rfl rfl);have h1:OneCell (λx:KK=>Value.int .i64 x.1):=λx=>rfl
  have ana:zl.toArray.map (·.1)=(zl.map (·.1)).toArray:=by simp
  have hH':Holds (λx:KK=>Value.int .i64 x.1) w gb 0 zl.toArray:=by
   intro j hj;have FY:j<zl.length:=by simpa using hj
   have:=hH j (by simpa using hj);rw[bL _ _ (by simpa using FY)]at this⊢;simpa using this
  have:=Any.slices_SortFunc_total L (λx:KK=>Value.int .i64 x.1) h1 (qq sd cn) (P4 Nv) g cb gb 0 cap zl.toArray w hg (λm os dk hs x y=>?_) hH' hgb (by simp;omega) (Hd Nv)
  .have e0: #[Value.slice (some ⟨gb,0,none⟩) zl.toArray.size cap,.func (.func g) #[] cb]=#[Value.slice (some ⟨gb,0,none⟩) (zl.map (·.1)).length cap]++ #[.func (.func g) #[] cb]:=by simp
   rw[e0]at this;refine this.mono λe w' ⟨he,n,os,hw⟩=>⟨he,n,os,?_⟩
   rw[hw];unfold sortWorld;rw[Bf];simp
  .have hW:sortWorld (λx:KK=>Value.int .i64 x.1) w gb 0 m dk os=grow (putRow (Value.int .i64) (Go.Sort.ahead w m) gb 0 (dk.map (·.1))) os:=by
    unfold sortWorld;rw[Bf]
   rw[hW];have hX:=P5 w gb m (dk.map (·.1)) os;generalize grow (putRow (Value.int .i64) (Go.Sort.ahead w m) gb 0 (dk.map (·.1))) os=W at hX⊢;have hF:=(hc x y).2 (λi=>i=gb) W (#[.int .i64 x.1,.int .i64 y.1]++cb) (kS W hX) (by simp[mR];omega) λj u c hu Nk=>?_
   .refine(P1 hF).mono ?_
    rintro e w' ⟨⟨v,rfl,hr,hb⟩,Oc⟩
    cases hr
    refine⟨rfl,?_⟩;exact below_grown hb (Oc ⟨_,rfl⟩)
   .match j with
    |0=>
     rw[D1 (by simp)]at Nk;simp at hu Nk;subst hu Nk;exact .int
    |1=>
     rw[D1 (by simp)]at Nk;simp at hu Nk;subst hu Nk;exact .int
    |j+2=>
     have hu:dt[j]?=some u:=by simpa using hu
     have Nk:cb[j]?=some c:=by rw[lC (by simp)]at Nk;simpa using Nk
     exact(mU (K':=K0) (eK iW hu) (Y7 j u c hu Nk)).ad ⟨hX.size,hX.block,hX.shape⟩ (λ_ _ h=>h) (λ_ _=>rfl)
end Go.an
namespace Go.an.ax.G
open Go Go.an Go.Proofs Go.RowKit
theorem aeD(t:ByteArray):Fn kg 286 [.str t] (B false):=aH ac0 ⟨rfl,rfl,by simp;rfl⟩
theorem ajX(a b:ByteArray):Fn kg 213 [.str a,.str b] (I (Be a b)):=by
 refine aH acB ⟨_,aeD a,_,aeD b,λh=>(by cases h),λ_=>⟨λh=>(by cases h),λ_=>⟨λh=>?_,λh=>⟨λh'=>?_,λh'=>?_⟩⟩⟩⟩
 .have h:Op.bytesLess a.toList b.toList=true:=h
  rw[Be,if_pos h];exact⟨rfl,rfl,rfl⟩
 .have h:Op.bytesLess a.toList b.toList=false:=h
  have h':(!(Op.bytesLess a.toList b.toList||a.toList==b.toList))=true:=h';rw[Be,if_neg (by rw[h];simp),if_pos h'];exact⟨rfl,rfl,rfl⟩
 .have h:Op.bytesLess a.toList b.toList=false:=h
  have h':(!(Op.bytesLess a.toList b.toList||a.toList==b.toList))=false:=h';rw[Be,if_neg (by rw[h];simp),if_neg (by rw[h'];simp)];exact⟨rfl,rfl,rfl⟩
theorem ajY(a b:Int):Fn kg 212 [.aL 1 2 [[I a],[I b]]] (I (if a=0 then b else a)):=by
 refine aH acA ?_;refine⟨λn c=>∃i,i<=2/\n=2-i/\(0<i->a=0)/\(1<i->b=0)/\c=⟨[(0,.aL 1 2 [[I a],[I b]]),(2,I 0),(3,I 0),(6,.aL 1 2 [[I a],[I b]]),(7,I 2),(8,I (i:Nat))],[]⟩,⟨_,_,Wk.ad [0,2,3,6,7,8] [],0,by omega,rfl,by omega,by omega,rfl⟩,?_⟩;rintro n c ⟨i,hi,rfl,ha,hb,rfl⟩
 match i,hi,ha,hb with
 |0,_,_,_=>
  refine⟨λ_=>⟨⟨by decide,by decide⟩,[I a],rfl,λh=>?_,λh=>?_⟩,λh=>by cases h⟩
  .rw[if_neg (by simpa using h)];exact⟨rfl,rfl,rfl⟩
  .exact⟨_,au (y:=1) (by decide) (by decide) (by decide),_,_,Wk.ad [0,2,3,6,7,8] [],by omega,1,by omega,rfl,λ_=>by simpa using h,by omega,rfl⟩
 |1,_,ha,_=>
  have ha:=ha (by omega);refine⟨λ_=>⟨⟨by decide,by decide⟩,[I b],rfl,λh=>?_,λh=>?_⟩,λh=>by cases h⟩
  .rw[if_pos ha];exact⟨rfl,rfl,rfl⟩
  .exact⟨_,au (y:=2) (by decide) (by decide) (by decide),_,_,Wk.ad [0,2,3,6,7,8] [],by omega,2,by omega,rfl,λ_=>ha,λ_=>by simpa using h,rfl⟩
 |2,_,ha,hb=>
  refine⟨λh=>(by cases h),λ_=>?_⟩;rw[if_pos (ha (by omega)),hb (by omega)];exact⟨rfl,rfl,rfl⟩
 |n+3,h,_,_=>exact absurd h (by omega)
theorem eG(n a b:Int):Fn kg 141 [I n,I a,I b] (B (eC n a b)):=aH ab4 ⟨[],rfl,rfl,rfl⟩
theorem rA(n:Int):Fn kg 140 [I n] (B (eC n 1 1073741824)):=aH ab3 ⟨_,eG n 1 1073741824,rfl,rfl,rfl⟩
theorem B8(n:Int):Fn kg 142 [I n] (B (!eC n 1 1073741824)):=aH ab5 ⟨_,rA n,rfl,rfl,rfl⟩
def yb(l:List Int):Bool:=decide (∀i,i<l.length->0<i->¬l.getD i 0<=l.getD (i-1) 0)
theorem rC(l:List Int)(hl:l.length<=100000):Fn kg 143 [NS l] (B (yb l)):=by
 refine aH ab6 ?_;refine⟨λn c=>∃i,i<=l.length/\n=l.length-i/\(∀j,j<i->0<j->¬l.getD j 0<=l.getD (j-1) 0)/\c=⟨[(0,NS l),(2,B false),(5,I l.length),(6,I (i:Nat))],[]⟩,⟨_,_,Wk.ad [0,2,5,6] [],0,by omega,rfl,by omega,rfl⟩,?_⟩;rintro n c ⟨i,hi,rfl,hb,rfl⟩;refine⟨λh=>?_,λh=>?_⟩
 .have aC:i<l.length:=by have:=aP h;omega
  obtain⟨a,ha⟩:∃a,l[i]?=some a:=⟨_,aW aC⟩;have ga:l.getD i 0=a:=by rw[lJ,ha];rfl
  by_cases h0:i=0
  .subst h0
   refine⟨[(2,false)],rfl,λh=>(by cases h),λ_=>?_⟩;exact⟨_,au (y:=((0+1:Nat):Int)) (by omega),_,_,Wk.ad [0,2,5,6] [],by omega,0+1,by omega,rfl,λj hj h=>by omega,rfl⟩
  .obtain⟨q,hq⟩:∃q,l[i-1]?=some q:=⟨_,aW (by omega)⟩
   have gq:l.getD (i-1) 0=q:=by rw[lJ,hq];rfl
   refine⟨[(2,true)],uG (by omega),by omega,[I a],by simp[ha],_,au (y:=((i-1:Nat):Int)) (by omega),by omega,[I q],by simp[hq],λh=>?_,λh=>?_⟩
   .have h:a<=q:=by simpa using h
    have:yb l=false:=by
     unfold yb;refine qA λhh=>hh i aC (by omega) ?_
     rw[ga,gq];exact h
    rw[this];exact⟨rfl,rfl,rfl⟩
   .have hna:¬a<=q:=by simpa using h
    refine⟨_,au (y:=((i+1:Nat):Int)) (by omega),?_⟩;refine⟨_,_,Wk.ad [0,2,5,6] [],by omega,i+1,by omega,rfl,λj hj hp=>?_,rfl⟩
    by_cases e:j=i
    .rw[e,ga,gq];exact hna
    .exact hb j (by omega) hp
 .have og:i=l.length:=by have:=j0 h;omega
  subst og;have:yb l=true:=by unfold yb;exact uG hb
  rw[this];exact⟨rfl,rfl,rfl⟩
end Go.an.ax.G
