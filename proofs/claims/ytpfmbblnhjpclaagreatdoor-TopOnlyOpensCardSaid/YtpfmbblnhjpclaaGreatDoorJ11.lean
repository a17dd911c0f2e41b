import Derived.Orders
import Derived.Test.YtpfmbblnhjpclaaGreatDoorJ10
set_option linter.unusedVariables false
set_option linter.unusedSimpArgs false
namespace Go.an
open Go.RowKit
section
variable{P:Program} {T:dD} {E:Env} {K:KM} {c:aM} {a:Act} {w:World} {o:Oper} {r:iS} {X:Nat->Prop} {aB:Array Oper} {dm:List (Nat×Bool)} {N:Nat} {dr:Bool}
theorem fh(hs:bC E K c a w):ey E K c a w (j8 c):=by
 intro x
 cases x with
 |tmp t=>exact hs.fr t
 |const v=>
  simp only[j8]
  cases h:fH v
  .exact FV.top
  .exact FV.of (gP _ _ _ v h)
 |global g=>exact FV.top
 |func f=>exact FV.of (.func (by simp) (by simp))
theorem yP{b:Nat}(hf:eP b c=true)(x:Operand):(j8 c x).has b=false:=by
 cases x with
 |tmp t=>exact(jq hf).2.1 t
 |const v=>
  simp only[j8]
  cases h:fH v
  .rfl
  .exact lj b _ (py v)
 |global g=>rfl
 |func f=>rfl
theorem Gp{u:AV}{v:Value}{d:Nat}{bf:Bool}{tm:Array Value}(h:FV w X K tm u v)(hd:tm.getD d undef=.bool bf):FV w X K tm (u.strip d bf) v:=by
 cases u with
 |opt d' w' u'=>
  unfold AV.strip;simp only
  split
  .rename_i h1
   have:=beq_true h1;subst this
   rcases h with⟨_,h⟩|⟨h,_⟩
   .exact FV.of h
   .exact absurd hd h
  .rename_i h1
   have:=beq_true h1;subst this
   rcases h with⟨_,h⟩|⟨h,_⟩
   .exact FV.of h
   .exact absurd hd h
  .exact h
 |_=>exact h
theorem mH{b d:Nat}{bf:Bool}{u:AV}(h:u.has b=false):(u.strip d bf).has b=false:=by
 cases u with
 |opt d' w' u'=>
  unfold AV.strip;simp only
  split
  .simpa[AV.has]using h
  .simpa[AV.has]using h
  .exact h
 |_=>exact h
theorem SC{b d:Nat}{bf:Bool}(hf:eP b c=true)(x:Operand):(NK c d bf x).has b=false:=by
 unfold NK
 split
 .exact mH (mH (yP hf x))
 .exact mH (yP hf x)
theorem Ob(hs:bC E K c a w){d:Nat}{bf:Bool}(hd:a.tmps.getD d undef=.bool bf):ey E K c a w (NK c d bf):=by
 intro x;have h0:=Gp (fh hs x) hd;unfold NK
 split
 .rename_i d1 w1 u1 hl
  have hf:=hs.fr d;rw[hl]at hf
  rcases hf with⟨h1,_⟩|⟨_,h2⟩
  .exact Gp h0 h1
  .rw[hd]at h2;simp[undef]at h2
 .exact h0
theorem wM{K1 K2:Act->World->Prop}{Q:Exit->Act->World->Prop}(h:o.wp P a w K1 kK)(hk:∀a w,K1 a w->K2 a w):o.wp P a w K2 Q:=by
 unfold Oper.wp at*;generalize(execOp a.eval o).run P w=res at*
 cases res with
 |ok n w'=>
  cases n<;>simp only[Oper.upon]at h⊢<;>
   first
    |exact hk _ _ h
    |exact Calls.mono h (λe w'' he=>by
      cases e with
      |returned v=>exact hk _ _ he
      |panicked ch=>exact he.elim
      |outgrown=>obtain⟨_,_,he⟩:=he;exact he.elim)
    |exact Rows.mono h (λ_ _ he=>hk _ _ he)
 |halt x w'=>cases x<;>simp only[Oper.upon]at h⊢<;>exact h.elim
inductive kh(dr:Bool)(P:Program)(T:dD)(N:Nat)(aB:Array Oper)(o:Oper)(c:aM):iS->Prop
 |run {r:iS}:o.guard=none->fg N c o.dst=true->(cQ dr T (j8 c) (aK c.O) o).holds P (· =r)->fq c r.nw r.D=true->ir r.v=true->kh dr P T N aB o c r
 |yes {j d:Nat} {bf:Bool} {r:iS}:o.guard=some (j,bf)->sW aB j=some d->lk c.fr d=.bool bf->fg N c o.dst=true->(cQ dr T (j8 c) (aK c.O) o).holds P (· =r)->fq c r.nw r.D=true->ir r.v=true->kh dr P T N aB o c r
 |skip {j d:Nat} {bf b:Bool}:o.guard=some (j,bf)->sW aB j=some d->lk c.fr d=.bool b->b≠bf->fg N c o.dst=true->kh dr P T N aB o c {v:=.o9}
 |dead {j d:Nat} {bf:Bool}:o.guard=some (j,bf)->sW aB j=some d->lk c.fr d=.o9->fg N c o.dst=true->kh dr P T N aB o c {v:=.o9}
 |spec {j d:Nat} {bf:Bool} {r:iS}:o.guard=some (j,bf)->sW aB j=some d->isB (lk c.fr d)=true->neD d o.dst=true->fg N c o.dst=true->(cQ dr T (NK c d bf) (aK c.O) o).holds P (· =r)->r.D=[] ->r.pg=none->
   kh dr P T N aB o c {v:=pk d bf r.v}
theorem Gq{a b:Bool}(h:eqB a b=true):a=b:=by cases a<;>cases b<;>first|rfl|cases h
theorem LP{a b:Bool}(h:eqB a b=false):a≠b:=by cases a<;>cases b<;>first|(intro e;cases e;done)|cases h
theorem Gs{u:AV}{b:Bool}(h:isLit u b=true):u=.bool b:=by
 cases u<;>simp only[isLit]at h<;>first|(cases h;done)|skip
 rw[Gq h]
theorem mS{A:Acc}{i:Nat}{rest:List Oper}{Kk:aM->Prop}(h:cZ dr P T N dm aB A i (o::rest) c Kk):∃r,kh dr P T N aB o c r/\BU dr aB A r.nw i (lL o c r.D r.pg r.v)=true/\cZ dr P T N dm aB (A.push i (lL o c r.D r.pg r.v)) (i+1) rest (c.app o.dst r) Kk:=by
 unfold cZ at h
 split at h
 .exact h.elim
 .rename_i hd
  split at h
  .rename_i hg
   obtain⟨r,h1,h2⟩:=ie h;rw[iS.wF]at h2
   split at h2
   .rename_i hf
    rw[aA,aA]at hf;have h3:=JT h2;rw[aM.qL]at h3;exact⟨r,.run hg hd h1 hf.1.1 hf.2,hf.1.2,h3⟩
   .exact h2.elim
  .rename_i j bf hg
   split at h
   .exact h.elim
   .rename_i d qw
    split at h
    .rename_i b hb
     split at h
     .rename_i he
      have he:=Gq he
      split at h
      .rename_i hl
       obtain⟨r,h1,h2⟩:=ie h;rw[iS.wF]at h2
       split at h2
       .rename_i hf
        rw[aA,aA]at hf;have h3:=JT h2;rw[aM.qL]at h3;refine⟨r,.yes hg qw ?_ hd h1 hf.1.1 hf.2,hf.1.2,h3⟩;rw[Gs hl,he]
       .exact h2.elim
      .exact h.elim
     .rename_i he
      have he:=LP he
      split at h
      .rename_i hl
       split at h
       .rename_i Oc
        rw[aM.qL]at h;exact⟨_,.skip hg qw (Gs hl) he hd,Oc,h⟩
       .exact h.elim
      .exact h.elim
    .split at h
     .rename_i hu
      have hu:lk c.fr d=.o9:=by
       revert hu
       cases lk c.fr d<;>intro hu<;>first|rfl|(cases hu;done)
      split at h
      .rename_i Oc
       rw[aM.qL]at h;exact⟨_,.dead hg qw hu hd,Oc,h⟩
      .exact h.elim
     .split at h
      .rename_i hb
       rw[aA]at hb;obtain⟨r,h1,h2⟩:=ie h;rw[iS.wF]at h2
       split at h2
       .rename_i hD Gt
        rw[AV.wE]at h2
        split at h2
        .rename_i Oc
         rw[aM.qL]at h2;exact⟨_,.spec hg qw hb.1 hb.2 hd h1 hD Gt,Oc,h2⟩
        .exact h2.elim
       .exact h2.elim
      .exact h.elim
theorem qV{d b:Nat}:∀{fr:List (Nat×AV)},iL d fr=true->iL d (iq b fr)=true
 |[],_=>rfl
 |(t,v)::r,h=>by
  have hr:iL d r=true:=by
   unfold iL at h
   cases v<;>simp only at h<;>first|exact h|skip
   split at h
   .cases h
   .exact h
  have ih:=qV (b:=b) hr;unfold iq
  cases hv:v.has b
  .simp only
   unfold iL at h⊢
   cases v<;>simp only at h⊢<;>first|exact ih|skip
   split at h
   .cases h
   .exact ih
  .simp only;unfold iL;exact ih
theorem LQ{dst:Option Nat}(r:iS)(h:fg N c dst=true):fg N (c.BJ r) dst=true:=by
 cases dst with
 |none=>rfl
 |some d=>
  simp only[fg,aA]at h⊢;refine⟨h.1,?_⟩;unfold aM.BJ
  split
  .exact h.2
  .exact qV h.2
  .exact h.2
theorem lT{j d:Nat}{bf:Bool}(hg:sW aB j=some d)(tm:Array Value):(yielded aB tm j==some bf)=true↔tm.getD d undef=.bool bf:=by
 unfold sW at hg;unfold yielded;rw[hg];simp only[Option.bind_some,dI]
 cases h:tm[d]? with
 |none=>simp[undef]
 |some v=>cases v<;>simp
theorem J7(hN:E.N=N)(hd:fg N c o.dst=true){a':Act}{w':World}(h:bA E c r a o.dst a' w'):SR E (c.app o.dst r) a' w':=by
 obtain⟨K',vv,rfl,eh,hv⟩:=h;rw[aM.Xj];refine⟨K',eh.put (by rw[hN];exact LQ r hd) λd _=>FV.of hv⟩
theorem pG(hT:br P T)(h1:bW T=true)(hN:E.N=N){i:Nat}{Q:Exit->Act->World->Prop}(ho:aB[i]?=some o)(h:kh dr P T N aB o c r)(hs:SR E c a w):
  wpOp P aB Q i (λa' w'=>SR E (c.app o.dst r) a' w') a w:=by
 obtain⟨K,hs⟩:=hs;unfold wpOp;rw[ho];simp only
 cases h with
 |run hg hd hh hf sv=>
  have hw:Region.wanted o (yielded aB a.tmps)=true:=by simp[Region.wanted,hg]
  rw[if_pos hw];exact .inl (wM (ua hT h1 hs (fh hs) (λx b hb=>yP hb x) hf hh) λa' w'=>J7 hN hd)
 |yes hg qw hl hd hh hf sv=>
  rename_i j d bf;have Od:a.tmps.getD d undef=.bool bf:=VR.jn (by have:=hs.fr d;rw[hl]at this;exact this);have hw:Region.wanted o (yielded aB a.tmps)=true:=by
   simp only[Region.wanted,hg];exact(lT qw _).2 Od
  rw[if_pos hw];exact .inl (wM (ua hT h1 hs (fh hs) (λx b hb=>yP hb x) hf hh) λa' w'=>J7 hN hd)
 |skip hg qw hl dW hd=>
  rename_i j d bf b;have Od:a.tmps.getD d undef=.bool b:=VR.jn (by have:=hs.fr d;rw[hl]at this;exact this);have hw:¬Region.wanted o (yielded aB a.tmps)=true:=by
   simp only[Region.wanted,hg];rw[lT qw,Od];intro e;injection e with e;exact dW e
  rw[if_neg hw];refine⟨K,?_⟩;have:=hs.put (dst:=o.dst) (u:=.o9) (v:=undef) (by rw[hN];exact hd) λd _=>FV.of .o9
  exact this
 |dead hg qw hl hd=>
  rename_i j d bf;have Od:a.tmps.getD d undef=undef:=VR.R7 (by have:=hs.fr d;rw[hl]at this;exact this);have hw:¬Region.wanted o (yielded aB a.tmps)=true:=by
   simp only[Region.wanted,hg];rw[lT qw,Od];simp[undef]
  rw[if_neg hw];refine⟨K,?_⟩;have:=hs.put (dst:=o.dst) (u:=.o9) (v:=undef) (by rw[hN];exact hd) λd _=>FV.of .o9
  exact this
 |spec hg qw hb dW hd hh hD Gt=>
  rename_i j d bf r;have aaK:∀e,o.dst=some e->d≠e:=by
   intro e he;rw[he]at dW;simp only[neD]at dW
   split at dW
   .cases dW
   .rename_i jS;exact beq_false jS
  have dR:∀(vv:Value),(a.put o.dst vv).tmps.getD d undef=a.tmps.getD d undef:=by
   intro vv
   cases N1:o.dst with
   |none=>rfl
   |some e=>
    have:=aaK e N1;simp[Act.put,dI,Ne.symm this]
  by_cases Od:a.tmps.getD d undef=.bool bf
  .have hw:Region.wanted o (yielded aB a.tmps)=true:=by
    simp only[Region.wanted,hg];exact(lT qw _).2 Od
   rw[if_pos hw];refine .inl (wM (ua hT h1 hs (Ob hs Od) (λx b hb=>SC hb x) (by rw[hD];rfl) hh) λa' w' hp=>?_);obtain⟨K',vv,rfl,eh,hv⟩:=hp;have he:c.BJ r=c:=by simp[aM.BJ,hD,Gt,im]
   rw[he]at eh hv;refine⟨K',eh.put (dst:=o.dst) (u:=pk d bf r.v) (v:=vv) (by rw[hN];exact hd) λe hde=>?_⟩;unfold pk
   split
   .exact FV.top
   .exact .inl ⟨by rw[dR];exact Od,hv⟩
  .have hw:¬Region.wanted o (yielded aB a.tmps)=true:=by
    simp only[Region.wanted,hg];rw[lT qw];exact Od
   rw[if_neg hw];refine⟨K,hs.put (dst:=o.dst) (u:=pk d bf r.v) (v:=undef) (by rw[hN];exact hd) λe hde=>?_⟩;unfold pk
   split
   .exact FV.top
   .exact .inr ⟨by rw[dR];exact Od,rfl⟩
theorem qW(hT:br P T)(h1:bW T=true)(hN:E.N=N){Kk:aM->Prop}{Q:Exit->Act->World->Prop}(hQ:∀c a w,Kk c->SR E c a w->Q .normal a w):
  ∀(l:List Oper)(A:Acc)(i:Nat)(c:aM)(a:Act)(w:World),(∀j,l[j]?=aB[i+j]?)->cZ dr P T N dm aB A i l c Kk->SR E c a w->wpOps P aB Q (List.range' i l.length) a w
 |[],A,i,c,a,w,_,h,hs=>hQ c a w h hs
 |o::rest,A,i,c,a,w,hl,h,hs=>by
  obtain⟨r,cY,_,oQ⟩:=mS h;have ho:aB[i]?=some o:=by have:=hl 0;simpa using this.symm
  rw[bB,rY,wpOps_cons];refine wpOp_mono (λa' w' eh=>?_) (pG hT h1 hN ho cY hs);exact qW hT h1 hN hQ rest _ (i+1) _ a' w' (λj=>by have:=hl (j+1);rw[rP]at this;rw[this];congr 1;omega) oQ eh
end
theorem qX{val sO:Operand->AV}{place:Nat->Option (Nat×Nat)}:∀{fz:List (Nat×Operand)}{row:List AV},(∀p∈fz,val p.2=sO p.2)->jK place val fz row=jK place sO fz row
 |[],_,_=>rfl
 |(i,x)::r,row,h=>by
  have h0:=h (i,x) (by simp);simp only at h0;simp only[jK,h0]
  split
  .rfl
  .split
   .rfl
   .split
    .split
     .exact qX λp hp=>h p (by simp[hp])
     .rfl
    .rfl
theorem Ix{val sO:Operand->AV}{xs:List Operand}(h:∀x∈xs,val x=sO x):xs.map val=xs.map sO:=List.map_congr_left h
theorem ub{dr:Bool}{T:dD}{val sO:Operand->AV}{own:Nat->Option ak}{o:Oper}(h:∀x∈o.op.operands,val x=sO x):cQ dr T val own o=cQ dr T sO own o:=by
 have hm:∀{xs:Array Operand},(∀x∈xs,x∈o.op.operands)->xs.toList.map val=xs.toList.map sO:=λhx=>Ix λx sU=>h x (hx x (by simpa using sU))
 cases cq:o.op with
 |move x=>simp only[cQ,cq];rw[h x (by simp[cq,Op.operands])]
 |assign x=>simp only[cQ,cq];rw[h x (by simp[cq,Op.operands])]
 |box t x=>simp only[cQ,cq];rw[h x (by simp[cq,Op.operands])]
 |load t x=>simp only[cQ,cq];rw[h x (by simp[cq,Op.operands])]
 |store t x y=>simp only[cQ,cq];rw[h x (by simp[cq,Op.operands]),h y (by simp[cq,Op.operands])]
 |binOp op t x y t'=>simp only[cQ,cq];rw[h x (by simp[cq,Op.operands]),h y (by simp[cq,Op.operands])]
 |unOp op t x=>
  have:=h x (by simp[cq,Op.operands])
  cases op<;>simp only[cQ,cq,this]
 |convert s t x=>simp only[cQ,cq];rw[h x (by simp[cq,Op.operands])]
 |fieldAddr s x f=>simp only[cQ,cq];rw[h x (by simp[cq,Op.operands])]
 |field s x f=>simp only[cQ,cq];rw[h x (by simp[cq,Op.operands])]
 |indexAddr t x ix=>simp only[cQ,cq];rw[h x (by simp[cq,Op.operands]),h ix (by simp[cq,Op.operands])]
 |extract x k=>simp only[cQ,cq];rw[h x (by simp[cq,Op.operands])]
 |pick x y z=>simp only[cQ,cq];rw[h x (by simp[cq,Op.operands]),h y (by simp[cq,Op.operands]),h z (by simp[cq,Op.operands])]
 |makeFunc fn first dt=>
  have hc:dt.toList.map (λx=>(val x).oF)=dt.toList.map (λx=>(sO x).oF):=List.map_congr_left λx hx=>by rw[h x (by simp[cq,Op.operands];exact .inr (by simpa using hx))]
  cases fn<;>simp only[cQ,cq,hc]
 |build t fz=>
  have hf:∀place row,jK place val fz.toList row=jK place sO fz.toList row:=λplace row=>qX λp hp=>h p.2 (by simp[cq,Op.operands];exact⟨p.1,by simpa using hp⟩)
  simp only[cQ,cq,hf]
 |buildSlice t n fz=>
  have hf:∀place row,jK place val fz.toList row=jK place sO fz.toList row:=λplace row=>qX λp hp=>h p.2 (by simp[cq,Op.operands];exact⟨p.1,by simpa using hp⟩)
  simp only[cQ,cq,hf]
 |makeSlice t l c=>simp only[cQ,cq];rw[h l (by simp[cq,Op.operands]),h c (by simp[cq,Op.operands])]
 |slice t x lo hi mx=>
  have hx:=h x (by simp[cq,Op.operands]);have hl:lo.map val=lo.map sO:=by cases lo with|none=>rfl|some l=>simp[h l (by simp[cq,Op.operands])]
  have hh:hi.map val=hi.map sO:=by cases hi with|none=>rfl|some l=>simp[h l (by simp[cq,Op.operands])]
  cases mx with
  |none=>simp only[cQ,cq,hx,hl,hh]
  |some m=>
   have hm:=h m (by simp[cq,Op.operands])
   cases lo with
   |none=>simp only[cQ,cq]
   |some l=>cases hi with
    |none=>simp only[cQ,cq]
    |some k=>simp only[cQ,cq,hx,hm,h l (by simp[cq,Op.operands]),h k (by simp[cq,Op.operands])]
 |index t x ix=>simp only[cQ,cq];rw[h x (by simp[cq,Op.operands]),h ix (by simp[cq,Op.operands])]
 |call cl=>
  obtain⟨callee,args,ts⟩:=cl;have fU:args.toList.map val=args.toList.map sO:=hm λx hx=>by rw[cq];simp only[Op.operands,Call.operands];cases callee<;>simp[hx]
  cases callee with
  |value f=>simp only[cQ,cq,xA,fU,h f (by simp[cq,Op.operands,Call.operands])]
  |invoke x m=>simp only[cQ,cq,xA]
  |builtin b=>cases b<;>simp only[cQ,cq,xA,fU]
 |lookup t m k ok=>simp only[cQ,cq];rw[h m (by simp[cq,Op.operands]),h k (by simp[cq,Op.operands])]
 |mapUpdate t m k v=>simp only[cQ,cq];rw[h m (by simp[cq,Op.operands]),h k (by simp[cq,Op.operands]),h v (by simp[cq,Op.operands])]
 |insert t m k v=>simp only[cQ,cq];rw[h m (by simp[cq,Op.operands]),h k (by simp[cq,Op.operands]),h v (by simp[cq,Op.operands])]
 |mapEntry t m k=>simp only[cQ,cq];rw[h m (by simp[cq,Op.operands]),h k (by simp[cq,Op.operands])]
 |entryStore t m s v=>simp only[cQ,cq];rw[h m (by simp[cq,Op.operands]),h s (by simp[cq,Op.operands]),h v (by simp[cq,Op.operands])]
 |nilCheck x=>simp only[cQ,cq];rw[h x (by simp[cq,Op.operands])]
 |makeMap t q=>cases q<;>simp only[cQ,cq]
 |range t x=>simp only[cQ,cq];rw[h x (by simp[cq,Op.operands])]
 |next x q=>cases q<;>simp only[cQ,cq];rw[h x (by simp[cq,Op.operands])]
 |_=>simp only[cQ,cq]
section
variable{own cy:Nat->Option ak}
def gw(own:Nat->Option ak)(yt:List AV)(b:Nat):Prop:=AV.cN b yt=true∨∃i x,own i=some x/\x.kd=.any/\AV.cN i yt=true/\cw b x.aa=true
theorem mT{b:Nat}{u:AV}:∀{us:List AV},u∈us->u.has b=true->AV.cN b us=true
 |x::xs,h,hu=>by
  rcases bK.1 h with rfl|h
  .simp[AV.cN,hu]
  .simp[AV.cN,mT h hu]
theorem gw.mem{u:AV}{us:List AV}{b:Nat}(hu:u∈us)(h:gw own [u] b):gw own us b:=by
 rcases h with h|⟨i,x,h1,h2,h3,h4⟩
 .simp[AV.cN]at h;exact .inl (mT hu h)
 .simp[AV.cN]at h3;exact .inr ⟨i,x,h1,h2,mT hu h3,h4⟩
theorem gw.sub{us vs:List AV}{b:Nat}(hs:∀b,AV.cN b us=true->AV.cN b vs=true)(h:gw own us b):gw own vs b:=by
 rcases h with h|⟨i,x,h1,h2,h3,h4⟩
 .exact .inl (hs b h)
 .exact .inr ⟨i,x,h1,h2,hs i h3,h4⟩
theorem kj{u:AV}(h:∀b,u.has b=true->cy b=own b):dQ cy u=dQ own u:=by
 cases u<;>simp only[dQ]
 .rename_i b sz n
  rw[h b (by simp[AV.has])]
 .rename_i b
  rw[h b (by simp[AV.has])]
theorem lF:∀{us:List AV},(∀b,AV.cN b us=true->cy b=own b)->cT cy us=cT own us
 |[],_=>rfl
 |x::xs,h=>by
  simp only[cT];rw[kj λb hb=>h b (by simp[AV.cN,hb]),lF (us:=xs) λb hb=>h b (by simp[AV.cN,hb])]
theorem vo:∀{us:List (List AV)},(∀b,cw b us=true->cy b=own b)->iJ cy us=iJ own us
 |[],_=>rfl
 |x::xs,h=>by
  simp only[iJ];rw[lF λb hb=>h b (by simp[cw,hb]),vo (us:=xs) λb hb=>h b (by simp only[cw,pj];exact .inr hb)]
theorem qY{b:Nat}:∀{us:List (List AV)}{n:Nat},cw b (us.take n)=true->cw b us=true
 |[],n,h=>by simp at h;exact h
 |x::xs,0,h=>by simp[cw]at h
 |x::xs,n+1,h=>by
  simp only[List.take_succ_cons,cw,pj]at h⊢;exact h.imp id qY
theorem CI{u:AV}(h:∀b,gw own [u] b->cy b=own b):gM cy u=gM own u:=by
 have h0:∀b,u.has b=true->cy b=own b:=λb hb=>h b (.inl (by simp[AV.cN,hb]))
 cases u with
 |bn b sz n=>
  simp only[gM];rw[h0 b (by simp[AV.has])]
  cases hb:own b with
  |none=>rfl
  |some ae=>
   obtain⟨e,yJ,kd,aa,fF⟩:=ae
   cases kd with
   |pure=>exact kj h0
   |flat=>exact kj h0
   |map ag st=>exact kj h0
   |any=>
    simp only;rw[vo λb' jS=>h b' (.inr ⟨b,_,hb,rfl,by simp[AV.cN,AV.has],qY jS⟩)]
 |af b off=>
  simp only[gM];rw[h0 b (by simp[AV.has])]
  cases hb:own b with
  |none=>rfl
  |some ae=>
   obtain⟨e,sz,kd,aa,fF⟩:=ae
   cases kd with
   |pure=>rfl
   |flat=>rfl
   |map ag st=>rfl
   |any=>
    match aa,hb with
    |[],_=>rfl
    |[row],hb=>
     simp only;rw[lF λb' jS=>h b' (.inr ⟨b,_,hb,rfl,by simp[AV.cN,AV.has],by simp[cw,jS]⟩)]
    |_::_::_,_=>rfl
 |agg xs=>
  simp only[gM];rw[lF λb hb=>h0 b (by simpa[AV.has]using hb)]
 |_=>simp only[gM];exact kj h0
theorem Ah:∀{us:List AV},(∀b,gw own us b->cy b=own b)->j7 cy us=j7 own us
 |[],_=>rfl
 |x::xs,h=>by
  simp only[j7];rw[CI λb hb=>h b (hb.mem (by simp)),Ah (us:=xs) λb hb=>h b (hb.sub λb hb=>by simp[AV.cN,hb])]
theorem Gu{u:AV}(h:∀b,gw own [u] b->cy b=own b):view cy u=view own u:=by
 cases u with
 |func f dt=>
  simp only[view];rw[Ah λb hb=>h b (hb.sub λb hb=>by simpa[AV.cN,AV.has]using hb)]
 |_=>simp only[view];exact CI h
theorem CL:∀{us:List AV},(∀b,gw own us b->cy b=own b)->nF cy us=nF own us
 |[],_=>rfl
 |x::xs,h=>by
  simp only[nF];rw[Gu λb hb=>h b (hb.mem (by simp)),CL (us:=xs) λb hb=>h b (hb.sub λb hb=>by simp[AV.cN,hb])]
theorem tf{b:Nat}(h:cy b=own b):iX cy b=iX own b:=by simp only[iX,h]
theorem Oe{u:AV}(h:∀b,u.has b=true->cy b=own b):BT cy u=BT own u:=by
 cases u<;>simp only[BT]
 rename_i b;rw[h b (by simp[AV.has])]
theorem LR{i:JM}{u:AV}(h:∀b,u.has b=true->cy b=own b):Cj i cy u=Cj i own u:=by
 cases u<;>simp only[Cj]
 .rename_i b off;rw[h b (by simp[AV.has])]
 .rename_i b sz k off;rw[h b (by simp[AV.has])]
theorem Iy{i:JM}{u v:AV}(h:∀b,u.has b=true->cy b=own b):wy i cy u v=wy i own u v:=by
 cases u<;>simp only[wy]
 .rename_i b off;rw[h b (by simp[AV.has])]
 .rename_i b sz k off;rw[h b (by simp[AV.has])]
theorem qZ{n:Nat}{u:AV}(h:∀b,u.has b=true->cy b=own b):dA cy n u=dA own n u:=by
 cases u<;>simp only[dA]
 rename_i b sz n;rw[h b (by simp[AV.has])]
theorem Iz{T:dD}{s t:Nat}{u:AV}(h:∀b,u.has b=true->cy b=own b):wA T cy s t u=wA T own s t u:=by
 unfold wA;rw[qZ h]
theorem Gv{dr:Bool}{T:dD}{dst:Option Nat}{t:Nat}{s x:AV}(hs:∀b,s.has b=true->cy b=own b)(hx:∀b,x.has b=true->cy b=own b):rZ dr T cy dst t s x=rZ dr T own dst t s x:=by
 have e:∀n,dA cy n x=dA own n x:=λn=>qZ hx
 cases s<;>simp only[rZ,e]
 rename_i b sz n;rw[hs b (by simp[AV.has])]
theorem Of{T:dD}{t:Nat}{x:AV}{lo hi:Option AV}(hx:∀b,x.has b=true->cy b=own b):Lv T cy t x lo hi=Lv T own t x lo hi:=by
  unfold Lv
  cases T.get t with
  |none=>rfl
  |some ti=>
               cases hk:ti.k<;>simp only[hk]
               rename_i e
               cases T.get e with
               |none=>rfl
               |some ei=>
                 cases x<;>first|rfl|skip
                 rename_i b sz n;have e:=hx b (by simp[AV.has])
                 cases lo with
                 |none=>cases hi<;>rfl
                 |some l=>cases hi with
                   |none=>cases l<;>rfl
                   |some h=>cases l<;>first|rfl|(cases h<;>first|rfl|simp only[e])
theorem Eo{T:dD}{t:Nat}{s x:AV}(hs:∀b,s.has b=true->cy b=own b)(hx:∀b,x.has b=true->cy b=own b):oG T cy t s x=oG T own t s x:=by
  unfold oG
  cases T.get t with
  |none=>rfl
  |some ti=>
               cases hk:ti.k<;>simp only[hk]
               rename_i e
               cases T.get e with
               |none=>rfl
               |some ei=>
                 cases s<;>first|rfl|skip
                 rename_i b sz n;have e:=hs b (by simp[AV.has])
                 cases x<;>first|rfl|simp only[e]
theorem Ai{b:Nat}{u:AV}(h:∀b,u.has b=true->cy b=own b):qI cy b u=qI own b u:=by
 cases u<;>simp only[qI]
 rename_i b' off;rw[h b' (by simp[AV.has])]
theorem xN{b:Nat}:∀{us:List AV},(∀b,AV.cN b us=true->cy b=own b)->nH cy b us=nH own b us
 |[],_=>rfl
 |x::xs,h=>by
  simp only[nH];rw[Ai λb hb=>h b (by simp[AV.cN,hb]),xN (us:=xs) λb hb=>h b (by simp[AV.cN,hb])]
theorem LW{b:Nat}{u:AV}(h:∀b,u.has b=true->cy b=own b):xy cy b u=xy own b u:=by
 cases u with
 |func f dt=>
  simp only[xy];rw[xN λb hb=>h b (by simpa[AV.has]using hb)]
 |_=>simp only[xy];exact Ai h
theorem Aj{b:Nat}:∀{us:List AV},(∀b,AV.cN b us=true->cy b=own b)->nV cy b us=nV own b us
 |[],_=>rfl
 |x::xs,h=>by
  simp only[nV];rw[LW λb hb=>h b (by simp[AV.cN,hb]),Aj (us:=xs) λb hb=>h b (by simp[AV.cN,hb])]
theorem IA{dst:Option Nat}{f:AV}{us:List AV}(h:∀b,AV.cN b us=true->cy b=own b):qJ cy dst f us=qJ own dst f us:=by
 unfold qJ
 split
 .rename_i g b sz n rest
  rw[h b (by simp[AV.cN,AV.has])];have e:∀b,nV cy b rest=nV own b rest:=λb=>Aj λb hb=>h b (by simp[AV.cN,hb])
  simp only[e]
 .rfl
theorem vp:∀{row:List AV},(∀b,AV.cN b row=true->cy b=own b)->fY cy row=fY own row
 |[],_=>rfl
 |u::r,h=>by
  have ih:=vp (row:=r) λb hb=>h b (by simp[AV.cN,hb])
  cases u with
  |bn b sz n=>simp only[fY];rw[h b (by simp[AV.cN,AV.has]),ih]
  |dX b=>simp only[fY];rw[h b (by simp[AV.cN,AV.has]),ih]
  |_=>simp only[fY];rw[ih]
theorem IB{u:AV}(h:∀b,gw own [u] b->cy b=own b):jz cy u=jz own u:=by
 cases u with
 |af b off=>
  have hb:=h b (.inl (by simp[AV.cN,AV.has]));simp only[jz,hb]
  cases Gc:own b with
  |none=>rfl
  |some ae=>
   simp only
   split
   .rename_i row hk hr
    rw[vp λi hi=>h i (.inr ⟨b,ae,Gc,hk,by simp[AV.cN,AV.has],by rw[hr];simp[cw,hi]⟩)]
   .rfl
 |bn b sz n=>simp only[jz];rw[h b (.inl (by simp[AV.cN,AV.has]))]
 |dX b=>simp only[jz];rw[h b (.inl (by simp[AV.cN,AV.has]))]
 |_=>rfl
theorem Ak{ps:List Nat}:∀{us:List AV}{i:Nat},(∀b,gw own us b->cy b=own b)->iY cy ps i us=iY own ps i us
 |[],_,_=>rfl
 |x::xs,i,h=>by
  simp only[iY];rw[IB λb hb=>h b (hb.mem (by simp)),Ak (us:=xs) λb hb=>h b (hb.sub λb hb=>by simp[AV.cN,hb])]
theorem Og{bs:List Nat}{u:AV}(h:∀b,u.has b=true->cy b=own b):xz cy bs u=xz own bs u:=by
 cases u with
 |bn b sz n=>simp only[xz];rw[h b (by simp[AV.has])]
 |af b off=>simp only[xz];rw[h b (by simp[AV.has])]
 |_=>rfl
theorem CM{ps bs:List Nat}:∀{us:List AV}{i:Nat},(∀b,AV.cN b us=true->cy b=own b)->l7 cy ps bs i us=l7 own ps bs i us
 |[],_,_=>rfl
 |x::xs,i,h=>by
  simp only[l7];rw[Og λb hb=>h b (by simp[AV.cN,hb]),CM (us:=xs) λb hb=>h b (by simp[AV.cN,hb])]
theorem Gw{b:Nat}:∀(xs ys:List AV),AV.cN b (xs++ys)=(AV.cN b xs||AV.cN b ys)
 |[],ys=>by simp[AV.cN]
 |x::xs,ys=>by simp[AV.cN,Gw xs ys,Bool.or_assoc]
theorem LX{f:AV}{us:List AV}(h:∀b,gw own (f::us) b->cy b=own b):qK cy f us=qK own f us:=by
 cases f with
 |func g dt=>
  have hr:∀b,gw own (us++dt) b->cy b=own b:=λb hb=>h b (hb.sub λb hb=>by
   rw[Gw,pj]at hb
   rcases hb with hb|hb
   .simp[AV.cN,hb]
   .simp[AV.cN,AV.has,hb])
  have h1:iY cy (posOf g tC) 0 (us++dt)=iY own (posOf g tC) 0 (us++dt):=Ak hr;have h2:∀bs,l7 cy (posOf g tC) bs 0 (us++dt)=l7 own (posOf g tC) bs 0 (us++dt):=λbs=>CM λb hb=>hr b (.inl hb)
  simp only[qK,h1,h2]
 |_=>rfl
theorem IC{T:dD}{t:Nat}{x:AV}(hx:∀b,x.has b=true->cy b=own b):wz T cy t x=wz T own t x:=by
 cases x<;>simp only[wz]
 rename_i b sz lo n;rw[hx b (by simp[AV.has])]
theorem CN{T:dD}{t:Nat}{m k v:AV}(hm:∀b,m.has b=true->cy b=own b):zC T cy t m k v=zC T own t m k v:=by
 unfold zC
 cases T.get t with
 |none=>rfl
 |some i=>
  cases hk:i.k<;>simp only[hk]
  rename_i kt et
  cases T.get kt<;>cases T.get et<;>cases m<;>first|rfl|(rename_i b;simp only[hm b (by simp[AV.has])])
theorem LY{T:dD}{t:Nat}{m k:AV}(hm:∀b,m.has b=true->cy b=own b):Cm T cy t m k=Cm T own t m k:=by
 unfold Cm
 cases T.get t with
 |none=>rfl
 |some i=>
  cases hk:i.k<;>simp only[hk]
  rename_i kt et
  cases T.get kt<;>cases T.get et<;>cases m<;>first|rfl|(rename_i b;simp only[hm b (by simp[AV.has])])
theorem LZ{m k v:AV}(hm:∀b,m.has b=true->cy b=own b):Cn cy m k v=Cn own m k v:=by
 cases m<;>first|rfl|skip
 rename_i b
 cases k<;>first|rfl|skip
 rename_i kk n
 cases kk<;>first|rfl|skip
 cases hv:v.cellsOf<;>simp only[Cn,hv]
 rw[hm b (by simp[AV.has])]
theorem Oh{dr:Bool}{T:dD}{val:Operand->AV}{o:Oper}(h:∀b,gw own (o.op.operands.toList.map val) b->cy b=own b):cQ dr T val cy o=cQ dr T val own o:=by
 have h1:∀x,x∈o.op.operands->∀b,(val x).has b=true->cy b=own b:=λx hx b hb=>h b (.inl (mT (cK.2 ⟨x,by simpa using hx,rfl⟩) hb))
 cases cq:o.op with
 |load t x=>
  simp only[cQ,cq]
  cases T.get t with
  |none=>rfl
  |some i=>exact LR λb hb=>tf (h1 x (by simp[cq,Op.operands]) b hb)
 |store t x y=>
  simp only[cQ,cq]
  cases T.get t with
  |none=>rfl
  |some i=>exact Iy λb hb=>tf (h1 x (by simp[cq,Op.operands]) b hb)
 |unOp op t x=>cases op<;>simp only[cQ,cq]
 |convert s t x=>simp only[cQ,cq,Iz (h1 x (by simp[cq,Op.operands]))]
 |makeFunc fn first dt=>cases fn<;>simp only[cQ,cq]
 |slice t x lo hi mx=>
  have hx:=h1 x (by simp[cq,Op.operands])
  cases mx with
  |none=>
   simp only[cQ,cq];rw[Of hx]
  |some m=>cases lo with
   |none=>simp only[cQ,cq]
   |some l=>cases hi<;>simp only[cQ,cq]
 |call cl=>
  obtain⟨callee,args,ts⟩:=cl
  cases callee with
  |value f=>
   simp only[cQ,cq,xA];have hm:qJ cy o.dst (val f) (args.toList.map val)=qJ own o.dst (val f) (args.toList.map val):=IA λb hb=>h b (.inl (by
    rw[cq];simp only[Op.operands,Call.operands];simp[AV.cN,hb]))
   have hS:qK cy (val f) (args.toList.map val)=qK own (val f) (args.toList.map val):=LX λb hb=>h b (hb.sub λb hb=>by
    rw[cq];simp only[Op.operands,Call.operands];simpa[AV.cN,Bool.or_comm]using hb)
   rw[hS,hm,Gu λb hb=>h b (hb.mem (cK.2 ⟨f,by simp[cq,Op.operands,Call.operands],rfl⟩)),
    CL λb hb=>h b (hb.sub λb hb=>?_)]
   rw[cq];simp only[Op.operands,Call.operands];simp[AV.cN,hb]
  |invoke x m=>simp only[cQ,cq,xA]
  |builtin b=>
   have ha:∀u∈args.toList.map val,∀b,u.has b=true->cy b=own b:=by
    intro u hu b hb;obtain⟨x,hx,rfl⟩:=cK.1 hu;exact h1 x (by rw[cq];simp only[Op.operands,Call.operands];simpa using hx) b hb
   cases b<;>simp only[cQ,cq,xA] <;>revert ha<;>generalize args.toList.map val=us<;>intro ha
   case clear=>
    match us,ts.toList,ha with
    |[x],[t],ha=>exact IC (ha x (by simp))
    |[],_,_=>rfl
    |[_],[],_=>rfl
    |[_],_::_::_,_=>rfl
    |_::_::_,_,_=>rfl
   match us,ts.toList,ha with
   |[s,x],[t,t'],ha=>
    simp only
    cases Nat.beq t t' with
    |true=>rw[Gv (ha s (by simp)) (ha x (by simp)),Eo (ha s (by simp)) (ha x (by simp))]
    |false=>rfl
   |[],_,_=>rfl
   |[_],_,_=>rfl
   |_::_::_::_,_,_=>rfl
   |[_,_],[],_=>rfl
   |[_,_],[_],_=>rfl
   |[_,_],_::_::_::_,_=>rfl
 |lookup t m k ok=>
  simp only[cQ,cq,JP];rw[Oe (h1 m (by simp[cq,Op.operands]))]
 |mapUpdate t m k v=>
  have hm:=h1 m (by simp[cq,Op.operands]);simp only[cQ,cq];exact CN hm
 |insert t m k v=>
  have hm:=h1 m (by simp[cq,Op.operands]);simp only[cQ,cq];exact CN hm
 |mapEntry t m k=>
  have hm:=h1 m (by simp[cq,Op.operands]);simp only[cQ,cq];exact LY hm
 |entryStore t m s v=>
  have hm:=h1 m (by simp[cq,Op.operands]);simp only[cQ,cq];exact LZ hm
 |makeMap t q=>cases q<;>simp only[cQ,cq]
 |next x q=>cases q<;>simp only[cQ,cq]
 |_=>simp only[cQ,cq]
end
end Go.an
