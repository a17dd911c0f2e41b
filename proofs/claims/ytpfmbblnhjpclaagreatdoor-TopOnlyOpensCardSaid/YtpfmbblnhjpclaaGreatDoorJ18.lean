import Derived.Test.YtpfmbblnhjpclaaGreatDoorJ17
set_option linter.unusedVariables false
set_option linter.unusedSimpArgs false
namespace Go.an
open Go.RowKit
section
variable{P:Program} {T:dD} {E:Env} {N:Nat} {ks wk ps:List Nat} {gs:List (Nat×List Nat)} {m:Nat} {ds:List Deferred} {ws:List Nat}
theorem IY{B:Nat}{ds:List Deferred}{w w':World}(h:Marks B ds w)(hw:∀(D:Nat),w.heap[D]?=some (.deferred (some []))->w'.heap[D]?=some (.deferred (some []))):Marks B ds w':=
 ⟨λd hd=>let⟨D,h1,h2,h3⟩:=h.all d hd;⟨D,h1,h2,hw D h3⟩,h.nd⟩
theorem uj{w w':World}(h:Below w.heap.size w w'):Step (λ_=>False) w w':=
 ⟨⟨h.size,λg hg _=>h.block g hg,λg aJ e hc=>⟨aJ,(h.block g (bd.1 hc).1).trans hc,rfl⟩⟩,h.os,h.tape,h.output⟩
theorem GL(hT:br P T)(h1:bW T=true)(hN:E.N=N)(LD:P.follows .mixedOrders=true)(hp:∀b,bm b ps=false->E.gK b=none){K:KM}{c:aM}{a:Act}{w:World}{g:Operand}{p:Nat}{assign body:Code}{Q:Exit->Act->World->Prop}
  (hs:bC E K c a w)(hM:Marks E.w0.heap.size ds w){f:FuncId}{us:List AV}(hg:j8 c g=.func f us)(hid:AV.cW us=true){xs:Nat->Option AV}(XZ:S5 P f us xs)(Eg:∀i x,xs i=some x->uh x=true)
  (hpw:bm p ws=true)(hpN:p<E.N)(hda:cr assign=true)(hdb:cr body=true)(hra:rk gs ws assign=true)(JZ:rk gs ws body=true)
  (GM:List (Nat×AV))(hf0:xU ws GM=true)(jF:∀t,lk GM t=lk c.fr t∨lk GM t=.top)
  (I:Nat->List (Nat×ak)->Prop)(Jx:Ex->List (Nat×ak)->Prop)(h0:I 0 c.O)(Nb:Nat)(hI:∀i O,I i O->i<Nb)
  (xL:∀i x O,xs i=some x->I i O->mY P T N ks gs wk ps assign ⟨(p,x)::GM,O⟩ λe c1=>e=.normal/\mY P T N ks gs wk ps body c1 λe c2=>∃O2,aj ps c2 ⟨GM,O2⟩/\match e with|.normal=>I (i+1) O2|e=>Jx e O2)
  (hQ:∀(e:Ex) O' K' w' D,(match e with|.normal=>∃i,xs i=none/\I i O'|e=>Jx e O')->bC E K' ⟨GM,O'⟩ a w'->Marks E.w0.heap.size ({target:=.collected D,args:=#[]}::ds) w'->Q e.jj (wd ({target:=.collected D,args:=#[]}::ds) a) w'):
  (Code.rangeFunc g #[p] assign body).wpIn (xT none) m P Q (wd ds a) w:=by
 refine wpIn_rangeFunc ?_;intro fn FB;obtain⟨rec,AT⟩:∃rec:LoopState->Option Code->Loop,rec=λst pe=>{state:=st,pending:=pe,fn,tmps:=a.tmps,params:=#[p],assign,body,defers:=w.heap.size}:=⟨_,rfl⟩
 obtain⟨W1,hW1⟩:∃W1,(w.alloc (.deferred (some []))).alloc (.loop (rec .ready none))=W1:=⟨_,rfl⟩;have S6:W1.heap[w.heap.size+1]?=some (.loop (rec .ready none)):=by
  rw[<-hW1];have:=World.alloc_heap_new (w.alloc (.deferred (some []))) (.loop (rec .ready none));rwa[World.size_alloc]at this
 have LH:W1.heap[w.heap.size]?=some (.deferred (some [])):=by
  rw[<-hW1];exact(Below.heap_alloc _ _ _ (by simp)).trans (World.alloc_heap_new w _)
 have abh:W1.heap.size=w.heap.size+2:=by rw[<-hW1];simp
 have hB:E.w0.heap.size<=w.heap.size:=hs.ext.size;have ho1:qo E.w0.heap.size w W1:=by
  rw[<-hW1];exact(qo.alloc w _ hB).trans (qo.alloc _ _ (by simp;omega))
 have N8:dv (λ_=>False) w W1:=by
  refine⟨ho1.size,λg hg _=>?_,λg aJ e hc=>⟨aJ,ho1.data _ _ hc rfl,rfl⟩⟩;rw[<-hW1];exact(Below.heap_alloc _ _ g (by simp;omega)).trans (Below.heap_alloc w _ g hg)
 have hM1:Marks E.w0.heap.size ds W1:=IY hM λD hD=>(N8.block D (bd.1 hD).1 id).trans hD
 have lS:bC E K c a W1:=hs.vG ho1;have abi:bC E K ⟨GM,c.O⟩ a W1:=lS.uS jF λ_ _ h=>h
 obtain⟨vs,ev,vl,vv⟩:=VR.fJ ((fh lS).at hg);have hev:(wd ds a).eval g=.func (.func f) #[] vs:=ev;obtain⟨⟨fn0,ahO,ek,mj⟩,hsq⟩:=XZ;have Mi:a.defers=[]:=hs.defers;refine⟨w.heap.size+1,[{target:=.collected w.heap.size,args:=#[]}],W1,{target:=.fn (.func f) vs,args:=#[.func (.yield (w.heap.size+1)) #[] #[]]},W1,f,
  #[.func (.yield (w.heap.size+1)) #[] #[]]++vs,W1,?_,?_,λ_ _=>trivial,?_,λh=>(by cases h),?_⟩
 .rw[<-hW1,AT];exact run_enterLoop_outer _ _ _ _ _
 .simp only[resolve,hev]
  simp[go_sem]
 .simp only[invoke,callFunc,Sem.run_bind,run_program,Result.andThen_ok]
  simp[ahO,ek,mj]
 generalize hl:w.heap.size+1=l at*;have ny:¬bH K c.O l:=lS.oW S6 rfl;have hnD:¬bH K c.O w.heap.size:=lS.oW LH rfl;have hls:l<W1.heap.size:=by omega
 let E1:=E.at K c.O W1 lS.ext lS.fI
 have abj:bC E1 K ⟨GM,c.O⟩ a W1:=abi.start;have key:CallsIn Fence.wide 1 P f (#[.func (.yield l) #[] #[]]++vs) W1 λe W'=>(∃v,e=.returned v)/\((∃i,xs i=none/\∃K' O',I i O'/\bC E1 K' ⟨GM,O'⟩ a W')∨
   ∃e K' O',e≠Ex.normal/\Jx e O'/\bC E K' ⟨GM,O'⟩ a W'/\W'.heap[l]?=some (.loop (rec .done (some (Kn e))))/\∀(D:Nat),W1.heap[D]?=some (.deferred (some []))->W'.heap[D]?=some (.deferred (some []))):=by
  refine hsq (XX E K c.O) W1 vs (E.kS W1 lS.ext) vl (λj u c hu hc=>mU (eK hid hu) (vv j u c hu hc)) l 0 Nb (λi W=>∃K' O',I i O'/\bC E1 K' ⟨GM,O'⟩ a W) _ (λi W ⟨K',O',h,_⟩=>hI i O' h) ?_ ?_ ?_ (λW ⟨_,_,_,_,_,eh,_⟩=>E.kS W eh.ext) ?_ ⟨K,c.O,h0,abj⟩
  .rintro i W W' ⟨K',O',hi,eh⟩ hb
   exact⟨K',O',hi,eh.move (uj hb)⟩
  .rintro W W' ⟨e,K',O',dW,hj,eh,Ko,No⟩ hb
   exact⟨e,K',O',dW,hj,eh.move (uj hb),(hb.block l (bd.1 Ko).1).trans Ko,λD hD=>(hb.block D (bd.1 (No D hD)).1).trans (No D hD)⟩
  .rintro i W ⟨K',O',hi,eh⟩
   exact⟨⟨eh.ext.size,λg hg hx=>eh.ext.block g hg λh=>hx (.inl h),eh.ext.shape⟩,E1.kS W eh.ext⟩
  ·
   rintro i x W v ⟨K',O',hi,eh⟩ hx Gb;have hlW:W.heap[l]?=some (.loop (rec .ready none)):=(eh.ext.block l hls ny).trans S6;have hy:=run_yield (P:=P) (args:=#[v]) hlW (by rw[AT];rfl);rw[AT]at hy;refine⟨fn,_,assign,body,hy,roundIn_of_wpIn (F:=Fence.wide) trivial ?_⟩;have hpx:=Eg i x hx
   let ar:Act:={tmps:=a.tmps.setIfInBounds p v,defers:=[]}
   have Vm:bC E1 K' ⟨(p,x)::GM,O'⟩ ar W:=by
    have sv:iL p GM=true:=by
     clear xL hQ hsq abi abj eh jF
     induction GM with
     |nil=>rfl
     |cons y r ih=>
      obtain⟨t,u⟩:=y;simp only[xU,aA,zr]at hf0;have h2:=ih hf0.2
      cases u<;>first|exact h2|(exact absurd hf0.1.2 (by simp[ir]))
    have:=bC.put (c:=⟨GM,O'⟩) (dst:=some p) (u:=x) (v:=v) eh (by simp only[fg,aA];exact⟨by rw[show E1.N=E.N from rfl];simpa[Nat.blt_eq]using hpN,sv⟩) λd _=>FV.of (AS hpx Gb)
    have he:a.put (some p) v=ar:=by show({a with tmps:=_}:Act)=_;rw[Mi]
    rw[he]at this;exact this
   have ahP:Sm ws a ar:=(Sm.refl ws a).put (d:=some p) (λt e=>by cases e;exact hpw) v;have abk:(#[p].zip #[v]).foldl (λt (p,v)=>t.setIfInBounds p v) a.tmps=a.tmps.setIfInBounds p v:=by simp
   have har:({tmps:=(#[p].zip #[v]).foldl (λt (p,v)=>t.setIfInBounds p v) a.tmps,defers:=[]}:Act)=wd [] ar:=by rw[abk];rfl
   rw[har];refine fB (E:=E1) (ds:=[]) (a0:=a) (r:=some l) (m:=0) hT h1 hN LD hp assign _ _ _ ar W hda hra (xL i x O' hx hi) (λe c1 a1 OY hq wY ahQ=>?_) ⟨K',Vm⟩ ahP;obtain⟨rfl,hbd⟩:=hq;obtain⟨K1,wY⟩:=wY;have hlA:OY.heap[l]?=some (.loop (rec .ready none)):=(wY.ext.block l hls ny).trans S6;refine⟨_,run_beginRound hlA (by rw[AT]),?_⟩;generalize hbz:({rec .ready none with state:=.busy}:Loop)=bz;have ho2:qo E.w0.heap.size OY (OY.putObj l (.loop bz)):=qo.putObj _ hlA rfl (by omega);have aC:l<OY.heap.size:=(bd.1 hlA).1;have hl2:(OY.putObj l (.loop bz)).heap[l]?=some (.loop bz):=World.putObj_heap_same aC;have abl:∀g,g≠l->(OY.putObj l (.loop bz)).heap[g]?=OY.heap[g]?:=λg hg=>World.putObj_heap_other hg
   have Io:(OY.putObj l (.loop bz)).heap.size=OY.heap.size:=by simp
   generalize hW2:OY.putObj l (.loop bz)=W2 at*;have hsE:bC E K1 c1 a1 W2:=wY.CZ.vG ho2;refine fB (E:=E.at K1 c1.O W2 hsE.ext hsE.fI) (ds:=[]) (a0:=a) (r:=some l) (m:=0) hT h1 hN LD hp body c1 _ _ a1 W2 hdb JZ hbd (λe c2 a2 W3 hq uA ahR=>?_) ⟨K1,hsE.start⟩ ahQ;obtain⟨O2,hwk,hq⟩:=hq;obtain⟨K3,uA⟩:=hwk (E.at K1 c1.O W2 hsE.ext hsE.fI) _ _ hp uA;have hl3:W3.heap[l]?=some (.loop bz):=(uA.ext.block l (bd.1 hl2).1 (hsE.oW hl2 rfl)).trans hl2;have X2:bC E K3 ⟨GM,O2⟩ a W3:=uA.CZ.back hf0 ahR (by rw[hs.size,uA.size];rfl) Mi;have OZ:∀g,bH K1 c1.O g->bH K c.O g∨W1.heap.size<=g:=λg ⟨b,hb,hk⟩=>wY.fI b g hb hk
   have gx:∀g,g<W1.heap.size->¬bH K c.O g->g≠l->W3.heap[g]?=W1.heap[g]?:=λg hg hx dW=>by
    have e1:=wY.ext.block g hg hx;have e2:=abl g dW;have e3:=uA.ext.block g (by show g<W2.heap.size;rw[Io];exact ew hg wY.ext.size) (λh=>(OZ g h).elim hx (λh=>by omega));exact e3.trans (e2.trans e1)
   have RF:∀(D:Nat),W1.heap[D]?=some (.deferred (some []))->W3.heap[D]?=some (.deferred (some [])):=λD hD=>
    (gx D (bd.1 hD).1 (lS.oW hD rfl) (by rintro rfl;rw[S6]at hD;cases hD)).trans hD
   have fin:∀(jump:Option Code),(Instr.endRound l jump).run P W3=.ok (.bool jump.isNone) (W3.putObj l (.loop (rec (if jump.isNone then .ready else .done) jump))):=λjump=>by
    have:=run_endRound (P:=P) jump hl3;rw[<-hbz,AT]at this;rw[AT];exact this
   have ho4:∀(o':Obj),qo E.w0.heap.size W3 (W3.putObj l o'):=λo'=>qo.putObj _ hl3 rfl (by omega)
   have X3:l<W3.heap.size:=(bd.1 hl3).1
   cases e with
   |normal=>
    refine⟨_,_,fin none,.inl ⟨rfl,K3,O2,hq,?_⟩⟩;have hs4:bC E K3 ⟨GM,O2⟩ a (W3.putObj l (.loop (rec .ready none))):=X2.vG (ho4 _);refine hs4.Vl ⟨?_,?_,?_,?_,λg hg hx=>?_,λg aJ e hc=>?_⟩ λb g hb hk=>?_
    .exact uA.ext.os.trans (ho2.os.trans wY.ext.os)
    .exact uA.ext.tape.trans (ho2.tape.trans wY.ext.tape)
    .exact uA.ext.output.trans (ho2.output.trans wY.ext.output)
    .exact du wY.ext.size (du ho2.size (du uA.ext.size (ho4 _).size))
    .by_cases e:g=l
     .subst e
      exact(World.putObj_heap_same X3).trans S6.symm
     .exact(World.putObj_heap_other e).trans (gx g hg hx e)
    .obtain⟨c1',e1,e2⟩:=wY.ext.shape g aJ e hc
     obtain⟨c2',e3,e4⟩:=uA.ext.shape g c1' e (ho2.data _ _ e1 rfl);exact⟨c2',(ho4 _).data _ _ e3 rfl,e4.trans e2⟩
    .rcases uA.fI b g hb hk with h|h
     .exact OZ g h
     .have h:W2.heap.size<=g:=h
      have:=wY.ext.size;exact .inr (by have:W1.heap.size<=OY.heap.size:=this;omega)
   |exit id=>
    exact⟨_,_,fin (some (.exit id)),.inr ⟨rfl,.exit id,K3,O2,(by simp),hq,X2.vG (ho4 _),World.putObj_heap_same X3,λD hD=>(World.putObj_heap_other (by rintro rfl;rw[S6]at hD;cases hD)).trans (RF D hD)⟩⟩
   |ret=>
    exact⟨_,_,fin (some .ret),.inr ⟨rfl,.ret,K3,O2,(by simp),hq,X2.vG (ho4 _),World.putObj_heap_same X3,λD hD=>(World.putObj_heap_other (by rintro rfl;rw[S6]at hD;cases hD)).trans (RF D hD)⟩⟩
 have abm:({wd ds a with defers:=[{target:=.collected w.heap.size,args:=#[]}]++(wd ds a).defers}:Act)=wd ({target:=.collected w.heap.size,args:=#[]}::ds) a:=by
  simp[wd,Mi]
 have hmk:∀(W':World),(∀(D:Nat),W1.heap[D]?=some (.deferred (some []))->W'.heap[D]?=some (.deferred (some [])))->∀(o':Obj),Marks E.w0.heap.size ({target:=.collected w.heap.size,args:=#[]}::ds) (W'.putObj l o'):=λW' hD o'=>by
  have abn:∀(D:Nat),W1.heap[D]?=some (.deferred (some []))->(W'.putObj l o').heap[D]?=some (.deferred (some [])):=λD h=>
   (World.putObj_heap_other (by rintro rfl;rw[S6]at h;cases h)).trans (hD D h)
  refine⟨λd hd=>?_,gF.2 ⟨λd hd D D' e1 e2=>?_,hM.nd⟩⟩
  .rcases bK.1 hd with rfl|hd
   .exact⟨_,rfl,hB,abn _ LH⟩
   .obtain⟨D,q1,q2,q3⟩:=hM1.all d hd
    exact⟨D,q1,q2,abn D q3⟩
  .obtain⟨D2,rfl,_,q3⟩:=hM.all d hd
   cases e1;cases e2
   exactλe=>by have:=(bd.1 q3).1;omega
 have ahS:CallsIn (xT none) (m-1) P f (#[.func (.yield l) #[] #[]]++vs) W1 _:=(callsIn_wide (n:=m-1)).2 ((callsIn_wide (n:=1)).1 key);refine ahS.mono ?_;rintro e W' ⟨⟨v,rfl⟩,⟨i,hxi,K',O',hi,eh⟩|⟨e,K',O',dW,hj,eh,Ko,No⟩⟩
 .have hlW:W'.heap[l]?=some (.loop (rec .ready none)):=(eh.ext.block l hls ny).trans S6
  have wW:=run_endLoop (P:=P) hlW (by rw[AT];simp);rw[AT]at wW;refine⟨none,_,wW,?_⟩
  show Q .normal _ _
  rw[abm];exact hQ .normal O' K' _ _ ⟨i,hxi,hi⟩ (eh.CZ.vG (qo.putObj _ hlW rfl (by omega))) (hmk W' (λD hD=>(eh.ext.block D (bd.1 hD).1 (lS.oW hD rfl)).trans hD) _)
 .have wW:=run_endLoop (P:=P) Ko (by rw[AT];simp)
  rw[AT]at wW;refine⟨some (Kn e),_,wW,?_⟩
  show(Kn e).wpIn _ _ _ _ _ _
  rw[abm];have:=hQ e O' K' _ w.heap.size (by cases e<;>first|exact absurd rfl dW|exact hj) (eh.vG (qo.putObj (.loop {rec .done (some (Kn e))with state:=.exhausted}) Ko rfl (by omega))) (hmk W' No _);rw[AT]at this
  cases e with
  |normal=>exact absurd rfl dW
  |exit id=>exact wpIn_exit this
  |ret=>exact wpIn_ret this
end
section
variable{P:Program} {T:dD} {E:Env} {N:Nat} {m:Nat} {ws:List Nat} {aB:Array Oper} {F:Fence}
theorem fM{Q:Exit->Act->World->Prop}{is:List Nat}:∀(l:List Nat)(a:Act)(w:World),
  wpOpsIn F m P aB (λe a w=>match e with|.normal=>wpOpsIn F m P aB Q is a w|e=>Q e a w) l a w->wpOpsIn F m P aB Q (l++is) a w
 |[],a,w,h=>h
 |i::l,a,w,h=>by
  rw[nB,wpOpsIn_cons];rw[wpOpsIn_cons]at h;unfold wpOpIn at h⊢
  cases ho:aB[i]? with
  |none=>rw[ho]at h;exact fM l a w h
  |some o=>
   rw[ho]at h;simp only at h⊢
   split
   .rename_i hw
    rw[if_pos hw]at h;refine⟨h.1,?_⟩;have h2:=h.2;generalize(o.semAt F.round a.eval).run P w=res at h2⊢
    cases res with
    |ok x w'=>
     cases x<;>simp only[Oper.uponIn]at h2⊢<;>
     first
      |exact fM l _ _ h2
      |exact⟨h2.1,CallsIn.mono h2.2 (λe w'' he=>by cases e<;>first|exact fM l _ _ he|exact he|(obtain⟨a,w,hh⟩:=he;exact⟨a,w,hh⟩))⟩
      |exact⟨h2.1,RowsIn.mono h2.2 (λ_ _ he=>fM l _ _ he)⟩
      |exact⟨h2.1,RoundIn.mono h2.2 (λe w'' he=>by cases e<;>first|exact fM l _ _ he|exact he|(obtain⟨a,w,hh⟩:=he;exact⟨a,w,hh⟩))⟩
      |exact h2
    |halt x w'=>cases x<;>simp only[Oper.uponIn]at h2⊢<;>exact h2
   .rename_i hw
    rw[if_neg hw]at h;exact⟨h.1,fM l _ _ h.2⟩
theorem S7(hT:br P T)(h1:bW T=true)(hN:E.N=N){dm:List (Nat×Bool)}{A:Acc}{i n:Nat}{l:List Oper}{c:aM}{a:Act}{w:World}{Kk:aM->Prop}{Q:Exit->Act->World->Prop}{is:List Nat}
  (hl:∀j,j<l.length->l[j]?=aB[i+j]?)(hn:l.length=n)(hd:oh ws aB.toList=true)(h:cZ false P T N dm aB A i l c Kk)(hs:SR E c a w)
  (hQ:∀c a' w,Kk c->SR E c a' w->Sm ws a a'->wpOpsIn (xT none) m P aB Q is a' w):wpOpsIn (xT none) m P aB Q (List.range' i n++is) a w:=by
 have:=gd (P:=P) (is:=[]) (n:=n) (Q:=λe a w=>e=Exit.normal/\∃c,Kk c/\SR E c a w) hT h1 hN hl hn h (λc a w hk hs=>⟨rfl,c,hk,hs⟩) hs;rw[dN]at this;refine fM _ _ _ ?_;have h2:=AQ (r:=none) (n:=m) (ds:=[]) (a0:=a) (Q':=λe a w=>match e with|.normal=>wpOpsIn (xT none) m P aB Q is a w|e=>Q e a w) hd (by rintro⟨a,w,h,_⟩;cases h) (λe a' w ku hq=>by
  obtain⟨rfl,c,hk,hs⟩:=hq;have:=hQ c a' w hk hs ku;rwa[show wd [] a'=a' from by simp[wd]]) _ _ _ (Sm.refl ws a) this
 rwa[show wd [] a=a from by simp[wd]]at h2
theorem O0{i l m':Nat}{o:Oper}{f x:Operand}{ts:Array TypeId}{a:Act}{w:World}{v:Value}{R:Ending->World->Prop}{K:Act->World->Prop}{Q:Exit->Act->World->Prop}
  (ho:aB[i]?=some o)(cq:o.op=.call {callee:=.value f,args:=#[x],argTypes:=ts})(hg:o.guard=none)(hf:a.eval f=.func (.yield l) #[] #[])(hv:a.eval x=v)
  (hy:YieldAt Fence.wide m' P l #[v] w R)(hk:∀e w',R e w'->∃u,e=.returned u/\K (a.put o.dst u) w'):wpOpIn (xT none) m P aB Q i K a w:=by
 obtain⟨fn,tmps,assign,body,hr,hR⟩:=hy;unfold wpOpIn;rw[ho];simp only;rw[if_pos (dS hg)];refine⟨λ_ _=>trivial,?_⟩;have Ck:(o.semAt (xT none).round a.eval).run P w=.ok (.round l fn tmps assign body) w:=by
  show(execOp a.eval o).run P w=_
  simp only[execOp,cq,resolve,hf,Deferred.ofValue,Sem.run_bind,Sem.run_pure,Result.andThen_ok,invoke];simp[hv,hr]
 rw[Ck];refine⟨λh=>(by cases h),?_⟩;have hR2:RoundIn Fence.wide (m-1) P l fn tmps assign body w R:=⟨trivial,λc cs _=>hR.2 c cs (room_wide _)⟩;have hR3:RoundIn (xT none) (m-1) P l fn tmps assign body w R:=hR2;refine hR3.mono λe w' he=>?_
 obtain⟨u,rfl,hK⟩:=hk e w' he;exact hK
end
def kx:Code->List Nat
 |.region _ aB _=>aB.toList.filterMap (·.dst)
 |.seq x y=>kx x++kx y
 |.cond _ x y=>kx x++kx y
 |.block _ b=>kx b
 |.loop b=>kx b
 |_=>[]
def GN(p:Nat)(assign body:Code):List Nat:=p::(kx assign++kx body)
def Vn(gs:List (Nat×List Nat))(N p:Nat)(assign body:Code):Bool:=
 Nat.blt p N&&cr assign&&cr body&&rk gs (GN p assign body) assign&&rk gs (GN p assign body) body
def outer(ks ws:List Nat):List Nat:=ks.filter λt=> !bm t ws
theorem IZ(fr:List (Nat×AV))(ks ws:List Nat):xU ws (gH fr (outer ks ws))=true:=by
 unfold outer
 induction ks with
 |nil=>rfl
 |cons t ts ih=>
  by_cases h:bm t ws=true
  .rw[ct (by simp[h])];exact ih
  .have h':bm t ws=false:=by simpa using h
   rw[bP (by simp[h'])];simp only[gH]
   split<;>first|exact ih|skip
   rename_i v h1 h2 h3;simp only[xU,h',aA,Bool.not_false,rQ];refine⟨?_,ih⟩
   cases hv:lk fr t<;>first|rfl|exact absurd hv (h3 _ _ _)
def Mj(P:Program)(T:dD)(N:Nat)(ks:List Nat)(gs:List (Nat×List Nat))(wk ps:List Nat):Code->aM->(Ex->aM->Prop)->Prop
 |.seq x y,c,Q=>Mj P T N ks gs wk ps x c λe c'=>match e with
  |.normal=>Mj P T N ks gs wk ps y c' Q
  |e=>Q e c'
 |.cond x thn els,c,Q=>match j8 c x with
  |.bool b=>(b=true->Mj P T N ks gs wk ps thn c Q)/\(b=false->Mj P T N ks gs wk ps els c Q)
  |_=>False
 |.block id b,c,Q=>Mj P T N ks gs wk ps b c λe c'=>match e with
  |.exit HZ=>match Nat.beq HZ id with|true=>Q .normal c'|false=>Q (.exit HZ) c'
  |e=>Q e c'
 |.loop b,c,Q=>∃(I:Nat->aM->Prop),(∃n c',aj ps c c'/\I n c')/\∀n c,I n c->Mj P T N ks gs wk ps b c λe c'=>match e with
  |.normal=>∃m wD,aj ps c' wD/\m<n/\I m wD
  |e=>Q e c'
 |.rangeFunc g pa assign body,c,Q=>match pa.toList with
  |[p]=>match j8 c g with
   |.func f us=>(AV.cW us&&Vn gs N p assign body)=true/\∃xs,S5 P f us xs/\(∀i x,xs i=some x->uh x=true)/\∃(I:Nat->List (Nat×ak)->Prop)(Jx:Ex->List (Nat×ak)->Prop)(Nb:Nat),I 0 c.O/\(∀i O,I i O->i<Nb)/\
     (∀i x O,xs i=some x->I i O->mY P T N ks gs wk ps assign ⟨(p,x)::gH c.fr (outer ks (GN p assign body)),O⟩ λe c1=>e=.normal/\mY P T N ks gs wk ps body c1 λe c2=>∃O2,aj ps c2 ⟨gH c.fr (outer ks (GN p assign body)),O2⟩/\match e with|.normal=>I (i+1) O2|e=>Jx e O2)/\
     (∀i O',xs i=none->I i O'->Q .normal ⟨gH c.fr (outer ks (GN p assign body)),O'⟩)/\(∀e O',e≠.normal->Jx e O'->Q e ⟨gH c.fr (outer ks (GN p assign body)),O'⟩)
   |_=>False
  |_=>False
 |.region id aB dr,c,Q=>(cr (.region id aB dr)&&rk gs (kx (.region id aB dr)) (.region id aB dr))=true/\mY P T N ks gs wk ps (.region id aB dr) c Q
 |.skip,c,Q=>Q .normal c
 |.exit id,c,Q=>Q (.exit id) c
 |.ret,c,Q=>Q .ret c
 |_,_,_=>False
section
variable{P:Program} {T:dD} {E:Env} {N:Nat} {ks wk ps:List Nat} {gs:List (Nat×List Nat)} {m:Nat}
theorem lv(hT:br P T)(h1:bW T=true)(hN:E.N=N)(hm:P.follows .mixedOrders=true)(hp:∀b,bm b ps=false->E.gK b=none):
  ∀(code:Code)(c:aM)(Q:Ex->aM->Prop)(Q':Exit->Act->World->Prop)(a:Act)(w:World)(ds:List Deferred),Mj P T N ks gs wk ps code c Q->
   (∀e c a w ds,Q e c->SR E c a w->Marks E.w0.heap.size ds w->Q' e.jj (wd ds a) w)->SR E c a w->Marks E.w0.heap.size ds w->code.wpIn (xT none) m P Q' (wd ds a) w
 |.skip,c,Q,Q',a,w,ds,h,hQ,hs,hM=>wpIn_skip (hQ .normal c a w ds h hs hM)
 |.region id aB dr,c,Q,Q',a,w,ds,h,hQ,⟨K,hs⟩,hM=>by
  obtain⟨hc,h⟩:=h;simp only[aA]at hc;exact Mh hT h1 hN hm hp hc.1 hc.2 h hs hM λe c' a' w' hq eh hM' _=>hQ e c' a' w' ds hq eh hM'
 |.seq x y,c,Q,Q',a,w,ds,h,hQ,hs,hM=>by
  refine wpIn_seq (lv hT h1 hN hm hp x c _ _ a w ds h (λe c a w ds hq hs hM=>?_) hs hM)
  cases e with
  |normal=>exact lv hT h1 hN hm hp y c Q Q' a w ds hq hQ hs hM
  |exit id=>exact hQ _ c a w ds hq hs hM
  |ret=>exact hQ _ c a w ds hq hs hM
 |.cond x t e,c,Q,Q',a,w,ds,h,hQ,hs,hM=>by
  simp only[Mj]at h
  split at h
  .rename_i b hb
   exact wpIn_cond_split (a:=wd ds a) (by rw[EC];exact Au hs hb) (λht=>lv hT h1 hN hm hp t c Q Q' a w ds (h.1 ht) hQ hs hM) (λht=>lv hT h1 hN hm hp e c Q Q' a w ds (h.2 ht) hQ hs hM)
  .exact h.elim
 |.block id b,c,Q,Q',a,w,ds,h,hQ,hs,hM=>by
  refine wpIn_block (lv hT h1 hN hm hp b c _ _ a w ds h (λe c a w ds hq hs hM=>?_) hs hM)
  cases e with
  |normal=>exact hQ _ c a w ds hq hs hM
  |exit HZ=>
   simp only[Ex.jj,Exit.inBlock];simp only at hq
   split at hq
   .rename_i he
    rw[if_pos (beq_true he)];exact hQ .normal c a w ds hq hs hM
   .rename_i he
    rw[if_neg (beq_false he)];exact hQ (.exit HZ) c a w ds hq hs hM
  |ret=>exact hQ _ c a w ds hq hs hM
 |.exit id,c,Q,Q',a,w,ds,h,hQ,hs,hM=>wpIn_exit (hQ (.exit id) c a w ds h hs hM)
 |.ret,c,Q,Q',a,w,ds,h,hQ,hs,hM=>wpIn_ret (hQ .ret c a w ds h hs hM)
 |.loop b,c,Q,Q',a,w,ds,h,hQ,hs,hM=>by
  obtain⟨I,⟨n,c',hw,hI⟩,xL⟩:=h;refine wpIn_loop_ghost (λn a' w=>∃a ds,a'=wd ds a/\Marks E.w0.heap.size ds w/\∃c,I n c/\SR E c a w) n ⟨a,ds,rfl,hM,c',hI,hw E a w hp hs⟩ ?_;rintro n a' w ⟨a,ds,rfl,hM,c,hI,hs⟩;refine lv hT h1 hN hm hp b c _ _ a w ds (xL n c hI) (λe c a w ds hq hs hM=>?_) hs hM
  cases e with
  |normal=>
   obtain⟨m,wD,hw,aC,yR⟩:=hq;exact⟨m,aC,a,ds,rfl,hM,wD,yR,hw E a w hp hs⟩
  |exit id=>exact hQ _ c a w ds hq hs hM
  |ret=>exact hQ _ c a w ds hq hs hM
 |.rangeFunc g pa assign body,c,Q,Q',a,w,ds,h,hQ,⟨K,hs⟩,hM=>by
  simp only[Mj]at h
  split at h
  .rename_i p hpa
   split at h
   .rename_i f us hg
    obtain⟨hc,xs,XZ,Eg,I,Jx,Nb,h0,hI,xL,hn,hx⟩:=h;unfold Vn at hc;simp only[aA]at hc;obtain⟨hid,⟨⟨⟨⟨hpN,hda⟩,hdb⟩,hra⟩,JZ⟩⟩:=hc;have ahT:pa=#[p]:=by
     obtain⟨l⟩:=pa;simp at hpa;rw[hpa]
    subst ahT;refine GL (ws:=GN p assign body) hT h1 hN hm hp hs hM hg hid XZ Eg (by simp[GN,bm]) (by rw[hN];simpa[Nat.blt_eq]using hpN) hda hdb hra JZ _ (IZ c.fr ks _) (λt=>yK _ _ t) I Jx h0 Nb hI xL λe O' K' w' D hj eh hM'=>?_
    cases e with
    |normal=>
     obtain⟨i,hi,hj⟩:=hj;exact hQ .normal _ _ _ _ (hn i O' hi hj) ⟨K',eh⟩ hM'
    |exit id=>exact hQ _ _ _ _ _ (hx _ O' (by simp) hj) ⟨K',eh⟩ hM'
    |ret=>exact hQ _ _ _ _ _ (hx _ O' (by simp) hj) ⟨K',eh⟩ hM'
   .exact h.elim
  .exact h.elim
 |.scope _,c,Q,Q',a,w,ds,h,hQ,hs,hM=>h.elim
 |.label _,c,Q,Q',a,w,ds,h,hQ,hs,hM=>h.elim
 |.goto _,c,Q,Q',a,w,ds,h,hQ,hs,hM=>h.elim
 |.refuse _,c,Q,Q',a,w,ds,h,hQ,hs,hM=>h.elim
theorem I0(rv:List ResultVar)(hT:br P T)(h1:bW T=true)(hm:P.follows .mixedOrders=true){f:FuncId}{fn:Func}{code:Code}{args:List AV}{r:AV}
  (hf:P.funcs[f]?=some fn)(hb:fn.body=some code)(ek:(fn.name== "runtime.NumGoroutine")=false)(hn:Nat.ble args.length fn.ntmps=true)(hN:fn.ntmps=N)(hr:fn.results.toList=rv)
  (h:Mj P T N ks gs wk [] code ⟨idx 0 args,[]⟩ (kq T rv r)):Fn P f args r:=
 XY rv hT hf hb ek hn hN hr λE K a w SZ hp hs=>by
  have:=lv (m:=0) hT h1 SZ hm (λb _=>hp b) code _ (kq T rv r) (abg T rv r E) a w [] h (λe c' a' w' ds hq eh hM=>by
   cases e with
   |exit id=>exact hq.elim
   |normal=>obtain⟨c2,h1,h2⟩:=hq;obtain⟨K2,h3⟩:=h1 E a' w' (λb _=>hp b) eh;exact⟨.inl rfl,ds,a',rfl,hM,K2,c2,h3,h2⟩
   |ret=>obtain⟨c2,h1,h2⟩:=hq;obtain⟨K2,h3⟩:=h1 E a' w' (λb _=>hp b) eh;exact⟨.inr rfl,ds,a',rfl,hM,K2,c2,h3,h2⟩) ⟨K,hs⟩ (Marks.nil _ _)
  rwa[show wd [] a=a from by simp[wd]]at this
end
section
variable{P:Program} {T:dD} {N:Nat} {m:Nat}
theorem S8{f:FuncId}{fn:Func}{code:Code}{us:List AV}{xs:Nat->Option AV}(hf:P.funcs[f]?=some fn)(hb:fn.body=some code)(ek:(fn.name== "runtime.NumGoroutine")=false)(hr:fn.results.toList=[])(hN:fn.ntmps=N)(eY:us.length+1<=N)
  (h:∀(X:Nat->Prop)(w:World)(a:Act)(l Nb:Nat)(J:Nat->World->Prop)(Jx:World->Prop),a.tmps.size=N->a.defers=[] ->a.tmps.getD 0 undef=.func (.yield l) #[] #[] ->(∀(j:Nat) u,us[j]?=some u->VR w X K0 u (a.tmps.getD (j+1) undef))->
   (∀i W,J i W->i<Nb)->(∀i W W',J i W->Below W.heap.size W W'->J i W')->(∀W W',Jx W->Below W.heap.size W W'->Jx W')->(∀i W,J i W->dv X w W/\WI W)->(∀W,Jx W->WI W)->
   (∀i x W v,J i W->xs i=some x->VR W X K0 x v->YieldAt Fence.wide 0 P l #[v] W λe W'=>(e=.returned (.bool true)/\J (i+1) W')∨(e=.returned (.bool false)/\Jx W'))->
   J 0 w->code.wpIn (xT none) 0 P (λe a' w'=>(e=.normal∨e=.ret)/\a'.defers=[] /\((∃i,xs i=none/\J i w')∨Jx w')) a w):S5 P f us xs:=by
 refine⟨⟨fn,hf,ek,by rw[hb];rfl⟩,λX w vs kS hl hv l m Nb J Jx hJN hJ hJx hK hWx hy h0=>?_⟩;have key:CallsIn (xT none) 0 P f (#[.func (.yield l) #[] #[]]++vs) w λe W'=>(∃v,e=.returned v)/\((∃i,xs i=none/\J i W')∨Jx W'):=by
  refine callsIn_of_wp hf hb trivial ?_ rfl;have SX:(#[Value.func (.yield l) #[] #[]]++vs).size=us.length+1:=by simp;omega
  subst hN;refine wpIn_mono (h X w _ l Nb J Jx ?_ rfl ?_ (λj u hu=>?_) hJN hJ hJx hK hWx (λi x W v hj hx Gb=>?_) h0) ?_
  .simp;omega
  .rw[dI,Array.append_assoc,D1 (by simp)];rfl
  .have hj:j<vs.size:=by rw[<-hl];exact(aE.1 hu).1
   have:=hv j u vs[j] hu (by simp[hj]);have e:(#[Value.func (.yield l) #[] #[]]++vs++Array.replicate (fn.ntmps-(#[Value.func (.yield l) #[] #[]]++vs).size) undef).getD (j+1) undef=vs[j]:=by
    rw[dI,D1 (by simp;omega),lC (by simp)];simp[hj]
   rw[e];exact this
  .have hy0:=hy i x W v hj hx Gb
   obtain⟨fn',tmps,assign,body,q1,q2⟩:=hy0;exact⟨fn',tmps,assign,body,q1,trivial,λc cs _=>q2.2 c cs (room_wide _)⟩
  .rintro e a' w' ⟨he,hd,hp⟩
   have hq:a'.defers=[] /\∃v,(results fn a'.tmps).run P w'=.ok v w'/\((∃v',Ending.returned v=.returned v')/\((∃i,xs i=none/\J i w')∨Jx w')):=
    ⟨hd,_,gh hr _ _ (vs:=[]) rfl (λj x v h=>by simp at h),⟨_,rfl⟩,hp⟩
   rcases he with rfl|rfl
   .exact hq
   .exact hq
 exact(callsIn_wide (n:=m+1)).2 ((callsIn_wide (n:=0)).1 key)
def GO(w:World)(X:Nat->Prop)(a:Act)(fr:List (Nat×AV)):Prop:=∀t,VR w X K0 (lk fr t) (a.tmps.getD t undef)
theorem am1{X:Nat->Prop}{w:World}{a:Act}(bJ:a.tmps.size=N)(hd:a.defers=[])(kS:WI w){fr:List (Nat×AV)}(jF:GO w X a fr):
  ∃E:Env,E.N=N/\(∀b,E.gK b=none)/\(∀g,XX E K0 [] g->X g)/\E.w0=w/\E.X0=(λ_=>False)/\bC E K0 ⟨fr,[]⟩ a w:=
 ⟨zI (λ_=>False) X w N (λw' hx=>kS.mono hx.size λg hg=>hx.block g hg id),rfl,λ_=>rfl,λg hg=>by
  rcases hg with⟨b,hb,_⟩|hg
  .simp[aK]at hb
  .exact hg.1.1,rfl,rfl,bJ,hd,Ext.refl _ _,λt=>FV.of ((jF t).sub λg _ hg=>by
  rcases hg with⟨b,hb,_⟩|hg
  .simp[aK]at hb
  .exact hg.1.1),λb ae hb=>by simp[aK]at hb,λb ae hb=>by simp[aK]at hb,λb b' g hb=>by simp[aK]at hb,λb g hb=>by simp[aK]at hb,λb x hx=>by cases hx⟩
theorem C2{w0 w:World}{X0:Nat->Prop}(h:Ext X0 w0 w)(hX:X0=λ_=>False):Below w0.heap.size w0 w:=by
 subst hX;exact⟨h.os,h.tape,h.output,h.size,λg hg=>h.block g hg id⟩
theorem FV.plain{w w':World}{X X':Nat->Prop}{K K':KM}{tm:Array Value}{u:AV}{v:Value}(hu:uh u=true)(h:FV w X K tm u v):VR w' X' K' u v:=
 AS hu (h.vr (by rintro d bf u' rfl;cases hu))
theorem wZ(hT:br P T)(h1:bW T=true)(hm:P.follows .mixedOrders=true){ks wk:List Nat}{gs:List (Nat×List Nat)}{ws:List Nat}{X:Nat->Prop}{code:Code}{fr:List (Nat×AV)}{Q:Ex->aM->Prop}{Q':Exit->Act->World->Prop}{a:Act}{w:World}
  (hd:cr code=true)(hr:rk gs ws code=true)(h:mY P T N ks gs wk [] code ⟨fr,[]⟩ Q)(bJ:a.tmps.size=N)(Mi:a.defers=[])(kS:WI w)(jF:GO w X a fr)
  (hQ:∀e c a' w',Q e c->a'.tmps.size=N->a'.defers=[] ->Below w.heap.size w w'->Sm ws a a'->(∀t u,lk c.fr t=u->uh u=true->VR w' X K0 u (a'.tmps.getD t undef))->Q' e.jj a' w'):code.wpIn (xT none) m P Q' a w:=by
 obtain⟨E,hN,hp,hX,O3,hX0,hs⟩:=am1 bJ Mi kS jF;have:=fB (E:=E) (N:=N) (m:=m) (r:=none) (ds:=[]) (a0:=a) hT h1 hN hm (λb _=>hp b) code _ Q Q' a w hd hr h (λe c a' w' hq ⟨K',eh⟩ ku=>by
  rw[show wd [] a'=a' from by simp[wd]];refine hQ e c a' w' hq (by rw[eh.size,hN]) eh.defers ?_ ku λt u hu Eg=>?_
  .have:=eh.ext
   rw[O3]at this;exact C2 this hX0
  .have:=eh.fr t
   rw[hu]at this;exact FV.plain Eg this) ⟨K0,hs⟩ (Sm.refl _ _)
 rwa[show wd [] a=a from by simp[wd]]at this
theorem AU(hT:br P T)(h1:bW T=true){ws:List Nat}{X:Nat->Prop}{aB:Array Oper}{dm:List (Nat×Bool)}{A:Acc}{i n:Nat}{l:List Oper}{fr:List (Nat×AV)}{Kk:aM->Prop}{Q:Exit->Act->World->Prop}{is:List Nat}{a:Act}{w:World}
  (hl:∀j,j<l.length->l[j]?=aB[i+j]?)(hn:l.length=n)(hd:oh ws aB.toList=true)(h:cZ false P T N dm aB A i l ⟨fr,[]⟩ Kk)(bJ:a.tmps.size=N)(Mi:a.defers=[])(kS:WI w)(jF:GO w X a fr)
  (hQ:∀c a' w',Kk c->a'.tmps.size=N->a'.defers=[] ->Below w.heap.size w w'->Sm ws a a'->(∀t u,lk c.fr t=u->uh u=true->VR w' X K0 u (a'.tmps.getD t undef))->(∀t v,lk c.fr t=.lit v->a'.tmps.getD t undef=v)->wpOpsIn (xT none) m P aB Q is a' w'):wpOpsIn (xT none) m P aB Q (List.range' i n++is) a w:=by
 obtain⟨E,hN,hp,hX,O3,hX0,hs⟩:=am1 bJ Mi kS jF;refine S7 (E:=E) (N:=N) (ws:=ws) hT h1 hN hl hn hd h ⟨K0,hs⟩ λc a' w' hq ⟨K',eh⟩ ku=>?_
 refine hQ c a' w' hq (by rw[eh.size,hN]) eh.defers ?_ ku (λt u hu Eg=>?_) λt v hv=>?_
 .have:=eh.ext
  rw[O3]at this;exact C2 this hX0
 .have:=eh.fr t
  rw[hu]at this;exact FV.plain Eg this
 .have:=eh.fr t
  rw[hv]at this
  cases this
  rfl
end
theorem GO.nil{w:World}{X:Nat->Prop}{a:Act}:GO w X a []:=λ_=>.top
theorem GO.cons{w:World}{X:Nat->Prop}{a:Act}{fr:List (Nat×AV)}{t:Nat}{u:AV}(h:VR w X K0 u (a.tmps.getD t undef))(k:GO w X a fr):GO w X a ((t,u)::fr):=by
 intro s;rw[gC]
 by_cases e:t=s
 .subst e;rw[if_pos rfl];exact h
 .rw[if_neg e];exact k s
theorem VR.int_eq{w:World}{X:Nat->Prop}{K:KM}{k:IntKind}{n:Int}{v:Value}(h:VR w X K (.int k n) v):v=.int k n:=by cases h;rfl
theorem VR.ED{w:World}{X:Nat->Prop}{K:KM}{b:Bool}{v:Value}(h:VR w X K (.bool b) v):v=.bool b:=by cases h;rfl
section
variable{E:Env} {K:KM} {c:aM} {a:Act} {w:World}
theorem C4{own:Nat->Option ak}:∀{us dj:List AV},j7 own us=some dj->dj.length=us.length/\∀(j:Nat) u',dj[j]?=some u'->∃u,us[j]?=some u/\gM own u=some u'
 |[],dj,h=>by simp[j7]at h;subst h;simp
 |x::xs,dj,h=>by
  simp only[j7]at h
  split at h
  .rename_i y ys hy mD
   injection h with h
   subst h;obtain⟨h1,h2⟩:=C4 mD;refine⟨by simp[h1],λj u' hj=>?_⟩
   cases j with
   |zero=>simp at hj;subst hj;exact⟨x,by simp,hy⟩
   |succ j=>obtain⟨u,q1,q2⟩:=h2 j u' (by simpa using hj);exact⟨u,by simpa using q1,q2⟩
  .cases h
theorem GQ{Y:Nat->Prop}(hY:∀g,Y g->E.XF g/\g<E.w0.heap.size)(hs:bC E K c a w){u u':AV}{v:Value}(h:view (aK c.O) u=some u')(hv:VR w (XX E K c.O) K u v):VR w Y K0 u' v:=by
 unfold view at h
 split at h
 .rename_i f dt
  split at h
  .rename_i cs dM
   injection h with h
   subst h;obtain⟨vs,rfl,hl,hvv⟩:=VR.fJ hv;obtain⟨h1,h2⟩:=C4 dM;refine .func (by rw[h1,hl]) λj u x hu hx=>?_
   obtain⟨u0,q1,q2⟩:=h2 j u hu;exact ja hY hs q2 (hvv j u0 x q1 hx)
  .cases h
 .exact ja hY hs h hv
theorem bC.O4{fr pJ:List (Nat×AV)}{O:List (Nat×ak)}(hs:bC E K ⟨fr,O⟩ a w)(hf:∀t,lk pJ t=.top∨view (aK O) (lk fr t)=some (lk pJ t)):bC E K ⟨pJ,[]⟩ a w:=by
 have sv:∀t,lk pJ t≠.top->∀d bf u,lk fr t≠.opt d bf u:=by
  intro t ht d bf u he
  rcases hf t with h|h
  .exact ht h
  .rw[he]at h;simp[view,gM,dQ]at h
 refine⟨hs.size,hs.defers,hs.ext,λt=>?_,λb x hb=>by simp[aK]at hb,λb x hb=>by simp[aK]at hb,λb b' g hb=>by simp[aK]at hb,λb g hb=>by simp[aK]at hb,hs.gK⟩
 show FV w _ K _ (lk pJ t) _
 rcases hf t with h|h
 .rw[h];exact FV.top
 .by_cases ht:lk pJ t=.top
  .rw[ht];exact FV.top
  .have hv:=(hs.fr t).vr (sv t ht)
   have hY:∀g,XX E K [] g->E.XF g/\g<E.w0.heap.size:=by
    rintro g (⟨b,hb,_⟩|hg)
    .simp[aK]at hb
    .exact hg
   exact FV.of ((GQ (Y:=XX E K []) hY hs h hv).any K)
def vI(O:List (Nat×ak))(fr:List (Nat×AV)):List Nat->Option (List (Nat×AV))
 |[]=>some []
 |t::ts=>match view (aK O) (lk fr t),vI O fr ts with
  |some v,some r=>some ((t,v)::r)
  |_,_=>none
theorem AW{O:List (Nat×ak)}{fr:List (Nat×AV)}:∀{ts:List Nat}{pJ:List (Nat×AV)},vI O fr ts=some pJ->∀t,lk pJ t=.top∨view (aK O) (lk fr t)=some (lk pJ t)
 |[],pJ,h,t=>by simp[vI]at h;subst h;exact .inl rfl
 |s::ts,pJ,h,t=>by
  simp only[vI]at h
  split at h
  .rename_i v r hv hr
   injection h with h;subst h
   simp only[gC]
   split
   .rename_i e;subst e;exact .inr hv
   .exact AW hr t
  .cases h
theorem aj.ahU{ps:List Nat}{c:aM}(ts:List Nat){pJ:List (Nat×AV)}(h:vI c.O c.fr ts=some pJ):aj ps c ⟨pJ,[]⟩:=by
 rintro E a w _ ⟨K,h2⟩;obtain⟨fr,O⟩:=c;exact⟨K,h2.O4 (AW h)⟩
end
end Go.an
