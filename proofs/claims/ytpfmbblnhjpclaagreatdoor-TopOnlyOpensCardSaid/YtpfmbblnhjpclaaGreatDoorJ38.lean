import Derived.Test.YtpfmbblnhjpclaaGreatDoorJ37
set_option linter.unusedVariables false
set_option linter.unusedSimpArgs false
set_option maxRecDepth 20000
namespace Go.an
open Go.RowKit
section
variable{P:Program} {T:dD} {E:Env} {K:KM} {c:aM} {a:Act} {w:World} {aB:Array Oper} {o:Oper} {Q:Exit->Act->World->Prop} {K':Act->World->Prop} {p d:Nat}
theorem JA{w:World}{g:Nat}{es:Array MapEntry}{l:List (Int×Int)}(h:jO w g es l):(es.toList.map (·.born)).Nodup:=by
 have:es.toList.map (·.born)=List.range es.toList.length:=by
  refine qE λi=>?_
  rw[aS]
  by_cases hi:i<es.toList.length
  .rw[List.getElem?_range hi,aW hi]
   simp only[iU,Option.some.injEq];exact h.born i _ (by rw[<-mu,aW hi])
  .rw[List.getElem?_eq_none (by omega),List.getElem?_eq_none (by simpa using hi)];rfl
 rw[this];exact List.nodup_range
theorem JB(hs:bC E K c a w)(ho:aB[p]?=some o){x:Operand}(cq:o.op=.entry x)(hg:o.guard=none)(hd:o.dst=some d)(Nu:fg E.N c (some d)=true){l:List (Int×Int)}{r g since:Nat}{es:Array MapEntry}{seen:Array Nat}(hx:j8 c x=.lit (.pointer (some ⟨r,0,none⟩)))
  {e:MapEntry}{y:Int×Int}(hr:w.heap[r]?=some (.mapIter (some g) since (seen.push e.born) es.size))(hE:jO w g es l)(he:e∈es.toList)(h1:e.key=.int .i64 y.1)(h2:e.val=.int .i64 y.2)
  (hk:∀a',bC E K ⟨(d,.bY [.int .i64 y.1,.int .i64 y.2])::c.fr,c.O⟩ a' w->K' a' w):wpOp P aB Q p K' a w:=by
 have ev:=yZ ((fh hs).at hx);have Ck:=run_entry_at (P:=P) w r g since seen es es.size e hr hE.obj he (JA hE);refine jG (v:=.tuple #[e.key,e.val]) (w':=w) ho (dS hg) ?_ ?_
 .simp only[execOp,cq,ev,Sem.run_bind,Ck,Result.andThen_ok,Sem.run_pure]
 .rw[hd]
  exact hk _ (hs.put (dst:=some d) Nu λ_ _=>FV.of (.bY (by simp) λj u c hu hc=>by
   match j with
   |0=>simp at hu hc;subst hu;subst hc;rw[h1];exact .int
   |1=>simp at hu hc;subst hu;subst hc;rw[h2];exact .int
   |j+2=>simp at hu))
theorem QY{N:Nat}(hT:br P T)(h1:bW T=true)(hN:E.N=N){Kk:aM->Prop}{i:Nat}{os:List Oper}{is:List Nat}{l:List (Int×Int)}{r g c0 since:Nat}{es:Array MapEntry}{seen:Array Nat}
  (hl:∀j,j<os.length->os[j]?=aB[i+j]?)(h:cZ false P T N [] aB ⟨c,[],[]⟩ i os c Kk)(hs:bC E K c a w)(hr:w.heap[r]?=some (.mapIter (some g) since seen c0))(hE:jO w g es l)(hg:¬bH K c.O g)
  (hQ:∀c a' w',Kk c->SR E c a' w'->w'.heap[r]?=some (.mapIter (some g) since seen c0)->jO w' g es l->wpOps P aB Q is a' w'):wpOps P aB Q (List.range' i os.length++is) a w:=by
 refine pH (E:=E.at K c.O w hs.ext hs.fI) (is:=is) (Q:=Q) hT h1 hN (λc' a' w' hk ⟨K',eh⟩=>?_) os _ i c a w hl h ⟨K,hs.start⟩;have hx:=eh.ext;exact hQ c' a' w' hk ⟨K',eh.CZ⟩ ((hx.block r (bd.1 hr).1 (xZ hs hr)).trans hr) (hE.of_eq (hx.block g (bd.1 hE.obj).1 hg))
end
end Go.an
namespace Go.an.ax.G
open Go Go.an Go.an.Day Go.Proofs Go.RowKit
def wh(l:List dE):Wd:=l.foldl (λw r=>if r.st=2 then na r.bx r.rd w else w) []
def lbB(u:St)(w:Wd)(b:Bx):Bool:=(qg u.ms b.id).1==3&&fO b.id w !=(qg u.ms b.id).2
noncomputable def ym(u:St):Bool:=if u.qs.any (λr=>decide (r.ch>u.ch))=true then false else
 if(wh u.qs).all (λx=>decide (qg u.ms x.1=(3,x.2)))=false then false else !(u.bs.any (lbB u (wh u.qs)))
theorem YF(u:St)(hm:jl u.ms)(w:Wd)(b:Bx):Fn kg 109 [.agg (bj b),.aw (aF u) 0,.aw [.iB false false 2 (w.map sQ)] 0] (B (lbB u w b)):=by
 have a107:=sP u hm b.id;unfold lbB;generalize qg u.ms b.id=p at a107;obtain⟨k,o⟩:=p
 cases h3:(k==3)with
 |false=>exact aH Kq ⟨_,a107,[(3,false)],h3,rfl,rfl,by simp only[h3];rfl⟩
 |true=>
  have hm:=xd b.id w
  cases hh:A6 b.id w with
  |true=>
   rw[hh,if_pos rfl]at hm;exact aH Kq ⟨_,a107,[(3,true)],h3,true,_,hm,rfl,rfl,by simp only[h3];rfl⟩
  |false=>
   rw[hh,if_neg (by simp)]at hm;rw[yY hh];exact aH Kq ⟨_,a107,[(3,true)],h3,false,hm,rfl,rfl,by simp only[h3];rfl⟩
abbrev Fk:List Nat:=[0,1,2,3,5,6,7,10,11,12,13,20,23,31,33,42]
abbrev O58(u:St)(w:Wd):List (Nat×ak):=[(16,⟨50,16,.any,[aF u],[]⟩),(48,⟨219,1,.any,[[.dX 128]],[]⟩),(128,⟨219,2,.map false false,[],w.map sQ⟩)]
abbrev C58(u:St)(w:Wd):aM:=⟨[(1,.af 16 0),(2,B false),(3,.af 48 0)],O58 u w⟩
abbrev WU(u:St)(w:Wd):List (Nat×AV):=[(1,.aw (aF u) 0),(2,B false),(3,.aw [.iB false false 2 (w.map sQ)] 0)]
def nth:Nat->Code->Code
 |0,c=>xp c
 |n+1,c=>nth n (gk c)
def rst:Nat->Code->Code
 |0,c=>c
 |n+1,c=>rst n (gk c)
def Le:Code->Code
 |.block _ (.loop b)=>b
 |c=>c
def agJ:Code->Code
 |.block _ b=>b
 |c=>c
theorem b58:body Tryz.f58=.seq (nth 0 (body Tryz.f58)) (.seq (nth 1 (body Tryz.f58)) (.seq (nth 2 (body Tryz.f58)) (.seq (.seq (.region 10 (dU 10 (body Tryz.f58)) false) (.block 2 (.loop (Le (gk (nth 3 (body Tryz.f58))))))) (rst 4 (body Tryz.f58))))):=by kernel_rfl
theorem l58:Le (gk (nth 3 (body Tryz.f58)))=.seq (.region 11 (dU 11 (body Tryz.f58)) false) (.seq (.cond (.tmp 33) .skip (.exit 2)) (.block 3 (.seq (.region 12 (dU 12 (body Tryz.f58)) false) (gk (agJ (gk (gk (Le (gk (nth 3 (body Tryz.f58))))))))))):=by kernel_rfl
def Qn(c0:aM):Ex->aM->Prop
 |.normal,c=>aj [] c c0
 |_,_=>False
abbrev BC(u:St)(r:dE):Bool:=decide (r.ch>u.ch)
theorem MU(l:List dE)(r:dE):wh (l++[r])=if r.st=2 then na r.bx r.rd (wh l)else wh l:=by simp[wh]
theorem alI(u:St)(hq:u.qs.length<=100000):mY kg tt 48 Fk [] [] [] (nth 2 (body Tryz.f58)) (C58 u [])
  (λe c=>match e with|.normal=>u.qs.any (BC u)=false/\aj [] c (C58 u (wh u.qs))|e=>u.qs.any (BC u)=true/\kq tt [.tmp 2] (B false) e c):=by
 refine⟨λn c=>∃(i:Nat)(w:Wd),i<=u.qs.length/\n=u.qs.length-i/\w=wh (u.qs.take i)/\(u.qs.take i).any (BC u)=false/\c=⟨[(1,.af 16 0),(2,B false),(3,.af 48 0),(10,QS u.qs),(11,I u.qs.length),(12,I i)],O58 u w⟩,
  ⟨_,_,aj.ad [1,2,3,10,11,12] [16,48,128],0,[],by omega,rfl,rfl,rfl,rfl⟩,?_⟩
 rintro n c ⟨i,w,hi,rfl,hw,ha,rfl⟩;refine⟨λaC=>?_,λaC=>?_⟩
 .simp at aC
  obtain⟨r,hr,hd,ht⟩:=aq aC;have EL:wh (u.qs.take (i+1))=if r.st=2 then na r.bx r.rd w else w:=by rw[ht,MU,<-hw]
  refine⟨by omega,cd r,by simp[hr],λhl=>?_,λhl=>?_⟩
  .have hl:BC u r=true:=hl
   exact⟨zm.2 ⟨r,ay hr,hl⟩,_,aj.refl _ _,rfl,rfl,rfl⟩
  .have hl:BC u r=false:=hl
   have ha1:(u.qs.take (i+1)).any (BC u)=false:=by rw[ht,List.any_append,ha];simp[hl]
   refine⟨λhs=>?_,λhs=>?_⟩
   .have hs:r.st=2:=by simpa using hs
    rw[if_pos hs]at EL;refine⟨_,au (y:=((i+1:Nat):Int)) (by omega),?_⟩;refine⟨_,_,aj.ad [1,2,3,10,11,12] [16,48,128],by omega,i+1,na r.bx r.rd w,by omega,rfl,EL.symm,ha1,?_⟩;rw[O58,<-EK];rfl
   .have hs:¬r.st=2:=by simpa using hs
    rw[if_neg hs]at EL;refine⟨_,au (y:=((i+1:Nat):Int)) (by omega),?_⟩;exact⟨_,_,aj.ad [1,2,3,10,11,12] [16,48,128],by omega,i+1,w,by omega,rfl,EL.symm,ha1,rfl⟩
 .simp at aC
  have:i=u.qs.length:=by omega
  subst this;rw[oB]at hw ha;subst hw;exact⟨ha,aj.ad [1,2,3] [16,48,128]⟩
abbrev FL(u:St)(w:Wd)(r:Nat):List (Nat×AV):=(31,.lit (.pointer (some ⟨r,0,none⟩)))::WU u w
def rE(u:St)(e:MapEntry):Prop:=∀y:Int×Int,e.key=.int .i64 y.1->e.val=.int .i64 y.2->qg u.ms y.1=(3,y.2)
theorem alJ(u:St)(hm:jl u.ms)(w:Wd)(r:Nat)(y:Int×Int):mY kg tt 48 Fk [] [] [] (gk (agJ (gk (gk (Le (gk (nth 3 (body Tryz.f58)))))))) ⟨(6,I y.1)::(7,I y.2)::FL u w r,[]⟩
  (λe c=>match e with|.normal=>qg u.ms y.1=(3,y.2)/\aj [] c ⟨FL u w r,[]⟩|e=>qg u.ms y.1≠(3,y.2)/\kq tt [.tmp 2] (B false) e c):=by
 have a107:=sP u hm y.1;generalize qg u.ms y.1=p at a107;obtain⟨k,o⟩:=p;refine⟨_,a107,λh=>?_,λh=>?_⟩
 .have h:(!(k==3&&(o==y.2&&true)))=true:=h
  refine⟨λe=>?_,_,aj.refl _ _,rfl,rfl,rfl⟩;injection e with e1 e2
  subst e1 e2;simp at h
 .have h:(!(k==3&&(o==y.2&&true)))=false:=h
  simp at h;exact⟨by rw[h.1,h.2],aj.ad [31,1,2,3] []⟩
set_option maxHeartbeats 4000000 in
theorem c58(u:St)(hm:jl u.ms)(hq:u.qs.length<=100000)(hb:u.bs.length<=100000):Fn kg 58 [.agg (aF u)] (B (ym u)):=by
 refine wT (code:=body Tryz.f58) [.tmp 2] cC Tryz.func58 rfl (by kernel_rfl) rfl rfl rfl λE K a w hN hp hs=>?_
 have ji:∀b,bm b []=false->E.gK b=none:=λb _=>hp b
 rw[b58];refine wp_seq (cD (ks:=Fk) (gs:=[]) (wk:=[]) cC bZ hN mixed ji _ ⟨idx 0 [.agg (aF u)],[]⟩ (Qn ⟨[(1,.af 16 0),(2,B false)],[(16,⟨50,16,.any,[aF u],[]⟩)]⟩) _ a w (by kernel_rfl) (aj.ad [1,2] [16]) (λe c a w jB hs=>?_) ⟨K,hs⟩)
 cases e with
 |exit id=>exact jB.elim
 |ret=>exact jB.elim
 |normal=>
 refine wp_seq (cD (ks:=Fk) (gs:=[]) (wk:=[]) cC bZ hN mixed ji _ ⟨[(1,.af 16 0),(2,B false)],[(16,⟨50,16,.any,[aF u],[]⟩)]⟩ (Qn (C58 u [])) _ a w (by kernel_rfl) (aj.ad [1,2,3] [16,48,128]) (λe c a w jB hs=>?_) (jB E a w ji hs))
 cases e with
 |exit id=>exact jB.elim
 |ret=>exact jB.elim
 |normal=>
 refine wp_seq (cD (ks:=Fk) (gs:=[]) (wk:=[]) cC bZ hN mixed ji _ _ _ _ a w (by kernel_rfl) (alI u hq) (λe c a w jB hs=>?_) (jB E a w ji hs));have rt:∀(e:Ex) c a w,e≠.normal->u.qs.any (BC u)=true/\kq tt [.tmp 2] (B false) e c->SR E c a w->Ov tt [.tmp 2] (B (ym u)) E e.jj a w:=by
  rintro e c a w _ ⟨h1,h2⟩ hs;have:ym u=false:=by unfold ym;rw[if_pos h1]
  rw[this];exact DJ hp e c a w h2 hs
 cases e with
 |exit id=>exact rt _ c a w (by simp) jB hs
 |ret=>exact rt _ c a w (by simp) jB hs
 |normal=>
 obtain⟨hl,hw⟩:=jB;have hs:=(aj.S2 (ps:=[]) (c:=C58 u (wh u.qs)) [1,2,3] (pJ:=WU u (wh u.qs)) rfl) E a w ji (hw E a w ji hs);have hlB:ym u=if(wh u.qs).all (λx=>decide (qg u.ms x.1=(3,x.2)))=false then false else !(u.bs.any (lbB u (wh u.qs))):=by unfold ym;rw[if_neg (by rw[hl];simp)]
 generalize wh u.qs=W at hs hlB;clear hl hw rt;refine wp_seq (wp_seq (wp_region ?_))
 show wpOps _ _ _ [0,1] _ _
 rw[wpOps_cons];refine eX (c:=⟨WU u W,[]⟩) (R:=λc'=>aj [] c' ⟨(30,YZ W)::WU u W,[]⟩) (by refine rJ cC bZ rfl ?_;exact aj.ad [30,1,2,3] []) hN ji hs λc a w hc hs=>?_
 obtain⟨K,hs⟩:=hc E a w ji hs;rw[wpOps_cons];refine I6 hs rfl rfl rfl rfl (by rw[hN];rfl) Tryz.underlying219 rfl λr g es a w hs wH hX hr hE=>?_
 have hs:bC E K ⟨FL u W r,[]⟩ a w:=hs.uS (λt=>by
  by_cases h30:t=30
  .subst h30;exact .inr rfl
  .left
   have:Nat.beq 30 t=false:=by
    cases h:Nat.beq 30 t with
    |false=>rfl
    |true=>exact absurd (H8 h).symm h30
   simp only[lk,this]) λ_ _ h=>h
 show Exit.then _ _ Exit.normal a w
 refine wp_block (wp_loop_ghost (λn a w=>∃K seen c0,bC E K ⟨FL u W r,[]⟩ a w/\w.heap[r]?=some (.mapIter (some g) es.size seen c0)/\jO w g es W/\es.size<=c0/\n=(leftOf es seen).size/\∀e∈es.toList,seen.contains e.born=true->rE u e) _ ⟨K,#[],es.size,hs,hr,hE,bG _,rfl,λe he h=>by simp at h⟩ ?_);clear hs hr hE;rintro n a w ⟨K,seen,c0,hs,hr,hE,JW,rfl,WV⟩;rw[l58];refine wp_seq (wp_region ?_)
 show wpOps _ _ _ [0,1] _ _
 rw[wpOps_cons];refine Mt hs rfl rfl rfl rfl (by rw[hN];rfl) rfl wH hr hE JW (λa tX hs=>?_) λe y a w he hy k1 k2 hs hr hE aC=>?_
 .rw[wpOps_cons]
  refine eX (c:=⟨(32,.bY [.bool false])::FL u W r,[]⟩) (R:=λc'=>aj [] c' ⟨(33,B false)::WU u W,[]⟩) (by refine rJ cC bZ rfl ?_;exact aj.ad [33,1,2,3] []) hN ji ⟨K,hs⟩ λc a w hc hs=>?_
  show Exit.then _ _ Exit.normal a w
  refine cD (ks:=Fk) (gs:=[]) (wk:=[]) cC bZ hN mixed ji _ ⟨(33,B false)::WU u W,[]⟩ (λe c=>e=.exit 2/\c=⟨(33,B false)::WU u W,[]⟩) _ a w (by kernel_rfl) ⟨λh=>(by cases h),λ_=>⟨rfl,rfl⟩⟩ (λe c a w jB hs=>?_) (hc E a w ji hs);obtain⟨rfl,rfl⟩:=jB;have agK:W.all (λx=>decide (qg u.ms x.1=(3,x.2)))=true:=by
   rw[iT];intro x hx;obtain⟨e,he,k1,k2⟩:=hE.mem_of hx;exact uG (WV e he (tX e he) x k1 k2)
  rw[if_neg (by rw[agK];simp)]at hlB;have KE:=V9 u.bs (by omega) (lbB u W) 109 (aF u) [.iB false false 2 (W.map sQ)] (λb _=>YF u hm W b);rw[hlB];refine cD (ks:=Fk) (gs:=[]) (wk:=[]) cC bZ hN mixed ji _ ⟨(33,B false)::WU u W,[]⟩ (kq tt [.tmp 2] (B !(u.bs.any (lbB u W)))) _ a w (by kernel_rfl) ⟨_,KE,_,aj.refl _ _,rfl,rfl,rfl⟩ (λe c a w jB hs=>DJ hp e c a w jB hs) hs
 .refine QY (c:=⟨(32,.bY [.bool true,I y.1,I y.2])::FL u W r,[]⟩) (os:=[_]) (i:=1) (is:=[]) cC bZ hN (λj hj=>match j,hj with|0,_=>rfl|j+1,hj=>absurd hj (by simp)) (Kk:=λc'=>aj [] c' ⟨(33,B true)::FL u W r,[]⟩) (aj.ad [33,31,1,2,3] []) hs hr hE (λ⟨b,hb,_⟩=>by simp[aK]at hb) λc a w hc hs hr hE=>?_
  obtain⟨K,hs⟩:=hc E a w ji hs
  show Exit.then _ _ Exit.normal a w
  refine wp_seq (PL (c:=⟨(33,B true)::FL u W r,[]⟩) (ks:=Fk) (gs:=[]) (wk:=[]) (Q:=Qn ⟨(33,B true)::FL u W r,[]⟩) cC bZ hN mixed ji (by kernel_rfl) ⟨λ_=>aj.refl _ _,λh=>(by cases h)⟩ hs hr hE (λ⟨b,hb,_⟩=>by simp[aK]at hb) λe' c a w jB hs hr hE=>?_)
  cases e' with
  |exit id=>exact jB.elim
  |ret=>exact jB.elim
  |normal=>
  obtain⟨K,hs⟩:=jB E a w ji hs;refine wp_block (wp_seq (wp_region ?_))
  show wpOps _ _ _ [0,1,2,3,4] _ _
  rw[wpOps_cons];refine JB hs rfl rfl rfl rfl (by rw[hN];rfl) rfl hr hE he k1 k2 λa hs=>?_
  refine QY (c:=⟨(34,.bY [I y.1,I y.2])::(33,B true)::FL u W r,[]⟩) (os:=(dU 12 (body Tryz.f58)).toList.drop 1) (i:=1) (is:=[]) cC bZ hN (λj hj=>by rw[cV];simp) (Kk:=λc'=>aj [] c' ⟨(6,I y.1)::(7,I y.2)::FL u W r,[]⟩) (aj.ad [6,7,31,1,2,3] []) hs hr hE (λ⟨b,hb,_⟩=>by simp[aK]at hb) λc a w hc hs hr hE=>?_
  obtain⟨K,hs⟩:=hc E a w ji hs
  show Exit.then _ _ Exit.normal a w
  refine PL (ks:=Fk) (gs:=[]) (wk:=[]) cC bZ hN mixed ji (by kernel_rfl) (alJ u hm W r y) hs hr hE (λ⟨b,hb,_⟩=>by simp[aK]at hb) λe' c a w jB hs hr hE=>?_
  have rt:∀(e:Ex),e≠.normal->qg u.ms y.1≠(3,y.2)/\kq tt [.tmp 2] (B false) e c->Ov tt [.tmp 2] (B (ym u)) E e.jj a w:=by
   rintro e _ ⟨h1,h2⟩;have:W.all (λx=>decide (qg u.ms x.1=(3,x.2)))=false:=by
    rw[List.all_eq_false];exact⟨y,hy,by simpa using h1⟩
   rw[if_pos this]at hlB;rw[hlB];exact DJ hp e c a w h2 hs
  cases e' with
  |exit id=>exact(jB.2:False).elim
  |ret=>exact rt .ret (by simp) jB
  |normal=>
  obtain⟨K,hs⟩:=jB.2 E a w ji hs;refine⟨_,aC,K,seen.push e.born,es.size,hs,hr,hE,bG _,rfl,λe' he' Ns=>?_⟩;rw[contains_push,pj]at Ns
  rcases Ns with Ns|Ns
  .exact WV e' he' Ns
  .intro z z1 z2
   have hb:e'.born=e.born:=by simpa using Ns
   obtain⟨i,hi⟩:=fQ he';obtain⟨j,hj⟩:=fQ he;have h1:=hE.born i e' (by simpa using hi);have h2:=hE.born j e (by simpa using hj);have:i=j:=by omega
   subst this;rw[hi]at hj;injection hj with hj
   subst hj;rw[k1]at z1;rw[k2]at z2;injection z1 with _ z1;injection z2 with _ z2
   rw[<-z1,<-z2];exact jB.1
end Go.an.ax.G
namespace Go.an.ax.G
open Go Go.an Go.an.Day Go.Proofs Go.RowKit
noncomputable def WW(b:Bt):Int:= @dite _ (∃er,Fn kg 100 [.agg (aX b)] (I er)) (Classical.propDecidable _) (λh=>Classical.choose h) λ_=>0
theorem QZ{b:Bt}(h:∃er,Fn kg 100 [.agg (aX b)] (I er)):Fn kg 100 [.agg (aX b)] (I (WW b)):=by
 unfold WW;rw[dif_pos h];exact qC h
structure Prt(u:St):Prop where
 es:∀x∈ [sL u.po,jk u.bs,dx u.ls,(fV u.ms).2,Rq.bg u.qs,Aw.MI u.bV u.ks],x=0
 bt:∀(i:Nat) b,u.bt[i]?=some b->WW b=0/\∀q,0<i->u.bt[i-1]?=some q->¬b.id<=q.id
 lk:∀(i:Nat) x,u.lk[i]?=some x->cj x.1=true/\cj x.2=true/\∀q:Int×Int,0<i->u.lk[i-1]?=some q->¬x.1<=q.1
 sh:∀(i:Nat) x,u.sh[i]?=some x->cj x.1=true/\cj x.2.1=true/\eC x.2.2 0 u.ch=true/\∀q:Int×Int×Int,0<i->u.sh[i-1]?=some q->¬x.2.2<q.2.2
 fin:(eC u.ch 0 1048575&&decide ((u.bt.length:Int)<=64)&&decide ((u.lk.length:Int)<=1024)&&decide ((u.sh.length:Int)<=1024))=true
noncomputable def MV(u:St):Bool:= @decide (Prt u) (Classical.propDecidable _)
theorem np{u:St}(h:¬Prt u):MV u=false:= @qA _ (Classical.propDecidable _) h
theorem Z0{u:St}(h:MV u=true):Prt u:= @aP _ (Classical.propDecidable _) h
set_option maxHeartbeats 4000000 in
theorem c55(u:St)(hz:u.sz)(hk:u.ks.length<=90000)(hd:∀b∈u.bt,∃er,Fn kg 100 [.agg (aX b)] (I er)):Fn kg 55 [.agg (aF u)] (B (MV u)):=by
 have FC:=RG u.bs (by have:=hz.bs;omega) hz.cs;have a97:=c97 u.ls (by have:=hz.ls;omega);have RQ:=Aw.c99 u.bV u.ks hk;refine aH abu ⟨_,Wh u.po hz.po,_,FC,_,a97,_,c37 u.ms,_,Rq.c98 u.qs,_,RQ,?_⟩;have H3:∀x∈ [sL u.po,jk u.bs,dx u.ls,(fV u.ms).2,Rq.bg u.qs,Aw.MI u.bV u.ks],x≠0->MV u=false:=λx hx h=>np λp=>h (p.es x hx)
 obtain⟨es,hE⟩:∃es,es=[sL u.po,jk u.bs,dx u.ls,(fV u.ms).2,Rq.bg u.qs,Aw.MI u.bV u.ks]:=⟨_,rfl⟩;rw[<-hE]at H3;refine⟨λn c=>∃i:Nat,i<=6/\n=6-i/\(∀j x,j<i->es[j]?=some x->x=0)/\c=⟨[(1,.af 16 0),(2,B false),(31,.bn 496 1 6),(32,I 6),(33,I i)],[(16,⟨50,16,.any,[aF u],[]⟩),(496,⟨54,1,.pure,[[I (sL u.po)],[I (jk u.bs)],[I (dx u.ls)],[I (fV u.ms).2],[I (Rq.bg u.qs)],[I (Aw.MI u.bV u.ks)]],[]⟩)]⟩,⟨_,_,Wk.ad [1,2,31,32,33] [16,496],0,by omega,rfl,λj x h=>(by omega),rfl⟩,?_⟩;rintro n c ⟨i,hi,rfl,yx,rfl⟩;refine⟨λaC=>?_,λaC=>?_⟩
 .have aC:i<6:=by simp at aC;omega
  obtain⟨x,hx,hr⟩:∃x,es[i]?=some x/\ [[I (sL u.po)],[I (jk u.bs)],[I (dx u.ls)],[I (fV u.ms).2],[I (Rq.bg u.qs)],[I (Aw.MI u.bV u.ks)]][i]?=some [I x]:=by
   rw[hE]
   match i,aC with
   |0,_=>exact⟨_,rfl,rfl⟩
   |1,_=>exact⟨_,rfl,rfl⟩
   |2,_=>exact⟨_,rfl,rfl⟩
   |3,_=>exact⟨_,rfl,rfl⟩
   |4,_=>exact⟨_,rfl,rfl⟩
   |5,_=>exact⟨_,rfl,rfl⟩
  refine⟨by omega,[I x],by simpa using hr,λh=>?_,λh=>?_⟩
  .have h:x≠0:=by simpa using h
   rw[H3 x (ay hx) h];exact⟨rfl,rfl,rfl⟩
  .have h:x=0:=by simpa using h
   refine⟨_,au (y:=((i+1:Nat):Int)) (by omega),?_⟩;refine⟨_,_,Wk.ad [1,2,31,32,33] [16,496],by omega,i+1,by omega,rfl,λj y hj hy=>?_,rfl⟩
   by_cases SQ:j=i
   .subst SQ;rw[hx]at hy;injection hy with hy;rw[<-hy];exact h
   .exact yx j y (by omega) hy
 .have hi6:i=6:=by simp at aC;omega
  subst hi6;have alK:∀x∈ [sL u.po,jk u.bs,dx u.ls,(fV u.ms).2,Rq.bg u.qs,Aw.MI u.bV u.ks],x=0:=by
   rw[<-hE];intro x hx;obtain⟨j,hj⟩:=fQ hx;have:j<es.length:=(aE.1 hj).1;exact yx j x (by rw[hE]at this;simpa using this) hj
  clear H3 yx aC hE;refine⟨λn c=>∃i:Nat,i<=u.bt.length/\n=u.bt.length-i/\(∀(j:Nat) b,j<i->u.bt[j]?=some b->WW b=0/\∀q,0<j->u.bt[j-1]?=some q->¬b.id<=q.id)/\c=⟨[(1,.af 16 0),(2,B false),(41,TS u.bt),(42,I u.bt.length),(43,I i)],[(16,⟨50,16,.any,[aF u],[]⟩)]⟩,⟨_,_,Wk.ad [1,2,41,42,43] [16],0,by omega,rfl,λj x h=>(by omega),rfl⟩,?_⟩;rintro n c ⟨i,hi,rfl,yx,rfl⟩;have uB:=hz.bt;refine⟨λaC=>?_,λaC=>?_⟩
  .simp at aC
   obtain⟨b,hb,_,_⟩:=aq aC;have Z1:=QZ (hd b (ay hb));have next:WW b=0->(∀q,0<i->u.bt[i-1]?=some q->¬b.id<=q.id)->∀(j:Nat) b,j<i+1->u.bt[j]?=some b->WW b=0/\∀q,0<j->u.bt[j-1]?=some q->¬b.id<=q.id:=by
    intro h1 h2 j b' hj jS
    by_cases SQ:j=i
    .subst SQ;rw[hb]at jS;injection jS with jS;subst jS;exact⟨h1,h2⟩
    .exact yx j b' (by omega) jS
   by_cases h0:WW b=0
   .by_cases Qv:i=0
    .subst Qv
     refine⟨by omega,aX b,by simp[hb],[(3,false),(6,false)],_,Z1,by simp[h0],rfl,λh=>(by cases h),λ_=>?_⟩;refine⟨_,au (y:=((0+1:Nat):Int)) (by omega),?_⟩;exact⟨_,_,Wk.ad [1,2,41,42,43] [16],by omega,0+1,by omega,rfl,next h0 (λq h=>absurd h (by omega)),rfl⟩
    .obtain⟨q,hq⟩:∃q,u.bt[i-1]?=some q:=⟨_,aW (by omega)⟩
     refine⟨by omega,aX b,by simp[hb],[(3,false),(6,true)],_,Z1,by simp[h0],by simp;omega,_,au (y:=((i-1:Nat):Int)) (by omega),by omega,aX q,by simp[hq],λh=>?_,λh=>?_⟩
     .have h:b.id<=q.id:=by simpa using h
      rw[np λp=>(p.bt i b hb).2 q (by omega) hq h];exact⟨rfl,rfl,rfl⟩
     .have h:¬b.id<=q.id:=by simpa using h
      refine⟨_,au (y:=((i+1:Nat):Int)) (by omega),?_⟩;exact⟨_,_,Wk.ad [1,2,41,42,43] [16],by omega,i+1,by omega,rfl,next h0 (λq' _ jB=>by rw[hq]at jB;injection jB with jB;subst jB;exact h),rfl⟩
   .refine⟨by omega,aX b,by simp[hb],[(3,true)],_,Z1,by simp[h0],λ_=>?_,λh=>(by cases h)⟩
    rw[np λp=>h0 (p.bt i b hb).1];exact⟨rfl,rfl,rfl⟩
  .have og:i=u.bt.length:=by simp at aC;omega
   subst og;have UG:∀(i:Nat) b,u.bt[i]?=some b->WW b=0/\∀q,0<i->u.bt[i-1]?=some q->¬b.id<=q.id:=λj b hb=>yx j b (aE.1 hb).1 hb
   clear yx aC hi;refine⟨λn c=>∃i:Nat,i<=u.lk.length/\n=u.lk.length-i/\(∀(j:Nat) x,j<i->u.lk[j]?=some x->cj x.1=true/\cj x.2=true/\∀q:Int×Int,0<j->u.lk[j-1]?=some q->¬x.1<=q.1)/\c=⟨[(1,.af 16 0),(2,B false),(69,yi u.lk),(70,I u.lk.length),(71,I i)],[(16,⟨50,16,.any,[aF u],[]⟩)]⟩,⟨_,_,Wk.ad [1,2,69,70,71] [16],0,by omega,rfl,λj x h=>(by omega),rfl⟩,?_⟩;rintro n c ⟨i,hi,rfl,yx,rfl⟩;have Wz:=hz.lk;refine⟨λaC=>?_,λaC=>?_⟩
   .simp at aC
    obtain⟨x,hx,_,_⟩:=aq aC;have next:cj x.1=true->cj x.2=true->(∀q:Int×Int,0<i->u.lk[i-1]?=some q->¬x.1<=q.1)->∀(j:Nat) x,j<i+1->u.lk[j]?=some x->cj x.1=true/\cj x.2=true/\∀q:Int×Int,0<j->u.lk[j-1]?=some q->¬x.1<=q.1:=by
     intro h1 h2 h3 j y hj hy
     by_cases SQ:j=i
     .subst SQ;rw[hx]at hy;injection hy with hy;subst hy;exact⟨h1,h2,h3⟩
     .exact yx j y (by omega) hy
    have b1:=Ti x.1;have b2:=Ti x.2;have aD:(u.lk.map cO)[i]?=some (cO x):=by rw[aS,hx];rfl
    cases h1:cj x.1 with
    |false=>
     rw[h1]at b1;refine⟨by omega,cO x,by simpa using aD,[(4,true),(10,true)],_,b1,rfl,rfl,λ_=>?_,λh=>(by cases h)⟩;rw[np λp=>by have:=(p.lk i x hx).1;rw[h1]at this;cases this];exact⟨rfl,rfl,rfl⟩
    |true=>
     rw[h1]at b1
     cases h2:cj x.2 with
     |false=>
      rw[h2]at b2;refine⟨by omega,cO x,by simpa using aD,[(4,false),(10,true)],_,b1,rfl,_,b2,rfl,λ_=>?_,λh=>(by cases h)⟩;rw[np λp=>by have:=(p.lk i x hx).2.1;rw[h2]at this;cases this];exact⟨rfl,rfl,rfl⟩
     |true=>
      rw[h2]at b2
      by_cases Qv:i=0
      .subst Qv
       refine⟨by omega,cO x,by simpa using aD,[(4,false),(10,false),(13,false)],_,b1,rfl,_,b2,rfl,rfl,λh=>(by cases h),λ_=>?_⟩;refine⟨_,au (y:=((0+1:Nat):Int)) (by omega),?_⟩;exact⟨_,_,Wk.ad [1,2,69,70,71] [16],by omega,0+1,by omega,rfl,next h1 h2 (λq h=>absurd h (by omega)),rfl⟩
      .obtain⟨q,hq⟩:∃q,u.lk[i-1]?=some q:=⟨_,aW (by omega)⟩
       refine⟨by omega,cO x,by simpa using aD,[(4,false),(10,false),(13,true)],_,b1,rfl,_,b2,rfl,by simp;omega,_,au (y:=((i-1:Nat):Int)) (by omega),by omega,cO q,by simp[hq],λh=>?_,λh=>?_⟩
       .have h:x.1<=q.1:=by simpa using h
        rw[np λp=>(p.lk i x hx).2.2 q (by omega) hq h];exact⟨rfl,rfl,rfl⟩
       .have h:¬x.1<=q.1:=by simpa using h
        refine⟨_,au (y:=((i+1:Nat):Int)) (by omega),?_⟩;exact⟨_,_,Wk.ad [1,2,69,70,71] [16],by omega,i+1,by omega,rfl,next h1 h2 (λq' _ jB=>by rw[hq]at jB;injection jB with jB;subst jB;exact h),rfl⟩
   .have og:i=u.lk.length:=by simp at aC;omega
    subst og;have tY:∀(i:Nat) x,u.lk[i]?=some x->cj x.1=true/\cj x.2=true/\∀q:Int×Int,0<i->u.lk[i-1]?=some q->¬x.1<=q.1:=λj x hx=>yx j x (aE.1 hx).1 hx
    clear yx aC hi;refine⟨λn c=>∃i:Nat,i<=u.sh.length/\n=u.sh.length-i/\(∀(j:Nat) x,j<i->u.sh[j]?=some x->cj x.1=true/\cj x.2.1=true/\eC x.2.2 0 u.ch=true/\∀q:Int×Int×Int,0<j->u.sh[j-1]?=some q->¬x.2.2<q.2.2)/\c=⟨[(1,.af 16 0),(2,B false),(104,uw u.sh),(105,I u.sh.length),(106,I i)],[(16,⟨50,16,.any,[aF u],[]⟩)]⟩,⟨_,_,Wk.ad [1,2,104,105,106] [16],0,by omega,rfl,λj x h=>(by omega),rfl⟩,?_⟩;rintro n c ⟨i,hi,rfl,yx,rfl⟩;have pW:=hz.sh;refine⟨λaC=>?_,λaC=>?_⟩
    .simp at aC
     obtain⟨x,hx,_,_⟩:=aq aC;have next:cj x.1=true->cj x.2.1=true->eC x.2.2 0 u.ch=true->(∀q:Int×Int×Int,0<i->u.sh[i-1]?=some q->¬x.2.2<q.2.2)->∀(j:Nat) x,j<i+1->u.sh[j]?=some x->cj x.1=true/\cj x.2.1=true/\eC x.2.2 0 u.ch=true/\∀q:Int×Int×Int,0<j->u.sh[j-1]?=some q->¬x.2.2<q.2.2:=by
      intro h1 h2 h3 h4 j y hj hy
      by_cases SQ:j=i
      .subst SQ;rw[hx]at hy;injection hy with hy;subst hy;exact⟨h1,h2,h3,h4⟩
      .exact yx j y (by omega) hy
     have b1:=Ti x.1;have b2:=Ti x.2.1;have b3:=V4 x.2.2 0 u.ch;have aD:(u.sh.map fW)[i]?=some (fW x):=by rw[aS,hx];rfl
     cases h1:cj x.1 with
     |false=>
      rw[h1]at b1;refine⟨by omega,fW x,by simpa using aD,[(4,true),(10,true),(18,true)],_,b1,rfl,rfl,rfl,λ_=>?_,λh=>(by cases h)⟩;rw[np λp=>by have:=(p.sh i x hx).1;rw[h1]at this;cases this];exact⟨rfl,rfl,rfl⟩
     |true=>
      rw[h1]at b1
      cases h2:cj x.2.1 with
      |false=>
       rw[h2]at b2;refine⟨by omega,fW x,by simpa using aD,[(4,false),(10,true),(18,true)],_,b1,rfl,_,b2,rfl,rfl,λ_=>?_,λh=>(by cases h)⟩;rw[np λp=>by have:=(p.sh i x hx).2.1;rw[h2]at this;cases this];exact⟨rfl,rfl,rfl⟩
      |true=>
       rw[h2]at b2
       cases h3:eC x.2.2 0 u.ch with
       |false=>
        rw[h3]at b3;refine⟨by omega,fW x,by simpa using aD,[(4,false),(10,false),(18,true)],_,b1,rfl,_,b2,rfl,_,b3,rfl,λ_=>?_,λh=>(by cases h)⟩;rw[np λp=>by have:=(p.sh i x hx).2.2.1;rw[h3]at this;cases this];exact⟨rfl,rfl,rfl⟩
       |true=>
        rw[h3]at b3
        by_cases Qv:i=0
        .subst Qv
         refine⟨by omega,fW x,by simpa using aD,[(4,false),(10,false),(18,false),(21,false)],_,b1,rfl,_,b2,rfl,_,b3,rfl,rfl,λh=>(by cases h),λ_=>?_⟩;refine⟨_,au (y:=((0+1:Nat):Int)) (by omega),?_⟩;exact⟨_,_,Wk.ad [1,2,104,105,106] [16],by omega,0+1,by omega,rfl,next h1 h2 h3 (λq h=>absurd h (by omega)),rfl⟩
        .obtain⟨q,hq⟩:∃q,u.sh[i-1]?=some q:=⟨_,aW (by omega)⟩
         refine⟨by omega,fW x,by simpa using aD,[(4,false),(10,false),(18,false),(21,true)],_,b1,rfl,_,b2,rfl,_,b3,rfl,by simp;omega,_,au (y:=((i-1:Nat):Int)) (by omega),by omega,fW q,by simp[hq],λh=>?_,λh=>?_⟩
         .have h:x.2.2<q.2.2:=by simpa using h
          rw[np λp=>(p.sh i x hx).2.2.2 q (by omega) hq h];exact⟨rfl,rfl,rfl⟩
         .have h:¬x.2.2<q.2.2:=by simpa using h
          refine⟨_,au (y:=((i+1:Nat):Int)) (by omega),?_⟩;exact⟨_,_,Wk.ad [1,2,104,105,106] [16],by omega,i+1,by omega,rfl,next h1 h2 h3 (λq' _ jB=>by rw[hq]at jB;injection jB with jB;subst jB;exact h),rfl⟩
    .have og:i=u.sh.length:=by simp at aC;omega
     subst og;have Ms:∀(i:Nat) x,u.sh[i]?=some x->cj x.1=true/\cj x.2.1=true/\eC x.2.2 0 u.ch=true/\∀q:Int×Int×Int,0<i->u.sh[i-1]?=some q->¬x.2.2<q.2.2:=λj x hx=>yx j x (aE.1 hx).1 hx
     have hr:MV u=(eC u.ch 0 1048575&&decide ((u.bt.length:Int)<=64)&&decide ((u.lk.length:Int)<=1024)&&decide ((u.sh.length:Int)<=1024)):=by
      cases hf:(eC u.ch 0 1048575&&decide ((u.bt.length:Int)<=64)&&decide ((u.lk.length:Int)<=1024)&&decide ((u.sh.length:Int)<=1024))with
      |true=>exact @uG _ (Classical.propDecidable _) ⟨alK,UG,tY,Ms,hf⟩
      |false=>exact np λp=>by rw[p.fin]at hf;cases hf
     rw[hr];exact⟨[],_,V4 u.ch 0 1048575,rfl,rfl,rfl⟩
theorem xr:∀(l:List Bx)(cf:Option Int)(seen:List Int),vN cf seen l=0->∀b∈l,cx b=0
 |[],_,_,_,b,hb=>by cases hb
 |x::r,cf,seen,h,b,hb=>by
  unfold vN at h
  by_cases h1:cx x≠0
  .rw[if_pos h1]at h;exact absurd h h1
  .rw[if_neg h1]at h
   have h1:cx x=0:=by simpa using h1
   have fin:(∃p s,vN p s r=0):=by
    cases cf with
    |none=>
     simp only[Bool.false_eq_true,if_false]at h
     split at h
     .cases h
     .exact⟨_,_,h⟩
    |some p=>
     by_cases h2:x.id<=p
     .simp[h2]at h
     .simp only[h2,decide_false,Bool.false_eq_true,if_false]at h
      split at h
      .cases h
      .exact⟨_,_,h⟩
   obtain⟨p,s,h⟩:=fin
   rcases bK.1 hb with rfl|hb
   .exact h1
   .exact xr r _ _ h b hb
theorem Q0{l:List Bx}(h:jk l=0):∀b∈l,cj b.id=true/\0<=b.bc/\b.bc<=10000:=by
 unfold jk at h
 split at h
 .cases h
 .intro b hb
  have hf:=xr l _ _ h b hb;unfold cx at hf
  split at hf
  .cases hf
  .rename_i hn
   simp only[not_or,Bool.not_eq_false]at hn;obtain⟨h1,h2,_⟩:=hn;refine⟨h1,?_⟩;simp[eC]at h2;omega
structure Rt(u:St):Prop where
 pt:Prt u
 mv:u.ms.any (HM u)=false
theorem Rt.ms{u:St}(h:Rt u):jl u.ms:=Ld (h.pt.es _ (by simp))
theorem c34(u:St)(hz:u.sz)(hk:u.ks.length<=90000)(hd:∀b∈u.bt,∃er,Fn kg 100 [.agg (aX b)] (I er)):∃r,Fn kg 34 [.agg (aF u)] (B r)/\(r=true->Rt u):=by
 have a1:=c55 u hz hk hd
 cases h1:MV u with
 |false=>
  rw[h1]at a1;exact⟨false,aH O6 ⟨[(2,false),(6,false),(10,false)],_,a1,rfl,rfl,rfl,rfl,rfl,rfl⟩,λh=>by cases h⟩
 |true=>
  rw[h1]at a1;have hp:=Z0 h1;have hm:=Ld (hp.es _ (by simp:(fV u.ms).2∈_));have a2:=c56 u hz.ls hz.bs hz.ms
  cases h2:u.ms.any (HM u)with
  |true=>
   rw[h2]at a2;exact⟨false,aH O6 ⟨[(2,true),(6,false),(10,false)],_,a1,rfl,_,a2,rfl,rfl,rfl,rfl,rfl⟩,λh=>by cases h⟩
  |false=>
   rw[h2]at a2;have Fy:=hp.es (jk u.bs) (by simp);have SX:=hp.es (dx u.ls) (by simp);have uB:=yX Fy;have pW:=nQ SX;have a3:=c57 u hm (by omega) (by omega) (Q0 Fy) (QX h2);have a4:=c58 u hm hz.qs hz.bs
   cases h3:kz u.ls (qg u.ms) u.bs []with
   |false=>
    rw[h3]at a3;exact⟨false,aH O6 ⟨[(2,true),(6,true),(10,false)],_,a1,rfl,_,a2,rfl,_,a3,rfl,rfl,rfl,rfl⟩,λh=>by cases h⟩
   |true=>
    rw[h3]at a3;exact⟨ym u,aH O6 ⟨[(2,true),(6,true),(10,true)],_,a1,rfl,_,a2,rfl,_,a3,rfl,_,a4,rfl,rfl,rfl⟩,λ_=>⟨hp,h2⟩⟩
end Go.an.ax.G
