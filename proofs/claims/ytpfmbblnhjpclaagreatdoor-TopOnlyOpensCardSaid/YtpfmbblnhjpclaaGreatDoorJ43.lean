import Derived.Test.YtpfmbblnhjpclaaGreatDoorJ42
import Derived.Test.YtpfmbblnhjpclaaGreatDoorJ37
set_option linter.unusedVariables false
set_option linter.unusedSimpArgs false
set_option maxRecDepth 20000
namespace Go.an.ax.G
open Go Go.an Go.an.Day Go.Proofs Go.RowKit
def BtR(u:St)(e:Vt)(bt:List Bt):Prop:=bt.length<=u.bt.length+1/\∀M,(∀b∈u.bt,b.us.length<=M/\b.gE.length<=M)->e.eH.length<=M->∀b∈bt,b.us.length<=M/\b.gE.length<=M
theorem W6(u:St)(l:List Rw)(e:Vt)(fr:List (Nat×AV))(er:Int)(h:gH fr [2]=[(2,I er)]):aj [18] ⟨fr,(18,cJ (Own.row u .bt) l e)::Own.ae u .bt⟩ ⟨[(2,I er)],[(18,cJ (aF u) l e)]⟩:=by
 have this:jf u (LS u.po.cl) (Pe.A u.po.ps) (Ag.A u.po.ag) (BS u.bs) (SS u.ls) (.aL 8 u.bt.length ((u.bt.map aX).take u.bt.length)) (uw u.sh)=aF u:=by simp[aF,ph]
 have k1:kG (⟨[(2,I er)],(18,cJ (Own.row u .bt) l e)::Own.ae u .bt⟩:aM) 33=⟨[(2,I er)],[(18,cJ (jf u (LS u.po.cl) (Pe.A u.po.ps) (Ag.A u.po.ag) (BS u.bs) (SS u.ls) (.aL 8 u.bt.length ((u.bt.map aX).take u.bt.length)) (uw u.sh)) l e)]⟩:=by kernel_rfl
 rw[this]at k1;exact(aj.ad [2] [18,33]).trans ((aj.of (by unfold aM.only;rw[h];rfl)).trans ((aj.kG (⟨[(2,I er)],(18,cJ (Own.row u .bt) l e)::Own.ae u .bt⟩:aM) 33).trans (aj.of k1)))
theorem ag7{l:List Int}(h:(3:Int)<=l.length):∃a b c r,l=a::b::c::r:=by
 match l,h with
 |a::b::c::r,_=>exact⟨a,b,c,r,rfl⟩
abbrev W7:List Nat:=[0,2,3,4,5,6,18,37]
abbrev ag8(u:St)(l:List Rw)(e:Vt):aM:=⟨[(0,.af 18 0),(3,NS e.eH)],(18,cJ (Own.row u .bt) l e)::Own.ae u .bt⟩
set_option maxHeartbeats 4000000 in
theorem t167(u:St)(l:List Rw)(id aR kind n0 n1 n2:Int)(ns:List Int)(cG:List (List UInt8))(hz:u.sz)(hl:u.bt.length<64)(hn:ns.length<=1000):
  ∃(row:List AV)(er:Int),((∃b:Bt,b.us.length<=ns.length/\b.gE.length=0/\row=aF {u with bt:=u.bt++[b]})/\er=0∨er≠0/\row=Own.jg u .bt)/\
   mY kg tt 74 W7 [(8,[1,1,1])] [7] [18] (o0 3 (body Tryz.f167)) (ag8 u l ⟨id,aR,kind,n0::n1::n2::ns,cG⟩) (rh tt [18] [.tmp 2] (I er) [(18,cJ row l ⟨id,aR,kind,n0::n1::n2::ns,cG⟩)]):=by
 obtain⟨b,er,amo,yw,Fx⟩:=amf n0 aR n1 n2 ns (by omega);have hA:AV.aL 8 (u.bt.length+1) (((u.bt.map aX).take u.bt.length++[aX b]).take (u.bt.length+1))=TS (u.bt++[b]):=by simp[TS,ph]
 have step:∀(row:List AV),fS kg 251 [.af 18 12,TS (u.bt++[b]),I er] [(18,cJ (Own.jg u .bt) l ⟨id,aR,kind,n0::n1::n2::ns,cG⟩)] [18] [(18,cJ row l ⟨id,aR,kind,n0::n1::n2::ns,cG⟩)] (I er)->
   mY kg tt 74 W7 [(8,[1,1,1])] [7] [18] (o0 3 (body Tryz.f167)) (ag8 u l ⟨id,aR,kind,n0::n1::n2::ns,cG⟩) (rh tt [18] [.tmp 2] (I er) [(18,cJ row l ⟨id,aR,kind,n0::n1::n2::ns,cG⟩)]):=by
  intro row lh;refine⟨_,aj.refl _ _,⟨by decide,by simp only[bB];omega⟩,[I n0],rfl,⟨by decide,?_⟩,⟨by decide,by simp only[bB];omega⟩,[I n1],rfl,⟨by decide,by simp only[bB];omega⟩,[I n2],rfl,_,amo,?_⟩
  .simp only[bB];omega
  .refine⟨rfl,⟨?_,?_⟩,⟨[(63,.af 18 12),(71,TS (u.bt++[b])),(72,I er)],[(18,cJ (Own.jg u .bt) l ⟨id,aR,kind,n0::n1::n2::ns,cG⟩)]⟩,?_,_,I er,[18],lh,rfl,?_⟩
   .show(u.bt.length+1)*96<=_
    omega
   .show u.bt.length+1<=_
    omega
   .rw[<-hA]
    exact(aj.kG _ 1136).trans (aj.ad [63,71,72] [18])
   .exact⟨_,aj.ad [2] [18],rfl,rfl,rfl⟩
 by_cases h0:er=0
 .subst h0
  exact⟨_,0,.inl ⟨⟨b,yw,Fx,rfl⟩,rfl⟩,step _ (agx u l _ _)⟩
 .exact⟨_,er,.inr ⟨h0,rfl⟩,step _ (agy u l _ _ _ h0)⟩
set_option maxHeartbeats 4000000 in
theorem amp(u:St)(l:List Rw)(e:Vt)(hz:u.sz)(hn:e.eH.length<=1000)(hF:zi e 3 0 true (-1)):yj 167 u l e λu'=>∃bt,u'={u with bt:=bt}/\BtR u e bt:=by
 obtain⟨id,aR,kind,eH,cG⟩:=e;obtain⟨n0,n1,n2,ns,jw⟩:=ag7 hF.num;simp only at jw hn;subst jw;have uB:=hz.bt;have ny:ns.length<=1000:=by simp at hn;omega
 by_cases h1:∃q,0<u.bt.length/\u.bt[u.bt.length-1]?=some q/\n0<=q.id
 .obtain⟨q,hp,hq,eY⟩:=h1
  have Lm:(u.bt.map aX)[u.bt.length-1]?=some (aX q):=by rw[aS,hq];rfl
  refine⟨.bt,5,.inl ⟨u,dK Ky [] [] (eI _ _ _ _) ⟨[(2,true)],by simp;omega,⟨by decide,by simp only[bB];omega⟩,[I n0],rfl,_,au (y:=((u.bt.length-1:Nat):Int)) (by omega),⟨by omega,by omega⟩,aX q,by simpa using Lm,λ_=>?_,λh=>absurd eY (j0 h)⟩,λh=>by cases h⟩⟩;exact⟨_,W6 u l _ _ _ rfl,rfl,rfl,rfl⟩
 have last:∀q,0<u.bt.length->u.bt[u.bt.length-1]?=some q->¬n0<=q.id:=λq h2 h3 h4=>h1 ⟨q,h2,h3,h4⟩
 clear h1
 by_cases hf:64<=u.bt.length
 .obtain⟨q,hq⟩:∃q,u.bt[u.bt.length-1]?=some q:=⟨_,aW (by omega)⟩
  have Lm:(u.bt.map aX)[u.bt.length-1]?=some (aX q):=by rw[aS,hq];rfl
  refine⟨.bt,12,.inl ⟨u,dK Ky [] [] (eI _ _ _ _) ⟨[(2,true)],by simp;omega,⟨by decide,by simp only[bB];omega⟩,[I n0],rfl,_,au (y:=((u.bt.length-1:Nat):Int)) (by omega),⟨by omega,by omega⟩,aX q,by simpa using Lm,λh=>absurd (aP h) (last q (by omega) hq),λ_=>⟨λ_=>?_,λh=>absurd (j0 h) (by omega)⟩⟩,λh=>by cases h⟩⟩;exact⟨_,W6 u l _ _ _ rfl,rfl,rfl,rfl⟩
 obtain⟨row,er,aD,c',w1,w2⟩:=t167 u l id aR kind n0 n1 n2 ns cG hz (by omega) ny;have fin:HC 167 .bt u l ⟨id,aR,kind,n0::n1::n2::ns,cG⟩ row er:=by
  by_cases Qh:u.bt.length=0
  .refine dK Ky [(8,[1,1,1])] [7] (eI _ _ _ _) ⟨[(2,false)],by simp[Qh],λh=>(by cases h),λ_=>⟨λh=>absurd (aP h) (by omega),λ_=>?_⟩⟩
   exact⟨c',aj.trans (aj.ad [0,3] [18,33]) w1,w2⟩
  .obtain⟨q,hq⟩:∃q,u.bt[u.bt.length-1]?=some q:=⟨_,aW (by omega)⟩
   have Lm:(u.bt.map aX)[u.bt.length-1]?=some (aX q):=by rw[aS,hq];rfl
   refine dK Ky [(8,[1,1,1])] [7] (eI _ _ _ _) ⟨[(2,true)],by simp;omega,⟨by decide,by simp only[bB];omega⟩,[I n0],rfl,_,au (y:=((u.bt.length-1:Nat):Int)) (by omega),⟨by omega,by omega⟩,aX q,by simpa using Lm,λh=>absurd (aP h) (last q (by omega) hq),λ_=>⟨λh=>absurd (aP h) (by omega),λ_=>?_⟩⟩;exact⟨c',aj.trans (aj.ad [0,3] [18,33]) w1,w2⟩
 rcases aD with⟨⟨b,yw,Fx,rfl⟩,rfl⟩|⟨h0,rfl⟩
 .refine⟨.bt,0,.inl ⟨_,fin,λ_=>⟨_,rfl,by simp,λM hM hnM x hx=>?_⟩⟩⟩
  rcases cE.1 hx with hx|hx
  .exact hM x hx
  .rw[iw.1 hx]
   simp at hnM;omega
 .exact⟨.bt,er,.inr ⟨h0,u,fin⟩⟩
end Go.an.ax.G
namespace Go.an
open Go.RowKit
theorem nq{P:Program}{N:Nat}{ps:List Nat}{aB:Array Oper}{p d:Nat}{c:aM}{o:Oper}{x:Operand}{ty ty2 e:TypeId}{u:AV}(ho:aB[p]?=some o)(cq:o.op=.binOp .eql ty x (.const (.pointer none)) ty2)(hg:o.guard=none)(hd:o.dst=some d)(Nu:fg N c (some d)=true)
  (hty:P.underlying ty=some (.pointer e))(hx:j8 c x=u)(b:Bool)(hu:∀w X K v,VR w X K u v->∃a,v=.pointer a/\a.isNone=b)(hn:ir u=true):BN P N ps aB p c (λc'=>c'=⟨(d,.bool b)::c.fr,c.O⟩):=by
 rintro E a w Q hN hp ⟨K,hs⟩;have hv:=((fh (c:=c) hs) x).vr (by rintro d bf u' e';rw[hx]at e';subst e';cases hn);rw[hx]at hv;obtain⟨q,hq,hqb⟩:=hu _ _ _ _ hv;have h0:a.eval (.const (.pointer none))=.pointer none:=rfl;have Ck:(binOp .eql ty (.pointer q) (.pointer none)).run P w=.ok (.bool b) w:=by
  have:(Op.equal ty (.pointer q) (.pointer none)).run P w=.ok b w:=by
   have e1:Op.equal ty (.pointer q) (.pointer none)=Op.equalIn (9999+1) ty (.pointer q) (.pointer none):=rfl;rw[e1,Op.equalIn,Sem.run_bind,run_underlying hty,Result.andThen_ok]
   cases q with
   |none=>exact gQ (λb=>Result.ok b w) hqb
   |some q=>exact gQ (λb=>Result.ok b w) hqb
  simp[binOp,this]
 have hgd:(eqGuard .eql ty x (.const (.pointer none)) (.pointer q) (.pointer none)).run P w=.ok () w:=by simp[eqGuard]
 refine jG (v:=.bool b) (w':=w) ho (dS hg) ?_ ?_
 .simp only[execOp,cq,hq,h0,Sem.run_bind,hgd,Ck,Result.andThen_ok,Sem.run_pure]
 .rw[hd]
  exact⟨_,rfl,K,hs.put (dst:=some d) (u:=.bool b) (by rw[hN];exact Nu) λ_ _=>FV.of .bool⟩
theorem M6{P:Program}{N:Nat}{ps:List Nat}{aB:Array Oper}{p d:Nat}{c:aM}{o:Oper}{v:Value}(ho:aB[p]?=some o)(cq:o.op=.assign (.const v))(hg:o.guard=none)(hd:o.dst=some d)(Nu:fg N c (some d)=true):BN P N ps aB p c (λc'=>c'=⟨(d,.lit v)::c.fr,c.O⟩):=by
 rintro E a w Q hN hp ⟨K,hs⟩;refine jG (v:=v) (w':=w) ho (dS hg) ?_ ?_
 .simp only[execOp,cq,Act.eval,Sem.run_pure]
 .rw[hd]
  exact⟨_,rfl,K,hs.put (dst:=some d) (u:=.lit v) (by rw[hN];exact Nu) λ_ _=>FV.of .lit⟩
end Go.an
namespace Go.an.ax.G
open Go Go.an Go.an.Day Go.Proofs Go.RowKit
abbrev rB(u:St)(a:AV):List AV:=jf u (LS u.po.cl) (Pe.A u.po.ps) (Ag.A u.po.ag) (BS u.bs) (SS u.ls) a (uw u.sh)
abbrev tkB(u:St):AV:=.aL 8 u.bt.length ((u.bt.map aX).take u.bt.length)
theorem aan(u:St):tkB u=TS u.bt:=by unfold tkB;rw[ph (by simp)]
abbrev yp(u:St)(l:List Rw)(e:Vt)(R:List (List AV)):List (Nat×ak):=(18,cJ (rB u (.bn 34 8 u.bt.length)) l e):: [(34,⟨97,8,.flat,R,[]⟩)]
theorem Lo(row:List AV)(l:List Rw)(e:Vt)(x:ak):∀b,bm b [18,34]=true->Nat.ble 2 (b %16)=true/\(aK ((18,cJ row l e):: [(34,x)]) b).isSome=true:=by
 intro b h;simp only[bm]at h
 split at h
 .rename_i q;rw[beq_true q];exact⟨rfl,rfl⟩
 .split at h
  .rename_i q;rw[beq_true q];exact⟨rfl,rfl⟩
  .cases h
theorem amq(b:Bt)(row:List AV)(l:List Rw)(id aR kind n0:Int)(ns:List Int)(cG:List (List UInt8))(hr:row.length=16):Fn kg 310 [.agg (aX b),.aw [.aw (row++[WS l]++fy ⟨id,aR,kind,n0::ns,cG⟩) 0] 0] (B (b.id==n0)):=by
 match row,hr with
 |[_,_,_,_,_,_,_,_,_,_,_,_,_,_,_,_],_=>exact aH adh ⟨⟨by decide,by simp only[bB];omega⟩,[I n0],rfl,rfl,rfl,rfl⟩
theorem amr(l:List Bt)(hl:l.length<=100000)(p:Bt->Bool)(g:FuncId)(xs:List AV)(hp:∀a∈l,Fn kg g [.agg (aX a),.aw xs 0] (B (p a))):Fn kg 309 [TS l,.func g [.aw xs 0]] (I (aQ p 0 l)):=by
 refine aH adg ?_;refine⟨λn c=>∃i:Nat,i<=l.length/\n=l.length-i/\c=⟨[(0,TS l),(1,.func g [.aw xs 0]),(4,I 0),(7,I l.length),(8,I i)],[]⟩/\aQ p i (l.drop i)=aQ p 0 l,⟨_,_,Wk.ad [0,1,4,7,8] [],0,by omega,rfl,rfl,by simp⟩,?_⟩;rintro n c ⟨i,hi,rfl,rfl,hI⟩;refine⟨λh=>?_,λh=>?_⟩
 .simp at h
  obtain⟨a,ha,hd,_⟩:=aq h;rw[hd,aQ]at hI;refine⟨⟨by omega,by omega⟩,aX a,by simp[ha],_,hp a (ay ha),λhf=>?_,λhf=>?_⟩
  .rw[if_pos hf]at hI
   exact⟨rfl,rfl,by rw[<-hI];rfl⟩
  .rw[if_neg (by simp[hf])]at hI
   refine⟨_,ah,?_⟩;exact⟨_,_,Wk.ad [0,1,4,7,8] [],by omega,i+1,by omega,rfl,rfl,hI⟩
 .simp at h
  have:i=l.length:=by omega
  subst this;simp[aQ]at hI;exact⟨rfl,rfl,by rw[<-hI];rfl⟩
abbrev UN:AV:=.lit (.pointer none)
set_option maxHeartbeats 1000000 in
theorem ag9(u:St)(l:List Rw)(id aR kind n0:Int)(ns:List Int)(cG:List (List UInt8))(hz:u.sz):∃r,((r=UN)∨∃(i:Nat)(b:Bt),u.bt[i]?=some b/\r=.dP 34 8 i 0)/\
  fS kg 252 [.af 18 0] (yp u l ⟨id,aR,kind,n0::ns,cG⟩ (u.bt.map aX)) [18,34] (yp u l ⟨id,aR,kind,n0::ns,cG⟩ (u.bt.map aX)) r:=by
 have uB:=hz.bt;have Rc:=amr u.bt uB (λb=>b.id==n0) 310 [.aw (rB u (tkB u)++[WS l]++fy ⟨id,aR,kind,n0::ns,cG⟩) 0] (λb _=>amq b (rB u (tkB u)) l id aR kind n0 ns cG rfl);rw[<-aan]at Rc
 rcases dH (λb:Bt=>b.id==n0) u.bt 0 with⟨h1,_⟩|⟨i,b,hi,_,h3,_⟩
 .rw[h1]at Rc
  refine⟨_,.inl rfl,dK V0 [(1,[6,6,6]),(3,[0,0,0])] [] (Lo _ _ _ _) ?_⟩;refine⟨rfl,_,aj.refl _ _,_,il rfl rfl rfl rfl rfl rfl rfl Rc rfl rfl,?_⟩;rintro c3 rfl;refine⟨λ_=>⟨rfl,_,aj.refl _ _,_,M6 (d:=2) rfl rfl rfl rfl rfl,?_⟩,λh=>(by cases h)⟩;rintro c3 rfl;exact⟨_,aj.ad [2] [18,34],rfl,rfl,rfl⟩
 .have aC:=(aE.1 hi).1
  have Pw:aQ (λb:Bt=>b.id==n0) 0 u.bt=(i:Int):=by simpa using h3
  rw[Pw]at Rc;refine⟨.dP 34 8 i 0,.inr ⟨i,b,hi,rfl⟩,dK V0 [(1,[6,6,6]),(3,[0,0,0])] [] (Lo _ _ _ _) ?_⟩;refine⟨rfl,_,aj.refl _ _,_,il rfl rfl rfl rfl rfl rfl rfl Rc rfl rfl,?_⟩;rintro c3 rfl;exact⟨λh=>absurd (aP h) (by omega),λ_=>⟨⟨by omega,by omega⟩,_,aj.ad [2] [18,34],rfl,rfl,rfl⟩⟩
theorem aha(u:St)(l:List Rw)(e:Vt)(i:Nat)(b b':Bt)(hi:u.bt[i]?=some b):fS kg 254 [.dP 34 8 i 0,.agg (aX b'),I 0] (yp u l e (u.bt.map aX)) [18,34] (yp u l e ((u.bt.set i b').map aX)) (I 0):=by
 have hr:(u.bt.map aX)[i]?=some (aX b):=by rw[aS,hi];rfl
 refine dK V1 [] [] (Lo _ _ _ _) ⟨λ_=>?_,λh=>(by cases h)⟩;have aC:=(aE.1 hi).1;refine⟨aX b,hr,?_⟩;exact⟨_,aj.ad [6] [18,34],by rw[oC];rfl,rfl,rfl⟩
theorem ahb(u:St)(l:List Rw)(e:Vt)(i:Nat)(b':Bt)(er:Int)(h:er≠0)(R:List (List AV)):fS kg 254 [.dP 34 8 i 0,.agg (aX b'),I er] (yp u l e R) [18,34] (yp u l e R) (I er):=by
 refine dK V1 [] [] (Lo _ _ _ _) ⟨λh'=>absurd (by simpa using h') h,λ_=>?_⟩;exact⟨_,aj.ad [6] [18,34],rfl,rfl,rfl⟩
end Go.an.ax.G
namespace Go.an.ax.G
open Go Go.an Go.an.Day Go.Proofs Go.RowKit
theorem Re(u:St)(l:List Rw)(e:Vt)(fr:List (Nat×AV))(bt:List Bt)(hb:bt.length=u.bt.length)(er:Int)(h:gH fr [2]=[(2,I er)]):aj [18] ⟨fr,yp u l e (bt.map aX)⟩ ⟨[(2,I er)],[(18,cJ (aF {u with bt:=bt}) l e)]⟩:=by
 have this:rB u (.aL 8 u.bt.length ((bt.map aX).take u.bt.length))=aF {u with bt:=bt}:=by
  rw[ph (by simp[hb])]
  show _=rB u (TS bt)
  rw[TS,hb]
 have k1:kG (⟨[(2,I er)],yp u l e (bt.map aX)⟩:aM) 34=⟨[(2,I er)],[(18,cJ (rB u (.aL 8 u.bt.length ((bt.map aX).take u.bt.length))) l e)]⟩:=by kernel_rfl
 rw[this]at k1;exact(aj.ad [2] [18,34]).trans ((aj.of (by unfold aM.only;rw[h];rfl)).trans ((aj.kG (⟨[(2,I er)],yp u l e (bt.map aX)⟩:aM) 34).trans (aj.of k1)))
theorem HT{w:World}{X:Nat->Prop}{K:KM}{v:Value}(h:VR w X K UN v):∃a,v=.pointer a/\a.isNone=true:=⟨none,by cases h;rfl,rfl⟩
theorem o8{w:World}{X:Nat->Prop}{K:KM}{b sz i off:Nat}{v:Value}(h:VR w X K (.dP b sz i off) v):∃a,v=.pointer a/\a.isNone=false:=by
 cases h;exact⟨_,rfl,rfl⟩
theorem ahc(u:St)(l:List Rw)(e:Vt)(fr:List (Nat×AV))(h:gH fr [0,6]=[(0,.af 18 0),(6,.af 18 0)]):aj [18] ⟨fr,(18,cJ (Own.row u .bt) l e)::Own.ae u .bt⟩ ⟨[(0,.af 18 0),(6,.af 18 0)],yp u l e (u.bt.map aX)⟩:=by
 refine(aj.ad [0,6] [18,33]).trans ((aj.of (c':=⟨[(0,.af 18 0),(6,.af 18 0)],(18,cJ (Own.row u .bt) l e)::Own.ae u .bt⟩) (by unfold aM.only;rw[h];rfl)).trans ?_);exact(aj.kr [0,6] [18,33] [(33,34)] rfl rfl rfl rfl).trans (aj.of rfl)
set_option maxHeartbeats 4000000 in
theorem ams(u:St)(l:List Rw)(e:Vt)(hz:u.sz)(hF:zi e 1 0 false (-1)):yj 168 u l e λu'=>∃bt,u'={u with bt:=bt}/\BtR u e bt:=by
 obtain⟨id,aR,kind,eH,cG⟩:=e;obtain⟨n0,jw⟩:=UC (hF.more rfl);simp only at jw;subst jw;have uB:=hz.bt;obtain⟨r,hr,HU⟩:=ag9 u l id aR kind n0 [] cG hz
 rcases hr with rfl|⟨i,b,hi,rfl⟩
 .refine⟨.bt,7,.inl ⟨u,dK VU [(1,[1]),(2,[1,1,1]),(5,[3])] [] (eI _ _ _ _) ?_,λh=>by cases h⟩⟩
  refine⟨_,ahc u l _ _ rfl,_,UN,[18,34],HU,rfl,?_⟩;refine⟨rfl,_,aj.refl _ _,_,nq (d:=9) rfl rfl rfl rfl rfl Tryz.underlying340 rfl true (λ_ _ _ _ h=>HT h) rfl,?_⟩;rintro c3 rfl;refine⟨λ_=>?_,λh=>(by cases h)⟩;exact⟨_,Re u l _ _ u.bt rfl _ rfl,rfl,rfl,rfl⟩
 .have QN:=hz.tu b (ay hi)
  obtain⟨b',er,amt,iG,jS⟩:=amg b QN.1 QN.2;have aD:(u.bt.map aX)[i]?=some (aX b):=by rw[aS,hi];rfl
  have fin:∀(bt:List Bt),bt.length=u.bt.length->fS kg 254 [.dP 34 8 i 0,.agg (aX b'),I er] (yp u l ⟨id,aR,kind,[n0],cG⟩ (u.bt.map aX)) [18,34] (yp u l ⟨id,aR,kind,[n0],cG⟩ (bt.map aX)) (I er)->HC 168 .bt u l ⟨id,aR,kind,[n0],cG⟩ (aF {u with bt:=bt}) er:=by
   intro bt UG amu;refine dK VU [(1,[1]),(2,[1,1,1]),(5,[3])] [] (eI _ _ _ _) ?_;refine⟨_,ahc u l _ _ rfl,_,.dP 34 8 i 0,[18,34],HU,rfl,?_⟩;refine⟨rfl,_,aj.refl _ _,_,nq (d:=9) rfl rfl rfl rfl rfl Tryz.underlying340 rfl false (λ_ _ _ _ h=>o8 h) rfl,?_⟩;rintro c3 rfl;refine⟨λh=>(by cases h),λ_=>?_⟩;refine⟨aX b,aD,_,amt,?_⟩;refine⟨⟨[(17,.dP 34 8 i 0),(18,.agg (aX b')),(19,I er)],yp u l ⟨id,aR,kind,[n0],cG⟩ (u.bt.map aX)⟩,aj.ad [17,18,19] [18,34],_,I er,[18,34],amu,rfl,?_⟩;exact⟨_,Re u l _ _ bt UG _ rfl,rfl,rfl,rfl⟩
  by_cases h0:er=0
  .subst h0
   refine⟨.bt,0,.inl ⟨_,fin (u.bt.set i b') (by simp) (aha u l _ i b b' hi),λ_=>⟨_,rfl,by simp,λM hM hn x hx=>?_⟩⟩⟩
   rcases mw hx with hx|rfl
   .exact hM x hx
   .have:=hM b (ay hi)
    omega
  .exact⟨.bt,er,.inl ⟨_,fin u.bt rfl (ahb u l _ i b' er h0 _),λh=>absurd h h0⟩⟩
theorem ahd(u:St)(l:List Rw)(e:Vt)(fr:List (Nat×AV))(bt:List Bt)(hb:bt.length=u.bt.length)(n:Nat)(aa:List (List AV))(er:Int)(h:gH fr [68,69,70]=[(68,.af 18 13),(69,.aL 2 n aa),(70,I er)]):aj [18] ⟨fr,yp u l e (bt.map aX)⟩ ⟨[(68,.af 18 13),(69,.aL 2 n aa),(70,I er)],[(18,cJ (aF {u with bt:=bt}) l e)]⟩:=by
 have this:rB u (.aL 8 u.bt.length ((bt.map aX).take u.bt.length))=aF {u with bt:=bt}:=by
  rw[ph (by simp[hb])]
  show _=rB u (TS bt)
  rw[TS,hb]
 have k1:kG (⟨[(68,.af 18 13),(69,.aL 2 n aa),(70,I er)],yp u l e (bt.map aX)⟩:aM) 34=⟨[(68,.af 18 13),(69,.aL 2 n aa),(70,I er)],[(18,cJ (rB u (.aL 8 u.bt.length ((bt.map aX).take u.bt.length))) l e)]⟩:=by kernel_rfl
 rw[this]at k1;exact(aj.ad [68,69,70] [18,34]).trans ((aj.of (by unfold aM.only;rw[h];rfl)).trans ((aj.kG (⟨[(68,.af 18 13),(69,.aL 2 n aa),(70,I er)],yp u l e (bt.map aX)⟩:aM) 34).trans (aj.of k1)))
theorem ahe(u:St)(l:List Rw)(e:Vt)(fr:List (Nat×AV))(bt:List Bt)(hb:bt.length=u.bt.length)(er:Int)(h:gH fr [68,69,70]=[(68,.af 18 13),(69,.ai),(70,I er)]):aj [18] ⟨fr,yp u l e (bt.map aX)⟩ ⟨[(68,.af 18 13),(69,.ai),(70,I er)],[(18,cJ (aF {u with bt:=bt}) l e)]⟩:=by
 have this:rB u (.aL 8 u.bt.length ((bt.map aX).take u.bt.length))=aF {u with bt:=bt}:=by
  rw[ph (by simp[hb])]
  show _=rB u (TS bt)
  rw[TS,hb]
 have k1:kG (⟨[(68,.af 18 13),(69,.ai),(70,I er)],yp u l e (bt.map aX)⟩:aM) 34=⟨[(68,.af 18 13),(69,.ai),(70,I er)],[(18,cJ (rB u (.aL 8 u.bt.length ((bt.map aX).take u.bt.length))) l e)]⟩:=by kernel_rfl
 rw[this]at k1;exact(aj.ad [68,69,70] [18,34]).trans ((aj.of (by unfold aM.only;rw[h];rfl)).trans ((aj.kG (⟨[(68,.af 18 13),(69,.ai),(70,I er)],yp u l e (bt.map aX)⟩:aM) 34).trans (aj.of k1)))
def LkR(u:St)(lk:List LK):Prop:=lk=u.lk∨lk.length<=1024
abbrev ahf(u:St)(l:List Rw)(e:Vt)(b':Bt)(bt:List Bt)(first:Int):aM:=⟨[(0,.af 18 0),(4,.af 64 0),(6,I first)],(18,cJ (rB u (.bn 34 8 u.bt.length)) l e)::(34,⟨97,8,.flat,bt.map aX,[]⟩):: [(64,⟨97,8,.any,[aX b'],[]⟩)]⟩
abbrev W8:List Nat:=[0,2,3,4,5,6,7,8,12,27,34,42]
abbrev W9:List (Nat×List Nat):=[(1,[1]),(2,[1,1,1]),(15,[6])]
set_option maxHeartbeats 4000000 in
theorem t169(u:St)(l:List Rw)(e:Vt)(hz:u.sz)(b':Bt)(bt:List Bt)(UG:bt.length=u.bt.length)(hu:b'.us.length<=100000)(hb:b'.gE.length<=100000)(first:Int)(hf: -9223372036854775808<=first):
  ∃(lk:List LK)(er:Int),(er=0->LkR u lk)/\mY kg tt 72 W8 W9 [14] [18] (o0 8 (body Tryz.f169)) (ahf u l e b' bt first) (rh tt [18] [.tmp 2] (I er) [(18,cJ (aF {u with bt:=bt,lk:=lk}) l e)]):=by
 have tY:=hz.lk
 rcases amn u.lk tY b' hu hb first hf with⟨er,h0,aao⟩|⟨lk,hl,aao⟩
 .refine⟨u.lk,er,λh=>absurd h h0,_,aj.refl _ _,?_⟩
  refine⟨_,aao,?_⟩;refine⟨⟨[(68,.af 18 13),(69,.ai),(70,I er)],[(18,cJ (aF {u with bt:=bt}) l e)]⟩,(aj.ad [68,69,70] [18,34]).trans (ahe u l e [(68,.af 18 13),(69,.ai),(70,I er)] bt UG er rfl),_,I er,[18],agl {u with bt:=bt} l e er h0,rfl,?_⟩;exact⟨_,aj.ad [2] [18],rfl,rfl,rfl⟩
 .refine⟨lk,0,λ_=>.inr hl,_,aj.refl _ _,?_⟩
  refine⟨_,aao,true,?_⟩;refine⟨⟨[(68,.af 18 13),(69,yi lk),(70,I 0)],[(18,cJ (aF {u with bt:=bt}) l e)]⟩,(aj.ad [68,69,70] [18,34]).trans (ahd u l e [(68,.af 18 13),(69,yi lk),(70,I 0)] bt UG lk.length (lk.map cO) 0 rfl),_,I 0,[18],agk {u with bt:=bt} l e lk,rfl,?_⟩;exact⟨_,aj.ad [2] [18],rfl,rfl,rfl⟩
theorem ahg{l:List Int}(h:(1:Int)<=l.length):∃a r,l=a::r:=by
 match l,h with
 |a::r,_=>exact⟨a,r,rfl⟩
set_option maxHeartbeats 4000000 in
theorem amv(u:St)(l:List Rw)(e:Vt)(hz:u.sz)(hn:e.eH.length<=1000)(hF:zi e 1 0 true (-1)):yj 169 u l e λu'=>∃bt lk,u'={u with bt:=bt,lk:=lk}/\BtR u e bt/\LkR u lk:=by
 obtain⟨id,aR,kind,eH,cG⟩:=e;obtain⟨n0,ns,jw⟩:=ahg hF.num;simp only at jw hn;subst jw;have ny:ns.length<=1000:=by simp at hn;omega
 have uB:=hz.bt;have tY:=hz.lk;obtain⟨r,hr,HU⟩:=ag9 u l id aR kind n0 ns cG hz
 rcases hr with rfl|⟨i,b,hi,rfl⟩
 .refine⟨.bt,7,.inl ⟨u,dK GV [(1,[1]),(2,[1,1,1]),(15,[6])] [14] (eI _ _ _ _) ?_,λh=>by cases h⟩⟩
  refine⟨⟨[(0,.af 18 0),(9,.af 18 0)],yp u l _ (u.bt.map aX)⟩,?_,_,UN,[18,34],HU,rfl,?_⟩
  .exact(aj.kr [0,9] [18,33] [(33,34)] rfl rfl rfl rfl).trans (aj.of rfl)
  refine⟨rfl,_,aj.refl _ _,_,nq (d:=12) rfl rfl rfl rfl rfl Tryz.underlying340 rfl true (λ_ _ _ _ h=>HT h) rfl,?_⟩;rintro c3 rfl;refine⟨λ_=>?_,λh=>(by cases h)⟩;exact⟨_,Re u l _ _ u.bt rfl _ rfl,rfl,rfl,rfl⟩
 have QN:=hz.tu b (ay hi);obtain⟨b',er,UO,iG,jS,cY⟩:=amh b ns QN.1 QN.2 (by omega);have aD:(u.bt.map aX)[i]?=some (aX b):=by rw[aS,hi];rfl
 by_cases h0:er≠0
 .refine⟨.bt,er,.inl ⟨u,dK GV [(1,[1]),(2,[1,1,1]),(15,[6])] [14] (eI _ _ _ _) ?_,λh=>absurd h h0⟩⟩
  refine⟨⟨[(0,.af 18 0),(9,.af 18 0)],yp u l _ (u.bt.map aX)⟩,?_,_,.dP 34 8 i 0,[18,34],HU,rfl,?_⟩
  .exact(aj.kr [0,9] [18,33] [(33,34)] rfl rfl rfl rfl).trans (aj.of rfl)
  refine⟨rfl,_,aj.refl _ _,_,nq (d:=12) rfl rfl rfl rfl rfl Tryz.underlying340 rfl false (λ_ _ _ _ h=>o8 h) rfl,?_⟩;rintro c3 rfl;refine⟨λh=>(by cases h),λ_=>?_⟩;refine⟨aX b,aD,⟨by decide,by simp only[bB];omega⟩,_,UO,λ_=>?_,λh=>absurd h (by simp[h0])⟩;exact⟨⟨[(2,I er)],[(18,cJ (aF u) l ⟨id,aR,kind,n0::ns,cG⟩)]⟩,(aj.ad [2] [18,34]).trans (Re u l _ [(2,I er)] u.bt rfl er rfl),rfl,rfl,rfl⟩
 have h0:er=0:=by omega
 subst h0;have lh:(u.bt.map aX).set i (aX b')=(u.bt.set i b').map aX:=by rw[oC]
 have UG:(u.bt.set i b').length=u.bt.length:=by simp
 have hR:BtR u ⟨id,aR,kind,n0::ns,cG⟩ (u.bt.set i b'):=by
  refine⟨by simp,λM hM hnM x hx=>?_⟩
  rcases mw hx with hx|rfl
  .exact hM x hx
  .have:=hM b (ay hi)
   simp at hnM;omega
 by_cases h3:b'.st=3
 ·
  have key:∃first,-9223372036854775808<=first/\∀(lk:List LK)(er:Int),mY kg tt 72 W8 W9 [14] [18] (o0 8 (body Tryz.f169)) (ahf u l ⟨id,aR,kind,n0::ns,cG⟩ b' (u.bt.set i b') first) (rh tt [18] [.tmp 2] (I er) [(18,cJ (aF {u with bt:=u.bt.set i b',lk:=lk}) l ⟨id,aR,kind,n0::ns,cG⟩)])->HC 169 .bt u l ⟨id,aR,kind,n0::ns,cG⟩ (aF {u with bt:=u.bt.set i b',lk:=lk}) er:=by
   by_cases Qh:u.lk.length=0
   .refine⟨1,by decide,λlk er ⟨c',w1,w2⟩=>?_⟩
    refine dK GV [(1,[1]),(2,[1,1,1]),(15,[6])] [14] (eI _ _ _ _) ?_;refine⟨⟨[(0,.af 18 0),(9,.af 18 0)],yp u l _ (u.bt.map aX)⟩,?_,_,.dP 34 8 i 0,[18,34],HU,rfl,?_⟩
    .exact(aj.kr [0,9] [18,33] [(33,34)] rfl rfl rfl rfl).trans (aj.of rfl)
    refine⟨rfl,_,aj.refl _ _,_,nq (d:=12) rfl rfl rfl rfl rfl Tryz.underlying340 rfl false (λ_ _ _ _ h=>o8 h) rfl,?_⟩;rintro c3 rfl;refine⟨λh=>(by cases h),λ_=>?_⟩;refine⟨aX b,aD,⟨by decide,by simp only[bB];omega⟩,_,UO,λh=>(by cases h),λ_=>?_⟩;refine⟨aX b,aD,λh=>absurd h (by simp[h3]),λ_=>⟨λh=>absurd h (by simp[Qh]),λ_=>?_⟩⟩;refine⟨c',((aj.ad [0,4,6] [18,34,64]).trans (aj.of ?_)).trans w1,w2⟩
    show(⟨[(0,.af 18 0),(4,.af 64 0),(6,I 1)],(18,cJ (rB u (.bn 34 8 u.bt.length)) l ⟨id,aR,kind,n0::ns,cG⟩)::(34,⟨97,8,.flat,(u.bt.map aX).set i (aX b'),[]⟩):: [(64,⟨97,8,.any,[aX b'],[]⟩)]⟩:aM)=_
    rw[lh]
   .obtain⟨q,hq⟩:∃q,u.lk[u.lk.length-1]?=some q:=⟨_,aW (by omega)⟩
    have Lm:(u.lk.map cO)[u.lk.length-1]?=some (cO q):=by rw[aS,hq];rfl
    refine⟨IntKind.i64.wrap (q.1+1),by rw[IntKind.wrap_i64];omega,λlk er ⟨c',w1,w2⟩=>?_⟩;refine dK GV [(1,[1]),(2,[1,1,1]),(15,[6])] [14] (eI _ _ _ _) ?_;refine⟨⟨[(0,.af 18 0),(9,.af 18 0)],yp u l _ (u.bt.map aX)⟩,?_,_,.dP 34 8 i 0,[18,34],HU,rfl,?_⟩
    .exact(aj.kr [0,9] [18,33] [(33,34)] rfl rfl rfl rfl).trans (aj.of rfl)
    refine⟨rfl,_,aj.refl _ _,_,nq (d:=12) rfl rfl rfl rfl rfl Tryz.underlying340 rfl false (λ_ _ _ _ h=>o8 h) rfl,?_⟩;rintro c3 rfl;refine⟨λh=>(by cases h),λ_=>?_⟩;refine⟨aX b,aD,⟨by decide,by simp only[bB];omega⟩,_,UO,λh=>(by cases h),λ_=>?_⟩;refine⟨aX b,aD,λh=>absurd h (by simp[h3]),λ_=>⟨λ_=>?_,λh=>absurd (j0 h) (by omega)⟩⟩;refine⟨_,au (y:=((u.lk.length-1:Nat):Int)) (by omega),⟨by omega,by omega⟩,cO q,by simpa using Lm,_,rfl,?_⟩;refine⟨c',((aj.ad [0,4,6] [18,34,64]).trans (aj.of ?_)).trans w1,w2⟩
    show(⟨[(0,.af 18 0),(4,.af 64 0),(6,I (IntKind.i64.wrap (q.1+1)))],(18,cJ (rB u (.bn 34 8 u.bt.length)) l ⟨id,aR,kind,n0::ns,cG⟩)::(34,⟨97,8,.flat,(u.bt.map aX).set i (aX b'),[]⟩):: [(64,⟨97,8,.any,[aX b'],[]⟩)]⟩:aM)=_
    rw[lh]
  obtain⟨first,hf,hk⟩:=key;obtain⟨lk,er,amw,ht⟩:=t169 u l ⟨id,aR,kind,n0::ns,cG⟩ hz b' (u.bt.set i b') UG (by omega) (by omega) first hf
  exact⟨.bt,er,.inl ⟨_,hk lk er ht,λh=>⟨_,lk,rfl,hR,amw h⟩⟩⟩
 .refine⟨.bt,0,.inl ⟨{u with bt:=u.bt.set i b'},dK GV [(1,[1]),(2,[1,1,1]),(15,[6])] [14] (eI _ _ _ _) ?_,λ_=>⟨_,_,rfl,hR,.inl rfl⟩⟩⟩
  refine⟨⟨[(0,.af 18 0),(9,.af 18 0)],yp u l _ (u.bt.map aX)⟩,?_,_,.dP 34 8 i 0,[18,34],HU,rfl,?_⟩
  .exact(aj.kr [0,9] [18,33] [(33,34)] rfl rfl rfl rfl).trans (aj.of rfl)
  refine⟨rfl,_,aj.refl _ _,_,nq (d:=12) rfl rfl rfl rfl rfl Tryz.underlying340 rfl false (λ_ _ _ _ h=>o8 h) rfl,?_⟩;rintro c3 rfl;refine⟨λh=>(by cases h),λ_=>?_⟩;refine⟨aX b,aD,⟨by decide,by simp only[bB];omega⟩,_,UO,λh=>(by cases h),λ_=>?_⟩;refine⟨aX b,aD,λ_=>?_,λh=>absurd h (by simp[h3])⟩;refine⟨⟨[(2,I 0)],[(18,cJ (aF {u with bt:=u.bt.set i b'}) l ⟨id,aR,kind,n0::ns,cG⟩)]⟩,(aj.ad [2] [18,34]).trans ((aj.of (c':=⟨[(2,I 0)],yp u l ⟨id,aR,kind,n0::ns,cG⟩ ((u.bt.set i b').map aX)⟩) ?_).trans (Re u l _ [(2,I 0)] _ UG 0 rfl)),rfl,rfl,rfl⟩
  show(⟨[(2,I 0)],yp u l ⟨id,aR,kind,n0::ns,cG⟩ ((u.bt.map aX).set i (aX b'))⟩:aM)=_
  rw[lh]
end Go.an.ax.G
namespace Go.an.ax.Pe
open Go Go.an Go.an.Day Go.Proofs Go.RowKit
theorem Fq:∀(l:List fT)(p:Option fT),qx p l=0↔(∀a∈l,cx a=0)/\kP (p.map (·.id)) (l.map (·.id))=true
 |[],p=>by simp[qx,kP]
 |a::r,p=>by
  rw[Bi,cU,xi]
  by_cases hf:cx a≠0
  .rw[if_pos hf]
   constructor
   .intro h;exact absurd h hf
   .intro h;exact absurd (h.1 a (by simp)) hf
  .rw[if_neg hf]
   have tT:cx a=0:=by simpa using hf
   have ih:=Fq r (some a);simp only[iU]at ih
   cases p with
   |none=>simp only[gT,bK,forall_eq_or_imp,tT,rQ];exact ih
   |some q=>
    simp only[iU,bK,forall_eq_or_imp,tT,rQ]
    by_cases hq:a.id<=q.id
    .simp[hq]
    .simp only[if_neg hq];exact ih
theorem M7(l:List fT):bg l=0↔l.length<=64/\(∀a∈l,cx a=0)/\kP none (l.map (·.id))=true:=by
 constructor
 .intro h
  have:=ik h;rw[jP this,Fq]at h;exact⟨this,h⟩
 .rintro⟨h1,h2⟩
  rw[jP h1,Fq];exact h2
theorem Lp{l:List fT}{i:Nat}{a q:fT}(ha:l[i]?=some a)(hq:q.id=a.id):(l.set i q).map (·.id)=l.map (·.id):=by
 rw[oC,hq];exact Hn (by simp[ha])
theorem wm{l:List fT}{id:Int}{b d:l5}(h:(ez l id b d).2=0):∃(i:Nat)(a:fT),l[i]?=some a/\a.id=id/\bg l=0/\E3 a b d/\(ez l id b d).1=l.set i (Jj a b d):=by
 unfold ez at h⊢
 split at h
 .cases h
 .rename_i h1
  split at h
  .cases h
  .rename_i h2
   split at h
   .rename_i h3
    rcases zd l id with⟨k1,k2⟩|⟨i,a,k1,k2,k3,k4⟩
    .omega
    .have hg:l.getD (KQ l id).toNat KU=a:=by rw[k3];simp[List.getD,k1]
     rw[hg]at h3;simp only[not_or,Bool.not_eq_false]at h1;refine⟨i,a,k1,k2,by simpa using h1.1,h3,?_⟩;rw[if_neg (by simpa using h1),if_neg h2,hg,if_pos h3,k3,aY]
   .cases h
theorem DQ{l:List fT}{i:Nat}{a:fT}{b d:l5}(ha:l[i]?=some a)(hc:bg l=0)(hm:E3 a b d):bg (l.set i (Jj a b d))=0:=by
 have aeK:=Lp (q:=Jj a b d) ha rfl;rw[M7]at hc⊢;refine⟨by simpa using hc.1,λx hx=>?_,by rw[aeK];exact hc.2.2⟩
 rcases mw hx with hx|rfl
 .exact hc.2.1 x hx
 .exact hm.2.2
theorem HV:∀{l:List fT}{i:Nat}{a q:fT}(id:Int),l[i]?=some a->q.id=a.id->nR (l.set i q) id=nR l id∨(nR (l.set i q) id=some q/\nR l id=some a)
 |[],i,a,q,id,ha,_=>by simp at ha
 |x::l,0,a,q,id,ha,hq=>by
  simp at ha;subst ha
  by_cases h:x.id=id
  .right;unfold nR;simp[h,hq]
  .left;unfold nR;simp[h,hq]
 |x::l,i+1,a,q,id,ha,hq=>by
  have ih:=HV (l:=l) (i:=i) (a:=a) (q:=q) id (by simpa using ha) hq;unfold nR at ih⊢
  by_cases h:x.id=id
  .left;simp[h]
  .simpa[h]using ih
theorem UP(a b:Int):iK a b=min a b:=by unfold iK;split<;>omega
theorem Lq(x y:l5):(mn x y).hi<=x.hi:=(jD _ _).1
theorem Rf{a:fT}{b d made:l5}{k:Int}(fa:cx a=0)(fb:cx (Jj a b d)=0)(hm:nA made=true)(hk:Dz k):iu (Jj a b d) made k<=iu a made k:=by
 have R1:=Bm fa hm hk;have R2:=Bm fb hm hk;have k0:=R1.k.1;have g1:=Bh R2.d R1.d (Lq a.d d) k0;have g2:=Bh R2.b R1.b (Lq a.b b) (k:=110) (by omega);have g3:=Bh (kE R2.b (by omega)).1 (kE R1.b (by omega)).1 g2 k0
 show iu _ _ _<=iu _ _ _
 unfold iu;simp only[UP];omega
def DR(G' G:List Gr):Prop:=∀g'∈G',∃g∈G,g.kind=g'.kind/\g.src=g'.src
theorem Rg{l l':List fT}{made:l5}{k aR:Int}(hu:∀id p',nR l' id=some p'->∃p,nR l id=some p/\iu p' made k<=iu p made k):
  ∀(ids:List Int)(bX ky g':List Gr),DR ky bX->gl l' made k aR ky ids=some g'->∃g,gl l made k aR bX ids=some g/\DR g' g
 |[],bX,ky,g',hd,h=>by simp[gl]at h;subst h;exact⟨bX,rfl,hd⟩
 |id::ids,bX,ky,g',hd,h=>by
  rw[gl]at h
  split at h
  .cases h
  .rename_i p' ji
   obtain⟨p,hp,eY⟩:=hu id p' ji;rw[gl,hp];refine Rg hu ids _ _ g' ?_ h;intro x hx
   split at hx
   .rename_i aC
    rw[if_pos (by omega)]
    rcases cE.1 hx with hx|hx
    .obtain⟨y,hy,e⟩:=hd x hx
     exact⟨y,by simp[hy],e⟩
    .obtain rfl:=iw.1 hx
     exact⟨⟨2,id,0,iu p made k⟩,by simp,rfl,rfl⟩
   .obtain⟨y,hy,e⟩:=hd x hx
    refine⟨y,?_,e⟩
    split
    .simp[hy]
    .exact hy
theorem M8{l:List fT}{id:Int}{b d:l5}(h:(ez l id b d).2=0)(ids:List Int)(made:l5)(k aR:Int):DR (jx (ez l id b d).1 ids made k aR).1 (jx l ids made k aR).1:=by
 obtain⟨i,a,ha,hid,hc,hm,e⟩:=wm h;rw[e];have fw:=DQ ha hc hm
 by_cases V7:nA made=false
 .unfold jx
  rw[if_pos (.inr V7)];intro g hg;cases hg
 .have V7:nA made=true:=by simpa using V7
  unfold jx;have e1:¬(bg (l.set i (Jj a b d))≠0∨nA made=false):=by simp[fw,V7]
  have e2:¬(bg l≠0∨nA made=false):=by simp[hc,V7]
  rw[if_neg e1,if_neg e2]
  by_cases hk:k<0∨k>200∨aR<0∨aR>1048575
  .rw[if_pos hk];intro g hg;cases hg
  .rw[if_neg hk,if_neg hk]
   by_cases hi:kP none ids=false
   .rw[if_pos hi];intro g hg;cases hg
   .rw[if_neg hi,if_neg hi]
    cases tZ:gl (l.set i (Jj a b d)) made k aR [] ids with
    |none=>intro g hg;cases hg
    |some g'=>
     obtain⟨g,hg,hd⟩:=Rg (l:=l) (bX:=[]) (λid p' ji=>by
      rcases HV (l:=l) (q:=Jj a b d) id ha rfl with h1|⟨h1,h2⟩
      .exact⟨p',h1▸ji,Int.le_refl _⟩
      .rw[h1]at ji;cases ji
       exact⟨a,h2,Rf (Bj hc a (ay ha)) hm.2.2 V7 ⟨by omega,by omega⟩⟩) ids [] g' (λx hx=>by cases hx) tZ
     rw[hg];exact hd
theorem M9(l:List fT)(id:Int)(b d:l5):(ez l id b d).1.length<=l.length:=by
 unfold ez
 split
 .simp
 .split
  .simp
  .split
   .simp
   .simp
theorem Rh{l:List fT}(hz:∀p∈l,p.sz){id:Int}{b d:l5}(h:(ez l id b d).2=0):∀p∈(ez l id b d).1,p.sz:=by
 intro p hp;obtain⟨i,a,ha,_,_,_,he⟩:=wm h;rw[he]at hp
 rcases mw hp with hp|rfl
 .exact hz p hp
 .exact hz a (ay ha)
theorem Na{l:List fT}{id:Int}{b d:l5}(h:(ez l id b d).2=0):(ez l id b d).1.map (·.id)=l.map (·.id):=by
 obtain⟨i,a,ha,_,_,_,he⟩:=wm h;rw[he];exact Lp ha rfl
end Go.an.ax.Pe
namespace Go.an.ax.G
open Go Go.an Go.an.Day Go.Proofs Go.RowKit
abbrev DR:=Pe.DR
theorem zk{a a' b b':List Gr}(h:DR a' a)(k:DR b' b):DR (a'++b') (a++b):=by
 intro x hx
 rcases cE.1 hx with hx|hx
 .obtain⟨y,hy,e⟩:=h x hx;exact⟨y,by simp[hy],e⟩
 .obtain⟨y,hy,e⟩:=k x hx;exact⟨y,by simp[hy],e⟩
theorem iR(a:List Gr):DR a a:=λx hx=>⟨x,hx,rfl,rfl⟩
theorem Fs{a a':List Gr}(u:Int)(h:DR a' a):DR (a'.map (Cc u)) (a.map (Cc u)):=by
 intro x hx;obtain⟨y,hy,rfl⟩:=cK.1 hx;obtain⟨z,hz,e1,e2⟩:=h y hy;exact⟨Cc u z,cK.2 ⟨z,hz,rfl⟩,e1,e2⟩
theorem JI{p p':Po}{r:Rw}{d:Int}(h1:DR (g1 p' r d) (g1 p r d))(h2:DR (g2 p' r d) (g2 p r d))(h3:DR (g3 p' r d) (g3 p r d)):DR (gs p' r d) (gs p r d):=
 zk (zk (zk (iR _) (Fs _ h1)) (Fs _ h2)) (Fs _ h3)
theorem Lr{p p':Po}{d:Int}(l:List Rw)(u:Int)(h:∀r,DR (gs p' r d) (gs p r d)):∀k,DR (DC p' d l u k) (DC p d l u k)
 |0=>iR _
 |k+1=>by
  simp only[DC];refine zk (Lr l u h k) ?_
  split
  .exact h _
  .exact iR _
theorem UQ{p p':Po}{rd d:Int}{gZ:List Int}{G G':List Gr}(hn:∀g g',g.kind=g'.kind->g.src=g'.src->KW p rd gZ d g≠0->KW p' rd gZ d g'≠0)(hd:DR G' G)(h:RL p rd gZ d G=true):RL p' rd gZ d G'=true:=by
 unfold RL at h⊢;rw[iT]at h⊢;intro x hx;obtain⟨y,hy,e1,e2⟩:=hd x hx;have:=h y hy;simp only[bne_iff_ne]at this⊢;exact hn y x e1 e2 this
theorem BG{p p':Po}{l:List Rw}{rd d:Int}(hn:∀gZ g g',g.kind=g'.kind->g.src=g'.src->KW p rd gZ d g≠0->KW p' rd gZ d g'≠0)(hd:∀r,DR (gs p' r d) (gs p r d))(r:Rw)(h:yE p l rd d r=true):yE p' l rd d r=true:=
 UQ (hn _) (Lr l _ hd _) h
theorem Ft{p p':Po}{l:List Rw}{rd d:Int}(h:∀r,yE p l rd d r=true->yE p' l rd d r=true):∀u∈iQ p l rd d,u∈iQ p' l rd d:=by
 intro u hu;unfold iQ at hu⊢;obtain⟨r,hr,rfl⟩:=cK.1 hu;rw[eZ]at hr;exact cK.2 ⟨r,eZ.2 ⟨hr.1,h r hr.2⟩,rfl⟩
theorem JJ{p:Po}{id:Int}{b dd:l5}(h:(Pe.ez p.ps id b dd).2=0)(l:List Rw)(rd d:Int):∀u∈iQ p l rd d,u∈iQ {p with ps:=(Pe.ez p.ps id b dd).1} l rd d:=by
 refine Ft (BG (λgZ g g' e1 e2 hn=>?_) λr=>JI (iR _) (Pe.M8 h _ _ _ _) (iR _));unfold KW at hn⊢;rw[<-e1,<-e2];exact hn
theorem Ri{α:Type}{f:α->Bool}{l m:List α}{x:α}(h:l.find? f=some x):(l++m).find? f=some x:=by
 rw[List.find?_append,h];rfl
theorem JK{p:Po}{r:kJ}(h:jy (p.pm++[r])=0)(l:List Rw)(rd d:Int):∀u∈iQ p l rd d,u∈iQ {p with pm:=p.pm++[r]} l rd d:=by
 refine Ft (BG (λgZ g g' e1 e2 hn=>?_) λr=>JI (iR _) (iR _) (iR _));unfold KW at hn⊢;rw[<-e1,<-e2];have key:(ot p.pm rd gZ g.kind d).2=true->ot (p.pm++[r]) rd gZ g.kind d=ot p.pm rd gZ g.kind d:=by
  unfold ot;intro hf;have e1:¬jy (p.pm++[r])≠0:=by simp[h]
  rw[if_neg e1]
  by_cases hc:jy p.pm≠0
  .rw[if_pos hc]at hf;cases hf
  .rw[if_neg hc]at hf⊢
   cases hx:p.pm.find? (λp=>Hp p rd gZ g.kind d)with
   |none=>rw[hx]at hf;cases hf
   |some x=>rw[Ri hx]
 split at hn
 .exact absurd rfl hn
 .rename_i hc
  simp only[not_or]at hc;have hf:(ot p.pm rd gZ g.kind d).2=true:=by simpa using hc.1
  show(if(ot (p.pm++[r]) rd gZ g.kind d).2=false∨_ then(0:Int)else(ot (p.pm++[r]) rd gZ g.kind d).1)≠0
  rw[key hf,if_neg (by simp only[not_or];exact hc)];exact hn
theorem JL{p:Po}{a:Ag.o6}(h0:Ag.bg p.ag=0)(h:Ag.bg (p.ag++[a])=0)(l:List Rw)(rd d:Int):∀u∈iQ {p with ag:=p.ag++[a]} l rd d,u∈iQ p l rd d:=by
 refine Ft (BG (λgZ g g' e1 e2 hn=>?_) λr=>JI (iR _) (iR _) ?_)
 .unfold KW at hn⊢
  rw[<-e1,<-e2]
  split at hn
  .exact absurd rfl hn
  .rename_i hc
   rw[if_neg]
   .exact hn
   .rintro(h1|⟨h1,h2⟩)
    .exact hc (.inl h1)
    .refine hc (.inr ⟨h1,?_⟩)
     show Ag.sK (p.ag++[a]) g.src=true
     unfold Ag.sK at h2⊢;rw[h0]at h2;rw[h];have e:∀l:List Ag.o6,decide (aQ (λa=>(a.id==g.src)&&a.strict) 0 l>=0)=l.any λa=>(a.id==g.src)&&a.strict:=λl=>by rw[<-fj]
     rw[e]at h2⊢;simp only[List.any_append,aA,pj]at h2⊢;exact⟨rfl,.inl h2.2⟩
 .unfold g3
  split
  .exact iR _
  .show DR (Ag.kF p.ag r.bX d) (Ag.kF (p.ag++[a]) r.bX d)
   unfold Ag.kF;rw[if_neg (by simp[h0]),if_neg (by simp[h])];intro x hx;refine⟨x,?_,rfl,rfl⟩;rw[gG,qB];exact cE.2 (.inl hx)
end Go.an.ax.G
