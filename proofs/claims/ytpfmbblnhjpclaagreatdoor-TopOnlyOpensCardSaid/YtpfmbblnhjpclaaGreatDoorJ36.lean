import Derived.Test.YtpfmbblnhjpclaaGreatDoorJ35
set_option linter.unusedVariables false
set_option linter.unusedSimpArgs false
set_option maxRecDepth 20000
namespace Go.an.ax.G
open Go Go.an Go.an.Day Go.Proofs Go.RowKit
theorem alr(r:l6)(n:Int):Fn kg 289 [.agg (eW r),.aw [I n] 0] (B (r.id==n)):=aH ac2 ⟨rfl,rfl,rfl⟩
def Jw(l:List l6)(i:Nat)(d:Int):List l6:=match l[i]? with|some r=>l.set i {r with mK:=d}|none=>l
def vS(l:List l6)(n d:Int):Int:=if jT l≠0 then 1 else match l[(aQ (λr=>r.id==n) 0 l).toNat]?,decide (aQ (λr=>r.id==n) 0 l<0)with
 |some r,false=>if d<=r.jW∨r.mK<d then 2 else 0
 |_,_=>7
theorem Bo{α β:Type}(f:α->β)(l:List α)(i:Nat)(a:α):(l.map f).set i (f a)=(l.set i a).map f:=(oC ..).symm
theorem als(l:List l6)(hl:l.length<=100000)(n d:Int):Fn kg 218 [LS l,I n,I d] (.bY [if vS l n d=0 then .dh true 139 6 l.length ((Jw l (aQ (λr=>r.id==n) 0 l).toNat d).map eW)else .ai,I (vS l n d)]):=by
 refine aH acD ⟨_,c91 l (by omega),λh=>?_,λh=>?_⟩
 .have h:jT l≠0:=by simpa using h
  have:vS l n d=1:=by rw[vS,if_pos h]
  rw[this,if_neg (by decide)];exact⟨_,_,rfl,.inl rfl,rfl,rfl,trivial⟩
 .have h:jT l=0:=by simpa using h
  have hE:vS l n d=(match l[(aQ (λr=>r.id==n) 0 l).toNat]?,decide (aQ (λr=>r.id==n) 0 l<0)with
   |some r,false=>if d<=r.jW∨r.mK<d then 2 else 0
   |_,_=>7):=by rw[vS,if_neg (by simp[h])]
  have UA:=Wv l (by omega) (λr=>r.id==n) 289 [I n] (λr _=>alr r n)
  rcases dH (λr:l6=>r.id==n) l 0 with⟨h1,h2⟩|⟨i,r,hi,hr,h3,_⟩
  .rw[h1]at UA hE⊢
   rw[show decide ((-1:Int)<0)=true from rfl]at hE;have hE:vS l n d=7:=by rw[hE];split<;>simp_all
   rw[hE,if_neg (by decide)];refine⟨_,UA,λ_=>?_,λh=>by cases h⟩;exact⟨_,_,rfl,.inl rfl,rfl,rfl,trivial⟩
  .have aC:=(aE.1 hi).1
   have Pw:aQ (λr:l6=>r.id==n) 0 l=(i:Int):=by simpa using h3
   rw[Pw]at UA hE⊢;rw[show decide ((i:Int)<0)=false from by simp,aY,hi]at hE;simp only at hE;rw[aY];refine⟨_,UA,λh'=>absurd h' (by simp),λ_=>?_⟩
   by_cases h4:d<=r.jW
   .rw[if_pos (.inl h4)]at hE
    rw[hE,if_neg (by decide)];refine⟨[(8,true)],by omega,eW r,by simp[hi],by simp[h4],λ_=>?_,λh=>by cases h⟩;exact⟨_,_,rfl,.inl rfl,rfl,rfl,trivial⟩
   .by_cases h5:r.mK<d
    .rw[if_pos (.inr h5)]at hE
     rw[hE,if_neg (by decide)];refine⟨[(8,false)],by omega,eW r,by simp[hi],by simp[h4],by omega,eW r,by simp[hi],λ_=>?_,λh=>?_⟩
     .exact⟨_,_,rfl,.inl rfl,rfl,rfl,trivial⟩
     .revert h;simp[h5]
    .rw[if_neg (by omega)]at hE
     rw[hE,if_pos rfl];refine⟨[(8,false)],by omega,eW r,by simp[hi],by simp[h4],by omega,eW r,by simp[hi],λh=>?_,λ_=>?_⟩
     .revert h;simp[h5]
     .have a60:=c60 (l.map eW) (by simp;omega) (scL l)
      rw[gB]at a60;have e:Jw l i d=l.set i {r with mK:=d}:=by rw[Jw,hi]
      rw[e];refine⟨_,a60,false,by omega,eW r,by simp[hi],?_⟩;exact⟨_,_,rfl,⟨_,rfl,rfl,by simp,.inl ⟨rfl,gQ (AV.dh true 139 6 l.length) (Bo eW l i {r with mK:=d}).symm⟩⟩,rfl,rfl,trivial⟩
structure HH(a b:l6):Prop where
 id:a.id=b.id
 cls:a.cls=b.cls
 jW:a.jW=b.jW
 mK:a.mK<=b.mK
 ok:Jk b=true->Jk a=true
inductive qu{α β:Type}(R:α->β->Prop):List α->List β->Prop
 |nil:qu R [] []
 |cons {a b l l'}:R a b->qu R l l'->qu R (a::l) (b::l')
theorem qu.app{α β:Type}{R:α->β->Prop}:∀{l:List α}{l':List β}{k:List α}{k':List β},qu R l l'->qu R k k'->qu R (l++k) (l'++k')
 |_,_,_,_,.nil,h=>h
 |_,_,_,_,.cons h t,h'=>.cons h (t.app h')
theorem qu.last{α β:Type}{R:α->β->Prop}:∀{l:List α}{l':List β},qu R l l'->(l.getLast?=none/\l'.getLast?=none)∨∃a b,l.getLast?=some a/\l'.getLast?=some b/\R a b
 |_,_,.nil=>.inl ⟨rfl,rfl⟩
 |_,_,.cons h .nil=>.inr ⟨_,_,rfl,rfl,h⟩
 |_,_,.cons h (.cons h2 t)=>by
  rcases(qu.cons h2 t).last with⟨q,_⟩|⟨a,b,q1,q2,q3⟩
  .simp at q
  .exact .inr ⟨a,b,by rw[SI];exact q1,by rw[SI];exact q2,q3⟩
theorem qu.any{α β:Type}{R:α->β->Prop}{p:α->Bool}{q:β->Bool}(XV:∀a b,R a b->p a=true->q b=true):∀{l:List α}{l':List β},qu R l l'->l'.any q=false->l.any p=false
 |_,_,.nil,_=>rfl
 |_,_,.cons (a:=a) (b:=b) h t,hq=>by
  simp only[oA,tD]at hq⊢;refine⟨?_,qu.any XV t hq.2⟩
  cases hp:p a with
  |false=>rfl
  |true=>rw[XV a b h hp]at hq;cases hq.1
theorem qu.len{α β:Type}{R:α->β->Prop}:∀{l:List α}{l':List β},qu R l l'->l.length=l'.length
 |_,_,.nil=>rfl
 |_,_,.cons _ t=>by simp[t.len]
theorem HH.meet{a b c d:l6}(h:HH a b)(k:HH c d):yf a c=true->yf b d=true:=by
 intro q;simp only[yf,aA,lK,zp]at q⊢;have:=h.cls;have:=h.jW;have:=h.mK;have:=k.cls;have:=k.jW;have:=k.mK;omega
theorem if3{a b c:Bool}{x:Int}:(if a=false then(2:Int)else if b=true then 5 else if c=true then 6 else x)=0↔a=true/\b=false/\c=false/\x=0:=by
 cases a<;>cases b<;>cases c<;>simp
theorem Bv{pre:List l6}{r:l6}{l:List l6}:nS pre (r::l)=0↔Jk r=true/\(match pre.getLast? with|some p=>decide (r.id<=p.id)|none=>false)=false/\pre.any (yf r)=false/\nS (pre++[r]) l=0:=if3
theorem DK:∀{l l' pre ZU:List l6},qu HH l l'->qu HH pre ZU->nS ZU l'=0->nS pre l=0
 |_,_,_,_,.nil,_,_=>rfl
 |_,_,pre,ZU,.cons (a:=a) (b:=b) h t,hp,hz=>by
  obtain⟨h1,h2,h3,h4⟩:=Bv.1 hz;refine Bv.2 ⟨h.ok h1,?_,qu.any (λx y hxy=>h.meet hxy) hp h3,DK t (hp.app (.cons h .nil)) h4⟩
  rcases hp.last with⟨q1,q2⟩|⟨x,y,q1,q2,q3⟩
  .rw[q1]
  .rw[q2]at h2
   rw[q1];have:=q3.id;have:=h.id;have h2:=j0 h2;exact qA (by omega)
theorem QU{l:List l6}{i:Nat}{r r':l6}(hi:l[i]?=some r)(hr:HH r' r):qu HH (l.set i r') l:=by
 have refl:∀l:List l6,qu HH l l:=by
  intro l
  induction l with
  |nil=>exact .nil
  |cons a l ih=>exact .cons ⟨rfl,rfl,rfl,Int.le_refl _,id⟩ ih
 induction l generalizing i with
 |nil=>simp at hi
 |cons a l ih=>
  cases i with
  |zero=>simp at hi;subst hi;exact .cons hr (refl l)
  |succ i=>exact .cons ⟨rfl,rfl,rfl,Int.le_refl _,id⟩ (ih (by simpa using hi))
theorem UB{l:List l6}{n d:Int}(h:vS l n d=0):jT l=0/\jT (Jw l (aQ (λr=>r.id==n) 0 l).toNat d)=0/\(Jw l (aQ (λr=>r.id==n) 0 l).toNat d).length=l.length:=by
 unfold vS at h
 split at h
 .cases h
 .rename_i h0
  have h0:jT l=0:=by simpa using h0
  refine⟨h0,?_⟩
  split at h
  .rename_i r hr _
   split at h
   .cases h
   .rename_i hd
    rw[Jw,hr];simp only[zt,and_true];have hs:=QU hr (r':={r with mK:=d}) ⟨rfl,rfl,rfl,by simp only;omega,λhc=>by
     simp only[Jk,Zf,aA,zp]at hc⊢;omega⟩
    unfold jT at h0⊢;rw[zt]
    split at h0
    .cases h0
    .rename_i hn
     rw[if_neg hn];exact DK hs .nil h0
  .cases h
theorem uv(row:List AV)(hr:row.length=16)(l:List Rw)(e:Vt)(d:Int):Fn kg 216 [.aw (row++[WS l]++fy e) 0,I d] (B (decide (d<e.aR))):=by
 match row,hr with
 |[_,_,_,_,_,_,_,_,_,_,_,_,_,_,_,_],_=>exact aH VD ⟨rfl,rfl,rfl⟩
theorem UC{l:List Int}(h:(l.length:Int)=1):∃a,l=[a]:=by
 match l,h with
 |[a],_=>exact⟨a,rfl⟩
theorem agz{l:List Int}(h:(l.length:Int)=2):∃a b,l=[a,b]:=by
 match l,h with
 |[a,b],_=>exact⟨a,b,rfl⟩
theorem agA{l:List Int}(h:(l.length:Int)=3):∃a b c,l=[a,b,c]:=by
 match l,h with
 |[a,b,c],_=>exact⟨a,b,c,rfl⟩
theorem UD{l:List Int}(h:(l.length:Int)=4):∃a b c d,l=[a,b,c,d]:=by
 match l,h with
 |[a,b,c,d],_=>exact⟨a,b,c,d,rfl⟩
theorem agB{l:List Int}(h:(l.length:Int)=5):∃a b c d x,l=[a,b,c,d,x]:=by
 match l,h with
 |[a,b,c,d,x],_=>exact⟨a,b,c,d,x,rfl⟩
theorem ZV{l:List Int}(h:(l.length:Int)=6):∃a b c d x y,l=[a,b,c,d,x,y]:=by
 match l,h with
 |[a,b,c,d,x,y],_=>exact⟨a,b,c,d,x,y,rfl⟩
theorem alu(u:St)(l:List Rw)(e:Vt)(hz:u.sz)(hF:zi e 2 0 false (-1)):yj 151 u l e λu'=>∃cl,u'={u with po:={u.po with cl:=cl}}/\jT cl=0/\cl.length=u.po.cl.length:=by
 obtain⟨id,aR,kind,eH,cG⟩:=e;obtain⟨a,b,jw⟩:=agz (hF.more rfl);simp only at jw;subst jw
 by_cases h1:b<aR
 .refine⟨.no,5,.inl ⟨u,dK Pq [] [] (eI _ _ _ _) ⟨⟨by decide,by simp⟩,[I b],rfl,_,uv (aF u) rfl l ⟨id,aR,kind,[a,b],cG⟩ b,λ_=>?_,λh=>absurd h (by simp[h1])⟩,λh=>by cases h⟩⟩
  exact⟨_,aj.ad [2] [18],rfl,rfl,rfl⟩
 .have a218:=als u.po.cl hz.po.cl a b
  by_cases h2:vS u.po.cl a b=0
  .rw[h2,if_pos rfl]at a218
   obtain⟨k1,k2,k3⟩:=UB h2;generalize Jw u.po.cl (aQ (λr=>r.id==a) 0 u.po.cl).toNat b=cl at a218 k2 k3;refine⟨.no,0,.inl ⟨{u with po:={u.po with cl:=cl}},dK Pq [(5,[7])] [] (eI _ _ _ _) ⟨⟨by decide,by simp⟩,[I b],rfl,_,uv (aF u) rfl l ⟨id,aR,kind,[a,b],cG⟩ b,λh=>absurd h (by simp[h1]),λ_=>?_⟩,λ_=>⟨cl,rfl,k2,k3⟩⟩⟩;refine⟨⟨by decide,by simp⟩,[I a],rfl,⟨by decide,by simp⟩,[I b],rfl,_,a218,true,?_⟩;rw[<-k3];refine⟨_,aj.refl _ _,_,I 0,[18],age u l ⟨id,aR,kind,[a,b],cG⟩ cl,rfl,?_⟩;exact⟨_,aj.ad [2] [18],rfl,rfl,rfl⟩
  .rw[if_neg h2]at a218
   refine⟨.no,vS u.po.cl a b,.inl ⟨u,dK Pq [(5,[7])] [] (eI _ _ _ _) ⟨⟨by decide,by simp⟩,[I b],rfl,_,uv (aF u) rfl l ⟨id,aR,kind,[a,b],cG⟩ b,λh=>absurd h (by simp[h1]),λ_=>?_⟩,λh=>absurd h h2⟩⟩;refine⟨⟨by decide,by simp⟩,[I a],rfl,⟨by decide,by simp⟩,[I b],rfl,_,a218,?_⟩;refine⟨_,aj.refl _ _,_,I (vS u.po.cl a b),[18],agf u l ⟨id,aR,kind,[a,b],cG⟩ _ h2,rfl,?_⟩;exact⟨_,aj.ad [2] [18],rfl,rfl,rfl⟩
theorem agC(u:St)(l:List Rw)(e:Vt)(fr:List (Nat×AV))(er:Int)(h:gH fr [2]=[(2,I er)]):aj [18] ⟨fr,(18,cJ (Own.row u .cl) l e)::Own.ae u .cl⟩ ⟨[(2,I er)],[(18,cJ (aF u) l e)]⟩:=by
 have this: [JS u.po.sj,.aL 6 u.po.cl.length ((u.po.cl.map eW).take u.po.cl.length),Pe.A u.po.ps,I u.po.yr,Ag.A u.po.ag,PS u.po.pm,BS u.bs,SS u.ls,MS u.ms,QS u.qs,I u.bV,KS u.ks,TS u.bt,yi u.lk,uw u.sh,I u.ch]=aF u:=by simp[aF,ph]
 have k1:kG (⟨[(2,I er)],(18,cJ (Own.row u .cl) l e)::Own.ae u .cl⟩:aM) 33=⟨[(2,I er)],[(18,cJ [JS u.po.sj,.aL 6 u.po.cl.length ((u.po.cl.map eW).take u.po.cl.length),Pe.A u.po.ps,I u.po.yr,Ag.A u.po.ag,PS u.po.pm,BS u.bs,SS u.ls,MS u.ms,QS u.qs,I u.bV,KS u.ks,TS u.bt,yi u.lk,uw u.sh,I u.ch] l e)]⟩:=by kernel_rfl
 rw[this]at k1;exact(aj.ad [2] [18,33]).trans ((aj.of (by unfold aM.only;rw[h];rfl)).trans ((aj.kG (⟨[(2,I er)],(18,cJ (Own.row u .cl) l e)::Own.ae u .cl⟩:aM) 33).trans (aj.of k1)))
theorem alv(u:St)(l:List Rw)(e:Vt)(hz:u.sz)(hF:zi e 6 0 false 3):yj 150 u l e λu'=>∃cl,u'={u with po:={u.po with cl:=cl}}/\jT cl=0/\cl.length=u.po.cl.length+1:=by
 obtain⟨id,aR,kind,eH,cG⟩:=e;obtain⟨n0,n1,n2,n3,n4,n5,jw⟩:=ZV (hF.more rfl);simp only at jw;subst jw
 by_cases h1:n4<aR
 .refine⟨.cl,5,.inl ⟨u,dK VM [] [] (eI _ _ _ _) ⟨⟨by decide,by simp⟩,[I n4],rfl,_,uv [_,_,_,_,_,_,_,_,_,_,_,_,_,_,_,_] rfl l ⟨id,aR,kind,[n0,n1,n2,n3,n4,n5],cG⟩ n4,λ_=>?_,λh=>absurd h (by simp[h1])⟩,λh=>by cases h⟩⟩
  exact⟨_,agC u l _ _ _ rfl,rfl,rfl,rfl⟩
 .have cz:u.po.cl.length<=100000:=hz.po.cl
  generalize hr:(⟨n0,n1,n2,n3==1,n4,n5⟩:l6)=r;have jV: [I n0,I n1,I n2,B (n3==1),I n4,I n5]=eW r:=by subst hr;rfl
  have a91:=c91 (u.po.cl++[r]) (by simp;omega);have hA:AV.aL 6 (u.po.cl.length+1) (((u.po.cl.map eW).take u.po.cl.length++[[I n0,I n1,I n2,B (n3==1),I n4,I n5]]).take (u.po.cl.length+1))=LS (u.po.cl++[r]):=by
   rw[jV];simp[LS,ph]
  have ZW:=a91;rw[<-hA]at ZW;have step:∀(row:List AV)(er:Int),fS kg 217 [.af 18 1,LS (u.po.cl++[r]),I (jT (u.po.cl++[r]))] [(18,cJ (Own.jg u .cl) l ⟨id,aR,kind,[n0,n1,n2,n3,n4,n5],cG⟩)] [18] [(18,cJ row l ⟨id,aR,kind,[n0,n1,n2,n3,n4,n5],cG⟩)] (I er)->HC 150 .cl u l ⟨id,aR,kind,[n0,n1,n2,n3,n4,n5],cG⟩ row er:=by
   intro row er lh;refine dK VM [(5,[8,8,8])] [5] (eI _ _ _ _) ⟨⟨by decide,by simp⟩,[I n4],rfl,_,uv [_,_,_,_,_,_,_,_,_,_,_,_,_,_,_,_] rfl l ⟨id,aR,kind,[n0,n1,n2,n3,n4,n5],cG⟩ n4,λh=>absurd h (by simp[h1]),λ_=>?_⟩;refine⟨⟨by decide,by simp⟩,[I n0],rfl,⟨by decide,by simp⟩,[I n1],rfl,⟨by decide,by simp⟩,[I n2],rfl,⟨by decide,by simp⟩,[I n3],rfl,⟨by decide,by simp⟩,[I n4],rfl,⟨by decide,by simp⟩,[I n5],rfl,⟨?_,?_⟩,?_⟩
   .show(u.po.cl.length+1)*48<=_
    omega
   .show u.po.cl.length+1<=_
    omega
   refine⟨⟨[(0,.af 18 0),(4,LS (u.po.cl++[r]))],[(18,cJ (Own.jg u .cl) l ⟨id,aR,kind,[n0,n1,n2,n3,n4,n5],cG⟩)]⟩,?_,?_⟩
   .rw[<-hA]
    exact(aj.kG _ 688).trans (aj.ad [0,4] [18])
   .refine⟨rfl,_,a91,_,aj.ad [48,49,51] [18],_,I er,[18],lh,rfl,?_⟩
    exact⟨_,aj.ad [2] [18],rfl,rfl,rfl⟩
  by_cases h2:jT (u.po.cl++[r])=0
  .rw[h2]at step
   exact⟨.cl,0,.inl ⟨_,step _ _ (agn u l _ _),λ_=>⟨_,rfl,h2,by simp⟩⟩⟩
  .exact⟨.cl,_,.inr ⟨h2,_,step _ _ (ago u l _ _ _ h2)⟩⟩
theorem agD(u:St)(l:List Rw)(e:Vt)(fr:List (Nat×AV))(er:Int)(h:gH fr [2]=[(2,I er)]):aj [18] ⟨fr,(18,cJ (Own.row u .ag) l e)::Own.ae u .ag⟩ ⟨[(2,I er)],[(18,cJ (aF u) l e)]⟩:=by
 have this: [JS u.po.sj,LS u.po.cl,Pe.A u.po.ps,I u.po.yr,.aL 6 u.po.ag.length ((u.po.ag.map Ag.jc).take u.po.ag.length),PS u.po.pm,BS u.bs,SS u.ls,MS u.ms,QS u.qs,I u.bV,KS u.ks,TS u.bt,yi u.lk,uw u.sh,I u.ch]=aF u:=by simp[aF,ph]
 have k1:kG (⟨[(2,I er)],(18,cJ (Own.row u .ag) l e)::Own.ae u .ag⟩:aM) 33=⟨[(2,I er)],[(18,cJ [JS u.po.sj,LS u.po.cl,Pe.A u.po.ps,I u.po.yr,.aL 6 u.po.ag.length ((u.po.ag.map Ag.jc).take u.po.ag.length),PS u.po.pm,BS u.bs,SS u.ls,MS u.ms,QS u.qs,I u.bV,KS u.ks,TS u.bt,yi u.lk,uw u.sh,I u.ch] l e)]⟩:=by kernel_rfl
 rw[this]at k1;exact(aj.ad [2] [18,33]).trans ((aj.of (by unfold aM.only;rw[h];rfl)).trans ((aj.kG (⟨[(2,I er)],(18,cJ (Own.row u .ag) l e)::Own.ae u .ag⟩:aM) 33).trans (aj.of k1)))
theorem alw(u:St)(l:List Rw)(e:Vt)(hz:u.sz)(hF:zi e 6 0 false 3):yj 154 u l e λu'=>∃r,u'={u with po:={u.po with ag:=u.po.ag++[r]}}/\Ag.bg (u.po.ag++[r])=0:=by
 obtain⟨id,aR,kind,eH,cG⟩:=e;obtain⟨n0,n1,n2,n3,n4,n5,jw⟩:=ZV (hF.more rfl);simp only at jw;subst jw
 by_cases h1:n4<aR
 .refine⟨.ag,5,.inl ⟨u,dK VN [] [] (eI _ _ _ _) ⟨⟨by decide,by simp⟩,[I n4],rfl,_,uv [_,_,_,_,_,_,_,_,_,_,_,_,_,_,_,_] rfl l ⟨id,aR,kind,[n0,n1,n2,n3,n4,n5],cG⟩ n4,λ_=>?_,λh=>absurd h (by simp[h1])⟩,λh=>by cases h⟩⟩
  exact⟨_,agD u l _ _ _ rfl,rfl,rfl,rfl⟩
 .have cz:u.po.ag.length<=100000:=hz.po.ag
  generalize hr:(⟨n0,n1,n2,n3==1,n4,n5⟩:Ag.o6)=r;have jV: [I n0,I n1,I n2,B (n3==1),I n4,I n5]=Ag.jc r:=by subst hr;rfl
  have a91:=Ag.c93 (u.po.ag++[r]);have hA:AV.aL 6 (u.po.ag.length+1) (((u.po.ag.map Ag.jc).take u.po.ag.length++[[I n0,I n1,I n2,B (n3==1),I n4,I n5]]).take (u.po.ag.length+1))=Ag.A (u.po.ag++[r]):=by
   rw[jV];simp[Ag.A,ph]
  have ZW:=a91;rw[<-hA]at ZW;have step:∀(row:List AV)(er:Int),fS kg 222 [.af 18 4,Ag.A (u.po.ag++[r]),I (Ag.bg (u.po.ag++[r]))] [(18,cJ (Own.jg u .ag) l ⟨id,aR,kind,[n0,n1,n2,n3,n4,n5],cG⟩)] [18] [(18,cJ row l ⟨id,aR,kind,[n0,n1,n2,n3,n4,n5],cG⟩)] (I er)->HC 154 .ag u l ⟨id,aR,kind,[n0,n1,n2,n3,n4,n5],cG⟩ row er:=by
   intro row er lh;refine dK VN [(5,[8,8,8])] [5] (eI _ _ _ _) ⟨⟨by decide,by simp⟩,[I n4],rfl,_,uv [_,_,_,_,_,_,_,_,_,_,_,_,_,_,_,_] rfl l ⟨id,aR,kind,[n0,n1,n2,n3,n4,n5],cG⟩ n4,λh=>absurd h (by simp[h1]),λ_=>?_⟩;refine⟨⟨by decide,by simp⟩,[I n0],rfl,⟨by decide,by simp⟩,[I n1],rfl,⟨by decide,by simp⟩,[I n2],rfl,⟨by decide,by simp⟩,[I n3],rfl,⟨by decide,by simp⟩,[I n4],rfl,⟨by decide,by simp⟩,[I n5],rfl,⟨?_,?_⟩,?_⟩
   .show(u.po.ag.length+1)*48<=_
    omega
   .show u.po.ag.length+1<=_
    omega
   refine⟨⟨[(0,.af 18 0),(4,Ag.A (u.po.ag++[r]))],[(18,cJ (Own.jg u .ag) l ⟨id,aR,kind,[n0,n1,n2,n3,n4,n5],cG⟩)]⟩,?_,?_⟩
   .rw[<-hA]
    exact(aj.kG _ 688).trans (aj.ad [0,4] [18])
   .refine⟨rfl,_,a91,_,aj.ad [48,49,51] [18],_,I er,[18],lh,rfl,?_⟩
    exact⟨_,aj.ad [2] [18],rfl,rfl,rfl⟩
  by_cases h2:Ag.bg (u.po.ag++[r])=0
  .rw[h2]at step
   exact⟨.ag,0,.inl ⟨_,step _ _ (agr u l _ _),λ_=>⟨_,rfl,h2⟩⟩⟩
  .exact⟨.ag,_,.inr ⟨h2,_,step _ _ (ags u l _ _ _ h2)⟩⟩
theorem agE(u:St)(l:List Rw)(id aR kind:Int)(n0 n1 n2 n3 n4:Int)(cG:List (List UInt8)):fS kg 219 [.af 18 0] ((18,cJ (Own.row u .ps) l ⟨id,aR,kind,[n0,n1,n2,n3,n4],cG⟩)::Own.ae u .ps) [18] ((18,cJ (Own.row u .ps) l ⟨id,aR,kind,[n0,n1,n2,n3,n4],cG⟩)::Own.ae u .ps) (.bY [.agg [I n1,I n2],.agg [I n3,I n4]]):=by
 refine dK VV [] [] (eI _ _ _ _) ⟨⟨by decide,by simp⟩,[I n1],rfl,⟨by decide,by simp⟩,[I n2],rfl,⟨by decide,by simp⟩,[I n3],rfl,⟨by decide,by simp⟩,[I n4],rfl,?_⟩;refine⟨_,aj.refl _ _,rfl,_,rfl,rfl,λj x v h1 h2=>?_⟩
 match j with
 |0=>cases h1;cases h2;exact⟨rfl,rfl⟩
 |1=>cases h1;cases h2;exact⟨rfl,rfl⟩
 |j+2=>simp at h1
theorem agF(u:St)(l:List Rw)(id aR kind:Int)(n0 n1 n2 n3 n4:Int)(cG:List (List UInt8)):fS kg 219 [.af 18 0] ((18,cJ (Own.row u .no) l ⟨id,aR,kind,[n0,n1,n2,n3,n4],cG⟩)::Own.ae u .no) [18] ((18,cJ (Own.row u .no) l ⟨id,aR,kind,[n0,n1,n2,n3,n4],cG⟩)::Own.ae u .no) (.bY [.agg [I n1,I n2],.agg [I n3,I n4]]):=by
 refine dK VV [] [] (eI _ _ _ _) ⟨⟨by decide,by simp⟩,[I n1],rfl,⟨by decide,by simp⟩,[I n2],rfl,⟨by decide,by simp⟩,[I n3],rfl,⟨by decide,by simp⟩,[I n4],rfl,?_⟩;refine⟨_,aj.refl _ _,rfl,_,rfl,rfl,λj x v h1 h2=>?_⟩
 match j with
 |0=>cases h1;cases h2;exact⟨rfl,rfl⟩
 |1=>cases h1;cases h2;exact⟨rfl,rfl⟩
 |j+2=>simp at h1
theorem alx(u:St)(l:List Rw)(e:Vt)(hz:u.sz)(hs:∀s∈e.cG,s.length<=9223372036854775807)(hF:zi e 5 1 false (-1)):yj 152 u l e λu'=>∃r,u'={u with po:={u.po with ps:=u.po.ps++[r]}}/\Pe.bg (u.po.ps++[r])=0/\∀x∈u.po.ps++[r],x.sz:=by
 obtain⟨id,aR,kind,eH,cG⟩:=e;obtain⟨n0,n1,n2,n3,n4,jw⟩:=agB (hF.more rfl);simp only at jw;subst jw;obtain⟨s,rfl⟩:∃s,cG=[s]:=by
  have:=hF.cG
  match cG,this with
  |[s],_=>exact⟨s,rfl⟩
 have cz:u.po.ps.length<=100000:=hz.po.ps;generalize hr:(⟨n0,s,⟨n1,n2⟩,⟨n3,n4⟩⟩:Pe.fT)=r;have jV: [I n0,.str (bs s),I n1,I n2,I n3,I n4]=Pe.gA r:=by subst hr;rfl
 have H4:∀x∈u.po.ps++[r],x.sz:=by
  intro x hx
  rcases cE.1 hx with hx|hx
  .exact hz.po.nm x hx
  .obtain rfl:x=r:=by simpa using hx
   subst hr;exact hs s (by simp)
 have a92:=Pe.YD (u.po.ps++[r]) H4;have hA:AV.aL 6 (u.po.ps.length+1) (((u.po.ps.map Pe.gA).take u.po.ps.length++[[I n0,.str (bs s),I n1,I n2,I n3,I n4]]).take (u.po.ps.length+1))=Pe.A (u.po.ps++[r]):=by
  rw[jV];simp[Pe.A,ph]
 have step:∀(row:List AV)(er:Int),fS kg 220 [.af 18 2,Pe.A (u.po.ps++[r]),I (Pe.bg (u.po.ps++[r]))] [(18,cJ (Own.jg u .ps) l ⟨id,aR,kind,[n0,n1,n2,n3,n4],[s]⟩)] [18] [(18,cJ row l ⟨id,aR,kind,[n0,n1,n2,n3,n4],[s]⟩)] (I er)->HC 152 .ps u l ⟨id,aR,kind,[n0,n1,n2,n3,n4],[s]⟩ row er:=by
  intro row er lh;refine dK adQ [(1,[1]),(3,[8,8,8])] [3] (eI _ _ _ _) ⟨_,aj.refl _ _,_,_,[18],agE u l id aR kind n0 n1 n2 n3 n4 [s],rfl,?_⟩;refine⟨⟨by decide,by simp⟩,[I n0],rfl,⟨by decide,by simp⟩,[.str (bs s)],rfl,⟨?_,?_⟩,?_⟩
  .show(u.po.ps.length+1)*56<=_
   omega
  .show u.po.ps.length+1<=_
   omega
  refine⟨⟨[(0,.af 18 0),(5,Pe.A (u.po.ps++[r]))],[(18,cJ (Own.jg u .ps) l ⟨id,aR,kind,[n0,n1,n2,n3,n4],[s]⟩)]⟩,?_,?_⟩
  .rw[<-hA]
   exact(aj.kG _ 560).trans (aj.ad [0,5] [18])
  .refine⟨rfl,_,a92,_,aj.ad [40,41,43] [18],_,I er,[18],lh,rfl,?_⟩
   exact⟨_,aj.ad [2] [18],rfl,rfl,rfl⟩
 by_cases h2:Pe.bg (u.po.ps++[r])=0
 .rw[h2]at step
  exact⟨.ps,0,.inl ⟨_,step _ _ (agp u l _ _),λ_=>⟨_,rfl,h2,H4⟩⟩⟩
 .exact⟨.ps,_,.inr ⟨h2,_,step _ _ (agq u l _ _ _ h2)⟩⟩
theorem aly(u:St)(l:List Rw)(e:Vt)(hz:u.sz)(hF:zi e 5 0 false (-1)):yj 153 u l e λu'=>∃id b d,(Pe.ez u.po.ps id b d).2=0/\u'={u with po:={u.po with ps:=(Pe.ez u.po.ps id b d).1}}:=by
 obtain⟨id,aR,kind,eH,cG⟩:=e;obtain⟨n0,n1,n2,n3,n4,jw⟩:=agB (hF.more rfl);simp only at jw;subst jw;have alz:=Pe.akh u.po.ps (by have:=hz.po.ps;omega) hz.po.nm n0 ⟨n1,n2⟩ ⟨n3,n4⟩;have step:∀(row:List AV)(er:Int),fS kg 220 [.af 18 2,Pe.A (Pe.ez u.po.ps n0 ⟨n1,n2⟩ ⟨n3,n4⟩).1,I (Pe.ez u.po.ps n0 ⟨n1,n2⟩ ⟨n3,n4⟩).2] [(18,cJ (aF u) l ⟨id,aR,kind,[n0,n1,n2,n3,n4],cG⟩)] [18] [(18,cJ row l ⟨id,aR,kind,[n0,n1,n2,n3,n4],cG⟩)] (I er)->HC 153 .no u l ⟨id,aR,kind,[n0,n1,n2,n3,n4],cG⟩ row er:=by
  intro row er lh;refine dK adR [(1,[1]),(3,[7])] [] (eI _ _ _ _) ⟨_,aj.refl _ _,_,_,[18],agF u l id aR kind n0 n1 n2 n3 n4 cG,rfl,?_⟩;refine⟨⟨by decide,by simp⟩,[I n0],rfl,_,alz,true,?_⟩;refine⟨_,aj.ad [35,36,37] [18],_,I er,[18],lh,rfl,?_⟩;exact⟨_,aj.ad [2] [18],rfl,rfl,rfl⟩
 by_cases h2:(Pe.ez u.po.ps n0 ⟨n1,n2⟩ ⟨n3,n4⟩).2=0
 .rw[h2]at step
  exact⟨.no,0,.inl ⟨_,step _ _ (agh u l _ _),λ_=>⟨_,_,_,h2,rfl⟩⟩⟩
 .exact⟨.no,_,.inl ⟨u,step _ _ (agi u l _ _ _ h2),λh=>absurd h h2⟩⟩
def HI(l:List kJ)(r:kJ):Bool:=match l.getLast? with|some p=>decide (r.id<=p.id)|none=>false
def kH(l:List kJ)(r:kJ):Int:=if jy l≠0 then 1 else if H7 r=false then 2 else if HI l r=true then 5 else if 64<=l.length then 12 else 0
theorem alA(l:List kJ)(hl:l.length<=100000)(r:kJ):Fn kg 223 [PS l,.agg (eA r)] (.bY [if kH l r=0 then .dh true 148 6 (l.length+1) ((l++[r]).map eA)else .ai,I (kH l r)]):=by
 refine aH acF ⟨_,c94 l (by omega),λh=>?_,λh=>?_⟩
 .have h:jy l≠0:=by simpa using h
  have e:kH l r=1:=by rw[kH,if_pos h]
  rw[e,if_neg (by decide)];exact⟨_,_,rfl,.inl rfl,rfl,rfl,trivial⟩
 .have h:jy l=0:=by simpa using h
  refine⟨_,Zh r,λh2=>?_,λh2=>?_⟩
  .have h2:H7 r=false:=by simpa using h2
   have e:kH l r=2:=by rw[kH,if_neg (by simp[h]),if_pos h2]
   rw[e,if_neg (by decide)];exact⟨_,_,rfl,.inl rfl,rfl,rfl,trivial⟩
  .have h2:H7 r=true:=by simpa using h2
   have hE:kH l r=if HI l r=true then 5 else if 64<=l.length then 12 else 0:=by rw[kH,if_neg (by simp[h]),if_neg (by simp[h2])]
   have MF:=Yj (l.map eA) (by simp;omega) (scM l);rw[gB]at MF;have hA:(l.map eA).take l.length++[eA r]=(l++[r]).map eA:=by simp[ph]
   by_cases h0:l.length=0
   .have e:kH l r=0:=by
     have:l=[]:=oD.1 h0;subst this;rw[hE];rfl
    rw[e,if_pos rfl];refine⟨[(3,false)],by simp[h0],λh=>(by cases h),λ_=>⟨λh=>absurd h (by simp[h0]),λ_=>?_⟩⟩;refine⟨_,MF,false,⟨?_,?_⟩,?_⟩
    .show(l.length+1)*48<=_
     omega
    .show l.length+1<=_
     omega
    .exact⟨_,_,rfl,⟨_,rfl,rfl,(by simp;rfl),.inl ⟨rfl,gQ (AV.dh true 148 6 (l.length+1)) hA.symm⟩⟩,rfl,rfl,trivial⟩
   .obtain⟨q,hq⟩:∃q,l[l.length-1]?=some q:=⟨_,aW (by omega)⟩
    have agG:HI l r=decide (r.id<=q.id):=by rw[HI,uJ,hq]
    rw[agG]at hE;refine⟨[(3,true)],by simp;omega,_,au (y:=((l.length-1:Nat):Int)) (by omega),by omega,eA q,by simp[hq],λeY=>?_,λeY=>?_⟩
    .have eY:decide (r.id<=q.id)=true:=eY
     rw[if_pos eY]at hE;rw[hE,if_neg (by decide)];exact⟨_,_,rfl,.inl rfl,rfl,rfl,trivial⟩
    .have eY:decide (r.id<=q.id)=false:=eY
     rw[if_neg (by rw[eY];simp)]at hE;refine⟨λh64=>?_,λh64=>?_⟩
     .have h64:(l.length:Int)>=64:=aP h64
      rw[if_pos (by omega)]at hE;rw[hE,if_neg (by decide)];exact⟨_,_,rfl,.inl rfl,rfl,rfl,trivial⟩
     .have h64:¬(l.length:Int)>=64:=j0 h64
      rw[if_neg (by omega)]at hE;rw[hE,if_pos rfl];refine⟨_,MF,false,⟨?_,?_⟩,?_⟩
      .show(l.length+1)*48<=_
       omega
      .show l.length+1<=_
       omega
      .exact⟨_,_,rfl,⟨_,rfl,rfl,(by simp;rfl),.inl ⟨rfl,gQ (AV.dh true 148 6 (l.length+1)) hA.symm⟩⟩,rfl,rfl,trivial⟩
def WR(cf:Option kJ)(r:kJ):Bool:=match cf with|some p=>decide (r.id<=p.id)|none=>false
theorem eB{cf:Option kJ}{r:kJ}{l:List kJ}:jQ cf (r::l)=0↔H7 r=true/\WR cf r=false/\jQ (some r) l=0:=by
 simp only[jQ,WR]
 cases cf with
 |none=>cases H7 r<;>simp
 |some p=>
  by_cases hd:r.id<=p.id
  .have:¬p.id<r.id:=by omega
   cases H7 r<;>simp[hd,this]
  .have:p.id<r.id:=by omega
   cases H7 r<;>simp[hd,this]
theorem DL:∀(l:List kJ)(cf:Option kJ)(r:kJ),jQ cf l=0->H7 r=true->WR ((l.getLast?).or cf) r=false->jQ cf (l++[r])=0
 |[],cf,r,_,h2,h3=>eB.2 ⟨h2,by simpa using h3,rfl⟩
 |a::l,cf,r,h1,h2,h3=>by
  obtain⟨k1,k2,k3⟩:=eB.1 h1;refine eB.2 ⟨k1,k2,DL l (some a) r k3 h2 ?_⟩
  cases l with
  |nil=>simpa using h3
  |cons b l=>
   rw[SI]at h3
   cases hq:(b::l).getLast? with
   |none=>simp at hq
   |some x=>rw[hq]at h3;exact h3
theorem MO{l:List kJ}{r:kJ}(h:kH l r=0):jy l=0/\jy (l++[r])=0:=by
 unfold kH at h
 split at h
 .cases h
 .rename_i h1
  split at h
  .cases h
  .rename_i h2
   split at h
   .cases h
   .rename_i h3
    split at h
    .cases h
    .rename_i h4
     have h1:jy l=0:=by simpa using h1
     refine⟨h1,?_⟩;unfold jy at h1⊢;rw[if_neg (by omega)]at h1;rw[if_neg (by simp;omega)];refine DL l none r h1 (by simpa using h2) ?_;have h3:HI l r=false:=by simpa using h3
     rw[Option.or_none];exact h3
theorem alB(u:St)(l:List Rw)(e:Vt)(hz:u.sz)(hF:zi e 6 0 false (-1)):yj 155 u l e λu'=>∃r,u'={u with po:={u.po with pm:=u.po.pm++[r]}}/\jy (u.po.pm++[r])=0:=by
 obtain⟨id,aR,kind,eH,cG⟩:=e;obtain⟨n0,n1,n2,n3,n4,n5,jw⟩:=ZV (hF.more rfl);simp only at jw;subst jw
 by_cases h1:n4<aR
 .refine⟨.no,5,.inl ⟨u,dK Pr [] [] (eI _ _ _ _) ⟨⟨by decide,by simp⟩,[I n4],rfl,_,uv (aF u) rfl l ⟨id,aR,kind,[n0,n1,n2,n3,n4,n5],cG⟩ n4,λ_=>?_,λh=>absurd h (by simp[h1])⟩,λh=>by cases h⟩⟩
  exact⟨_,aj.ad [2] [18],rfl,rfl,rfl⟩
 .have MP:=alA u.po.pm hz.po.pm ⟨n0,n1,n2,n3,n4,n5⟩
  generalize hr:(⟨n0,n1,n2,n3,n4,n5⟩:kJ)=r at MP;have jV:eA r=[I n0,I n1,I n2,I n3,I n4,I n5]:=by subst hr;rfl
  rw[jV]at MP
  by_cases h2:kH u.po.pm r=0
  .rw[h2,if_pos rfl]at MP
   refine⟨.no,0,.inl ⟨{u with po:={u.po with pm:=u.po.pm++[r]}},dK Pr [(5,[7])] [] (eI _ _ _ _) ⟨⟨by decide,by simp⟩,[I n4],rfl,_,uv (aF u) rfl l ⟨id,aR,kind,[n0,n1,n2,n3,n4,n5],cG⟩ n4,λh=>absurd h (by simp[h1]),λ_=>?_⟩,λ_=>⟨r,rfl,(MO h2).2⟩⟩⟩;refine⟨⟨by decide,by simp⟩,[I n0],rfl,⟨by decide,by simp⟩,[I n1],rfl,⟨by decide,by simp⟩,[I n2],rfl,⟨by decide,by simp⟩,[I n3],rfl,⟨by decide,by simp⟩,[I n4],rfl,⟨by decide,by simp⟩,[I n5],rfl,_,MP,true,?_⟩;have hs:=WN u l ⟨id,aR,kind,[n0,n1,n2,n3,n4,n5],cG⟩ (u.po.pm++[r]);rw[show PS (u.po.pm++[r])=.aL 6 (u.po.pm.length+1) ((u.po.pm++[r]).map eA)from by simp[PS]]at hs;refine⟨_,aj.ad [50,51,52] [18],_,I 0,[18],hs,rfl,?_⟩;exact⟨_,aj.ad [2] [18],rfl,rfl,rfl⟩
  .rw[if_neg h2]at MP
   refine⟨.no,kH u.po.pm r,.inl ⟨u,dK Pr [(5,[7])] [] (eI _ _ _ _) ⟨⟨by decide,by simp⟩,[I n4],rfl,_,uv (aF u) rfl l ⟨id,aR,kind,[n0,n1,n2,n3,n4,n5],cG⟩ n4,λh=>absurd h (by simp[h1]),λ_=>?_⟩,λh=>absurd h h2⟩⟩;refine⟨⟨by decide,by simp⟩,[I n0],rfl,⟨by decide,by simp⟩,[I n1],rfl,⟨by decide,by simp⟩,[I n2],rfl,⟨by decide,by simp⟩,[I n3],rfl,⟨by decide,by simp⟩,[I n4],rfl,⟨by decide,by simp⟩,[I n5],rfl,_,MP,?_⟩;refine⟨_,aj.ad [50,51,52] [18],_,I (kH u.po.pm r),[18],WO u l _ _ h2,rfl,?_⟩;exact⟨_,aj.ad [2] [18],rfl,rfl,rfl⟩
theorem ZE(u:St)(l:List Rw)(e:Vt)(hz:u.sz)(hF:zi e 4 0 false (-1)):yj 161 u l e λu'=>∃r,u'={u with ls:=u.ls++[r]}:=by
 obtain⟨id,aR,kind,eH,cG⟩:=e;obtain⟨n0,n1,n2,n3,jw⟩:=UD (hF.more rfl);simp only at jw;subst jw;have cz:u.ls.length<=100000:=hz.ls;generalize hr:(⟨n0,n1,n2,n3⟩:Sh)=r;have jV: [I n0,I n1,I n2,I n3]=eN r:=by subst hr;rfl
 have a97:=c97 (u.ls++[r]) (by simp;omega);have hA:AV.aL 4 (u.ls.length+1) (((u.ls.map eN).take u.ls.length++[[I n0,I n1,I n2,I n3]]).take (u.ls.length+1))=SS (u.ls++[r]):=by
  rw[jV];simp[SS,ph]
 have step:∀(row:List AV)(er:Int),fS kg 235 [.af 18 7,SS (u.ls++[r]),I (dx (u.ls++[r]))] [(18,cJ (Own.jg u .sf) l ⟨id,aR,kind,[n0,n1,n2,n3],cG⟩)] [18] [(18,cJ row l ⟨id,aR,kind,[n0,n1,n2,n3],cG⟩)] (I er)->HC 161 .sf u l ⟨id,aR,kind,[n0,n1,n2,n3],cG⟩ row er:=by
  intro row er lh;refine dK VT [(3,[7,7,7])] [3] (eI _ _ _ _) ⟨⟨by decide,by simp⟩,[I n0],rfl,⟨by decide,by simp⟩,[I n1],rfl,⟨by decide,by simp⟩,[I n2],rfl,⟨by decide,by simp⟩,[I n3],rfl,⟨?_,?_⟩,?_⟩
  .show(u.ls.length+1)*32<=_
   omega
  .show u.ls.length+1<=_
   omega
  refine⟨⟨[(0,.af 18 0),(4,SS (u.ls++[r]))],[(18,cJ (Own.jg u .sf) l ⟨id,aR,kind,[n0,n1,n2,n3],cG⟩)]⟩,?_,?_⟩
  .rw[<-hA]
   exact(aj.kG _ 464).trans (aj.ad [0,4] [18])
  .refine⟨rfl,_,a97,_,aj.ad [33,34,36] [18],_,I er,[18],lh,rfl,?_⟩
   exact⟨_,aj.ad [2] [18],rfl,rfl,rfl⟩
 by_cases h2:dx (u.ls++[r])=0
 .rw[h2]at step
  exact⟨.sf,0,.inl ⟨_,step _ _ (agv u l _ _),λ_=>⟨_,rfl⟩⟩⟩
 .exact⟨.sf,_,.inr ⟨h2,_,step _ _ (agw u l _ _ _ h2)⟩⟩
theorem ZX(l:List Bx)(n0 n1 n2 n3:Int):pK (.aL 5 (l.length+1) (((l.map bj).take l.length++[[I n0,I n1,I n2,I n3,.ai]]).take (l.length+1))) (BS (l++[⟨n0,n1,n2,n3,[]⟩])):=by
 have e:((l.map bj).take l.length++[[I n0,I n1,I n2,I n3,.ai]]).take (l.length+1)=l.map bj++[[I n0,I n1,I n2,I n3,.ai]]:=by
  rw[ph (by simp),ph (by simp)]
 rw[e];have hl:(l++[(⟨n0,n1,n2,n3,[]⟩:Bx)]).length=l.length+1:=by simp
 rw[BS,hl];refine pK.aL ?_ (by simp) ?_ ?_
 .intro row aD
  rcases cE.1 aD with h|h
  .obtain⟨b,_,rfl⟩:=cK.1 h;rfl
  .obtain rfl:=iw.1 h;rfl
 .intro row aD
  obtain⟨b,_,rfl⟩:=cK.1 aD;rfl
 .intro j v hv
  rw[qB,lA]at hv;rw[lA]
  by_cases hj:j< (l.map bj).flatten.length
  .rw[bM hj]at hv⊢
   exact⟨v,hv,.refl _⟩
  .rw[cm (by omega)]at hv⊢
   generalize j-(l.map bj).flatten.length=k at hv⊢;simp only[cU,dO,iH,List.flatten_nil,dN,bj]at hv⊢
   match k,hv with
   |0,hv=>exact⟨_,rfl,by simp at hv;subst hv;exact .refl _⟩
   |1,hv=>exact⟨_,rfl,by simp at hv;subst hv;exact .refl _⟩
   |2,hv=>exact⟨_,rfl,by simp at hv;subst hv;exact .refl _⟩
   |3,hv=>exact⟨_,rfl,by simp at hv;subst hv;exact .refl _⟩
   |4,hv=>exact⟨_,rfl,by simp at hv;subst hv;exact .nil 2⟩
   |k+5,hv=>simp at hv
theorem ZD(u:St)(l:List Rw)(e:Vt)(hz:u.sz)(hF:zi e 4 0 false (-1)):yj 158 u l e λu'=>∃r:Bx,r.ma=[] /\u'={u with bs:=u.bs++[r]}:=by
 obtain⟨id,aR,kind,eH,cG⟩:=e;obtain⟨n0,n1,n2,n3,jw⟩:=UD (hF.more rfl);simp only at jw;subst jw;have cz:u.bs.length<=100000:=hz.bs;have hA:=ZX u.bs n0 n1 n2 n3;have dM:∀b∈u.bs++[⟨n0,n1,n2,n3,[]⟩],b.ma.length<=100000:=by
  intro b hb
  rcases cE.1 hb with h|h
  .exact hz.cs b h
  .obtain rfl:=iw.1 h;simp
 have FC:=RG (u.bs++[⟨n0,n1,n2,n3,[]⟩]) (by simp;omega) dM;have step:∀(row:List AV)(er:Int),fS kg 230 [.af 18 6,BS (u.bs++[⟨n0,n1,n2,n3,[]⟩]),I (jk (u.bs++[⟨n0,n1,n2,n3,[]⟩]))] [(18,cJ (Own.jg u .bx) l ⟨id,aR,kind,[n0,n1,n2,n3],cG⟩)] [18] [(18,cJ row l ⟨id,aR,kind,[n0,n1,n2,n3],cG⟩)] (I er)->HC 158 .bx u l ⟨id,aR,kind,[n0,n1,n2,n3],cG⟩ row er:=by
  intro row er lh;refine dK VQ [(3,[7,7,7])] [3] (eI _ _ _ _) ⟨⟨by decide,by simp⟩,[I n0],rfl,⟨by decide,by simp⟩,[I n1],rfl,⟨by decide,by simp⟩,[I n2],rfl,⟨by decide,by simp⟩,[I n3],rfl,⟨?_,?_⟩,?_⟩
  .show(u.bs.length+1)*56<=_
   omega
  .show u.bs.length+1<=_
   omega
  refine⟨⟨[(4,BS (u.bs++[⟨n0,n1,n2,n3,[]⟩])),(0,.af 18 0),(4,.aL 5 (u.bs.length+1) (((u.bs.map bj).take u.bs.length++[[I n0,I n1,I n2,I n3,.ai]]).take (u.bs.length+1)))],[(18,cJ (Own.jg u .bx) l ⟨id,aR,kind,[n0,n1,n2,n3],cG⟩)]⟩,?_,?_⟩
  .exact((aj.kG _ 464).trans (aj.ad [0,4] [18])).trans (aj.slot (c:=⟨[(0,.af 18 0),(4,.aL 5 (u.bs.length+1) (((u.bs.map bj).take u.bs.length++[[I n0,I n1,I n2,I n3,.ai]]).take (u.bs.length+1)))],[(18,cJ (Own.jg u .bx) l ⟨id,aR,kind,[n0,n1,n2,n3],cG⟩)]⟩) 4 (u:=.aL 5 (u.bs.length+1) (((u.bs.map bj).take u.bs.length++[[I n0,I n1,I n2,I n3,.ai]]).take (u.bs.length+1))) (BS (u.bs++[⟨n0,n1,n2,n3,[]⟩])) rfl rfl hA)
  .refine⟨rfl,_,FC,_,aj.ad [33,34,36] [18],_,I er,[18],lh,rfl,?_⟩
   exact⟨_,aj.ad [2] [18],rfl,rfl,rfl⟩
 by_cases h2:jk (u.bs++[⟨n0,n1,n2,n3,[]⟩])=0
 .rw[h2]at step
  exact⟨.bx,0,.inl ⟨_,step _ _ (agt u l _ _),λ_=>⟨_,rfl,rfl⟩⟩⟩
 .exact⟨.bx,_,.inr ⟨h2,_,step _ _ (agu u l _ _ _ h2)⟩⟩
def qg(ms:List Mv)(n:Int):Int×Int:=(pL ms n 1048575).1
theorem sP(u:St)(hm:jl u.ms)(n:Int):Fn kg 107 [.agg (aF u),I n] (Tw (qg u.ms n)):=
 aH Kp ⟨_,c18 u.ms n 1048575 (by have:=hm.ln;omega) (λ_=>hm.dy),rfl,rfl,rfl⟩
theorem G2(u:St)(hl:u.bs.length<=100000)(n:Int):Fn kg 106 [.agg (aF u),I n] (I (BQ u.bs n)):=
 aH O8 ⟨_,GX u.bs (by omega) _ 149 [I n] (λa _=>YB a n),rfl,rfl,rfl⟩
theorem G3(u:St)(hl:u.ls.length<=100000)(n:Int):Fn kg 103 [.agg (aF u),I n] (I (nO u.ls n)):=
 aH O7 ⟨_,KD u.ls (by omega) _ 147 [I n] (λa _=>YC a n),rfl,rfl,rfl⟩
theorem Qq(u:St)(hm:jl u.ms)(l:List Rw)(e:Vt)(n:Int):Fn kg 231 [.aw (aF u++[WS l]++fy e) 0,I n] (B ((qg u.ms n).1==3)):=
 aH Pf ⟨_,sP u hm n,rfl,rfl,rfl⟩
def kQ(u:St)(e:Vt)(b k o:Int):Mv:=⟨e.aR,b,(qg u.ms b).1,(qg u.ms b).2,k,o⟩
theorem Qr(u:St)(hm:jl u.ms)(l:List Rw)(e:Vt)(b k o:Int):∃u' er,fS kg 237 [.af 18 0,I b,Tw (k,o)] [(18,cJ (aF u) l e)] [18] [(18,cJ (aF u') l e)] (I er)/\(er=0->∃m,u'={u with ms:=u.ms++[m]}):=by
 have a107:=sP u hm b;have Bw:=Zv u.ms hm (kQ u e b k o);unfold Qo at Bw
 by_cases h:uu u.ms (kQ u e b k o)=0
 .rw[if_pos h,h]at Bw
  exact⟨_,0,dK C9 [(2,[6])] [] (eI _ _ _ _) ⟨_,a107,_,Bw,true,_,aj.ad [35,36,37] [18],_,I 0,[18],(Qp u l e (u.ms++[kQ u e b k o])).as (by rfl) (by rfl) (by rfl),rfl,_,aj.ad [6] [18],rfl,rfl,rfl⟩,λ_=>⟨_,rfl⟩⟩
 .rw[if_neg h]at Bw
  exact⟨u,_,dK C9 [(2,[6])] [] (eI _ _ _ _) ⟨_,a107,_,Bw,_,aj.ad [35,36,37] [18],_,I (uu u.ms (kQ u e b k o)),[18],(agm u l e _ h).as (by rfl) (by rfl) (by rfl),rfl,_,aj.ad [6] [18],rfl,rfl,rfl⟩,λh'=>absurd h' h⟩
theorem Uv(u:St)(hz:u.sz)(l:List Rw)(e:Vt)(k:Int):∃(r:dE)(b:Bool),Fn kg 241 [.aw (aF u++[WS l]++fy e) 0,I k] (.bY [.agg (cd r),B b]):=by
 have hq:=hz.qs;have UE:=Db u.qs (by omega) (λr=>r.id==k) 302 [I k] (λr _=>Aw.afn r k)
 rcases dH (λr:dE=>r.id==k) u.qs 0 with⟨h1,_⟩|⟨i,r,hi,_,h3,_⟩
 .rw[h1]at UE
  exact⟨⟨0,0,0,0,0,0,0⟩,false,aH Pj ⟨_,UE,λ_=>⟨_,_,rfl,⟨rfl,rfl⟩,rfl,rfl,trivial⟩,λh=>by cases h⟩⟩
 .have aC:=(aE.1 hi).1
  have Pw:aQ (λr:dE=>r.id==k) 0 u.qs=(i:Int):=by simpa using h3
  rw[Pw]at UE;have aD:(u.qs.map cd)[((i:Int)).toNat]?=some (cd r):=by rw[aY,aS,hi];rfl
  exact⟨r,true,aH Pj ⟨_,UE,λh=>absurd h (by simp),λ_=>⟨by omega,cd r,aD,_,_,rfl,⟨rfl,rfl⟩,rfl,rfl,trivial⟩⟩⟩
end Go.an.ax.G
