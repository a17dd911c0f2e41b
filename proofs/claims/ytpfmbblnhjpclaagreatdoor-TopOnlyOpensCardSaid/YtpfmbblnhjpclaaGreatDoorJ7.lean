import Derived.Laws.MakeOwn
import Derived.Test.YtpfmbblnhjpclaaGreatDoorJ6
set_option linter.unusedVariables false
set_option linter.unusedSimpArgs false
namespace Go.an
open Go.RowKit
section
variable{P:Program} {T:dD} {E:Env} {K:KM} {c:aM} {a:Act} {w:World} {o:Oper} {r:iS} {val:Operand->AV} {X:Nat->Prop}
theorem va(hT:br P T):∀{ff:List Field}{ps:List (Nat×Nat)},sa T (ff.map λf=>(f.offset,f.type))=some ps->ff.mapM (λf=>(P.info? f.type).map λi=>(f.offset,i.size))=some ps
 |[],ps,h=>by simp[sa]at h;subst h;rfl
 |f::ff,ps,h=>by
  simp only[cU,sa]at h
  split at h
  .rename_i ti qs nY hqs
   injection h with h
   subst h;obtain⟨_,⟨j,hj,_,mi,_⟩,_⟩:=hT.get nY;simp[List.mapM_cons,hj,va hT hqs,mi]
  .cases h
theorem NV{α:Type}(f:Nat->α):(Array.range 0).map f=#[]:=yG (by simp)
theorem Sg(hT:br P T)(dC:∀t i,T.get t=some i->fH i.zero=true)(hs:bC E K c a w)(az:ey E K c a w val){t:TypeId}{fz:Array (Nat×Operand)}(ho:o.op=.build t fz)
  (h:jh.holds P (match T.get t with
  |some i=>match i.k,(AV.jJ i.zero).cellsOf with
   |.struct fs,some z=>match sa T fs with
    |some ps=>match jK (λi=>ps[i]?) val fz.toList z with
     |some cs=>bu (.agg cs)
     |none=>.no
    |none=>.no
   |.array _ e,some z=>match T.get e with
    |some ei=>match jK (λi=>some (i*ei.size,ei.size)) val fz.toList z with
     |some cs=>bu (.agg cs)
     |none=>.no
    |none=>.no
   |_,_=>.no
  |none=>.no) (· =r)):o.wp P a w (bA E c r a o.dst) kK:=by
 split at h
 .rename_i i hi
  obtain⟨⟨d,hd,eM⟩,⟨j,hj,BK,mi,_⟩,_⟩:=hT.get hi;have fin:∀(cells:Array Value)(cs:List AV),P.built t (fz.map λ(i,x)=>(i,a.eval x)).toList=some cells->NT w (XX E K c.O) K cs cells->{v:=.agg cs}=r->o.wp P a w (bA E c r a o.dst) kK:=by
   intro cells cs hb hr he;refine aT hs (vv:=.agg cells) ?_ he (.agg hr.1 hr.2.1 hr.2.2);simp only[execOp,ho,Sem.run_bind,run_build w t _ cells hb,Result.andThen_ok,Sem.run_pure]
  have yx:∀z,(AV.jJ i.zero).cellsOf=some z->NT w (XX E K c.O) K z i.zero.cells:=by
   intro z hz;obtain⟨h1,h2,h3⟩:=eF hz (gP w (XX E K c.O) K i.zero (dC t i hi));exact⟨h1.symm,h2,h3⟩
  split at h
  .rename_i fs z hk hz
   rw[hk]at eM;obtain⟨ff,rfl,hff⟩:=of_struct eM
   split at h
   .rename_i ps Il
    split at h
    .rename_i cs dM
     rw[hff]at Il;have hm:=va hT Il;obtain⟨cells,hf,hr⟩:=pz az (zQ:=(ps.toArray[·]?)) (λi x hx=>by simpa using hx) dM (yx z hz);refine fin cells cs ?_ hr h;unfold Program.built;simp only[hj,hd,BK,hm];simpa using hf
    .exact h.elim
   .exact h.elim
  .rename_i n e z hk hz
   rw[hk]at eM;have:=of_array eM;subst this
   split at h
   .rename_i ei lg
    obtain⟨_,⟨je,kb,_,ahy,_⟩,_⟩:=hT.get lg
    split at h
    .rename_i cs dM
     obtain⟨cells,hf,hr⟩:=pz az (zQ:=λi=>some (i*je.size,je.size)) (λi x hx=>by rw[ahy];exact hx) dM (yx z hz);refine fin cells cs ?_ hr h;unfold Program.built;simp only[hj,hd,BK,kb];simpa using hf
    .exact h.elim
   .exact h.elim
  .exact h.elim
 .exact h.elim
theorem yM(z:List AV):∀(n i:Nat),i<n*z.length->(List.replicate n z).flatten[i]?=z[i %z.length]?
 |0,i,h=>by simp at h
 |n+1,i,h=>by
  simp only[List.replicate_succ,iH]
  rcases eJ i z.length with aC|kT
  .rw[bM aC,Nat.mod_eq_of_lt aC]
  .rw[cm kT,yM z n (i-z.length) (by rw[bh]at h;omega),Nat.mod_eq_sub_mod kT]
theorem zR(sz:Nat):∀(n:Nat)(cs:List AV),cs.length=n*sz->(chunk sz n cs).flatten=cs/\(∀row∈chunk sz n cs,row.length=sz)/\(chunk sz n cs).length=n
 |0,cs,h=>by simp at h;subst h;simp[chunk]
 |n+1,cs,h=>by
  rw[bh]at h;obtain⟨h1,h2,h3⟩:=zR sz n (cs.drop sz) (by simp;omega);refine⟨by simp[chunk,h1],λrow hr=>?_,by simp[chunk,h3]⟩;simp only[chunk,bK]at hr
  rcases hr with rfl|hr
  .simp;omega
  .exact h2 row hr
theorem F6{aa:List (List AV)}{j:Nat}{u:AV}(hj:aa.flatten[j]?=some u):Ib aa≠.any->(Ib aa).fits u=true:=by
 have hm:∃row∈aa,u∈row:=by
  have:=ay hj;simpa using this
 obtain⟨row,hr,hu⟩:=hm;obtain⟨k,hk⟩:=fQ hu;unfold Ib
 split
 .rename_i h
  intro _;exact gp (iT.1 h row hr) hk
 .split
  .rename_i h
   intro _;exact gp (iT.1 h row hr) hk
  .intro h;exact absurd rfl h
theorem Si{kd:Kd}{u:AV}{v:Value}(hf:kd≠.any->kd.fits u=true)(h:VR w X K u v):VR w (uN kd X) (zD kd K) u v:=by
 cases hk:kd
 .exact se (by rw[hk]at hf;exact hf (by simp)) h
 .exact se (by rw[hk]at hf;exact hf (by simp)) h
 .exact h
 .rw[hk]at hf;exact absurd (hf (by simp)) (by simp[Kd.fits])
theorem zS(aa:List (List AV)):∀ag st,Ib aa≠.map ag st:=by
 intro ag st;unfold Ib
 split
 .simp
 .split<;>simp
theorem Sk{t d:Nat}{aa:List (List AV)}{j:Nat}{u:AV}(hj:aa.flatten[j]?=some u):Xi t d aa≠.any->(Xi t d aa).fits u=true:=by
 unfold Xi
 split
 .split
  .simp at hj
  .exact F6 hj
 .exact F6 hj
theorem LF(t d:Nat)(aa:List (List AV)):∀ag st,Xi t d aa≠.map ag st:=by
 intro ag st;unfold Xi
 split
 .split
  .simp
  .exact zS _ ag st
 .exact zS _ ag st
theorem F7{b:Nat}(Ed:∀x,(val x).has b=false){place:Nat->Option (Nat×Nat)}:∀{fz:List (Nat×Operand)}{row tK:List AV},jK place val fz row=some tK->(∀(j:Nat) u,row[j]?=some u->u.has b=false)->∀(j:Nat) u,tK[j]?=some u->u.has b=false
 |[],row,tK,h,hr=>by simp only[jK]at h;injection h with h;subst h;exact hr
 |(i,x)::fz,row,tK,h,hr=>by
  simp only[jK]at h
  split at h
  .cases h
  .split at h
   .cases h
   .rename_i cs dM
    split at h
    .split at h
     .rename_i ahx Cw
      refine F7 Ed h λj u hu=>?_
      rw[(lQ Cw).2]at hu
      split at hu
      .exact nL dM (Ed x) hu
      .exact hr j u hu
     .cases h
    .cases h
theorem Eh(hT:br P T)(dC:∀t i,T.get t=some i->fH i.zero=true)(hs:bC E K c a w)(az:ey E K c a w val)(Ed:∀x b,eP b c=true->(val x).has b=false)
  {t:TypeId}{len:Nat}{fz:Array (Nat×Operand)}(ho:o.op=.buildSlice t len fz)(hf:fq c r.nw r.D=true)
  (h:jh.holds P (match T.get t with
  |some i=>match i.k with
   |.slice e=>match T.get e with
    |some ei=>match(AV.jJ ei.zero).cellsOf with
     |some z=>match Nat.beq z.length ei.size&&Nat.ble 1 ei.size with
      |true=>match jK (λi=>some (i*ei.size,ei.size)) val fz.toList (List.replicate len z).flatten with
       |some cs=>match Nat.beq cs.length (len*ei.size),Nat.ble (len*ei.size) 1000000 with
        |true,true=>match NH t len (cI o.dst 0)&&AV.cW cs with
         |true=>.ret {v:=.aL ei.size len (chunk ei.size len cs),D:=[],nw:=true}
         |false=>.ret {v:=.bn (cI o.dst 0) ei.size len,D:=[(cI o.dst 0,{e:=e,sz:=ei.size,kd:=Xi t (cI o.dst 0) (chunk ei.size len cs),aa:=chunk ei.size len cs})],nw:=true}
        |_,_=>.no
       |none=>.no
      |false=>.no
     |none=>.no
    |none=>.no
   |_=>.no
  |none=>.no) (· =r)):o.wp P a w (bA E c r a o.dst) kK:=by
 split at h
 .rename_i i hi
  obtain⟨⟨d,hd,eM⟩,_⟩:=hT.get hi
  split at h
  .rename_i e hk
   rw[hk]at eM;have:=of_slice eM;subst this
   split at h
   .rename_i ei lg
    obtain⟨_,⟨je,kb,BK,mi,_⟩,_⟩:=hT.get lg
    split at h
    .rename_i z hz
     split at h
     .rename_i wo
      rw[aA]at wo;have gW:=dn wo.2;have wo:=beq_true wo.1
      split at h
      .rename_i cs dM
       split at h
       .rename_i mR wI
        have mR:=beq_true mR;have wI:=dn wI;obtain⟨h1,h2,h3⟩:=eF hz (gP w (XX E K c.O) K ei.zero (dC e ei lg));have h0:NT w (XX E K c.O) K (List.replicate len z).flatten ((Array.range (len*ei.size)).map (ei.zero.cells[· %ei.zero.cells.size]!)):=by
         have cz:(List.replicate len z).flatten.length=len*ei.size:=by simp[wo]
         have cH:∀j x,((Array.range (len*ei.size)).map (ei.zero.cells[· %ei.zero.cells.size]!))[j]?=some x->j<len*ei.size/\ei.zero.cells[j %ei.zero.cells.size]?=some x:=by
          intro j x hx;have hj:j<len*ei.size:=by
           have:=(bd.1 hx).1;simpa using this
          refine⟨hj,?_⟩;simp only[DX,Array.getElem?_range,hj,yH,iU,Option.some.injEq]at hx;have gW:0<ei.zero.cells.size:=by rw[h1,wo];exact gW
          have hm:=Nat.mod_lt j gW;rw[bL ei.zero.cells _ hm]at hx;rw[<-hx];simp[hm]
         refine⟨by simp[wo],λj x hx=>h2 _ x (cH j x hx).2,λj u x hu hx=>?_⟩;obtain⟨hj,sU⟩:=cH j x hx;rw[yM z len j (by rw[wo];exact hj)]at hu;exact h3 _ u x hu (by rw[h1]at sU;exact sU)
        obtain⟨cells,nt,ar⟩:=pz az (zQ:=λi=>some (i*ei.size,ei.size)) (λi x hx=>hx) dM h0;obtain⟨c1,c2,c3⟩:=zR ei.size len cs mR;have cY:=Step.alloc (λ_=>False) w (.cells cells e);have BZ:cells.size=len*ei.size:=by rw[<-ar.1];exact mR
        have Ck:(execOp a.eval o).run P w=.ok (.value (.slice (some ⟨w.heap.size,0,none⟩) len len)) (w.alloc (.cells cells e)):=by
         have NW:¬(len*ei.size>2^24):=by omega
         simp only[execOp,ho]
         by_cases yx:len*ei.size=0
         .have Xs:Instr.fill (λi=>some (i*ei.size,ei.size)) #[] (fz.toList.map λ(i,x)=>(i,a.eval x))=some cells:=by
           rw[yx,NV]at nt;exact nt
          have aaO:Instr.fill (λi=>some (i*ei.size,ei.size)) #[] (fz.toList.map λx=>(x.1,a.eval x.2))=some cells:=Xs;simp[Instr.buildSlice,run_underlying hd,bS kb,mi,yx,newRow,NV,aaO]
         .have Xs:Instr.fill (λi=>some (i*ei.size,ei.size)) ((Array.range (len*ei.size)).map (ei.zero.cells[· %ei.zero.cells.size]!)) (fz.toList.map λ(i,x)=>(i,a.eval x))=some cells:=nt
          simp[Instr.buildSlice,run_underlying hd,bS kb,mi,yx,NW,zeroValue,typeInfo,kb,BK,newRow,Xs]
        split at h
        .rename_i aC
         rw[aA]at aC;have hid:=aC.2;have hr:_=r:=h;refine nZ Ck hr (hs.move cY) (.aL (cs:=cells.toList) c3.symm c2 (bG _) (λh=>by cases h) ?_ (λx hx=>?_) (λ_=>⟨w.heap.size,0,rfl,by simp,λhx=>?_,λj x hj=>?_⟩) (λj u x hj hx=>?_))
         .rw[c1,ar.1,gf]
         .obtain⟨j,hj⟩:=fQ hx
          exact ar.2.1 j x (by simpa using hj)
         .rcases hx with⟨b',jS,zO⟩|⟨_,hx⟩
          .exact DZ _ (hs.fu jS zO)
          .exact DZ _ (ew hx hs.ext.size)
         .have hc:=iN w (.cells cells e)
          simp only[World.cell?,hc];simpa using hj
         .rw[c1]at hj
          have hv:=ar.2.2 j u x hj (by simpa using hx);refine VR.ad (eE hv (eK hid hj) K0) (cY.ad.mono λ_ _ h=>h.elim) (λg hg hX=>hX) (λ_ _=>rfl)
        have hr:_=r:=h;have tT:=hf;rw[<-hr]at tT;have jF:=gr tT;refine nZ (vv:=.slice (some ⟨w.heap.size,0,none⟩) len len) (w':=w.alloc (.cells cells e)) Ck hr
         (oM (aJ:=cells) hs jF cY (bG _) c2 (aV.mk (LF _ _ _) (iN w _)) λj u hj=>?_) ?_
        .simp only at hj
         have FY:=hj;rw[c1]at hj;have aC:j<cells.size:=by rw[<-ar.1];exact(aE.1 hj).1
         have hy:cells[j]?=some cells[j]:=by simp[aC]
         refine⟨λ_=>?_,cells[j],hy,ar.2.1 j _ hy,?_⟩
         .refine F7 (λx=>Ed x _ jF) dM (λp u' iG=>?_) j u hj
          have hm:u'∈z:=by
           have:=ay iG;obtain⟨l,h1,h2⟩:=nC.1 this;rw[List.eq_of_mem_replicate h1]at h2;exact h2
          obtain⟨q,hq⟩:=fQ hm;exact nL hz (lj _ _ (py _)) hq
         .refine Si (λdW=>Sk FY dW) ?_
          refine VR.ad (ar.2.2 j u _ hj hy) (cY.ad.mono λ_ _ h=>h.elim) (λg hg hX=>?_) (λ_ _=>rfl)
          rcases hX with hX|rfl
          .exact hX
          .omega
        .refine .bn (dF _ _ _) (D0 c3.symm) (iN w _) (bG _) ?_ (by rw[BZ])
         unfold maxLen;have:len<=len*ei.size:=Nat.le_mul_of_pos_right _ gW;omega
       .exact h.elim
      .exact h.elim
     .exact h.elim
    .exact h.elim
   .exact h.elim
  .exact h.elim
 .exact h.elim
theorem F8(hT:br P T)(dC:∀t i,T.get t=some i->fH i.zero=true)(hs:bC E K c a w)(az:ey E K c a w val)
  {t:TypeId}{l cc:Operand}(ho:o.op=.makeSlice t l cc)(hf:fq c r.nw r.D=true)
  (h:(NG T o.dst t (val l) (val cc)).holds P (· =r)):o.wp P a w (bA E c r a o.dst) kK:=by
 unfold NG at h
 split at h
 .rename_i i hi
  obtain⟨⟨d,hd,eM⟩,_⟩:=hT.get hi
  split at h
  .rename_i e hk
   rw[hk]at eM;have:=of_slice eM;subst this
   split at h
   .rename_i ei lg
    obtain⟨_,⟨je,kb,BK,mi,Rx⟩,_⟩:=hT.get lg
    split at h
    .rename_i z hz
     split at h
     .rename_i wo
      rw[aA,aA]at wo;have iE:=wo.2;have gW:=dn wo.1.2;have wo:=beq_true wo.1.1
      split at h
      .rename_i n m hl hc
       obtain⟨⟨rfl,h0,hby,Xt⟩,h⟩:=h;have hr:_=r:=h;have tT:=hf;rw[<-hr]at tT;have jF:=gr tT;have el:=az.int hl;have ec:=az.int hc;obtain⟨k,rfl⟩:=Int.eq_ofNat_of_zero_le h0;rw[aY]at hr;obtain⟨h1,h2,h3⟩:=eF hz (gP w (XX E K c.O) K ei.zero (dC e ei lg));have Ck:=run_make (P:=P) w t e je ei.zero hd kb BK .i64 .i64 (k:Int) (k:Int) h0 (Int.le_refl _) (by rw[Rx];omega) (by omega);rw[aY,mi]at Ck;have cY:=Step.alloc (λ_=>False) w (.cells (madeCells ei.zero.cells (k*ei.size)) e);refine nZ (vv:=.slice (some ⟨w.heap.size,0,none⟩) k k) (w':=w.alloc (.cells (madeCells ei.zero.cells (k*ei.size)) e)) ?_ hr
        (oM (aJ:=madeCells ei.zero.cells (k*ei.size)) hs jF cY (bG _) (λrow aD=>by rw[List.eq_of_mem_replicate aD];exact wo) (iN w _) λj u hj=>?_) ?_
       .simp only[execOp,ho,el,ec,Sem.run_bind,Ck,Result.andThen_ok,Sem.run_pure]
       .have cz:(List.replicate k z).flatten.length=k*ei.size:=by simp[wo]
        have so:j<k*ei.size:=by rw[<-cz];exact(aE.1 hj).1
        have hm:j %ei.zero.cells.size<ei.zero.cells.size:=Nat.mod_lt _ (by rw[h1,wo];exact gW);have cH:(madeCells ei.zero.cells (k*ei.size))[j]?=some ei.zero.cells[j %ei.zero.cells.size]:=by
         simp only[madeCells,DX,Array.getElem?_range,so,yH,iU];rw[bL ei.zero.cells _ hm]
        have hx:ei.zero.cells[j %ei.zero.cells.size]?=some ei.zero.cells[j %ei.zero.cells.size]:=by simp[hm]
        simp only at hj;rw[yM z k j (by rw[wo];exact so)]at hj;refine⟨λhk=>(by cases hk),_,cH,h2 _ _ hx,?_⟩;have hsc:u.fp=true:=by
         have:∀{zs:List AV}{p:Nat},fX .pure zs=true->zs[p]?=some u->u.fp=true:=by
          intro zs
          induction zs with
          |nil=>intro p _ h;simp at h
          |cons y ys ih=>
           intro p hf hp;simp only[fX,aA]at hf
           cases p with
           |zero=>simp at hp;subst hp;exact hf.1
           |succ p=>exact ih hf.2 (by simpa using hp)
         exact this iE hj
        have hv:=h3 _ u _ hj (by rw[<-h1];exact hx);have nv:VR (w.alloc (.cells (madeCells ei.zero.cells (k*ei.size)) e)) (XX E K c.O) K u ei.zero.cells[j %ei.zero.cells.size]:=VR.ad (X':=XX E K c.O) (K':=K) hv (cY.ad.mono λ_ _ h=>h.elim) (λ_ _ h=>h) (λ_ _=>rfl);exact da hsc nv _ _
       .refine .bn (dF _ _ _) (D0 (by simp)) (iN w _) (bG _) (by unfold maxLen;omega) (by rw[size_madeCells])
      .exact h.elim
     .exact h.elim
    .exact h.elim
   .exact h.elim
  .exact h.elim
 .exact h.elim
end
theorem F9{P:Program}(w:World)(t ty e:Nat)(i:TypeInfo)(z:Value)(size:Nat)(ht:P.underlying t=some (.slice e))(hi:P.info? e=some i)(hz:i.zero=some z)
    (mQ:i.size=size)(Cv:z.cells.size=size)(bJ:0<size)
    (v:Value)(n:Nat)(xs:List Value)(Nj:xs.length=n*size)
    (hold:(n=0/\v=.slice none 0 0)∨∃(g cap:Nat)(aJ:Array Value),v=.slice (some ⟨g,0,none⟩) n cap/\n<=cap/\cap<=maxLen/\cap*size=aJ.size/\w.heap[g]?=some (.cells aJ e (0,0))/\aJ.toList.take (n*size)=xs)
    (A:Option Addr)(m cp:Nat)(cg:List Value)(hl:cg.length=m*size)(vd:0<m->∃g o,A=some ⟨g,o,none⟩/\∀(j:Nat) u,cg[j]?=some u->w.cell? ⟨g,o+j,none⟩=some u)(h1:∀u∈cg,u.oneCell'=true)
    (Xt:n+m<=maxLen)(Ei:(n+m)*i.bytes<=140737488355328):
    ∃v' w',(Builtin.append_ #[t,t] ty #[v,.slice A m cp]).run P w=.ok v' w'/\
      ((m=0/\v'=v/\w'=w)∨
       (∃(g cap:Nat)(aJ new:Array Value),v=.slice (some ⟨g,0,none⟩) n cap/\cap*size=aJ.size/\cap<=maxLen/\n+m<=cap/\w.heap[g]?=some (.cells aJ e (0,0))/\v'=.slice (some ⟨g,0,none⟩) (n+m) cap/\w'=w.setRow g new/\new.size=aJ.size/\new.toList.take ((n+m)*size)=xs++cg)∨
       (∃(cap:Nat)(cells:Array Value),v'=.slice (some ⟨w.heap.size,0,none⟩) (n+m) cap/\w'=w.drew.alloc (.cells cells e)/\cells.size=cap*size/\n+m<=cap/\cap<=maxLen/\cells.toList.take ((n+m)*size)=xs++cg)):=by
  subst mQ;have Xu:n+m<=9223372036854775807:=by simp only[maxLen]at Xt;omega
  have cz:(xs++cg).length=(n+m)*i.size:=by rw[be,Nj,hl,bh]
  have grow:∀(cells:Array Value)(k:Nat),cells=xs.toArray++cg.toArray++Builtin.zeroCells z.cells k->cells.toList.take ((n+m)*i.size)=xs++cg/\cells.size=(n+m+k)*i.size:=by
    rintro cells k rfl;refine⟨?_,by simp[size_zeroCells,Cv,Nj,hl,bh]⟩;simp only[yI];rw[gU (by simp[Nj,hl,bh])];exact ph (by simp[Nj,hl,bh])
  rcases mq m with h0|h0
  · subst h0
    have hn:cg=[]:=bE (by simpa using hl);subst hn;refine⟨v,w,?_,.inl ⟨rfl,rfl,rfl⟩⟩
    rcases hold with⟨rfl,rfl⟩|⟨g,cap,aJ,rfl,l4,_⟩
    · cases A<;>simp[Builtin.append_,run_underlying ht,sizeOf,typeInfo,hi,Builtin.lenOf,Builtin.firstCells,loadCells,loadCellsFrom]
    · cases A<;>simp[Builtin.append_,run_underlying ht,sizeOf,typeInfo,hi,Builtin.lenOf,Builtin.firstCells,l4,storeCells,loadCells,loadCellsFrom]
  · obtain⟨ga,oa,rfl,hc⟩:=vd h0
    have fw:∀(j:Nat) u,cg[j]?=some u->w.cell? ((⟨ga,oa,none⟩:Addr).add j)=some u:=λj u hu=>by
      rw[show(⟨ga,oa,none⟩:Addr).add j=⟨ga,oa+j,none⟩from by unfold Addr.add;split<;>simp_all];exact hc j u hu
    rcases hold with⟨rfl,rfl⟩|⟨g,cap,aJ,rfl,l4,CF,dL,hg,U9⟩
    · have Xv:xs=[]:=bE (by simpa using Nj)
      subst Xv;simp only[dp]at Ei Xu Xt;have hr:=run_append_nil (P:=P) w t ty e i z ht hi hz ⟨ga,oa,none⟩ m cp cg hl fw h0 (by omega) (by omega);have kT:=grownCap_ge w m 0 e;refine⟨_,_,hr,.inr (.inr ⟨_,_,by simp,rfl,?_,by simpa using kT,grownCap_le_maxLen w m 0 e Xt,?_⟩)⟩
      · simp[size_zeroCells,Cv,hl,<-bh]
        congr 1;omega
      · have:=(grow (([]:List Value).toArray++cg.toArray++Builtin.zeroCells z.cells (grownCap w m 0 e-m)) _ rfl).1
        simpa using this
    · rcases eJ cap (n+m)with aC|kT
      · have hr:=run_append_grow (P:=P) w t ty e i z ht hi hz ⟨g,0,none⟩ n cap xs Nj (λj u hu=>by
          rw[<-U9,bQ]at hu
          split at hu
          · rw[show(⟨g,0,none⟩:Addr).add j=⟨g,0+j,none⟩from by unfold Addr.add;split<;>simp_all]
            simp only[World.cell?,hg,dp];simpa using hu
          · cases hu) ⟨ga,oa,none⟩ m cp cg hl fw aC (by omega) (growslice_fits aC Ei)
        have kT:=grownCap_ge w (n+m) cap e;refine⟨_,_,hr,.inr (.inr ⟨_,_,rfl,rfl,?_,kT,grownCap_le_maxLen w (n+m) cap e Xt,(grow _ _ rfl).1⟩)⟩;rw[(grow _ _ rfl).2];congr 1;omega
      · have iE:n*i.size+cg.length<=aJ.size:=by rw[hl,<-dL,<-bh];exact gR _ kT
        have hr:=run_append_room (P:=P) w t ty e i ht hi g n cap aJ hg ⟨ga,oa,none⟩ m cp cg hl fw h1 kT iE;refine⟨_,_,hr,.inr (.inl ⟨g,cap,aJ,_,rfl,dL,CF,kT,hg,rfl,rfl,?_,?_⟩)⟩
        · simp only[cL,be,aO,jY,gf];omega
        · simp only[U9]
          rw[gU (by rw[cz];exact bG _)];exact ph (by rw[cz];exact bG _)
section
variable{P:Program} {T:dD} {E:Env} {K:KM} {c:aM} {a:Act} {w:World} {o:Oper} {r:iS} {val:Operand->AV} {X:Nat->Prop}
structure Src(w:World)(X:Nat->Prop)(K:KM)(sz m:Nat)(aa:List (List AV))(kd:Kd)(v:Value):Prop where
 len:m=aa.length
 uni:∀row∈aa,row.length=sz
 val:∃(A:Option Addr)(cp:Nat)(cg:List Value),v=.slice A m cp/\cg.length=m*sz/\(0<m->∃g o,A=some ⟨g,o,none⟩/\∀(j:Nat) u,cg[j]?=some u->w.cell? ⟨g,o+j,none⟩=some u)/\(∀u∈cg,u.oneCell'=true)/\
  ∀(j:Nat) u x,aa.flatten[j]?=some u->cg[j]?=some x->VR w (uN kd X) (zD kd K) u x
theorem ig(hs:bC E K c a w){UX m:Nat}{aa:List (List AV)}{kd:Kd}{u:AV}{v:Value}(h:dA (aK c.O) UX u=some (m,aa,kd))(hv:VR w (XX E K c.O) K u v):Src w (XX E K c.O) K UX m aa kd v:=by
 unfold dA at h
 split at h
 .injection h with h;injection h with h1 h2;injection h2 with h2 h3;subst h1 h2 h3
  have:=VR.fC hv;exact⟨rfl,by simp,none,0,[],this,by simp,λh=>by omega,by simp,by simp⟩
 .injection h with h;injection h with h1 h2;injection h2 with h2 h3;subst h1 h2 h3
  obtain⟨A,cap,e1⟩:=VR.D9 hv;exact⟨rfl,by simp,some A,cap,[],e1,by simp,λh=>by omega,by simp,by simp⟩
 .split at h
  .rename_i bJ
   have bJ:=beq_true bJ;subst bJ;injection h with h;injection h with h1 h2;injection h2 with h2 h3;subst h1 h2 h3
   obtain⟨A,cap,e1,hn,hr,iW,hA0,cs,dM,dC,hA,nv⟩:=VR.pq hv;refine⟨hn,hr,A,cap,cs,e1,by rw[dM,bD hr,hn],λgW=>?_,dC,nv⟩;obtain⟨g,b,e,_,_,hc⟩:=hA (by rintro rfl;simp at hn;omega);exact⟨g,b,e,hc⟩
  .cases h
 .rename_i b sz n
  split at h
  .rename_i ae hb
   split at h
   .rename_i bJ Io
    have bJ:=beq_true bJ;have Io:=beq_true Io;subst bJ;injection h with h;injection h with h1 h2;injection h2 with h2 h3;subst h1 h2 h3
    have hr:=hs.aa b ae hb
    rcases VR.c9 hv with⟨hK,hz,e1⟩|⟨g,cap,aJ,e',mm,hK,nu,e1,hc,l4,hm,dL⟩
    .subst hz
     exact⟨by simp,by simp,none,0,[],e1,by simp,λh=>by omega,by simp,by simp⟩
    .rcases hs.own b ae hb with⟨k1,_⟩|⟨g',k1,dw,fw,iG⟩
     .rw[hK]at k1;cases k1
     .rw[hK]at k1;injection k1 with k1;injection k1 with k1 k2;injection k1 with k1;subst k1 k2
      replace fw:=fw.nX hc;rw[hc]at fw;injection fw with fw;injection fw with h1 h2;subst h1
      have Rs:∀row∈ae.aa.take n,row.length=sz:=λrow h=>by rw[<-Io];exact hr row (my h)
      have cz:(ae.aa.take n).length=n:=by rw[aO];omega
      have nt:=bD Rs;rw[cz]at nt;have tU:∀(j:Nat) u,(ae.aa.take n).flatten[j]?=some u->ae.aa.flatten[j]?=some u:=by
       intro j u hu;have:ae.aa=ae.aa.take n++ae.aa.drop n:=(rR _ _).symm;rw[this,lA,bM (aE.1 hu).1];exact hu
      have aaP:n*sz<=aJ.size:=by rw[<-dL];exact gR _ l4
      refine⟨cz.symm,Rs,some ⟨g,0,none⟩,cap,aJ.toList.take (n*sz),e1,by simp;omega,λ_=>⟨g,0,rfl,λj u hu=>?_⟩,λx hx=>?_,λj u x hu hx=>?_⟩
      .rw[bQ]at hu
       split at hu
       .simp only[World.cell?,hc,dp]
        simpa using hu
       .cases hu
      .obtain⟨j,hj⟩:=fQ hx
       rw[bQ]at hj
       split at hj
       .rename_i aC
        have:j< (ae.aa.take n).flatten.length:=by omega
        obtain⟨y,hy,wJ,_⟩:=iG j _ (tU j _ (aW this));have FY:aJ[j]?=some x:=by simpa using hj
        rw[FY]at hy;injection hy with hy;subst hy;exact wJ
       .cases hj
      .rw[bQ]at hx
       split at hx
       .rename_i hju
        obtain⟨y,hy,_,pV⟩:=iG j u (tU j u hu);have sU:aJ[j]?=some x:=by simpa using hx
        rw[sU]at hy;injection hy with hy;subst hy;exact pV
       .cases hx
   .cases h
  .cases h
 .cases h
theorem wK{tk sk:Kd}{aa:List (List AV)}{A:jh}{Q:iS->Prop}(h:(nG tk sk aa A).holds P Q):A.holds P Q/\(tk=.any↔sk=.any)/\∀{w:World}{X:Nat->Prop}{K:KM}{j:Nat}{u:AV}{v:Value},aa.flatten[j]?=some u->VR w (uN sk X) (zD sk K) u v->VR w (uN tk X) (zD tk K) u v:=by
 unfold nG at h
 split at h
 .exact⟨h,by simp,λ_ h=>h⟩
 .refine⟨h.2,by simp,λhj hv=>?_⟩
  rename_i j u v;obtain⟨row,hr,hu⟩:=nC.1 (ay hj);exact da (h.1 row hr u hu) hv _ _
 .exact⟨h,by simp,λ_ h=>VR.sub h λ_ _ _=>trivial⟩
 .exact⟨h,by simp,λ_ h=>h⟩
 .exact⟨h,by simp,λ_ h=>h⟩
 .exact h.elim
theorem zV{tk sk:Kd}{aa:List (List AV)}{A:jh}{Q:iS->Prop}(h:(nG tk sk aa A).holds P Q):∀ag st,tk≠.map ag st:=by
 rintro ag st rfl;exact h.elim
theorem tW(b:Nat):∀xs ys:List (List AV),cw b (xs++ys)=(cw b xs||cw b ys)
 |[],ys=>by simp[cw]
 |x::xs,ys=>by simp only[nB,cw,tW b xs ys,Bool.or_assoc]
theorem xF{b:Nat}{xs:List (List AV)}(h:cw b xs=false)(n:Nat):cw b (xs.take n)=false:=by
 rw[<-rR n xs,tW,tD]at h;exact h.1
theorem Ga{own:Nat->Option ak}{UX m:Nat}{u:AV}{aa:List (List AV)}{kd:Kd}(h:dA own UX u=some (m,aa,kd))(hk:kd=.any):∃b ae n,own b=some ae/\ae.kd=.any/\aa=ae.aa.take n:=by
 unfold dA at h
 split at h
 .injection h with h;injection h with _ h;injection h with _ h;subst h;cases hk
 .injection h with h;injection h with _ h;injection h with _ h;subst h;cases hk
 .split at h
  .injection h with h;injection h with _ h;injection h with _ h;subst h;cases hk
  .cases h
 .split at h
  .rename_i ae hb
   split at h
   .injection h with h;injection h with _ h;injection h with h1 h2;exact⟨_,ae,_,hb,h2.trans hk,h1.symm⟩
   .cases h
  .cases h
 .cases h
theorem pA(b:Nat):∀aa:List (List AV),cw b (kZ b aa)=false
 |[]=>rfl
 |r::rs=>by
  have:∀xs:List AV,AV.cN b (jE b xs)=false:=by
   intro xs
   induction xs with
   |nil=>rfl
   |cons x xs ih=>
    unfold jE
    cases hx:x.has b
    .simp only[AV.cN,hx,ih,Bool.or_self]
    .simp only[AV.cN,ih,Bool.or_false];rfl
  simp only[kZ,cw,this,pA b rs,Bool.or_self]
theorem qS(hs:bC E K c a w){b t ty e sz n m:Nat}{ti ei:TypeInfo}{z:Value}(ht:P.underlying t=some (.slice e))(hi:P.info? e=some ei)(hz:ei.zero=some z)(mQ:ei.size=sz)(Cv:z.cells.size=sz)(bJ:0<sz)
  {kd Sl:Kd}{ow aa:List (List AV)}{v x:Value}(H0:Nat.ble (b %16) 1=true)(sY:∀ag st,kd≠.map ag st)(NW:kd=.any->cw b (ow++aa)=false)
  (jF:∀t,(lk c.fr t).has b=false)(hO:∀i x,aK c.O i=some x->i≠b->x.kd=.any->cw b x.aa=false)
  (hold:(ow=[] /\n=0/\v=.slice none 0 0)∨∃(g cap:Nat)(aJ:Array Value),(aK c.O b).isSome=true/\aG K b=some g/\v=.slice (some ⟨g,0,none⟩) n cap/\n<=cap/\cap<=maxLen/\cap*sz=aJ.size/\w.heap[g]?=some (.cells aJ e (0,0))/\
   ∀(j:Nat) u,ow.flatten[j]?=some u->∃y,aJ[j]?=some y/\y.oneCell'=true/\VR w (uN kd (XX E K c.O)) (zD kd K) u y)
  (zW:ow.length=n)(zX:∀row∈ow,row.length=sz)
  (iZ:Src w (XX E K c.O) K sz m aa Sl x)(LG:∀{w:World}{X:Nat->Prop}{K:KM}{j:Nat}{u:AV}{v:Value},aa.flatten[j]?=some u->VR w (uN Sl X) (zD Sl K) u v->VR w (uN kd X) (zD kd K) u v)
  (Xt:n+m<=maxLen)(Ei:(n+m)*ei.bytes<=140737488355328):
  ∃v' w' K',(Builtin.append_ #[t,t] ty #[v,x]).run P w=.ok v' w'/\bC E K' ⟨c.fr,di b {e:=e,sz:=sz,kd:=kd,aa:=ow++aa} c.O⟩ a w'/\VR w' (XX E K' (di b {e:=e,sz:=sz,kd:=kd,aa:=ow++aa} c.O)) K' (.bn b sz (n+m)) v':=by
 obtain⟨Ip,lp,A,cp,cg,rfl,ny,cH,dC,CG⟩:=iZ;obtain⟨xs,Nj,Va,Xv⟩:∃xs:List Value,xs.length=n*sz/\((n=0/\v=.slice none 0 0)∨∃(g cap:Nat)(aJ:Array Value),v=.slice (some ⟨g,0,none⟩) n cap/\n<=cap/\cap<=maxLen/\cap*sz=aJ.size/\w.heap[g]?=some (.cells aJ e (0,0))/\aJ.toList.take (n*sz)=xs)/\
   ∀(j:Nat) u,ow.flatten[j]?=some u->∃y,xs[j]?=some y/\y.oneCell'=true/\VR w (uN kd (XX E K c.O)) (zD kd K) u y:=by
  rcases hold with⟨rfl,rfl,rfl⟩|⟨g,cap,aJ,hb,hK,rfl,l4,hm,dL,hc,hu⟩
  .exact⟨[],by simp,.inl ⟨rfl,rfl⟩,by simp⟩
  .have:n*sz<=aJ.size:=by rw[<-dL];exact gR _ l4
   refine⟨aJ.toList.take (n*sz),by simp;omega,.inr ⟨g,cap,aJ,rfl,l4,hm,dL,hc,rfl⟩,λj u hj=>?_⟩;obtain⟨y,hy,h1,hv⟩:=hu j u hj;refine⟨y,?_,h1,hv⟩;have aC:j<n*sz:=by
    have:=(aE.1 hj).1;rw[bD zX,zW]at this;exact this
   rw[bQ,if_pos aC];simpa using hy
 have Ej:=bD zX;rw[zW]at Ej;have tX:∀(j:Nat) u,(ow++aa).flatten[j]?=some u->∃y,(xs++cg)[j]?=some y/\y.oneCell'=true/\VR w (uN kd (XX E K c.O)) (zD kd K) u y/\j< (n+m)*sz:=by
  intro j u hj;have so:j< (n+m)*sz:=by
   have:=(aE.1 hj).1;rw[lA,be,Ej,bD lp,<-Ip,<-bh]at this;exact this
  rw[lA]at hj
  rcases eJ j (n*sz)with aC|kT
  .rw[bM (by omega)]at hj
   obtain⟨y,hy,h1,hv⟩:=Xv j u hj;exact⟨y,by rw[bM (by omega)];exact hy,h1,hv,so⟩
  .rw[cm (by omega),Ej]at hj
   have l9:j-n*sz<cg.length:=by
    rw[ny];rw[bh]at so;omega
   have hy:cg[j-n*sz]?=some cg[j-n*sz]:=aW l9;exact⟨_,by rw[cm (by omega),Nj];exact hy,dC _ (uD l9),LG hj (CG _ u _ hj hy),so⟩
 have Ec:(ow++aa).length=n+m:=by rw[be,zW,<-Ip]
 have aaQ:∀row∈ow++aa,row.length=sz:=by
  intro row hr
  rcases cE.1 hr with h|h
  .exact zX row h
  .exact lp row h
 have hKd:∀(x:Option Nat×Nat)(j:Nat) u i,(ow++aa).flatten[j]?=some u->u.has i=true->zD kd (pU K b x) i=zD kd K i:=by
  intro x j u i hj hu
  cases hk:kd
  .rfl
  .rfl
  .show pU K b x i=K i
   refine eQ _ _ ?_;rintro rfl;rw[iM (NW hk) hj]at hu;cases hu
  .exact absurd hk (sY _ _)
 have bind:∀(w':World)(g cap:Nat)(cells:Array Value),Step (λr=>(aK c.O b).isSome=true/\aG K b=some r) w w'->(w.heap.size<=g∨((aK c.O b).isSome=true/\aG K b=some g))->
   w'.heap[g]?=some (.cells cells e (0,0))->cells.toList.take ((n+m)*sz)=xs++cg->cap*sz=cells.size->cap<=maxLen->n+m<=cap->
   ∃K',bC E K' ⟨c.fr,di b {e:=e,sz:=sz,kd:=kd,aa:=ow++aa} c.O⟩ a w'/\VR w' (XX E K' (di b {e:=e,sz:=sz,kd:=kd,aa:=ow++aa} c.O)) K' (.bn b sz (n+m)) (.slice (some ⟨g,0,none⟩) (n+m) cap):=by
  intro w' g cap cells cY hg hc Iq dM CF nu;refine⟨_,hs.rebind (ae:={e:=e,sz:=sz,kd:=kd,aa:=ow++aa}) H0 cY jF hO hg aaQ ⟨cells,aV.mk sY hc,λj u hj=>?_⟩,.bn (dF _ _ _) (D0 Ec.symm) hc nu CF dM⟩;obtain⟨y,hy,h1,hv,so⟩:=tX j u hj;refine⟨y,?_,h1,?_⟩
  .rw[<-Iq,bQ,if_pos so]at hy
   simpa using hy
  .refine hv.ad (ka (cY.ad.mono λr _ ⟨h1,h2⟩=>.inl ⟨b,h1,h2⟩)) (nJ λr hr hX=>?_) (λi hi=>hKd _ j u i hj hi)
   rcases hX with⟨i,ou,hk⟩|hX
   .by_cases e':i=b
    .subst e'
     rw[iz]at hk;injection hk with hk;subst hk
     rcases hg with hg|⟨h1,h2⟩
     .omega
     .exact .inl ⟨i,h1,h2⟩
    .rw[bU _ _ e']at hk
     rw[ba,if_neg (λBV=>e' BV.symm)]at ou;exact .inl ⟨i,ou,hk⟩
   .exact .inr hX
 obtain⟨v',w',Ck,Xw⟩:=F9 (P:=P) w t ty e ei z sz ht hi hz mQ Cv bJ v n xs Nj Va A m cp cg ny cH dC Xt Ei;have fI:∀(g cap:Nat),v=.slice (some ⟨g,0,none⟩) n cap->(aK c.O b).isSome=true/\aG K b=some g:=by
  intro g cap hv
  rcases hold with⟨_,_,rfl⟩|⟨g',aaE,aJ,hb,hK,rfl,_⟩
  .cases hv
  .injection hv with h1;injection h1 with h1;injection h1 with h1;subst h1;exact⟨hb,hK⟩
 rcases Xw with⟨hm0,rfl,rfl⟩|⟨g,cap,aJ,new,hv,dM,CF,nu,hg,rfl,rfl,JX,Iq⟩|⟨cap,cells,rfl,rfl,dM,nu,CF,Iq⟩
 .subst hm0
  have LC:cg=[]:=bE (by simpa using ny)
  rcases Va with⟨hn,rfl⟩|⟨g,cap,aJ,rfl,l4,CF,dL,hg,Iq⟩
  .subst hn
   have wH:ow++aa=[]:=bE Ec;refine⟨_,_,_,Ck,hs.oI (ae:={e:=e,sz:=sz,kd:=kd,aa:=ow++aa}) H0 jF hO wH,?_⟩;exact .fE (dF _ _ _)
  .obtain⟨K',h1,h2⟩:=bind w' g cap aJ (Step.refl _ _) (.inr (fI g cap rfl)) hg (by rw[LC];simpa using Iq) dL CF (by simpa using l4)
   exact⟨_,_,K',Ck,h1,h2⟩
 .obtain⟨hb,hK⟩:=fI g cap hv
  obtain⟨K',h1,h2⟩:=bind _ g cap new ((Step.setRow hg JX).mono λr _ hr=>⟨hb,by rw[hr];exact hK⟩) (.inr ⟨hb,hK⟩) (setRow_heap w g aJ _ e (0,0) hg) Iq (by rw[JX];exact dM) CF nu;exact⟨_,_,K',Ck,h1,h2⟩
 .have cY:Step (λr=>(aK c.O b).isSome=true/\aG K b=some r) w (w.drew.alloc (.cells cells e)):=(Step.drawn _ w (w.drawn+1)).trans (Step.alloc _ w.drew _)
  obtain⟨K',h1,h2⟩:=bind _ w.heap.size cap cells cY (.inl (bG _)) (iN w.drew _) Iq dM.symm CF nu;exact⟨_,_,K',Ck,h1,h2⟩
end
end Go.an
