import Derived.Test.YtpfmbblnhjpclaaGreatDoorJ5
set_option linter.unusedVariables false
set_option linter.unusedSimpArgs false
namespace Go.an
open Go.RowKit
section
variable{P:Program} {T:dD} {E:Env} {K:KM} {c:aM} {a:Act} {w:World} {o:Oper} {r:iS} {val:Operand->AV} {X:Nat->Prop}
theorem Sd(hT:br P T)(hs:bC E K c a w)(az:ey E K c a w val){s:TypeId}{x:Operand}{f:Nat}(ho:o.op=.field s x f)
  (h:jh.holds P (match T.get s,val x with
  |some i,.agg xs=>match i.k with
   |.struct fs=>match fs[f]? with
    |some (off,ft)=>match T.get ft with
     |some fi=>match mN fi xs off with|some v=>bu v|none=>.no
     |none=>.no
    |none=>.no
   |_=>.no
  |_,_=>.no) (· =r)):o.wp P a w (bA E c r a o.dst) kK:=by
 split at h
 .rename_i i xs hi hx
  split at h
  .rename_i fs hk
   split at h
   .rename_i off ft hf
    split at h
    .rename_i fi hfi
     split at h
     .rename_i v hr
      obtain⟨⟨d,hd,eM⟩,_⟩:=hT.get hi;rw[hk]at eM;obtain⟨ff,rfl,hff⟩:=of_struct eM;rw[hff,aS]at hf
      cases Xk:ff.toList[f]? with
      |none=>rw[Xk]at hf;cases hf
      |some Rv=>
       rw[Xk]at hf;injection hf with hf;injection hf with e1 e2;subst e1 e2
       have hfa:ff[f]?=some Rv:=by simpa using Xk
       obtain⟨⟨d',BL,qR⟩,⟨j,hj,_,mi,_⟩,_⟩:=hT.get hfi;obtain⟨vs,e1,l1,h1,v1⟩:=VR.mC (az.at hx);unfold mN at hr
       split at hr
       .cases hr
       .rename_i ys mD
        obtain⟨eY,rfl⟩:=tP mD
        split at hr
        .rename_i tS
         split at hr
         .rename_i zs Cv
          obtain⟨LA,rfl⟩:=tQ Cv;injection hr with hr
          subst hr;simp only[jY]at LA;refine aT hs (vv:=.agg (vs.extract Rv.offset (Rv.offset+fi.size))) ?_ (aN h) (.agg ?_ ?_ ?_)
          .rw[<-qR]at tS
           simp only[execOp,ho,e1];simp[Instr.field,run_underlying hd,hfa,asAgg,part,oL BL,tS,bS hj,mi]
          .simp only[aO,jY,Array.size_extract];omega
          .intro p x hp
           rw[Array.getElem?_extract]at hp
           split at hp
           .exact h1 _ x hp
           .cases hp
          .intro p u x hu hp
           rw[Array.getElem?_extract]at hp
           split at hp
           .rw[bQ]at hu
            split at hu
            .rw[cV]at hu
             exact v1 _ u x hu hp
            .cases hu
           .cases hp
         .cases hr
        .rename_i tS
         split at hr
         .rename_i y ys hy
          injection hr with hr
          subst hr;have hg:xs[Rv.offset]?=some y:=by
           have:(xs.drop Rv.offset)[0]?=some y:=by rw[hy];rfl
           rw[cV]at this;simpa using this
          have aC:Rv.offset<vs.size:=by have:=(aE.1 hg).1;omega
          rw[<-qR]at tS;refine aT hs (vv:=vs[Rv.offset]) ?_ (aN h) (v1 _ y _ hg (by simp[aC]));simp only[execOp,ho,e1];simp[Instr.field,run_underlying hd,hfa,asAgg,part,oL BL,tS,aC]
         .cases hr
     .exact h.elim
    .exact h.elim
   .exact h.elim
  .exact h.elim
 .exact h.elim
theorem Im(hT:br P T){t:Nat}(h:D4 T t=true):∃e,P.underlying t=some (.slice e):=by
 unfold D4 at h
 split at h
 .rename_i ti nY
  split at h
  .rename_i e hk
   obtain⟨⟨d,hd,eM⟩,_⟩:=hT.get nY;rw[hk]at eM;have:=of_slice eM;subst this;exact⟨e,hd⟩
  .cases h
 .cases h
theorem xE(hT:br P T){t:Nat}(h:isStr T t=true):P.underlying t=some .string:=by
 unfold isStr at h
 split at h
 .rename_i ti nY
  split at h
  .rename_i hk
   obtain⟨⟨d,hd,eM⟩,_⟩:=hT.get nY;rw[hk]at eM
   cases d<;>simp[tG.of]at eM
   exact hd
  .cases h
 .cases h
theorem aaJ(hT:br P T)(hs:bC E K c a w)(az:ey E K c a w val){x:Operand}{t:TypeId}(ho:o.op=.call {callee:=.builtin .len,args:=#[x],argTypes:=#[t]})
  (h:(Xh T t (val x)).holds P (· =r)):o.wp P a w (bA E c r a o.dst) kK:=by
 have fin:∀{A:Option Addr}{n cap:Nat},a.eval x=.slice A n cap->D4 T t=true->{v:=.int .i64 n}=r->o.wp P a w (bA E c r a o.dst) kK:=by
  intro A n cap e1 pW hr;obtain⟨e,hd⟩:=Im hT pW;refine aT hs (vv:=.int .i64 n) ?_ hr .int;simp only[execOp,ho,resolve,invoke,builtin,gS,cU,dO,e1,Sem.run_bind,Sem.run_pure,Result.andThen_ok];simp[Builtin.len_,run_underlying hd,goInt]
 unfold Xh at h
 split at h
 .rename_i hx
  split at h
  .rename_i pW
   obtain⟨A,cap,e1,_⟩:=VR.pq (az.at hx);exact fin e1 pW h
  .exact h.elim
 .rename_i hx
  split at h
  .rename_i pW
   rcases VR.c9 (az.at hx)with⟨_,hz,e1⟩|⟨g,cap,aJ,e',m,hK,_,e1,_⟩
   .subst hz;exact fin e1 pW h
   .exact fin e1 pW h
  .exact h.elim
 .rename_i hx
  split at h
  .rename_i pW
   obtain⟨A,cap,e1,_⟩:=VR.qO (az.at hx);exact fin e1 pW h
  .exact h.elim
 .rename_i hx
  split at h
  .rename_i pW
   exact fin (n:=0) (VR.fC (az.at hx)) pW h
  .exact h.elim
 .rename_i hx
  split at h
  .rename_i pW
   obtain⟨A,cap,e1⟩:=VR.D9 (az.at hx);exact fin (n:=0) e1 pW h
  .exact h.elim
 .rename_i s hx
  split at h
  .rename_i pW
   have hd:=xE hT pW;have e1:=VR.gD (az.at hx);refine aT hs (vv:=.int .i64 s.size) ?_ (aN h) .int;simp only[execOp,ho,resolve,invoke,builtin,gS,cU,dO,e1,Sem.run_bind,Sem.run_pure,Result.andThen_ok];simp[Builtin.len_,run_underlying hd,goInt]
  .exact h.elim
 .exact h.elim
theorem Ee(A:Option Addr):A.map (·.add 0)=A:=by cases A<;>simp[Addr.add]
theorem NQ(hT:br P T)(hs:bC E K c a w)(az:ey E K c a w val){t:TypeId}{x:Operand}{lo hi:Option Operand}(ho:o.op=.slice t x lo hi none)(cY:isStr T t=true)
  (h:(Ie (val x) (lo.map val) (hi.map val)).holds P (· =r)):o.wp P a w (bA E c r a o.dst) kK:=by
 have hd:=xE hT cY;unfold Ie at h
 split at h
 .rename_i s k hh hx kL sg
  obtain⟨hb,h⟩:=h
  cases hi with
  |none=>cases sg
  |some hi=>
  cases lo with
  |some lo=>cases kL
  |none=>
  injection sg with sg
  have e1:=VR.gD (az.at hx);have e2:=az.int sg;refine aT hs (vv:=.string (s.extract 0 hh.toNat)) ?_ (aN h) .str;simp only[execOp,ho,e1,e2,gT,iU,Sem.run_bind,run_sliceAt_string w t _ _ _ _ hd,run_slice_string_h w t s hd k hh hb.1 hb.2,Result.andThen_ok,Sem.run_pure]
 .rename_i s k ll hx kL sg
  obtain⟨hb,h⟩:=h
  cases lo with
  |none=>cases kL
  |some lo=>
  cases hi with
  |some hi=>cases sg
  |none=>
  injection kL with kL
  have e1:=VR.gD (az.at hx);have e2:=az.int kL;refine aT hs (vv:=.string (s.extract ll.toNat s.size)) ?_ (aN h) .str;simp only[execOp,ho,e1,e2,gT,iU,Sem.run_bind,run_sliceAt_string w t _ _ _ _ hd,run_slice_string_l w t s hd k ll hb.1 hb.2,Result.andThen_ok,Sem.run_pure]
 .rename_i s k ll k' hh hx kL sg
  obtain⟨hb,h⟩:=h
  cases lo with
  |none=>cases kL
  |some lo=>
  cases hi with
  |none=>cases sg
  |some hi=>
  injection kL with kL
  injection sg with sg
  have e1:=VR.gD (az.at hx);have e2:=az.int kL;have e3:=az.int sg;refine aT hs (vv:=.string (s.extract ll.toNat hh.toNat)) ?_ (aN h) .str;simp only[execOp,ho,e1,e2,e3,iU,gT,Sem.run_bind,run_sliceAt_string w t _ _ _ _ hd];have h3:(0:Int)<=hh:=by omega
  have h5:hh<=(s.size:Int):=hb.2.2;simp[Instr.slice,run_underlying hd,Instr.sliceBounds,Instr.sliceBound,asIntOf,hb.1,h3,h5];intro hc;omega
 .exact h.elim
theorem Se(hT:br P T)(hs:bC E K c a w)(az:ey E K c a w val){t:TypeId}{x ix:Operand}(ho:o.op=.index t x ix)
  (h:(If T t (val x) (val ix)).holds P (· =r)):o.wp P a w (bA E c r a o.dst) kK:=by
 unfold If at h
 split at h
 .rename_i ti s k j nY hx U4
  split at h
  .rename_i hk
   obtain⟨⟨d,hd,eM⟩,_⟩:=hT.get nY;rw[hk]at eM;have:d=.string:=by cases d<;>simp[tG.of]at eM;rfl
   subst this;obtain⟨m,⟨hj,aC,rfl⟩,h⟩:=h;have e1:=VR.gD (az.at hx);have e2:=az.int U4;refine aT hs (vv:=.int .u8 ((s[j.toNat]'aC).toNat:Nat)) ?_ (aN h) .int;have hb:0<=j/\j< (s.size:Int):=⟨hj,by omega⟩;simp only[execOp,ho,e1,e2,Sem.run_bind,run_index_string w t s k j hd,dif_pos hb,Result.andThen_ok,Sem.run_pure]
  .exact h.elim
 .rename_i ti xs k j nY hx U4
  split at h
  .rename_i n e hk
   obtain⟨⟨d,hd,eM⟩,_⟩:=hT.get nY;rw[hk]at eM;have:=of_array eM;subst this
   split at h
   .rename_i ei lg
    obtain⟨⟨de,hde,ahw⟩,⟨je,kb,_,mi,_⟩,_⟩:=hT.get lg
    split at h
    .rename_i tS dC
     have dC:=beq_true dC;obtain⟨row,h⟩:=h;dsimp only at h
     split at h
     .rename_i u
      obtain⟨⟨hj,hjn,hu⟩,h⟩:=h;have e2:=az.int U4;obtain⟨vs,e1,l1,v1,v2⟩:=VR.mC (az.at hx);have aC:j.toNat<vs.size:=by rw[<-l1];exact(aE.1 hu).1
      have hvj:vs[j.toNat]?=some vs[j.toNat]:=by simp[aC]
      refine aT hs (vv:=vs[j.toNat]) ?_ (aN h) (v2 j.toNat u _ hu hvj);rw[<-ahw]at tS;have hb:0<=j/\j< (n:Int):=⟨hj,hjn⟩;simp[execOp,ho,e1,e2,Instr.index,asIntOf,run_underlying hd,hb,bS kb,mi,dC,part,oL hde,tS,aC]
     .exact h.elim
    .exact h.elim
   .exact h.elim
  .exact h.elim
 .exact h.elim
theorem Sf(hT:br P T)(hs:bC E K c a w)(az:ey E K c a w val){t:TypeId}{x:Operand}{lo hi:Option Operand}(ho:o.op=.slice t x lo hi none)
  (h:(Ic T t (val x) (lo.map val) (hi.map val)).holds P (· =r)):o.wp P a w (bA E c r a o.dst) kK:=by
 unfold Ic at h
 split at h
 .rename_i ti nY
  split at h
  .rename_i e hk
   obtain⟨⟨d,hd,eM⟩,_⟩:=hT.get nY;rw[hk]at eM;have:=of_slice eM;subst this
   split at h
   .rename_i ei lg
    obtain⟨_,⟨je,kb,_,mi,_⟩,_⟩:=hT.get lg
    split at h
    .rename_i sz n aa k hh hx kL sg
     cases hi with
     |none=>cases sg
     |some hi=>
     cases lo with
     |some lo=>cases kL
     |none=>
     injection sg with sg
     have e2:=az.int sg
     split at h
     .rename_i bJ
      have bJ:=beq_true bJ;obtain⟨hb,h⟩:=h;obtain⟨A,cap,e1,hn,hr,iW,hA0,cs,dM,dC,hA,hv⟩:=VR.pq (az.at hx);have nt:=bD hr;have Rs:∀row∈aa.take hh.toNat,row.length=sz:=λrow jV=>hr row (my jV)
      have NR:=bD Rs;have hhl:hh.toNat<=aa.length:=by omega
      have tU:∀(j:Nat) u,(aa.take hh.toNat).flatten[j]?=some u->aa.flatten[j]?=some u:=by
       intro j u hu;have:aa=aa.take hh.toNat++aa.drop hh.toNat:=(rR _ _).symm;rw[this,lA,bM (aE.1 hu).1];exact hu
      refine aT hs (vv:=.slice A hh.toNat cap) ?_ (aN h) (.aL (cs:=cs.take (hh.toNat*sz)) ?_ Rs ?_ hA0 ?_ (λx hx=>dC x (my hx)) (λdW=>?_) (λj u x hu hx=>?_))
      .simp only[execOp,ho,e1,e2,gT,iU]
       have eY:hh<=(cap:Int):=by omega
       simp[Instr.sliceAt,Instr.slice,run_underlying hd,Instr.sliceBounds,Instr.sliceBound,asIntOf,hb.1,eY,bS kb,Ee]
      .simp only[aO];omega
      .omega
      .rw[aO,NR,aO,dM,nt]
       rw[rS (gR _ hhl),rS hhl]
      .obtain⟨g,b,rfl,hg,hX,cH⟩:=hA (by rintro rfl;simp at dW)
       refine⟨g,b,rfl,hg,hX,λj x hx=>cH j x ?_⟩;rw[bQ]at hx
       split at hx
       .exact hx
       .cases hx
      .rw[bQ]at hx
       split at hx
       .exact hv j u x (tU j u hu) hx
       .cases hx
     .exact h.elim
    .rename_i sz n aa k ll hx kL sg
     cases hi with
     |some hi=>cases sg
     |none=>
     cases lo with
     |none=>cases kL
     |some lo=>
     injection kL with kL
     have e2:=az.int kL
     split at h
     .rename_i bJ
      have bJ:=beq_true bJ;obtain⟨hb,h⟩:=h;obtain⟨A,cap,e1,hn,hr,iW,hA0,cs,dM,dC,hA,hv⟩:=VR.pq (az.at hx);have nt:=bD hr;have Rs:∀row∈aa.drop ll.toNat,row.length=sz:=λrow jV=>hr row (uE jV)
      have NR:=bD Rs;have hhl:ll.toNat<=aa.length:=by omega
      have tU:∀(j:Nat),(aa.drop ll.toNat).flatten[j]?=aa.flatten[ll.toNat*sz+j]?:=by
       intro j;have:aa=aa.take ll.toNat++aa.drop ll.toNat:=(rR _ _).symm;have NO:(aa.take ll.toNat).flatten.length=ll.toNat*sz:=by
        rw[bD (sz:=sz) λrow jV=>hr row (my jV),aO,rS hhl]
       conv=>rhs;rw[this,lA,cm (by omega),NO]
       congr 1;omega
      refine aT hs (vv:=.slice (if cap=ll.toNat then A else A.map (·.add (ll.toNat*sz))) (n-ll.toNat) (cap-ll.toNat)) ?_ (aN h) (.aL (cs:=cs.drop (ll.toNat*sz)) ?_ Rs ?_ ?_ ?_ (λx hx=>dC x (uE hx)) (λdW=>?_) (λj u x hu hx=>?_))
      .simp only[execOp,ho,e1,e2,gT,iU]
       have eY:ll<=(n:Int):=by omega
       simp[Instr.sliceAt,Instr.slice,run_underlying hd,Instr.sliceBounds,Instr.sliceBound,asIntOf,hb.1,eY,bS kb,mi,bJ]
      .simp only[jY];omega
      .omega
      .intro ke
       split at ke
       .omega
       .have:=hA0 (by simpa using ke);omega
      .rw[jY,NR,jY,dM,nt,Nat.sub_mul]
      .have aaK:ll.toNat<aa.length:=by
        rcases eJ ll.toNat aa.length with h'|h'
        .exact h'
        .exact absurd (List.drop_eq_nil_of_le h') dW
       obtain⟨g,b,rfl,hg,hX,cH⟩:=hA (by rintro rfl;simp at dW);rw[if_neg (by omega)];refine⟨g,b+ll.toNat*sz,by simp[fK],hg,hX,λj x hx=>?_⟩;rw[cV]at hx;rw[pf];exact cH _ x hx
      .rw[cV]at hx
       rw[tU]at hu;exact hv _ u x hu hx
     .exact h.elim
    .rename_i b sz n k hh hx kL sg
     cases hi with
     |none=>cases sg
     |some hi=>
     cases lo with
     |some lo=>cases kL
     |none=>
     injection sg with sg
     have e2:=az.int sg
     split at h
     .rename_i bJ
      have bJ:=beq_true bJ;obtain⟨hb,h⟩:=h
      rcases VR.c9 (az.at hx)with⟨hK,hz,e1⟩|⟨g,cap,aJ,e',m,hK,nu,e1,hc,l4,hm,dL⟩
      .subst hz
       have Xp:hh=0:=by omega
       subst Xp;refine aT hs (vv:=.slice none 0 0) ?_ (aN h) (.fE hK);simp only[execOp,ho,e1,e2,gT,iU];simp[Instr.sliceAt,Instr.slice,run_underlying hd,Instr.sliceBounds,Instr.sliceBound,asIntOf,bS kb]
      .refine aT hs (vv:=.slice (some ⟨g,0,none⟩) hh.toNat cap) ?_ (aN h) (.bn hK (by omega) hc (by omega) hm dL)
       simp only[execOp,ho,e1,e2,gT,iU];have eY:hh<=(cap:Int):=by omega
       simp[Instr.sliceAt,Instr.slice,run_underlying hd,Instr.sliceBounds,Instr.sliceBound,asIntOf,hb.1,eY,bS kb,fK]
     .exact h.elim
    .rename_i b sz n k ll hx kL sg
     cases hi with
     |some hi=>cases sg
     |none=>
     cases lo with
     |none=>cases kL
     |some lo=>
     injection kL with kL
     have e2:=az.int kL
     split at h
     .rename_i bJ
      have bJ:=beq_true bJ;obtain⟨hb,h⟩:=h
      rcases VR.c9 (az.at hx)with⟨hK,hz,e1⟩|⟨g,cap,aJ,e',m,hK,nu,e1,hc,l4,hm,dL⟩
      .subst hz
       have Xp:ll=0:=by omega
       subst Xp;refine aT hs (vv:=.slice none 0 0) ?_ (aN h) (.dq (λh=>by omega) (λh=>by omega));simp only[execOp,ho,e1,e2,gT,iU];simp[Instr.sliceAt,Instr.slice,run_underlying hd,Instr.sliceBounds,Instr.sliceBound,asIntOf,bS kb]
      .refine aT hs (vv:=.slice (if cap=ll.toNat then some ⟨g,0,none⟩else some ⟨g,ll.toNat*sz,none⟩) (n-ll.toNat) (cap-ll.toNat)) ?_ (aN h) (.dq (λhp=>⟨g,m,hK,by omega,by rw[if_neg (by omega)]⟩) (λhp=>⟨by omega,by omega,g,ll.toNat*sz,aJ,e',by rw[if_neg (by omega)],hc,by rw[<-dL,<-bh];congr 1;omega⟩))
       simp only[execOp,ho,e1,e2,gT,iU];have eY:ll<=(n:Int):=hb.2;simp[Instr.sliceAt,Instr.slice,run_underlying hd,Instr.sliceBounds,Instr.sliceBound,asIntOf,hb.1,eY,bS kb,mi,bJ,fK]
     .exact h.elim
    .rename_i b sz lo0 n k ll hx kL sg
     cases hi with
     |some hi=>cases sg
     |none=>
     cases lo with
     |none=>cases kL
     |some lo=>
     injection kL with kL
     have e2:=az.int kL
     split at h
     .rename_i bJ
      have bJ:=beq_true bJ;obtain⟨⟨Fy,yw,LC⟩,h⟩:=h;obtain⟨A,cap,e1,hA,hC⟩:=VR.Cs (az.at hx);obtain⟨g,m,hK,hm1,rfl⟩:=hA LC;obtain⟨U5,U6,g',o',aJ,e',Xq,hc,dL⟩:=hC LC;injection Xq with Xq;injection Xq with hg tV;subst hg tV
      refine aT hs (vv:=.slice (if cap=ll.toNat then some ⟨g,lo0*sz,none⟩else some ⟨g,lo0*sz+ll.toNat*sz,none⟩) (n-ll.toNat) (cap-ll.toNat)) ?_ (aN h)
       (.dq (λhp=>⟨g,m,hK,by omega,by rw[if_neg (by omega),bh]⟩) (λhp=>⟨by omega,by omega,g,lo0*sz+ll.toNat*sz,aJ,e',by rw[if_neg (by omega)],hc,by rw[<-dL,pf,<-bh];congr 2;omega⟩))
      simp only[execOp,ho,e1,e2,gT,iU];have eY:ll<=(n:Int):=yw;simp[Instr.sliceAt,Instr.slice,run_underlying hd,Instr.sliceBounds,Instr.sliceBound,asIntOf,Fy,eY,bS kb,mi,bJ,fK]
     .exact h.elim
    .exact h.elim
   .exact h.elim
  .exact h.elim
 .exact h.elim
theorem Ef{w:World}{X:Nat->Prop}{K:KM}{g:Nat}{ae:ak}{aJ:Array Value}(cP:∀row∈ae.aa,row.length=ae.sz)
  (hu:∀(j:Nat) u,ae.aa.flatten[j]?=some u->∃x,aJ[j]?=some x/\x.oneCell'=true/\VR w X K u x):ae.aa.length*ae.sz<=aJ.size:=by
 have sZ:=bD cP
 by_cases h0:ae.aa.flatten.length=0
 .omega
 .obtain⟨y,hy,_⟩:=hu (ae.aa.flatten.length-1) _ (aW (by omega))
  have:=(bd.1 hy).1;omega
theorem aaL(hT:br P T)(hs:bC E K c a w)(az:ey E K c a w val){t:TypeId}{x:Operand}{lo hi:Option Operand}(ho:o.op=.slice t x lo hi none)
  (h:(Lv T (aK c.O) t (val x) (lo.map val) (hi.map val)).holds P (· =r)):o.wp P a w (bA E c r a o.dst) kK:=by
 unfold Lv at h
 split at h
 .rename_i ti nY
  split at h
  .rename_i e hk
   obtain⟨⟨d,hd,eM⟩,_⟩:=hT.get nY;rw[hk]at eM;have:=of_slice eM;subst this
   split at h
   .rename_i ei lg
    obtain⟨_,⟨je,kb,_,mi,_⟩,_⟩:=hT.get lg
    split at h
    .rename_i b sz n k ll k' hh hx kL sg
     cases hi with
     |none=>cases sg
     |some hi=>
     cases lo with
     |none=>cases kL
     |some lo=>
     injection kL with kL
     injection sg with sg
     have e2:=az.int kL;have e3:=az.int sg
     split at h
     .rename_i ae hb
      split at h
      .rename_i bJ qk gW
       have bJ:=beq_true bJ;have qk:=beq_true qk;have gW:=dn gW;obtain⟨⟨h0,hlh,hhr⟩,h⟩:=h;have h3:(0:Int)<=hh:=by omega
       rcases VR.c9 (az.at hx)with⟨hK,hz,e1⟩|⟨g,cap,aJ,e',m,hK,nu,e1,hc,l4,hm,dL⟩
       .rcases hs.own b ae hb with⟨k1,k2⟩|⟨g',k1,_⟩
        .rw[k2]at hhr
         have Xp:hh=0:=by simp at hhr;omega
         have ll0:ll=0:=by omega
         subst Xp ll0;refine aT hs (vv:=.slice none 0 0) ?_ (aN h) (.dq (λh=>by simp at h) (λh=>by simp at h));simp only[execOp,ho,e1,e2,e3,iU,gT];simp[Instr.sliceAt,Instr.slice,run_underlying hd,Instr.sliceBounds,Instr.sliceBound,asIntOf,bS kb]
        .rw[hK]at k1;cases k1
       .rcases hs.own b ae hb with⟨k1,_⟩|⟨g',k1,dw,fw,hu⟩
        .rw[hK]at k1;cases k1
        .have Fz:=hK
         rw[hK]at k1;injection k1 with k1;injection k1 with k1 k2;injection k1 with k1;subst k1 k2
         replace fw:=fw.nX hc;rw[hc]at fw;injection fw with fw;injection fw with h1 h2;subst h1
         have nt:=Ef (g:=g) (hs.aa b ae hb) hu;have iW:ae.aa.length<=cap:=by
          rw[<-dL,<-qk]at nt;exact Nat.le_of_mul_le_mul_right nt (by omega)
         refine aT hs (vv:=.slice (if cap=ll.toNat then some ⟨g,0,none⟩else some ⟨g,ll.toNat*sz,none⟩) (hh.toNat-ll.toNat) (cap-ll.toNat)) ?_ (aN h) (.dq (λhp=>⟨g,_,Fz,by omega,by rw[if_neg (by omega)]⟩) (λhp=>⟨by omega,by omega,g,ll.toNat*sz,aJ,e',by rw[if_neg (by omega)],hc,by rw[<-dL,<-bh];congr 1;omega⟩));simp only[execOp,ho,e1,e2,e3,iU,gT];have eY:hh<=(cap:Int):=by omega
         simp[Instr.sliceAt,Instr.slice,run_underlying hd,Instr.sliceBounds,Instr.sliceBound,asIntOf,h0,h3,eY,bS kb,mi,bJ,fK];intro hc;omega
      .exact h.elim
     .exact h.elim
    .exact h.elim
   .exact h.elim
  .exact h.elim
 .exact h.elim
theorem Xr(hT:br P T)(hs:bC E K c a w)(az:ey E K c a w val){t:TypeId}{x lo hi mx:Operand}(ho:o.op=.slice t x (some lo) (some hi) (some mx))
  (h:(NF T t (val x) (val lo) (val hi) (val mx)).holds P (· =r)):o.wp P a w (bA E c r a o.dst) kK:=by
 unfold NF at h
 split at h
 .rename_i ti nY
  split at h
  .rename_i e hk
   obtain⟨⟨d,hd,eM⟩,_⟩:=hT.get nY;rw[hk]at eM;have:=of_slice eM;subst this
   split at h
   .rename_i ei lg
    obtain⟨_,⟨je,kb,_,mi,_⟩,_⟩:=hT.get lg
    split at h
    .rename_i b sz n k ll k' hh k'' mm hx kL sg LD
     have e2:=az.int kL;have e3:=az.int sg;have e4:=az.int LD;obtain⟨⟨h0,hlh,hhm,hmn⟩,h⟩:=h;have h3:(0:Int)<=hh:=by omega
     have h4:(0:Int)<=mm:=by omega
     rcases VR.c9 (az.at hx)with⟨hK,hz,e1⟩|⟨g,cap,aJ,e',m,hK,nu,e1,hc,l4,hm,dL⟩
     .subst hz
      have Xp:hh=0:=by omega
      have ll0:ll=0:=by omega
      have mm0:mm=0:=by omega
      subst Xp ll0 mm0;refine aT hs (vv:=.slice none 0 0) ?_ (aN h) .top;simp only[execOp,ho,e1,e2,e3,e4,iU];simp[Instr.sliceAt,Instr.slice,run_underlying hd,Instr.sliceBounds,Instr.sliceBound,asIntOf,bS kb]
     .refine aT hs (vv:=.slice (if mm.toNat=ll.toNat then some ⟨g,0,none⟩else some ⟨g,ll.toNat*ei.size,none⟩) (hh.toNat-ll.toNat) (mm.toNat-ll.toNat)) ?_ (aN h) .top
      simp only[execOp,ho,e1,e2,e3,e4,iU];have eY:mm<=(cap:Int):=by omega
      simp[Instr.sliceAt,Instr.slice,run_underlying hd,Instr.sliceBounds,Instr.sliceBound,asIntOf,h0,h3,h4,eY,bS kb,mi,fK];rw[if_pos (by omega),if_pos (by omega)]
    .exact h.elim
   .exact h.elim
  .exact h.elim
 .exact h.elim
end
theorem Cz{P:Program}{w:World}{k:IntKind}:∀{r:List AV}{a m:Int}{vs:List Value},foldI iK k a r=some m->r.length=vs.length->(∀(j:Nat) u v,r[j]?=some u->vs[j]?=some v->∀k n,u=.int k n->v=.int k n)->
  (vs.foldlM Builtin.min2 (.int k a)).run P w=.ok (.int k m) w
 |[],a,m,[],h,_,_=>by simp[foldI]at h;subst h;simp
 |u::us,a,m,v::vs,h,hl,hv=>by
  cases u<;>simp only[foldI]at h
  case int k' b=>
   split at h
   .rename_i hk
    have:=pr hk;subst this;have e:=hv 0 (.int k b) v (by simp) (by simp) k b rfl;subst e;have ih:=Cz (P:=P) (w:=w) h (by simpa using hl) (λj u v h1 h2=>hv (j+1) u v (by simpa using h1) (by simpa using h2));simp only[List.foldlM_cons,Builtin.min2,Sem.run_bind,Sem.run_pure,Result.andThen_ok];exact ih
   .cases h
  all_goals cases h
 |[],_,_,_::_,_,h,_=>by simp at h
 |_::_,_,_,[],_,h,_=>by simp at h
theorem CD{P:Program}{w:World}{k:IntKind}:∀{r:List AV}{a m:Int}{vs:List Value},foldI tJ k a r=some m->r.length=vs.length->(∀(j:Nat) u v,r[j]?=some u->vs[j]?=some v->∀k n,u=.int k n->v=.int k n)->
  (vs.foldlM Builtin.max2 (.int k a)).run P w=.ok (.int k m) w
 |[],a,m,[],h,_,_=>by simp[foldI]at h;subst h;simp
 |u::us,a,m,v::vs,h,hl,hv=>by
  cases u<;>simp only[foldI]at h
  case int k' b=>
   split at h
   .rename_i hk
    have:=pr hk;subst this;have e:=hv 0 (.int k b) v (by simp) (by simp) k b rfl;subst e;have ih:=CD (P:=P) (w:=w) h (by simpa using hl) (λj u v h1 h2=>hv (j+1) u v (by simpa using h1) (by simpa using h2));simp only[List.foldlM_cons,Builtin.max2,Sem.run_bind,Sem.run_pure,Result.andThen_ok];exact ih
   .cases h
  all_goals cases h
 |[],_,_,_::_,_,h,_=>by simp at h
 |_::_,_,_,[],_,h,_=>by simp at h
def NT(w:World)(X:Nat->Prop)(K:KM)(us:List AV)(vs:Array Value):Prop:=
 us.length=vs.size/\(∀(j:Nat) c,vs[j]?=some c->c.oneCell'=true)/\∀(j:Nat) u c,us[j]?=some u->vs[j]?=some c->VR w X K u c
theorem CE(off:Nat):∀(cs:List Value)(i:Nat)(bX:Array Value)(j:Nat),off+i+cs.length<=bX.size->
  ((cs.zipIdx i).foldl (λ(bX:Array Value) (p:Value×Nat)=>bX.setIfInBounds (off+p.2) p.1) bX).size=bX.size/\
  ((cs.zipIdx i).foldl (λ(bX:Array Value) (p:Value×Nat)=>bX.setIfInBounds (off+p.2) p.1) bX)[j]?=if off+i<=j/\j<off+i+cs.length then cs[j-(off+i)]? else bX[j]?
 |[],i,bX,j,_=>by
  refine⟨by simp,?_⟩;rw[if_neg (by simp)];simp
 |x::cs,i,bX,j,h=>by
  simp only[List.zipIdx_cons,List.foldl_cons];obtain⟨h1,h2⟩:=CE off cs (i+1) (bX.setIfInBounds (off+i) x) j (by simp at h⊢;omega);refine⟨by rw[h1];simp,?_⟩;rw[h2];simp only[bB]
  by_cases e:off+(i+1)<=j/\j<off+(i+1)+cs.length
  .rw[if_pos e,if_pos (by omega)]
   rw[show j-(off+i)=(j-(off+(i+1)))+1 by omega];simp
  .rw[if_neg e]
   by_cases e2:j=off+i
   .subst e2
    rw[if_pos (by omega)];simp at h;simp[show off+i<bX.size by omega]
   .rw[if_neg (by omega)]
    simp[Ne.symm e2]
section
variable{P:Program} {T:dD} {E:Env} {K:KM} {c:aM} {a:Act} {w:World} {o:Oper} {r:iS} {val:Operand->AV} {X:Nat->Prop}
theorem mP(az:ey E K c a w val)(args:Array Operand):(args.toList.map val).length=(args.map a.eval).toList.length/\∀(j:Nat) u v,(args.toList.map val)[j]?=some u->(args.map a.eval).toList[j]?=some v->FV w (XX E K c.O) K a.tmps u v:=by
 refine⟨by simp,λj u v hu hv=>?_⟩;simp only[aS,mu]at hu;simp only[Array.toList_map,aS,mu]at hv
 cases hx:args[j]? with
 |none=>rw[hx]at hu;cases hu
 |some x=>
  rw[hx]at hu hv;injection hu with hu;injection hv with hv
  subst hu hv;exact az x
theorem aaM(hs:bC E K c a w)(az:ey E K c a w val){args:Array Operand}{ts:Array TypeId}(ho:o.op=.call {callee:=.builtin .min,args:=args,argTypes:=ts})
  (h:jh.holds P (match args.toList.map val with
  |.int k a::r=>match foldI iK k a r with|some m=>bu (.int k m)|none=>.no
  |_=>.no) (· =r)):o.wp P a w (bA E c r a o.dst) kK:=by
 split at h
 .rename_i k n us zP
  split at h
  .rename_i m hm
   obtain⟨hl,hv⟩:=mP az args;rw[zP]at hl hv
   cases n9:(args.map a.eval).toList with
   |nil=>rw[n9]at hl;simp at hl
   |cons v vs=>
    rw[n9]at hl hv;have e0:v=.int k n:=VR.jA (show VR w (XX E K c.O) K (.int k n) v from hv 0 (.int k n) v (by simp) (by simp));have Ck:=Cz (P:=P) (w:=w) hm (by simpa using hl) (λj u v' h1 h2 k n e=>by
     have:=hv (j+1) u v' (by simpa using h1) (by simpa using h2);subst e;exact VR.jA this)
    refine aT hs (vv:=.int k m) ?_ (aN h) .int;simp only[execOp,ho,resolve,invoke,builtin,Sem.run_bind,Sem.run_pure,Result.andThen_ok,Builtin.min_,n9,e0,Ck]
  .exact h.elim
 .exact h.elim
theorem aaN(hs:bC E K c a w)(az:ey E K c a w val){args:Array Operand}{ts:Array TypeId}(ho:o.op=.call {callee:=.builtin .max,args:=args,argTypes:=ts})
  (h:jh.holds P (match args.toList.map val with
  |.int k a::r=>match foldI tJ k a r with|some m=>bu (.int k m)|none=>.no
  |_=>.no) (· =r)):o.wp P a w (bA E c r a o.dst) kK:=by
 split at h
 .rename_i k n us zP
  split at h
  .rename_i m hm
   obtain⟨hl,hv⟩:=mP az args;rw[zP]at hl hv
   cases n9:(args.map a.eval).toList with
   |nil=>rw[n9]at hl;simp at hl
   |cons v vs=>
    rw[n9]at hl hv;have e0:v=.int k n:=VR.jA (show VR w (XX E K c.O) K (.int k n) v from hv 0 (.int k n) v (by simp) (by simp));have Ck:=CD (P:=P) (w:=w) hm (by simpa using hl) (λj u v' h1 h2 k n e=>by
     have:=hv (j+1) u v' (by simpa using h1) (by simpa using h2);subst e;exact VR.jA this)
    refine aT hs (vv:=.int k m) ?_ (aN h) .int;simp only[execOp,ho,resolve,invoke,builtin,Sem.run_bind,Sem.run_pure,Result.andThen_ok,Builtin.max_,n9,e0,Ck]
  .exact h.elim
 .exact h.elim
theorem pz(az:ey E K c a w val){place zQ:Nat->Option (Nat×Nat)}(Eg:∀i x,place i=some x->zQ i=some x):
  ∀{fz:List (Nat×Operand)}{row tK:List AV}{cells:Array Value},jK place val fz row=some tK->NT w (XX E K c.O) K row cells->
   ∃NU,Instr.fill zQ cells (fz.map λ(i,x)=>(i,a.eval x))=some NU/\NT w (XX E K c.O) K tK NU
 |[],row,tK,cells,h,hr=>by
  simp only[jK]at h;injection h with h
  subst h;exact⟨cells,rfl,hr⟩
 |(i,x)::fz,row,tK,cells,h,hr=>by
  simp only[jK]at h
  split at h
  .cases h
  .rename_i off size hp
   split at h
   .cases h
   .rename_i cs dM
    split at h
    .rename_i hl hb
     have hl:=beq_true hl;have hb:=dn hb
     split at h
     .rename_i ahx Cw
      obtain⟨cz,gy⟩:=lQ Cw;have F4:VR w (XX E K c.O) K (val x) (a.eval x):=(az x).vr (by rintro d bf u e;rw[e]at dM;cases dM);obtain⟨h1,h2,h3⟩:=eF dM F4;simp only[cU,Instr.fill,Eg i _ hp];obtain⟨r1,r2,r3⟩:=hr;rw[if_neg (by simp[h1,hl];omega)];refine pz az Eg h ?_;have fs:=λj=>CE off (a.eval x).cells.toList 0 cells j (by simp;omega)
      simp only[ed]at fs;have heq:(Array.foldl (λ(bX:Array Value) (p:Value×Nat)=>bX.setIfInBounds (off+p.2) p.1) cells (a.eval x).cells.zipIdx)=((a.eval x).cells.toList.zipIdx 0).foldl (λ(bX:Array Value) (p:Value×Nat)=>bX.setIfInBounds (off+p.2) p.1) cells:=by
       rw[<-Array.foldl_toList];simp
      have U7:∀j,(Array.foldl (λ(bX:Array Value) (p:Value×Nat)=>bX.setIfInBounds (off+p.2) p.1) cells (a.eval x).cells.zipIdx)[j]?=if off<=j/\j<off+(a.eval x).cells.size then(a.eval x).cells[j-off]? else cells[j]?:=by
       intro j;rw[heq,(fs j).2];simp
      have mQ:(Array.foldl (λ(bX:Array Value) (p:Value×Nat)=>bX.setIfInBounds (off+p.2) p.1) cells (a.eval x).cells.zipIdx).size=cells.size:=by
       rw[heq];exact(fs 0).1
      refine⟨by rw[cz,r1];exact mQ.symm,λj y hy=>?_,λj u y hu hy=>?_⟩
      .have hy:=(U7 j).symm.trans hy
       split at hy
       .exact h2 _ y hy
       .exact r2 _ y hy
      .have hy:=(U7 j).symm.trans hy
       rw[gy]at hu
       by_cases e:off<=j/\j<off+cs.length
       .rw[if_pos e]at hu
        rw[if_pos (by omega)]at hy;exact h3 _ u y hu hy
       .rw[if_neg e]at hu
        rw[if_neg (by omega)]at hy;exact r3 _ u y hu hy
     .cases h
    .cases h
end
end Go.an
