import Derived.MapKept
import Derived.Test.YtpfmbblnhjpclaaGreatDoorJ3
import Derived.Maps.AppendAt
import Derived.Laws.Concat
import Derived.Laws.Strings
import Derived.Laws.Slices
set_option linter.unusedVariables false
set_option linter.unusedSimpArgs false
namespace Go.an
open Go.RowKit Go.MapKept
theorem mG{α:Type}{sz:Nat}:∀{aa:List (List α)},(∀r∈aa,r.length=sz)->aa.flatten.length=aa.length*sz
 |[],_=>by simp
 |r::rs,h=>by
  simp only[iH,be,bB];rw[mG (sz:=sz) λx hx=>h x (by simp[hx]),h r (by simp),bh];omega
theorem oK{α:Type}{sz:Nat}:∀{aa:List (List α)}{i:Nat}{row:List α},(∀r∈aa,r.length=sz)->aa[i]?=some row->∀j,j<sz->aa.flatten[i*sz+j]?=row[j]?
 |[],i,row,_,h,_,_=>by simp at h
 |r::rs,0,row,hr,h,j,hj=>by
  simp at h;subst h;simp only[iH,ly,dp];rw[bM (by rw[hr r (by simp)];exact hj)]
 |r::rs,i+1,row,hr,h,j,hj=>by
  simp only[iH];have h1:=hr r (by simp);rw[cm (by rw[h1,bh];omega),<-oK (aa:=rs) (λx hx=>hr x (rM _ hx)) (by simpa using h) j hj]
  congr 1
  rw[h1,bh];omega
section
variable{w:World} {X:Nat->Prop} {K:KM}
theorem Ii{st:Bool}{row:List AV}(h:tE st row=true):0<row.length:=by
 cases row with
 |nil=>cases h
 |cons _ _=>simp
theorem nW.of{g sz:Nat}{ag st:Bool}{aa:List (List AV)}{cs:List Value}(h:tF w g ag st sz cs)(aD:∀row∈aa,row.length=sz/\tE st row=true)(hl:cs.length=aa.flatten.length)(h1:∀c∈cs,c.oneCell'=true)
  (hv:∀(j:Nat) u c,aa.flatten[j]?=some u->cs[j]?=some c->VR w X K0 u c):∃es,nW w X g ag st sz aa es:=by
 obtain⟨es,hg,hm⟩:=h;have cz:∀r∈es.toList.map j6,r.length=sz:=by
  intro r hr;obtain⟨e,he,rfl⟩:=cK.1 hr;exact hm.len e he
 have bJ:es.size*sz=aa.length*sz:=by
  have a1:=mG cz;have a2:=mG (λr hr=>(aD r hr).1);rw[<-hm.cells,hl,a2]at a1;simpa using a1.symm
 have cH:∀e∈es.toList,∀c∈j6 e,c.oneCell'=true:=λe he c hc=>h1 c (by rw[hm.cells];exact nC.2 ⟨_,cK.2 ⟨e,he,rfl⟩,hc⟩)
 have hs:es.size=aa.length:=by
  by_cases h0:sz=0
  .subst h0
   have wH:aa=[]:=by
    cases aa with
    |nil=>rfl
    |cons r rs=>have:=aD r (by simp);have:=Ii this.2;omega
   have:es.toList=[]:=by
    cases H3:es.toList with
    |nil=>rfl
    |cons e r=>have:=hm.len e (by rw[H3];simp);simp[j6]at this
   subst wH;have:=gQ List.length this;simpa using this
  .exact Nat.eq_of_mul_eq_mul_right (by omega) bJ
 refine⟨es,hg,hm.born,hm.agg,hm.key,hs,λi row e hi he=>?_⟩;have nr:=ay hi;have hme:e∈es.toList:=rN.2 (rO he);refine⟨(aD row nr).1,(aD row nr).2,hm.len e hme,cH e hme,λj u c hu hc=>?_⟩;have hj:j<sz:=by have:=(aE.1 hu).1;rw[(aD row nr).1]at this;exact this
 refine hv (i*sz+j) u c ?_ ?_
 .rw[oK (λr hr=>(aD r hr).1) hi j hj];exact hu
 .rw[hm.cells,oK (row:=j6 e) cz (by simp[he]) j hj];exact hc
theorem nW.back{g sz:Nat}{ag st:Bool}{aa:List (List AV)}{es:Array MapEntry}(h:nW w X g ag st sz aa es):
  ∃cs,tF w g ag st sz cs/\(∀row∈aa,row.length=sz/\tE st row=true)/\cs.length=aa.flatten.length/\(∀c∈cs,c.oneCell'=true)/\∀(j:Nat) u,aa.flatten[j]?=some u->∃c,cs[j]?=some c/\c.oneCell'=true/\VR w X K0 u c:=by
 have hE:∀e∈es.toList,∃(i:Nat)(row:List AV),aa[i]?=some row/\es[i]?=some e:=by
  intro e he;obtain⟨i,hi⟩:=fQ he;have ou:es[i]?=some e:=by simpa using hi
  have aC:i<aa.length:=by rw[<-h.size];exact(bd.1 ou).1
  exact⟨i,aa[i],aW aC,ou⟩
 have hR:∀row∈aa,∃(i:Nat)(e:MapEntry),aa[i]?=some row/\es[i]?=some e:=by
  intro row hr;obtain⟨i,hi⟩:=fQ hr;have aC:i<es.size:=by rw[h.size];exact(aE.1 hi).1
  exact⟨i,es[i],hi,nD aC⟩
 have cz:∀r∈es.toList.map j6,r.length=sz:=by
  intro r hr;obtain⟨e,he,rfl⟩:=cK.1 hr;obtain⟨i,row,h1,h2⟩:=hE e he;exact(h.FO i row e h1 h2).2.2.1
 have aD:∀row∈aa,row.length=sz/\tE st row=true:=by
  intro row hr;obtain⟨i,e,h1,h2⟩:=hR row hr;have:=h.FO i row e h1 h2;exact⟨this.1,this.2.1⟩
 have dC:∀c∈(es.toList.map j6).flatten,c.oneCell'=true:=by
  intro c hc;obtain⟨r,hr,hc⟩:=nC.1 hc;obtain⟨e,he,rfl⟩:=cK.1 hr;obtain⟨i,row,h1,h2⟩:=hE e he;exact(h.FO i row e h1 h2).2.2.2.1 c hc
 have nt:(es.toList.map j6).flatten.length=aa.flatten.length:=by
  rw[mG cz,mG (λr hr=>(aD r hr).1)];simp[h.size]
 refine⟨_,⟨es,h.obj,h.born,h.agg,h.key,λe he=>cz _ (cK.2 ⟨e,he,rfl⟩),rfl⟩,aD,nt,dC,λj u hj=>?_⟩;have aC:j<aa.flatten.length:=(aE.1 hj).1;have hc:(es.toList.map j6).flatten[j]?=some ((es.toList.map j6).flatten[j]'(by omega)):=aW _;refine⟨_,hc,dC _ (uD _),?_⟩;rw[mG (λr hr=>(aD r hr).1)]at aC;have bJ:0<sz:=by
  rcases mq sz with h0|h0
  .subst h0;omega
  .exact h0
 have hi:j/sz<aa.length:=(Nat.div_lt_iff_lt_mul bJ).2 aC;have hm:j %sz<sz:=Nat.mod_lt _ bJ;have FY:j=j/sz*sz+j %sz:=by rw[Nat.mul_comm];exact(Nat.div_add_mod j sz).symm
 have U2:aa[j/sz]?=some aa[j/sz]:=aW hi;obtain⟨e,lg⟩:∃e,es[j/sz]?=some e:=⟨_,nD (by rw[h.size];exact hi)⟩;have qP:=h.FO _ _ _ U2 lg;refine qP.2.2.2.2 (j %sz) u _ ?_ ?_
 .rw[<-oK (λr hr=>(aD r hr).1) U2 (j %sz) hm,<-FY];exact hj
 .rw[<-oK (aa:=es.toList.map j6) (i:=j/sz) (row:=j6 e) cz (by simp[lg]) (j %sz) hm,<-FY];exact hc
def uV(st:Bool):TypeDesc:=match st with|true=>.string|false=>.int .i64
theorem jM{st:Bool}{k:AV}{v:Value}(h:fR st k=true)(hv:VR w X K k v):IsKey (uV st) v/\v.oneCell'=true:=by
 unfold fR at h
 split at h
 .rw[VR.jA hv]
  cases st
  .exact⟨rfl,rfl⟩
  .cases h
 .subst h;rw[VR.gD hv];exact⟨trivial,rfl⟩
 .cases h
theorem Lw{st:Bool}{k k':AV}{v v':Value}(h:fR st k=true)(h':fR st k'=true)(hv:VR w X K k v){X':Nat->Prop}{K':KM}(nv:VR w X' K' k' v'):mh k k'=true↔v=v':=by
 unfold fR at h h'
 split at h<;>split at h'
 .rw[VR.jA hv,VR.jA nv];simp[mh]
 .subst h';cases h
 .cases h'
 .subst h;cases h'
 .rw[VR.gD hv,VR.gD nv];simp only[mh,bytes_beq];simp
 .cases h'
 .cases h
 .cases h
 .cases h
theorem tO{st:Bool}{t:tG}{d:TypeDesc}(h:zA st t=true)(hd:tG.of d=t):d=uV st:=by
 unfold zA at h
 split at h
 .cases st
  .cases d<;>simp[tG.of]at hd
   subst hd;rfl
  .cases h
 .subst h
  cases d<;>simp[tG.of]at hd
  rfl
 .cases h
theorem LV{st:Bool}{sz:Nat}{key:AV}{kv:Value}{X':Nat->Prop}{K':KM}(hk:fR st key=true)(Cu:VR w X' K' key kv):∀(l:List MapEntry)(aa:List (List AV))(i:Nat),l.length=aa.length->(∀(i:Nat) row e,aa[i]?=some row->l[i]?=some e->tL w X st sz row e)->
  (Instr.findNow (uV st) kv l i=some none/\mB key aa=none/\uM key aa=aa.length/\(∀v,wx key v aa=aa++[key::v])/\∀z,iy key z aa=aa++[key::z])∨
  ∃j e k cs,Instr.findNow (uV st) kv l i=some (some (i+j,e.val))/\l[j]?=some e/\e.key=kv/\aa[j]?=some (k::cs)/\mh key k=true/\mB key aa=some cs/\uM key aa=j/\(∀v,wx key v aa=aa.set j (key::v))/\∀z,iy key z aa=aa.set j (key::cs)
 |[],[],i,_,_=>.inl ⟨rfl,rfl,rfl,λ_=>rfl,λ_=>rfl⟩
 |[],_::_,_,h,_=>by simp at h
 |_::_,[],_,h,_=>by simp at h
 |e::l,row::aa,i,hl,h=>by
  have h0:=h 0 row e rfl rfl;obtain⟨r1,r2,r3,r4,r5⟩:=h0
  cases row with
  |nil=>cases r2
  |cons k cs=>
   have hkr:fR st k=true:=r2;have hek:VR w X K0 k e.key:=r5 0 k e.key rfl rfl;have aaD:=Lw hk hkr Cu hek;obtain⟨r,hr,U2⟩:=sameNow_of_keys (jM hk Cu).1 (jM hkr hek).1
   cases FZ:mh key k with
   |true=>
    have:kv=e.key:=aaD.1 FZ;have Rs:r=true:=U2.2 this;subst Rs;exact .inr ⟨0,e,k,cs,by simp[Instr.findNow,hr],rfl,this.symm,rfl,FZ,by simp[mB,FZ],by simp[uM,FZ],λv=>by simp[wx,FZ],λz=>by simp[iy,FZ]⟩
   |false=>
    have hrf:r=false:=by
     cases r
     .rfl
     .have:=aaD.2 (U2.1 rfl);rw[FZ]at this;cases this
    subst hrf
    rcases LV hk Cu l aa (i+1) (by simpa using hl) (λj row e hr he=>h (j+1) row e (by simpa using hr) (by simpa using he))with⟨h1,h2,h3,h8,h9⟩|⟨j,e',k',JU,h1,h2,h3,h4,h5,h6,h7,h8,h9⟩
    .exact .inl ⟨by simp[Instr.findNow,hr,h1],by simp[mB,FZ,h2],by simp[uM,FZ,h3],λv=>by simp[wx,FZ,h8],λz=>by simp[iy,FZ,h9]⟩
    .exact .inr ⟨j+1,e',k',JU,by simp[Instr.findNow,hr,h1];omega,by simpa using h2,h3,by simpa using h4,h5,by simp[mB,FZ,h6],by simp[uM,FZ,h7],λv=>by simp[wx,FZ,h8],λz=>by simp[iy,FZ,h9]⟩
def dY(w:World)(g:Nat)(es:Array MapEntry)(cl:Nat):World:={w with heap:=w.heap.setIfInBounds g (.map es cl)}
theorem Step.dY{w:World}{g cl Ni:Nat}{es Ru:Array MapEntry}(hg:w.heap[g]?=some (.map es cl)):Step (λr=>r=g) w (dY w g Ru Ni):=by
 have NM:∀r,r≠g->(Go.an.dY w g Ru Ni).heap[r]?=w.heap[r]?:=(heap_set (o':=.map Ru Ni) hg).2;refine⟨⟨by simp[Go.an.dY],λr _ hr=>NM r hr,λr aJ e hr=>⟨aJ,?_,rfl⟩⟩,rfl,rfl,rfl⟩;rw[NM r (by rintro rfl;rw[hg]at hr;cases hr)];exact hr
theorem nW.push{g sz:Nat}{ag st:Bool}{aa:List (List AV)}{es:Array MapEntry}(h:nW w X g ag st sz aa es)(hX:X g){row:List AV}{e:MapEntry}(hb:e.born=es.size)(ha:(∃vs,e.val=.agg vs)↔ag=true)(hk:(st=true->∃s,e.key=.string s)/\(st=false->∃n,e.key=.int .i64 n))
  (he:tL w X st sz row e):nW (dY w g (es.push e) (es.size+1)) X g ag st sz (aa++[row]) (es.push e):=by
 have cY:=Step.dY (Ru:=es.push e) (Ni:=es.size+1) h.obj;have nI:∀{row e},tL w X st sz row e->tL (dY w g (es.push e) (es.size+1)) X st sz row e->True:=λ_ _=>trivial
 have dR:dv X w (dY w g (es.push e) (es.size+1)):=cY.ad.mono λr _ hr=>by rw[hr];exact hX
 have lift:∀{row e0},tL w X st sz row e0->tL (dY w g (es.push e) (es.size+1)) X st sz row e0:=by
  rintro row e0 ⟨h1,h2,h3,h4,h5⟩;exact⟨h1,h2,h3,h4,λj u c hu hc=>(h5 j u c hu hc).ad dR (λ_ _ h=>h) λ_ _=>rfl⟩
 refine⟨?_,?_,?_,?_,?_,?_⟩
 .have:=(heap_set (o':=.map (es.push e) (es.size+1)) h.obj).1
  simpa[dY]using this
 .intro i x hx
  rw[mr]at hx
  split at hx
  .rename_i hi;injection hx with hx;subst hx;rw[hb,hi]
  .exact h.born i x hx
 .intro x hx
  simp only[yF,cE,iw]at hx
  rcases hx with hx|rfl
  .exact h.agg x hx
  .exact ha
 .intro x hx
  simp only[yF,cE,iw]at hx
  rcases hx with hx|rfl
  .exact h.key x hx
  .exact hk
 .simp[h.size]
 .intro i r x hr hx
  rw[mr]at hx
  split at hx
  .rename_i hi
   injection hx with hx;subst hx
   rw[hi,h.size,cm (bG _)]at hr;simp at hr;subst hr;exact lift he
  .rename_i hi
   have aC:i<es.size:=(bd.1 hx).1;rw[bM (by rw[<-h.size];exact aC)]at hr;exact lift (h.FO i r x hr hx)
theorem nW.modify{g sz:Nat}{ag st:Bool}{aa:List (List AV)}{es:Array MapEntry}(h:nW w X g ag st sz aa es)(hX:X g){j:Nat}{e0:MapEntry}{f:MapEntry->MapEntry}{row:List AV}(hj:es[j]?=some e0)(hb:(f e0).born=e0.born)(ha:(∃vs,(f e0).val=.agg vs)↔ag=true)
  (hk:(st=true->∃s,(f e0).key=.string s)/\(st=false->∃n,(f e0).key=.int .i64 n))(he:tL w X st sz row (f e0)):nW (dY w g (es.modify j f) es.size) X g ag st sz (aa.set j row) (es.modify j f):=by
 have cY:=Step.dY (Ru:=es.modify j f) (Ni:=es.size) h.obj;have dR:dv X w (dY w g (es.modify j f) es.size):=cY.ad.mono λr _ hr=>by rw[hr];exact hX
 have lift:∀{row e0},tL w X st sz row e0->tL (dY w g (es.modify j f) es.size) X st sz row e0:=by
  rintro row e0 ⟨h1,h2,h3,h4,h5⟩;exact⟨h1,h2,h3,h4,λj u c hu hc=>(h5 j u c hu hc).ad dR (λ_ _ h=>h) λ_ _=>rfl⟩
 have gy:∀i x,(es.modify j f)[i]?=some x->(i=j/\x=f e0)∨(i≠j/\es[i]?=some x):=by
  intro i x hx;rw[jX]at hx
  split at hx
  .rename_i hi;subst hi;rw[hj]at hx;simp at hx;exact .inl ⟨rfl,hx.symm⟩
  .rename_i hi;exact .inr ⟨λe=>hi e.symm,hx⟩
 have BX:∀x∈(es.modify j f).toList,x=f e0∨x∈es.toList:=by
  intro x hx;obtain⟨i,hi⟩:=fQ hx
  rcases gy i x (by rw[<-mu];exact hi)with⟨_,h1⟩|⟨_,h1⟩
  .exact .inl h1
  .exact .inr (rN.2 (rO h1))
 refine⟨?_,?_,?_,?_,?_,?_⟩
 .have:=(heap_set (o':=.map (es.modify j f) es.size) h.obj).1
  simpa[dY]using this
 .intro i x hx
  rcases gy i x hx with⟨rfl,rfl⟩|⟨_,h1⟩
  .rw[hb];exact h.born _ _ hj
  .exact h.born i x h1
 .intro x hx
  rcases BX x hx with rfl|hx
  .exact ha
  .exact h.agg x hx
 .intro x hx
  rcases BX x hx with rfl|hx
  .exact hk
  .exact h.key x hx
 .simp[h.size]
 .intro i r x hr hx
  have aC:j<aa.length:=by rw[<-h.size];exact(bd.1 hj).1
  rcases gy i x hx with⟨rfl,rfl⟩|⟨dW,h1⟩
  .rw[DW aC]at hr
   injection hr with hr;subst hr
   exact lift he
  .rw[List.getElem?_set_ne (λe=>dW e.symm)]at hr
   exact lift (h.FO i r x hr h1)
end
end Go.an
namespace Go.an
open Go.RowKit
section
variable{P:Program} {T:dD} {E:Env} {K:KM} {c:aM} {a:Act} {w:World} {o:Oper} {r:iS} {val:Operand->AV}
theorem dG{op:BinOp}{t t':TypeId}{x y:Operand}(ho:o.op=.binOp op t x y t'){u v:Value}(h1:a.eval x=u)(h2:a.eval y=v)
  (hg:(eqGuard op t x y u v).run P w=.ok () w){vv:Value}(hb:(binOp op t u v).run P w=.ok vv w):(execOp a.eval o).run P w=.ok (.value vv) w:=by
 simp only[execOp,ho,h1,h2,Sem.run_bind,hg,hb,Result.andThen_ok,Sem.run_pure]
theorem pr{k k':IntKind}(h:D3 k k'=true):k=k':=aP h
theorem of_slice{d:TypeDesc}{e:Nat}(h:tG.of d=.slice e):d=.slice e:=by
 cases d<;>simp[tG.of]at h
 rw[h]
theorem of_struct{d:TypeDesc}{fs:List (Nat×Nat)}(h:tG.of d=.struct fs):∃ff:Array Field,d=.struct ff/\fs=ff.toList.map λf=>(f.offset,f.type):=by
 cases d<;>simp[tG.of]at h
 exact⟨_,rfl,h.symm⟩
theorem of_array{d:TypeDesc}{n e:Nat}(h:tG.of d=.array n e):d=.array n e:=by
 cases d<;>simp[tG.of]at h
 rw[h.1,h.2]
theorem of_int{d:TypeDesc}{k:IntKind}(h:tG.of d=.int k):d=.int k:=by
 cases d<;>simp[tG.of]at h
 rw[h]
theorem of_bool{d:TypeDesc}(h:tG.of d=.bool):d=.bool:=by
 cases d<;>simp[tG.of]at h
 rfl
theorem oL{t:Nat}{d:TypeDesc}(hd:P.underlying t=some d)(w:World):(isAgg t).run P w=.ok (tG.of d).isAgg w:=by
 cases d<;>simp[isAgg,run_underlying hd,tG.of,tG.isAgg]
theorem bS{t:Nat}{j:TypeInfo}(hj:P.info? t=some j)(w:World):(sizeOf t).run P w=.ok j.size w:=by
 simp[sizeOf,typeInfo,hj,run_program]
theorem zN{t e:Nat}(ht:P.underlying t=some (.slice e))(d:Nat)(A:Option Addr)(n cap:Nat):(Op.equalIn (d+1) t (.slice A n cap) (.slice none 0 0)).run P w=.ok A.isNone w:=by
 cases A<;>simp[Op.equalIn,run_underlying ht]
theorem pv{t e:Nat}(ht:P.underlying t=some (.slice e))(A:Option Addr)(n cap:Nat):(binOp .eql t (.slice A n cap) (.slice none 0 0)).run P w=.ok (.bool A.isNone) w:=by
 simp only[binOp];simp only[Op.equal,Op.maxDepth,Sem.run_bind,zN ht 9999,Result.andThen_ok,Sem.run_pure]
theorem pw{t e:Nat}(ht:P.underlying t=some (.slice e))(A:Option Addr)(n cap:Nat):(binOp .neq t (.slice A n cap) (.slice none 0 0)).run P w=.ok (.bool (!A.isNone)) w:=by
 simp only[binOp];simp only[Op.equal,Op.maxDepth,Sem.run_bind,zN ht 9999,Result.andThen_ok,Sem.run_pure]
theorem lP(op:BinOp)(t:Nat)(x y:Operand)(A B:Option Addr)(n cap m aaE:Nat):(eqGuard op t x y (.slice A n cap) (.slice B m aaE)).run P w=.ok () w:=by
 unfold eqGuard;split<;>rfl
theorem aaF(hT:br P T)(hs:bC E K c a w)(az:ey E K c a w val){op:BinOp}{t t':TypeId}{x y:Operand}(ho:o.op=.binOp op t x y t')
  (h:(ND T op t (val x) (val y)).holds P (· =r)):o.wp P a w (bA E c r a o.dst) kK:=by
 unfold ND at h
 split at h
 .rename_i k m k' n h1 h2
  split at h
  .rename_i hk
   have:=pr hk;subst this;exact Ea hs ho (az.int h1) (az.int h2) h
  .exact Eb hs ho (az.int h1) (az.int h2) h
 .rename_i p q h1 h2
  have e1:=az.bool h1;have e2:=az.bool h2
  split at h
  .rename_i i hi
   obtain⟨⟨d,hd,eM⟩,_⟩:=hT.get hi;have hg:∀op,(eqGuard op t x y (.bool p) (.bool q)).run P w=.ok () w:=by intro op;unfold eqGuard;split<;>rfl
   split at h
   .rename_i hk
    rw[hk]at eM;have:=of_bool eM;subst this;exact aT hs (vv:=.bool (p==q)) (dG ho e1 e2 (hg _) (run_eql_bool w t p q hd)) (aN h) .bool
   .rename_i hk
    rw[hk]at eM;have:=of_bool eM;subst this;exact aT hs (vv:=.bool (p !=q)) (dG ho e1 e2 (hg _) (run_neq_bool w t p q hd)) (aN h) .bool
   .exact h.elim
  .exact h.elim
 .rename_i xs ys h1 h2
  split at h
  .rename_i i hi
   obtain⟨_,_,heq⟩:=hT.get hi;obtain⟨vs,e1,l1,_,v1⟩:=VR.mC (az.at h1);obtain⟨us,e2,l2,_,v2⟩:=VR.mC (az.at h2);have key:RX i.eq xs ys=true->P.eqGuardType P.depth t=false/\(Op.equalIn 10000 t (.agg vs) (.agg us)).run P w=.ok (HY xs ys) w:=by
    intro hk;unfold RX at hk
    split at hk
    .cases hk
    .rename_i dW
     simp only[aA]at hk;obtain⟨g1,g2⟩:=heq (by intro e;exact dW e);have f1:=zM (K:=K) (c:=c) (E:=E) (w:=w) (vs:=vs.toList) hk.1 (by simpa using l1) (λj u v a b=>v1 j u v a (by simpa using b));have f2:=zM (K:=K) (c:=c) (E:=E) (w:=w) (vs:=us.toList) hk.2 (by simpa using l2) (λj u v a b=>v2 j u v a (by simpa using b));have:=g2 w _ _ hk.1 hk.2;rw[<-f1,<-f2]at this;exact⟨g1,by simpa using this⟩
   cases hk:RX i.eq xs ys with
   |false=>rw[hk]at h;exact h.elim
   |true=>
   rw[hk]at h;obtain⟨g1,g2⟩:=key hk
   cases op
   case eql=>
    exact aT hs (vv:=.bool (HY xs ys)) (dG ho e1 e2 (run_eqGuard_agg w _ t x y vs us g1) (by rw[run_eql_struct,g2];rfl)) (aN h) .bool
   case neq=>
    exact aT hs (vv:=.bool (!HY xs ys)) (dG ho e1 e2 (run_eqGuard_agg w _ t x y vs us g1) (by rw[run_neq_struct,g2];rfl)) (aN h) .bool
   all_goals exact h.elim
  .exact h.elim
 .rename_i p q h1 h2
  have e1:=VR.gD (az.at h1);have e2:=VR.gD (az.at h2);have hg:∀op,(eqGuard op t x y (.string p) (.string q)).run P w=.ok () w:=by intro op;unfold eqGuard;split<;>rfl
  split at h
  .obtain⟨hl,h⟩:=h
   exact aT hs (vv:=.string (p++q)) (dG ho e1 e2 (hg _) (by rw[binOp_string_add];exact run_string_add_sum w p q hl)) (aN h) .str
  .exact aT hs (vv:=.bool (p.toList==q.toList)) (dG ho e1 e2 (hg _) (by rw[binOp_string_eql];exact Sem.run_pure ..)) (aN h) .bool
  .exact aT hs (vv:=.bool !(p.toList==q.toList)) (dG ho e1 e2 (hg _) (by rw[binOp_string_neq];exact Sem.run_pure ..)) (aN h) .bool
  .exact aT hs (vv:=.bool (Op.bytesLess p.toList q.toList)) (dG ho e1 e2 (hg _) (by rw[binOp_string_lss];exact Sem.run_pure ..)) (aN h) .bool
  .exact aT hs (vv:=.bool !(Op.bytesLess p.toList q.toList||p.toList==q.toList)) (dG ho e1 e2 (hg _) (by rw[show binOp .gtr t (.string p) (.string q)=pure (.bool !(Op.bytesLess p.toList q.toList||p.toList==q.toList))by simp[binOp,Op.stringOp]];exact Sem.run_pure ..)) (aN h) .bool
  .exact h.elim
 .rename_i h1 h2
  have e1:=VR.fC (az.at h1);have e2:=VR.fC (az.at h2)
  split at h
  .rename_i i hi
   obtain⟨⟨d,hd,eM⟩,_⟩:=hT.get hi
   split at h
   .rename_i hk
    rw[hk]at eM;have:=of_slice eM;subst this;exact aT hs (vv:=.bool true) (dG ho e1 e2 (lP _ _ _ _ _ _ _ _ _ _) (pv hd _ _ _)) (aN h) .bool
   .rename_i hk
    rw[hk]at eM;have:=of_slice eM;subst this;exact aT hs (vv:=.bool false) (dG ho e1 e2 (lP _ _ _ _ _ _ _ _ _ _) (pw hd _ _ _)) (aN h) .bool
   .exact h.elim
  .exact h.elim
 .rename_i h1 h2
  obtain⟨A,cap,e1⟩:=VR.D9 (az.at h1);have e2:=VR.fC (az.at h2)
  split at h
  .rename_i i hi
   obtain⟨⟨d,hd,eM⟩,_⟩:=hT.get hi
   split at h
   .rename_i hk
    rw[hk]at eM;have:=of_slice eM;subst this;exact aT hs (vv:=.bool false) (dG ho e1 e2 (lP _ _ _ _ _ _ _ _ _ _) (pv hd _ _ _)) (aN h) .bool
   .rename_i hk
    rw[hk]at eM;have:=of_slice eM;subst this;exact aT hs (vv:=.bool true) (dG ho e1 e2 (lP _ _ _ _ _ _ _ _ _ _) (pw hd _ _ _)) (aN h) .bool
   .exact h.elim
  .exact h.elim
 .rename_i sz n aa h1 h2
  obtain⟨A,cap,e1,hn,_,_,_,cs,_,_,hA,_⟩:=VR.pq (az.at h1);have e2:=VR.fC (az.at h2);have hAs:0<n->A.isNone=false:=by
   intro gW;obtain⟨g,o,rfl,_⟩:=hA (by rintro rfl;simp at hn;omega)
   rfl
  split at h
  .rename_i i hi
   obtain⟨⟨d,hd,eM⟩,_⟩:=hT.get hi
   split at h
   .rename_i hk
    rw[hk]at eM;have:=of_slice eM;subst this;obtain⟨hp,h⟩:=h;exact aT hs (vv:=.bool false) (dG ho e1 e2 (lP _ _ _ _ _ _ _ _ _ _) (by rw[pv hd,hAs hp])) (aN h) .bool
   .rename_i hk
    rw[hk]at eM;have:=of_slice eM;subst this;obtain⟨hp,h⟩:=h;exact aT hs (vv:=.bool true) (dG ho e1 e2 (lP _ _ _ _ _ _ _ _ _ _) (by rw[pw hd,hAs hp];rfl)) (aN h) .bool
   .exact h.elim
  .exact h.elim
 .rename_i b sz n h1 h2
  have e2:=VR.fC (az.at h2);have hex:0<n->∃A cap,a.eval x=.slice A n cap/\A.isNone=false:=by
   intro gW
   rcases VR.c9 (az.at h1)with⟨_,hz,_⟩|⟨g,cap,aJ,e,_,_,_,e1,_⟩
   .omega
   .exact⟨_,_,e1,rfl⟩
  split at h
  .rename_i i hi
   obtain⟨⟨d,hd,eM⟩,_⟩:=hT.get hi
   split at h
   .rename_i hk
    rw[hk]at eM;have:=of_slice eM;subst this;obtain⟨hp,h⟩:=h;obtain⟨A,cap,e1,hA⟩:=hex hp;exact aT hs (vv:=.bool false) (dG ho e1 e2 (lP _ _ _ _ _ _ _ _ _ _) (by rw[pv hd,hA])) (aN h) .bool
   .rename_i hk
    rw[hk]at eM;have:=of_slice eM;subst this;obtain⟨hp,h⟩:=h;obtain⟨A,cap,e1,hA⟩:=hex hp;exact aT hs (vv:=.bool true) (dG ho e1 e2 (lP _ _ _ _ _ _ _ _ _ _) (by rw[pw hd,hA];rfl)) (aN h) .bool
   .exact h.elim
  .exact h.elim
 .exact h.elim
theorem Lx(hT:br P T)(hs:bC E K c a w)(az:ey E K c a w val){s t:TypeId}{x:Operand}(ho:o.op=.convert s t x)
  (h:jh.holds P (match T.get s,T.get t,val x with
   |some si,some i,.int _ n=>match si.k,i.k with|.int _,.int k'=>qG k' n λm=>bu (.int k' m)|_,_=>.no
   |_,_,_=>.no) (· =r)):o.wp P a w (bA E c r a o.dst) kK:=by
 split at h
 .rename_i si i k n hsi hi hx
  split at h
  .rename_i k0 k' hk0 hk
   obtain⟨⟨d,hd,eM⟩,_⟩:=hT.get hi;obtain⟨⟨d0,U3,aaG⟩,_⟩:=hT.get hsi;rw[hk]at eM;have:=of_int eM;subst this;rw[hk0]at aaG;have:=of_int aaG;subst this;have e1:=az.int hx;exact aT hs (vv:=.int k' (k'.wrap n)) (by simp only[execOp,ho,e1];simp[convert,run_underlying hd,run_underlying U3,Conv.intToInt]) (lN (f:=λm=>.int k' m) h) .int
  .exact h.elim
 .exact h.elim
theorem xD(az:ey E K c a w val)(xs:Array Operand):(xs.toList.map λx=>(val x).oF).length=(xs.map a.eval).size/\
  ∀(j:Nat) u v,(xs.toList.map λx=>(val x).oF)[j]?=some u->(xs.map a.eval)[j]?=some v->VR w (XX E K c.O) K u v:=by
 refine⟨by simp,λj u v hu hv=>?_⟩;simp only[aS,mu]at hu;simp only[DX]at hv
 cases hx:xs[j]? with
 |none=>rw[hx]at hu;cases hu
 |some x=>
  rw[hx]at hu hv;injection hu with hu;injection hv with hv
  subst hu hv;exact(az x).oF
theorem Ij(hs:bC E K c a w)(az:ey E K c a w val){f:FuncId}{dt:Array Operand}(ho:o.op=.makeFunc (.func f) #[] dt)
  (h:(bu (.func f (dt.toList.map λx=>(val x).oF))).holds P (· =r)):o.wp P a w (bA E c r a o.dst) kK:=
 aT hs (vv:=.func (.func f) #[] (dt.map a.eval)) (by simp[execOp,ho,Instr.makeFunc]) (aN h) (.func (xD az dt).1 (xD az dt).2)
theorem Ly(hs:bC E K c a w)(az:ey E K c a w val){x:Operand}{k:Nat}(ho:o.op=.extract x k)
  (h:jh.holds P (match val x with
   |.bY xs=>match xs[k]? with|some v=>bu v|none=>.no
   |_=>.no) (· =r)):o.wp P a w (bA E c r a o.dst) kK:=by
 split at h
 .rename_i xs hx
  split at h
  .rename_i v hk
   obtain⟨vs,e1,l1,v1⟩:=VR.yL (az.at hx);have aC:k<vs.size:=by have:=(aE.1 hk).1;omega
   exact aT hs (vv:=vs[k]) (by simp only[execOp,ho,e1];simp[Instr.extract,aC]) (aN h) (v1 k v _ hk (by simp[aC]))
  .exact h.elim
 .exact h.elim
theorem uW{X:Nat->Prop}{x:AV}{k:Nat}{p:AV}(hp:mO x k=some p){v:Value}(hv:VR w X K x v):∃g o,v=.pointer (some ⟨g,o,none⟩)/\VR w X K p (.pointer (some ⟨g,o+k,none⟩)):=by
 unfold mO at hp
 split at hp
 .injection hp with hp;subst hp
  obtain⟨g,o,rfl,h1,h2,cs,h3,h4,h5,h6⟩:=VR.uT hv;exact⟨g,_,rfl,by rw[pf];exact .aw h3 h4 h1 h2 h5 h6⟩
 .injection hp with hp;subst hp
  obtain⟨g,h1,rfl⟩:=VR.jo hv;exact⟨g,_,rfl,.af h1⟩
 .injection hp with hp;subst hp
  obtain⟨g,h1,rfl⟩:=VR.uU hv;exact⟨g,_,rfl,by rw[pf];exact .dP h1⟩
 .cases hp
theorem uX{x:AV}{k:Nat}{p:AV}(hp:mO x k=some p):∀d bf u,x≠.opt d bf u:=by
 rintro d bf u rfl;simp[mO]at hp
theorem fK(g o k:Nat):(⟨g,o,none⟩:Addr).add k=⟨g,o+k,none⟩:=by
 unfold Addr.add
 split
 .rename_i h;subst h;rfl
 .rfl
theorem F0(hT:br P T)(hs:bC E K c a w)(az:ey E K c a w val){s:TypeId}{x:Operand}{f:Nat}(ho:o.op=.fieldAddr s x f)
  (h:jh.holds P (match T.get s with
  |some i=>match i.k with
   |.struct fs=>match qH T fs f with
    |some (off,sz)=>match Nat.beq sz 0 with
     |true=>.no
     |false=>match mO (val x) off with|some p=>bu p|none=>.no
    |none=>.no
   |_=>.no
  |none=>.no) (· =r)):o.wp P a w (bA E c r a o.dst) kK:=by
 split at h
 .rename_i i hi
  split at h
  .rename_i fs hk
   split at h
   .rename_i off sz hp
    split at h
    .exact h.elim
    .rename_i hz
     split at h
     .rename_i p NN
      obtain⟨⟨d,hd,eM⟩,_⟩:=hT.get hi;rw[hk]at eM;obtain⟨ff,rfl,hff⟩:=of_struct eM;unfold qH at hp
      split at hp
      .rename_i am3 t' hf
       split at hp
       .rename_i ti nY
        injection hp with hp;injection hp with e1 e2;subst e1 e2
        obtain⟨_,⟨j,hj,_,mi,_⟩,_⟩:=hT.get nY;rw[hff,aS]at hf
        cases Xk:ff.toList[f]? with
        |none=>rw[Xk]at hf;cases hf
        |some Rv=>
         rw[Xk]at hf;injection hf with hf;injection hf with e1 e2;subst e1 e2
         have R8:=(az x).vr (uX NN);obtain⟨g,oo,ev,nv⟩:=uW NN R8;have hfa:ff[f]?=some Rv:=by simpa using Xk
         have bJ:j.size≠0:=by rw[mi];exact beq_false hz
         refine aT hs (vv:=.pointer (some ⟨g,oo+Rv.offset,none⟩)) ?_ (aN h) nv;simp only[execOp,ho,ev];simp[Instr.fieldAt,run_underlying hd,hfa,Instr.sureAddr,fieldPlace,bS hj,bJ,fK]
       .cases hp
      .cases hp
     .exact h.elim
   .exact h.elim
  .exact h.elim
 .exact h.elim
end
theorem tP:∀{n:Nat}{xs ys:List AV},FI n xs=some ys->n<=xs.length/\ys=xs.drop n
 |0,xs,ys,h=>by simp[FI]at h;simp[h]
 |n+1,[],ys,h=>by simp[FI]at h
 |n+1,x::xs,ys,h=>by
  have:=tP (n:=n) (xs:=xs) (ys:=ys) h;simp[this]
theorem tQ:∀{n:Nat}{xs ys:List AV},Ci n xs=some ys->n<=xs.length/\ys=xs.take n
 |0,xs,ys,h=>by simp[Ci]at h;simp[h]
 |n+1,[],ys,h=>by simp[Ci]at h
 |n+1,x::xs,ys,h=>by
  simp only[Ci]at h
  split at h
  .rename_i zs hz
   have:=tQ hz;injection h with h
   subst h;simp[this]
  .cases h
theorem px:∀{off:Nat}{cs row r:List AV},eO off cs row=some r->off+cs.length<=row.length∨cs=[] /\r=row
 |_,[],row,r,h=>by simp[eO]at h;exact .inr ⟨rfl,h.symm⟩
 |0,x::xs,[],r,h=>by simp[eO]at h
 |0,x::xs,y::ys,r,h=>by
  simp only[eO]at h
  split at h
  .rename_i z hz
   rcases px hz with h1|⟨rfl,_⟩
   .left;simp at h1⊢;omega
   .left;simp
  .cases h
 |n+1,x::xs,[],r,h=>by simp[eO]at h
 |n+1,x::xs,y::ys,r,h=>by
  simp only[eO]at h
  split at h
  .rename_i z hz
   rcases px hz with h1|⟨h1,_⟩
   .left;simp at h1⊢;omega
   .cases h1
  .cases h
theorem lQ:∀{off:Nat}{cs row r:List AV},eO off cs row=some r->r.length=row.length/\∀j,r[j]?=if off<=j/\j<off+cs.length then cs[j-off]? else row[j]?
 |off,[],row,r,h=>by
  simp[eO]at h;subst h;refine⟨rfl,λj=>?_⟩;rw[if_neg];simp
 |0,x::xs,[],r,h=>by simp[eO]at h
 |0,x::xs,y::ys,r,h=>by
  simp only[eO]at h
  split at h
  .rename_i z hz
   injection h with h
   subst h;obtain⟨h1,h2⟩:=lQ hz;refine⟨by simp[h1],λj=>?_⟩
   cases j with
   |zero=>simp
   |succ j=>
    have:=h2 j;simp only[rP,cF,rQ,lz,dp,bB]at this⊢;rw[this]
    by_cases e:j<xs.length
    .rw[if_pos e,if_pos (by omega)]
    .rw[if_neg e,if_neg (by omega)]
  .cases h
 |n+1,x::xs,[],r,h=>by simp[eO]at h
 |n+1,x::xs,y::ys,r,h=>by
  simp only[eO]at h
  split at h
  .rename_i z hz
   injection h with h
   subst h;obtain⟨h1,h2⟩:=lQ hz;refine⟨by simp[h1],λj=>?_⟩
   cases j with
   |zero=>simp
   |succ j=>
    have:=h2 j;simp only[rP]at this⊢;rw[this]
    by_cases e:n<=j/\j<n+(x::xs).length
    .rw[if_pos e,if_pos (by omega)];congr 1;omega
    .rw[if_neg e,if_neg (by omega)]
  .cases h
theorem uY{sz:Nat}:∀{aa:List (List AV)}{i:Nat}{row:List AV},(∀r∈aa,r.length=sz)->aa[i]?=some row->∀j,j<sz->aa.flatten[i*sz+j]?=row[j]?
 |[],_,_,_,h=>by simp at h
 |r::rs,0,row,hr,h=>by
  intro j hj;simp at h;subst h;have:=hr r (by simp);simp only[iH];rw[bM (by omega)];simp
 |r::rs,i+1,row,hr,h=>by
  intro j hj;have h1:=hr r (by simp);have ih:=uY (sz:=sz) (aa:=rs) (i:=i) (row:=row) (λx hx=>hr x (by simp[hx])) (by simpa using h) j hj;simp only[iH];rw[cm (by rw[h1,bh];omega),<-ih]
  congr 1
  rw[h1,bh];omega
theorem bD{sz:Nat}:∀{aa:List (List AV)},(∀r∈aa,r.length=sz)->aa.flatten.length=aa.length*sz
 |[],_=>by simp
 |r::rs,h=>by
  simp only[iH,be,bB];rw[bD (sz:=sz) λx hx=>h x (by simp[hx]),h r (by simp),bh];omega
theorem F1{sz:Nat}:∀{aa:List (List AV)}{i:Nat}{row:List AV},(∀r∈aa,r.length=sz)->row.length=sz->i<aa.length->
  ∀j,(aa.set i row).flatten[j]?=if i*sz<=j/\j<i*sz+sz then row[j-i*sz]? else aa.flatten[j]?
 |[],_,_,_,_,h=>by simp at h
 |r::rs,0,row,hr,hl,h=>by
  intro j;have h1:=hr r (by simp);simp only[List.set_cons_zero,iH,ly,cF,rQ,dp,lz]
  by_cases e:j<sz
  .rw[if_pos e,bM (by omega)]
  .rw[if_neg e,cm (by omega),cm (by omega),hl,h1]
 |r::rs,i+1,row,hr,hl,h=>by
  intro j;have h1:=hr r (by simp);have ih:=F1 (sz:=sz) (aa:=rs) (i:=i) (row:=row) (λx hx=>hr x (by simp[hx])) hl (by simpa using h);simp only[DY,iH]
  rcases eJ j sz with aC|kT
  .rw[bM (by omega),bM (by omega),if_neg (by rw[bh];omega)]
  .rw[cm (by omega),cm (by omega),h1,ih]
   have:(i+1)*sz=i*sz+sz:=by rw[bh];omega
   rw[this]
   by_cases e:i*sz<=j-sz/\j-sz<i*sz+sz
   .rw[if_pos e,if_pos (by omega)];congr 1;omega
   .rw[if_neg e,if_neg (by omega)]
theorem R9{sz:Nat}{aa:List (List AV)}{i:Nat}{row:List AV}(hr:∀r∈aa,r.length=sz)(hl:row.length=sz):∀r∈aa.set i row,r.length=sz:=by
 intro r h
 rcases mw h with h|rfl
 .exact hr r h
 .exact hl
def qj(w:World)(X:Nat->Prop)(K:KM)(g o:Nat)(us:List AV):Prop:=
 ∀(j:Nat) u,us[j]?=some u->∃c,w.cell? ⟨g,o+j,none⟩=some c/\c.oneCell'=true/\VR w X K u c
section
variable{P:Program} {T:dD} {E:Env} {K:KM} {c:aM} {a:Act} {w:World} {o:Oper} {r:iS} {val:Operand->AV} {X:Nat->Prop}
theorem qj.list{g b:Nat}{us:List AV}(h:qj w X K g b us):∃cs:List Value,cs.length=us.length/\(∀(j:Nat) c,cs[j]?=some c->w.cell? ⟨g,b+j,none⟩=some c)/\(∀c∈cs,c.oneCell'=true)/\
  ∀(j:Nat) u c,us[j]?=some u->cs[j]?=some c->VR w X K u c:=by
 induction us generalizing b with
 |nil=>exact⟨[],rfl,by simp,by simp,by simp⟩
 |cons u us ih=>
  obtain⟨c0,h0,h1,h2⟩:=h 0 u (by simp);obtain⟨cs,e1,e2,e3,e4⟩:=ih (b:=b+1) (λj u' hu=>by
   obtain⟨c',k⟩:=h (j+1) u' (by simpa using hu);exact⟨c',by rw[show b+1+j=b+(j+1)by omega];exact k⟩)
  refine⟨c0::cs,by simp[e1],λj c' hc=>?_,by simpa using⟨h1,e3⟩,λj u' c' hu hc=>?_⟩
  .cases j with
   |zero=>simp at hc;subst hc;exact h0
   |succ j=>simp at hc;rw[show b+(j+1)=b+1+j by omega];exact e2 j c' hc
  .cases j with
   |zero=>simp at hu hc;subst hu hc;exact h2
   |succ j=>simp at hu hc;exact e4 j u' c' hu hc
theorem qj.drop{g b:Nat}{us:List AV}(h:qj w X K g b us)(n:Nat):qj w X K g (b+n) (us.drop n):=by
 intro j u hu;rw[cV]at hu;rw[pf];exact h _ u hu
theorem qj.take{g b:Nat}{us:List AV}(h:qj w X K g b us)(n:Nat):qj w X K g b (us.take n):=by
 intro j u hu;rw[bQ]at hu
 split at hu
 .exact h j u hu
 .cases hu
theorem tR(hT:br P T){t:Nat}{ti:JM}(ht:T.get t=some ti){g b off:Nat}{us:List AV}{v:AV}(aD:qj w X K g b us)(hr:mN ti us off=some v):
  ∃vv,(Instr.loadAt t (.pointer (some ⟨g,b+off,none⟩))).run P w=.ok vv w/\VR w X K v vv/\(ti.k.isAgg=false->vv.oneCell'=true):=by
 obtain⟨⟨d,hd,eM⟩,⟨j,hj,_,mi,_⟩,_⟩:=hT.get ht;unfold mN at hr
 split at hr
 .cases hr
 .rename_i ys mD
  obtain⟨eY,rfl⟩:=tP mD;have aD:=aD.drop off
  split at hr
  .rename_i tS
   split at hr
   .rename_i zs Cv
    obtain⟨LA,rfl⟩:=tQ Cv;injection hr with hr
    subst hr;obtain⟨cs,e1,e2,e3,e4⟩:=(aD.take ti.size).list;have hl:cs.length=ti.size:=by rw[e1,aO];omega
    have Ck:=run_loadCells_list (P:=P) w ⟨g,b+off,none⟩ cs (λj v hv=>by rw[fK];exact e2 j v hv);rw[hl]at Ck;refine⟨.agg cs.toArray,?_,.agg (by simp[e1]) (λj c' hc=>e3 c' ?_) (λj u c' hu hc=>e4 j u c' hu (by simpa using hc)),λh=>by rw[tS]at h;cases h⟩
    .rw[<-eM]at tS
     simp[Instr.loadAt,Instr.sureAddr,loadVar,oL hd,tS,bS hj,mi,Ck]
    .exact ay (by simpa using hc)
   .cases hr
  .rename_i tS
   split at hr
   .rename_i y ys hy
    injection hr with hr
    subst hr;obtain⟨c',h0,h1,h2⟩:=aD 0 y (by rw[hy];rfl);rw[<-eM]at tS;refine⟨c',?_,h2,λ_=>h1⟩;simp only[Instr.loadAt,Instr.sureAddr,loadVar,Sem.run_bind,Sem.run_pure,Result.andThen_ok,oL hd,tS];simp only[ed]at h0;simp[h0,load,Sem.run]
   .cases hr
theorem qj.any{g b:Nat}{us:List AV}(h:qj w X K0 g b us):qj w X K g b us:=λj u hu=>
 let⟨c,h1,h2,h3⟩:=h j u hu
 ⟨c,h1,h2,h3.any K⟩
theorem qj.JV{xs:List AV}{g b:Nat}{cs:List Value}(h1:cs.length=xs.length)(h2:∀c∈cs,c.oneCell'=true)(h3:∀(j:Nat) c,cs[j]?=some c->w.cell? ⟨g,b+j,none⟩=some c)
  (h4:∀(j:Nat) u c,xs[j]?=some u->cs[j]?=some c->VR w X K u c):qj w X K g b xs:=by
 intro j u hu;have aC:j<cs.length:=by have:=(aE.1 hu).1;omega
 have hc:cs[j]?=some cs[j]:=aW aC;exact⟨cs[j],h3 j _ hc,h2 _ (uD aC),h4 j u _ hu hc⟩
theorem Xl{kd:Kd}{u:AV}{v:Value}(h:VR w (uN kd X) (zD kd K) u v):VR w X K u v:=by
 cases kd
 .exact(VR.sub (X':=X) h (λ_ _ _=>trivial)).any K
 .exact VR.any h K
 .exact h
 .exact VR.any h K
theorem l8.row{g:Nat}{ae:ak}(sY:∀ag st,ae.kd≠.map ag st)(h:l8 w X K g ae)(hr:∀row∈ae.aa,row.length=ae.sz){i:Nat}{row:List AV}(hi:ae.aa[i]?=some row):qj w X K g (i*ae.sz) row:=by
 obtain⟨aJ,hc,hu⟩:=h;intro j u hj;have aC:j<ae.sz:=by
  have:=(aE.1 hj).1;rw[hr row (ay hi)]at this;exact this
 rw[<-uY hr hi j aC]at hj;obtain⟨x,hx,h1,hv⟩:=hu _ u hj;refine⟨x,?_,h1,Xl hv⟩;simp[World.cell?,hc.cells sY,hx]
theorem l8.Xm{g:Nat}{ae:ak}(h:l8 w X K g ae)(hr:ae.aa≠ []):∀ag st,ae.kd≠.map ag st:=by
 intro ag st hk;obtain⟨aJ,hc,_⟩:=h;unfold aV at hc;rw[hk]at hc;exact hr hc.2.1
theorem Xn(hT:br P T)(hs:bC E K c a w)(az:ey E K c a w val){t:TypeId}{x:Operand}(ho:o.op=.load t x)
  (h:jh.holds P (match T.get t with
  |some i=>Cj i (iX (aK c.O)) (val x)
  |none=>.no) (· =r)):o.wp P a w (bA E c r a o.dst) kK:=by
 split at h
 .rename_i ti nY
  have fin:∀{g b off:Nat}{us:List AV}{v:AV},a.eval x=.pointer (some ⟨g,b+off,none⟩)->qj w (XX E K c.O) K g b us->mN ti us off=some v->(bu v).holds P (· =r)->o.wp P a w (bA E c r a o.dst) kK:=by
   intro g b off us v e1 aD hr h;obtain⟨vv,Ck,hv,_⟩:=tR (P:=P) hT nY aD hr;exact aT hs (vv:=vv) (by simp only[execOp,ho,e1,Sem.run_bind,Ck,Result.andThen_ok,Sem.run_pure]) (aN h) hv
  unfold Cj at h
  split at h
  .rename_i xs off hx
   split at h
   .rename_i v hr
    obtain⟨g,b,e1,h1,h2,cs,h3,h4,h5,h6⟩:=VR.uT (az.at hx);exact fin e1 (qj.JV h3 h4 h5 h6).any hr h
   .exact h.elim
  .rename_i b off hx
   split at h
   .rename_i ae hb
    obtain⟨hb,sY⟩:=j9 hb
    split at h
    .rename_i row aD
     split at h
     .rename_i v hr
      obtain⟨g,hK,e1⟩:=VR.jo (az.at hx)
      rcases hs.own b ae hb with⟨h1,_⟩|⟨g',h1,h2⟩
      .rw[show aG K b=none from by simp[aG,h1]]at hK;cases hK
      .rw[aU h1]at hK;injection hK with hK;subst hK
       have:=h2.row sY (hs.aa b ae hb) (i:=0) (row:=row) (by rw[aD];rfl);simp only[ly]at this;exact fin (b:=0) (off:=off) (by simpa using e1) this hr h
     .exact h.elim
    .exact h.elim
   .exact h.elim
  .rename_i b sz k off hx
   split at h
   .rename_i ae hb
    obtain⟨hb,sY⟩:=j9 hb
    split at h
    .rename_i bJ
     have:=beq_true bJ;subst this;obtain⟨row,aD,h⟩:=h
     split at h
     .rename_i v hr
      obtain⟨g,hK,e1⟩:=VR.uU (az.at hx)
      rcases hs.own b ae hb with⟨h1,_⟩|⟨g',h1,h2⟩
      .rw[show aG K b=none from by simp[aG,h1]]at hK;cases hK
      .rw[aU h1]at hK;injection hK with hK;subst hK
       exact fin e1 (h2.row sY (hs.aa b ae hb) aD) hr h
     .exact h.elim
    .exact h.elim
   .exact h.elim
  .exact h.elim
 .exact h.elim
end
end Go.an
