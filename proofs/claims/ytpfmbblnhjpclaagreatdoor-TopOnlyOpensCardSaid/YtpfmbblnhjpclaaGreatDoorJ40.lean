import Derived.Shelf.Spec.SlicesInsertGrow
import Derived.Shelf.SlGeneric
import Derived.Laws.CopyRow
import Derived.Test.YtpfmbblnhjpclaaGreatDoorJ17
import Derived.Test.YtpfmbblnhjpclaaGreatDoorJ22
import Derived.Test.YtpfmbblnhjpclaaGreatDoorJ32
set_option linter.unusedVariables false
set_option linter.unusedSimpArgs false
namespace Go.an
open Go.RowKit Go.Shelf Go.Proofs Go.Lib
structure HO(P:Program)(ρ:Ren)(sz Lf:Nat)(z:Value):Prop where
 mixed:P.follows .mixedOrders=true
 f22:∃(nm:String)(tg:Array TypeId),(nm== "runtime.NumGoroutine")=false/\P.funcs[ρ.f 22]?=some {Body2.n22 ρ with name:=nm,targs:=tg}
 t3:P.underlying (ρ.t 3)=some (TypeDesc.int IntKind.i64)
 a3:∀w,(isAgg (ρ.t 3)).run P w=.ok false w
 z3:∀w,(Go.sizeOf (ρ.t 3)).run P w=.ok 1 w
 v3:∀w,(zeroValue (ρ.t 3)).run P w=.ok (Value.int IntKind.i64 0) w
 t4:P.underlying (ρ.t 4)=some (TypeDesc.bool)
 a4:∀w,(isAgg (ρ.t 4)).run P w=.ok false w
 z4:∀w,(Go.sizeOf (ρ.t 4)).run P w=.ok 1 w
 v4:∀w,(zeroValue (ρ.t 4)).run P w=.ok (Value.bool false) w
 z9:∀w,(Go.sizeOf (ρ.t 9)).run P w=.ok sz w
 t24:P.underlying (ρ.t 24)=some (TypeDesc.slice (ρ.t 9))
 a24:∀w,(isAgg (ρ.t 24)).run P w=.ok false w
 z24:∀w,(Go.sizeOf (ρ.t 24)).run P w=.ok 1 w
 v24:∀w,(zeroValue (ρ.t 24)).run P w=.ok (Value.slice none 0 0) w
 i9:∃i,P.info? (ρ.t 9)=some i/\i.zero=some z/\i.size=sz/\i.bytes=Lf
 hz:z.cells.size=sz
 sz1:1<=sz
 ov:∀(w:World)(a b:Addr)(la ca lb cb:Nat)(tA tB:TypeId)(kA kB:Nat),a.block≠b.block->w.shape? a.block=some (tA,kA)->w.shape? b.block=some (tB,kB)->kB≠0->w.frozen? a=false->w.frozen? {block:=a.block,off:=kA}=false->
  (callFunc (ρ.f 29) #[.slice (some a) la ca,.slice (some b) lb cb]).run P w=.ok (.value (.bool false)) w
section
variable{P:Program} {ρ:Ren} {sz Lf:Nat} {z:Value}
theorem lH(w:World)(dT sT ty elem:TypeId)(g o agQ alS:Nat)(a:Addr)(B6 PA k:Nat)(aJ:Array Value)(t:TypeId)(cs:List Value)
  (hu:P.underlying dT=some (.slice elem)){i:TypeInfo}(hi:P.info? elem=some i)(hk:k=Nat.min B6 agQ)
  (hg:w.heap[g]?=some (.cells aJ t (0,0)))(hn:cs.length=k*i.size)
  (iZ:∀j v,cs[j]?=some v->w.cell? (a.add j)=some v)(iE:o+cs.length<=aJ.size)(h1:∀v∈cs,v.oneCell'=true):
  (Builtin.copy_ #[dT,sT] ty #[.slice (some ⟨g,o,none⟩) agQ alS,.slice (some a) B6 PA]).run P w=
   .ok (goInt k) (w.setRow g (aJ.toList.take o++cs++aJ.toList.drop (o+cs.length)).toArray):=by
 have hl:=run_loadCells_list (P:=P) w a cs iZ;have cY:=run_storeCells_at P g o t cs 0 aJ w hg (by simpa using iE) h1;simp[Builtin.copy_,run_underlying hu,Builtin.lenOf,Builtin.firstCells,sizeOf,typeInfo,hi,<-hk,<-hn,hl,cY]
set_option maxHeartbeats 4000000 in
set_option maxRecDepth 100000 in
theorem MX(L:HO P ρ sz Lf z)(b n c i vb vc:Nat)(aJ ea:Array Value)(e ve:TypeId)(w:World)(hi:i<n)(p7:n+1<=c)(Z5:c<=9223372036854775807)(hvb:vb≠b)
  (hb:w.heap[b]?=some (.cells aJ e (0,0)))(dM:c*sz=aJ.size)(h1:∀v∈aJ.toList.take (n*sz),v.oneCell'=true)
  (hv:w.heap[vb]?=some (.cells ea ve (0,0)))(n9:sz<=ea.size)(MY:∀v∈ea.toList.take sz,v.oneCell'=true):
  Calls P (ρ.f 22) #[.slice (some ⟨b,0,none⟩) n c,.int .i64 i,.slice (some ⟨vb,0,none⟩) 1 vc] w λen w'=>
   en=.returned (.slice (some ⟨b,0,none⟩) (n+1) c)/\∃dw,w'=w.drew.setRow b dw/\dw.toList=aJ.toList.take (i*sz)++ea.toList.take sz++(aJ.toList.drop (i*sz)).take ((n-i)*sz)++aJ.toList.drop ((n+1)*sz):=by
 obtain⟨nm,tg,nu,UI⟩:=L.f22;have mixed:=L.mixed;have t3:=L.t3;have a3:=L.a3;have z3:=L.z3;have v3:=L.v3;have t4:=L.t4;have a4:=L.a4;have z4:=L.z4;have v4:=L.v4;have z9:=L.z9;have t24:=L.t24;have a24:=L.a24;have z24:=L.z24;have v24:=L.v24;have u3:=run_underlying L.t3;have u4:=run_underlying L.t4;have u24:=run_underlying L.t24;have hz2:¬((i:Int)=(n:Int)):=by omega
 have EL:IntKind.i64.wrap ((i:Int)+1)=(i:Int)+1:=by rw[IntKind.wrap_i64];omega
 have TP:IntKind.i64.wrap ((n:Int)+1)=(n:Int)+1:=by rw[IntKind.wrap_i64];omega
 have yw:(0:Int)<=(i:Int)+1:=by omega
 have wq:i<=n:=by omega
 have htn:((i:Int)+1).toNat=i+1:=by omega
 have ane:((n:Int)+1).toNat=n+1:=by omega
 have Fx:¬(c=i+1):=by omega
 have hb3:(i:Int)<=(n:Int)+1:=by omega
 have hb4:¬(c=i):=by omega
 have H2:∃tB kB,w.shape? b=some (tB,kB)/\kB≠0:=⟨e,aJ.size,by simp[World.shape?,hb],by have:=Nat.mul_le_mul (show 1<=c by omega) L.sz1;omega⟩;obtain⟨tB,kB,hsb,hkB⟩:=H2;have hfz:∀k,w.frozen? ⟨vb,k,none⟩=false:=λk=>by simp[World.frozen?,hv]
 have hov:∀o lb cb,(callFunc (ρ.f 29) #[.slice (some ⟨vb,0,none⟩) 1 vc,.slice (some ⟨b,o,none⟩) lb cb]).run P w=.ok (.value (.bool false)) w:=λo lb cb=>
  L.ov w ⟨vb,0,none⟩ ⟨b,o,none⟩ 1 vc lb cb ve tB ea.size kB hvb (by simp[World.shape?,hv]) hsb hkB (hfz _) (hfz _)
 obtain⟨i9,RT,_,bJ,_⟩:=L.i9;have m1:(i+1)*sz=i*sz+sz:=by rw[bh,Cl]
 have m2:(n+1)*sz=n*sz+sz:=by rw[bh,Cl]
 have m3:(n-i)*sz+i*sz=n*sz:=by rw[<-bh];congr 1;omega
 have m4:(n+1)*sz<=c*sz:=gR _ p7;obtain⟨cs,BZ⟩:∃cs,cs=(aJ.toList.drop (i*sz)).take ((n-i)*sz):=⟨_,rfl⟩;have mR:cs.length=(n-i)*sz:=by rw[BZ,aO,jY,gf];omega
 have BX:∀v∈cs,v.oneCell'=true:=λv h=>h1 v (by rw[BZ,show(n-i)*sz=n*sz-i*sz by omega,<-List.drop_take]at h;exact uE h)
 obtain⟨Ad,WX⟩:∃Ad,Ad=(aJ.toList.take ((i+1)*sz)++cs++aJ.toList.drop ((i+1)*sz+cs.length)).toArray:=⟨_,rfl⟩;have lS:Ad.size=aJ.size:=by rw[WX];simp[mR];omega
 have alT:∀ty dc sc,(Builtin.copy_ #[(ρ.t 24),(ρ.t 24)] ty #[.slice (some ⟨b,(i+1)*sz,none⟩) (n-i) dc,.slice (some ⟨b,i*sz,none⟩) (n+1-i) sc]).run P w.drew=.ok (goInt (n-i:Nat)) (w.drew.setRow b Ad):=λty dc sc=>by
  rw[WX];refine lH w.drew _ _ ty (ρ.t 9) b ((i+1)*sz) (n-i) dc ⟨b,i*sz,none⟩ (n+1-i) sc (n-i) aJ e cs L.t24 RT (by simp only[Nat.min_def];split<;>omega) hb (by rw[mR,bJ]) (λj v hj=>?_) (by rw[mR];omega) BX;rw[Addr.add_lit];have so:=(aE.1 hj).1;rw[BZ,bQ,if_pos (by omega),cV]at hj
  show(match w.heap[b]? with|some (.cells c _ _)=>c[i*sz+j]?|_=>none)=some v
  rw[hb];simpa using hj
 have alU:∀(W:World),W.heap=(w.drew.setRow b Ad).heap->∀ty dc,(Builtin.copy_ #[(ρ.t 24),(ρ.t 24)] ty #[.slice (some ⟨b,i*sz,none⟩) (n+1-i) dc,.slice (some ⟨vb,0,none⟩) 1 vc]).run P W=.ok (goInt (1:Nat)) (W.setRow b (Ad.toList.take (i*sz)++ea.toList.take sz++Ad.toList.drop (i*sz+(ea.toList.take sz).length)).toArray):=λW hW ty dc=>by
  have hWb:W.heap[b]?=some (.cells Ad e (0,0)):=by rw[hW];exact setRow_heap _ _ _ _ _ _ hb
  have hWv:W.heap[vb]?=some (.cells ea ve (0,0)):=by
   rw[hW]
   show(w.heap.modify b _)[vb]?=_
   rw[jX,if_neg (Ne.symm hvb)];exact hv
  have BM:(ea.toList.take sz).length=sz:=by rw[aO,gf];omega
  refine lH W _ _ ty (ρ.t 9) b (i*sz) (n+1-i) dc ⟨vb,0,none⟩ 1 vc 1 Ad e _ L.t24 RT (by simp only[Nat.min_def];split<;>omega) hWb (by rw[BM,bJ,Cl]) (λj v hj=>?_) (by rw[BM];omega) MY;rw[Addr.add_lit];rw[bQ]at hj
  split at hj
  .show(match W.heap[vb]? with|some (.cells c _ _)=>c[0+j]?|_=>none)=some v
   rw[hWv];simpa using hj
  .cases hj
 clear m1 m2 m3 m4
 go_enter UI,Body2.n22_ntmps ρ
 go_wp2_with (simp only[hov])
 go_region_law_o (refine step_copy_runI rfl _ _ (ρ.t 24) (ρ.t 24) rfl _ _ (by simp[Act.eval,Act.put]) (by simp[Act.eval,Act.put]) (alT _ _ _) ?_)
 go_wp2_with (at_builtin;refine wpList_copy_runI _ rfl _ _ (ρ.t 24) (ρ.t 24) rfl _ _ rfl rfl (alU _ rfl _ _) ?_)
 go_ret
 refine⟨rfl,_,setRow_setRow _ _ _ _,?_⟩;have m1:(i+1)*sz=i*sz+sz:=by rw[bh,Cl]
 have m2:(n+1)*sz=n*sz+sz:=by rw[bh,Cl]
 have m3:(n-i)*sz+i*sz=n*sz:=by rw[<-bh];congr 1;omega
 have m4:(n+1)*sz<=c*sz:=gR _ p7;have hA:(List.take ((i+1)*sz) aJ.toList).length=i*sz+sz:=by rw[aO,gf];omega
 have Tv:(i+1)*sz+min ((n-i)*sz) (aJ.size-i*sz)=(n+1)*sz:=by omega
 show List.take (i*sz) _++(List.take sz ea.toList++List.drop (i*sz+sz) _)=_
 rw[gU (by rw[hA];omega),List.drop_left' hA,List.take_take,Tv,rS (by omega)];simp only[cM]
theorem BE{w W:World}{E:TypeId}{X Y:Array Value}(h:W.heap=w.heap.push (.cells X E)):(W.setRow w.heap.size Y).heap=w.heap.push (.cells Y E):=by
 unfold World.setRow;rw[h];refine Array.ext (by simp) λk h1 h2=>?_
 rw[Array.getElem_modify,Array.getElem_push,Array.getElem_push]
 split
 .rename_i e
  subst e;simp
 .rename_i ne
  have:k<w.heap.size:=by simp at h2;omega
  simp[this]
set_option maxHeartbeats 4000000 in
set_option maxRecDepth 100000 in
theorem Q4(L:HO P ρ sz Lf z)(b n i vb vc:Nat)(aJ ea:Array Value)(e ve:TypeId)(w:World)(hi:i<n)(wI:(n+1)*Lf<=140737488355328)(Z5:n+1<=9223372036854775807)(UJ:n+1<=maxLen)
  (hb:w.heap[b]?=some (.cells aJ e (0,0)))(dM:n*sz=aJ.size)(h1:∀v∈aJ.toList.take (n*sz),v.oneCell'=true)
  (hv:w.heap[vb]?=some (.cells ea ve (0,0)))(n9:sz<=ea.size)(MY:∀v∈ea.toList.take sz,v.oneCell'=true):
  Calls P (ρ.f 22) #[.slice (some ⟨b,0,none⟩) n n,.int .i64 i,.slice (some ⟨vb,0,none⟩) 1 vc] w λen w'=>
   ∃cap dw,en=.returned (.slice (some ⟨w.heap.size,0,none⟩) (n+1) cap)/\n+1<=cap/\cap<=maxLen/\cap*sz=dw.size/\w'.heap=w.heap.push (.cells dw (ρ.t 9))/\w'.os=w.os/\w'.tape=w.tape/\w'.output=w.output/\
    dw.toList.take ((n+1)*sz)=aJ.toList.take (i*sz)++ea.toList.take sz++(aJ.toList.drop (i*sz)).take ((n-i)*sz):=by
 obtain⟨nm,tg,nu,UI⟩:=L.f22;have mixed:=L.mixed;have t3:=L.t3;have a3:=L.a3;have z3:=L.z3;have v3:=L.v3;have t4:=L.t4;have a4:=L.a4;have z4:=L.z4;have v4:=L.v4;have z9:=L.z9;have t24:=L.t24;have a24:=L.a24;have z24:=L.z24;have v24:=L.v24;have u3:=run_underlying L.t3;have u4:=run_underlying L.t4;have u24:=run_underlying L.t24;obtain⟨i9,RT,hz9,bJ,hby⟩:=L.i9;have hk0:(n:Int)+1-(i:Int)=((n+1-i:Nat):Int):=by omega
 have hik:i+(n+1-i)=n+1:=by omega
 have p7:n<n+1:=by omega
 obtain⟨G,hG⟩:∃G,G=grownCap w (n+1) n (ρ.t 9):=⟨_,rfl⟩;obtain⟨BR,Fl⟩:∃BR:Array Value,BR=(aJ.toList.take (i*sz)).toArray++Builtin.zeroCells z.cells (n+1-i)++Builtin.zeroCells z.cells (G-(n+1)):=⟨_,rfl⟩;have hold:(Builtin.firstCells i9.size i (.slice (some ⟨b,0,none⟩) i n)).run P w.drew=.ok (aJ.toList.take (i*sz)).toArray w.drew:=by
  rw[bJ];refine run_firstCells_some w.drew sz i ⟨b,0,none⟩ i n (aJ.toList.take (i*sz)) ?_ λj v hj=>?_
  .rw[aO,gf]
   have:=gR sz (show i<=n by omega);omega
  .rw[Addr.add_lit]
   rw[bQ]at hj
   split at hj
   .show(match w.heap[b]? with|some (.cells c _ _)=>c[0+j]?|_=>none)=some v
    rw[hb];simpa using hj
   .cases hj
 have hrz:∀ty,(Builtin.append_ #[(ρ.t 24),(ρ.t 3)] ty #[.slice (some ⟨b,0,none⟩) i n,.int .i64 ((n:Int)+1-(i:Int))]).run P w=
   .ok (.slice (some ⟨w.heap.size,0,none⟩) (n+1) G) (w.drew.alloc (.cells BR (ρ.t 9))):=λty=>by
  have h:=Lib.run_append_grow_zeros w (ρ.t 24) (ρ.t 3) ty (ρ.t 9) i9 _ .i64 .i64 L.t24 L.t3 RT hz9 (some ⟨b,0,none⟩) i n (aJ.toList.take (i*sz)) hold (n+1-i) (by omega) (by rw[bJ];exact L.sz1) (by omega) (by omega)
   (by rw[hby];have:=gR Lf (show n+1-i<=n+1 by omega);omega) (by rw[hby,hik];exact growslice_fits p7 wI)
  rw[hik,<-hG,<-Fl]at h;rw[hk0];exact h
 have Z6:n+1<=G:=by rw[hG];exact grownCap_ge w _ _ _
 have Z7:G<=maxLen:=by rw[hG];exact grownCap_le_maxLen w (n+1) n (ρ.t 9) UJ
 have yx:=L.hz;have m1:(i+1)*sz=i*sz+sz:=by rw[bh,Cl]
 have m2:(n+1)*sz=n*sz+sz:=by rw[bh,Cl]
 have m3:(n-i)*sz+i*sz=n*sz:=by rw[<-bh];congr 1;omega
 have m5:i*sz+(n+1-i)*sz=(n+1)*sz:=by rw[<-bh];congr 1
 have m6:(n+1)*sz+(G-(n+1))*sz=G*sz:=by rw[<-bh];congr 1;omega
 have hAl:(aJ.toList.take (i*sz)).length=i*sz:=by rw[aO,gf];omega
 have hRs:BR.size=G*sz:=by
  rw[Fl];simp only[lB,cL,hAl,size_zeroCells,yx];omega
 obtain⟨cs,BZ⟩:∃cs,cs=(aJ.toList.drop (i*sz)).take ((n-i)*sz):=⟨_,rfl⟩;have mR:cs.length=(n-i)*sz:=by rw[BZ,aO,jY,gf];omega
 have BX:∀v∈cs,v.oneCell'=true:=λv h=>h1 v (by rw[BZ,show(n-i)*sz=n*sz-i*sz by omega,<-List.drop_take]at h;exact uE h)
 have BM:(ea.toList.take sz).length=sz:=by rw[aO,gf];omega
 have hbN:b<w.heap.size:=(bd.1 hb).1;have hvN:vb<w.heap.size:=(bd.1 hv).1;obtain⟨BF,Lh⟩:∃BF,BF=(BR.toList.take (i*sz)++ea.toList.take sz++BR.toList.drop (i*sz+(ea.toList.take sz).length)).toArray:=⟨_,rfl⟩;have hR1:BF.size=G*sz:=by rw[Lh];simp only[cL,be,aO,jY,gf,hRs,BM];omega
 obtain⟨MZ,Li⟩:∃MZ,MZ=(BF.toList.take ((i+1)*sz)++cs++BF.toList.drop ((i+1)*sz+cs.length)).toArray:=⟨_,rfl⟩;have hR2:G*sz=MZ.size:=by rw[Li];simp only[cL,be,aO,jY,gf,hR1,mR];omega
 have alV:∀(W:World),W.heap=w.heap.push (.cells BR (ρ.t 9))->∀ty dc,(Builtin.copy_ #[(ρ.t 24),(ρ.t 24)] ty #[.slice (some ⟨w.heap.size,i*sz,none⟩) (n+1-i) dc,.slice (some ⟨vb,0,none⟩) 1 vc]).run P W=.ok (goInt (1:Nat)) (W.setRow w.heap.size BF):=λW hW ty dc=>by
  rw[Lh];refine lH W _ _ ty (ρ.t 9) w.heap.size (i*sz) (n+1-i) dc ⟨vb,0,none⟩ 1 vc 1 BR (ρ.t 9) _ L.t24 RT (by simp only[Nat.min_def];split<;>omega) (by rw[hW];simp) (by rw[BM,bJ,Cl]) (λj v hj=>?_) (by rw[BM];omega) MY;rw[Addr.add_lit];rw[bQ]at hj
  split at hj
  .show(match W.heap[vb]? with|some (.cells c _ _)=>c[0+j]?|_=>none)=some v
   rw[hW,mr,if_neg (by omega),hv];simpa using hj
  .cases hj
 have alW:∀(W:World),W.heap=w.heap.push (.cells BF (ρ.t 9))->∀ty dc sc,(Builtin.copy_ #[(ρ.t 24),(ρ.t 24)] ty #[.slice (some ⟨w.heap.size,(i+1)*sz,none⟩) (n-i) dc,.slice (some ⟨b,i*sz,none⟩) (n-i) sc]).run P W=.ok (goInt (n-i:Nat)) (W.setRow w.heap.size MZ):=λW hW ty dc sc=>by
  rw[Li];refine lH W _ _ ty (ρ.t 9) w.heap.size ((i+1)*sz) (n-i) dc ⟨b,i*sz,none⟩ (n-i) sc (n-i) BF (ρ.t 9) cs L.t24 RT (by simp only[Nat.min_def];split<;>omega) (by rw[hW];simp) (by rw[mR,bJ]) (λj v hj=>?_) (by rw[mR];omega) BX;rw[Addr.add_lit];have so:=(aE.1 hj).1;rw[BZ,bQ,if_pos (by omega),cV]at hj
  show(match W.heap[b]? with|some (.cells c _ _)=>c[i*sz+j]?|_=>none)=some v
  rw[hW,mr,if_neg (by omega),hb];simpa using hj
 have alX:MZ.toList.take ((n+1)*sz)=aJ.toList.take (i*sz)++ea.toList.take sz++cs:=by
  have e0:BR.toList.take (i*sz)=aJ.toList.take (i*sz):=by
   rw[Fl];simp only[yI,cM];rw[rT hAl]
  have e1:BF.toList.take ((i+1)*sz)=aJ.toList.take (i*sz)++ea.toList.take sz:=by
   rw[Lh,e0];exact rT (by rw[be,hAl,BM];omega)
  rw[Li,e1];exact rT (by rw[be,be,hAl,BM,mR];omega)
 have hN0:¬(G=i):=by omega
 have hN1:¬(G=i+1):=by omega
 have hN2:¬(n=i):=by omega
 have EL:IntKind.i64.wrap ((i:Int)+1)=(i:Int)+1:=by rw[IntKind.wrap_i64];omega
 have TP:IntKind.i64.wrap ((n:Int)+1)=(n:Int)+1:=by rw[IntKind.wrap_i64];omega
 have hw3:IntKind.i64.wrap ((n:Int)+1-(i:Int))=(n:Int)+1-(i:Int):=by rw[IntKind.wrap_i64];omega
 have yw:(0:Int)<=(i:Int)+1:=by omega
 have wq:i<=n:=by omega
 have htn:((i:Int)+1).toNat=i+1:=by omega
 have hb3:(i:Int)<=(n:Int):=by omega
 have hz2:¬((i:Int)=(n:Int)):=by omega
 clear m1 m2 m3 m5 m6 Fl Lh Li hG hold hk0 hik;have hE1:((w.alloc (.cells BR (ρ.t 9))).drew).heap=w.heap.push (.cells BR (ρ.t 9)):=rfl;have hF1:(((w.alloc (.cells BR (ρ.t 9))).drew.setRow w.heap.size BF).drew).heap=w.heap.push (.cells BF (ρ.t 9)):=BE rfl
 go_enter UI,Body2.n22_ntmps ρ
 go_wp2_with (first
  |(at_builtin;refine Lib.wpList_append_run _ rfl _ _ _ _ rfl _ _ rfl rfl _ _ (hrz _) ?_)
  |(at_builtin;refine wpList_copy_runI _ rfl _ _ (ρ.t 24) (ρ.t 24) rfl _ _ rfl rfl (alV _ hE1 _ _) ?_))
 go_region_law_o (refine step_copy_runI rfl _ _ (ρ.t 24) (ρ.t 24) rfl (.slice (some ⟨w.heap.size,(i+1)*sz,none⟩) (n-i) (G-(i+1))) (.slice (some ⟨b,i*sz,none⟩) (n-i) (n-i)) (by simp[Act.eval,Act.put]) (by simp[Act.eval,Act.put]) (alW _ hF1 (ρ.t 3) (G-(i+1)) (n-i)) ?_)
 go_wp2
 go_ret
 exact⟨G,MZ,rfl,Z6,Z7,hR2,BE hF1,rfl,rfl,rfl,by rw[<-BZ];exact alX⟩
set_option maxHeartbeats 4000000 in
set_option maxRecDepth 100000 in
theorem Q5(L:HO P ρ sz Lf z)(b n c vb vc:Nat)(aJ ea:Array Value)(ve:TypeId)(w:World)(p7:n+1<=c)(Z5:c<=9223372036854775807)(hvb:vb≠b)
  (hb:w.heap[b]?=some (.cells aJ (ρ.t 9) (0,0)))(dM:c*sz=aJ.size)
  (hv:w.heap[vb]?=some (.cells ea ve (0,0)))(n9:sz<=ea.size)(MY:∀v∈ea.toList.take sz,v.oneCell'=true):
  Calls P (ρ.f 22) #[.slice (some ⟨b,0,none⟩) n c,.int .i64 n,.slice (some ⟨vb,0,none⟩) 1 vc] w λen w'=>
   en=.returned (.slice (some ⟨b,0,none⟩) (n+1) c)/\w'=w.setRow b (aJ.toList.take (n*sz)++ea.toList.take sz++aJ.toList.drop (n*sz+sz)).toArray:=by
 obtain⟨nm,tg,nu,UI⟩:=L.f22;have mixed:=L.mixed;have t3:=L.t3;have a3:=L.a3;have z3:=L.z3;have v3:=L.v3;have t4:=L.t4;have a4:=L.a4;have z4:=L.z4;have v4:=L.v4;have z9:=L.z9;have t24:=L.t24;have a24:=L.a24;have z24:=L.z24;have v24:=L.v24;have u3:=run_underlying L.t3;have u4:=run_underlying L.t4;have u24:=run_underlying L.t24;obtain⟨i9,RT,hz9,bJ,hby⟩:=L.i9;have BM:(ea.toList.take sz).length=sz:=by rw[aO,gf];omega
 have m2:(n+1)*sz=n*sz+sz:=by rw[bh,Cl]
 have m4:(n+1)*sz<=c*sz:=gR _ p7;have Ck:∀ty,(Builtin.append_ #[(ρ.t 24),(ρ.t 24)] ty #[.slice (some ⟨b,0,none⟩) n c,.slice (some ⟨vb,0,none⟩) 1 vc]).run P w=.ok (.slice (some ⟨b,0,none⟩) (n+1) c) (w.setRow b (aJ.toList.take (n*sz)++ea.toList.take sz++aJ.toList.drop (n*sz+sz)).toArray):=λty=>by
  have h:=mZ (P:=P) w (ρ.t 24) ty (ρ.t 9) i9 L.t24 RT b 0 n c aJ hb ⟨vb,0,none⟩ 1 vc (ea.toList.take sz) (by rw[BM,bJ,Cl]) (λj v hj=>by
   rw[Addr.add_lit];rw[bQ]at hj
   split at hj
   .show(match w.heap[vb]? with|some (.cells c _ _)=>c[0+j]?|_=>none)=some v
    rw[hv];simpa using hj
   .cases hj) MY p7 (by rw[BM,bJ];omega)
  rw[bJ,BM,dp]at h;exact h
 have wq:n<=n:=bG _;clear m2 m4
 go_enter UI,Body2.n22_ntmps ρ
 go_wp2_with (at_builtin;refine Lib.wpList_append_run _ rfl _ _ _ _ rfl _ _ rfl rfl _ _ (Ck _) ?_)
 all_goals(go_ret;exact⟨rfl,rfl⟩)
set_option maxHeartbeats 4000000 in
set_option maxRecDepth 100000 in
theorem Lj(L:HO P ρ sz Lf z)(base:Option Addr)(n vb vc:Nat)(cs:List Value)(ea:Array Value)(ve:TypeId)(w:World)(wI:(n+1)*Lf<=140737488355328)(Z5:n+1<=9223372036854775807)(UJ:n+1<=maxLen)
  (mR:cs.length=n*sz)(LB:base=none->n=0)(dM:∀a,base=some a->∀j v,cs[j]?=some v->w.cell? (a.add j)=some v)
  (hv:w.heap[vb]?=some (.cells ea ve (0,0)))(n9:sz<=ea.size)(MY:∀v∈ea.toList.take sz,v.oneCell'=true):
  Calls P (ρ.f 22) #[.slice base n n,.int .i64 n,.slice (some ⟨vb,0,none⟩) 1 vc] w λen w'=>
   ∃cap dw,en=.returned (.slice (some ⟨w.heap.size,0,none⟩) (n+1) cap)/\n+1<=cap/\cap<=maxLen/\cap*sz=dw.size/\w'.heap=w.heap.push (.cells dw (ρ.t 9))/\w'.os=w.os/\w'.tape=w.tape/\w'.output=w.output/\
    dw.toList.take ((n+1)*sz)=cs++ea.toList.take sz:=by
 obtain⟨nm,tg,nu,UI⟩:=L.f22;have mixed:=L.mixed;have t3:=L.t3;have a3:=L.a3;have z3:=L.z3;have v3:=L.v3;have t4:=L.t4;have a4:=L.a4;have z4:=L.z4;have v4:=L.v4;have z9:=L.z9;have t24:=L.t24;have a24:=L.a24;have z24:=L.z24;have v24:=L.v24;have u3:=run_underlying L.t3;have u4:=run_underlying L.t4;have u24:=run_underlying L.t24;obtain⟨i9,RT,hz9,bJ,hby⟩:=L.i9;have BM:(ea.toList.take sz).length=sz:=by rw[aO,gf];omega
 have m2:(n+1)*sz=n*sz+sz:=by rw[bh,Cl]
 have p7:n<n+1:=by omega
 have iZ:Go.Src P i9.size (ρ.t 24) (.slice (some ⟨vb,0,none⟩) 1 vc) 1 (ea.toList.take sz) w:=by
  rw[bJ];exact Go.Src.ofSlice w L.t24 ⟨vb,0,none⟩ 1 vc _ (by rw[BM,Cl]) (λj v hj=>by
   rw[Addr.add_lit];rw[bQ]at hj
   split at hj
   .show(match w.heap[vb]? with|some (.cells c _ _)=>c[0+j]?|_=>none)=some v
    rw[hv];simpa using hj
   .cases hj) MY
 have hold:(Builtin.firstCells i9.size n (.slice base n n)).run P w.drew=.ok cs.toArray w.drew:=by
  rw[bJ]
  cases base with
  |none=>
   have h0:=LB rfl;subst h0;have JW:cs=[]:=oD.1 (by simpa using mR);subst JW;exact run_firstCells_none w.drew sz 0 0 0
  |some a=>exact run_firstCells_some w.drew sz n a n n cs mR (λj v hj=>dM a rfl j v hj)
 have Z6:n+1<=grownCap w (n+1) n (ρ.t 9):=grownCap_ge w _ _ _;have Z7:grownCap w (n+1) n (ρ.t 9)<=maxLen:=grownCap_le_maxLen w (n+1) n (ρ.t 9) UJ;have yx:=L.hz;have Ge:=λty=>run_append_grow_src w (ρ.t 24) (ρ.t 24) ty (ρ.t 9) i9 _ L.t24 RT hz9 base n n cs hold _ 1 (ea.toList.take sz) iZ p7 (by omega) (by rw[hby];exact growslice_fits p7 wI)
 obtain⟨G,hG⟩:∃G,G=grownCap w (n+1) n (ρ.t 9):=⟨_,rfl⟩;obtain⟨BR,Fl⟩:∃BR:Array Value,BR=(cs++ea.toList.take sz).toArray++Builtin.zeroCells z.cells (G-(n+1)):=⟨_,rfl⟩;have Ck:∀ty,(Builtin.append_ #[(ρ.t 24),(ρ.t 24)] ty #[.slice base n n,.slice (some ⟨vb,0,none⟩) 1 vc]).run P w=.ok (.slice (some ⟨w.heap.size,0,none⟩) (n+1) G) (w.drew.alloc (.cells BR (ρ.t 9))):=λty=>by rw[Fl,hG];exact Ge ty
 rw[<-hG]at Z6 Z7;have m6:(n+1)*sz+(G-(n+1))*sz=G*sz:=by rw[<-bh];congr 1;omega
 have f4:G*sz=BR.size:=by rw[Fl];simp only[lB,cL,be,mR,BM,size_zeroCells,yx];omega
 have f6:BR.toList.take ((n+1)*sz)=cs++ea.toList.take sz:=by
  rw[Fl,yI];exact rT (by rw[be,mR,BM,m2])
 clear m2 m6 Ge hold Fl hG
 go_enter UI,Body2.n22_ntmps ρ
 cases base with
 |none=>
  have h0:=LB rfl;subst h0
  go_wp2_with (at_builtin;refine Lib.wpList_append_run _ rfl _ _ _ _ rfl _ _ rfl rfl _ _ (Ck _) ?_)
  all_goals(go_ret;first|exact⟨G,BR,rfl,Z6,Z7,f4,rfl,rfl,rfl,rfl,f6⟩|exact⟨G,rfl,Z6,Z7,BR,f4,rfl,rfl,rfl,rfl,by simpa using f6⟩)
 |some a=>
  obtain⟨ab,ao,asp⟩:=a
  go_wp2_with (at_builtin;refine Lib.wpList_append_run _ rfl _ _ _ _ rfl _ _ rfl rfl _ _ (Ck _) ?_)
  all_goals(go_ret;first|exact⟨G,BR,rfl,Z6,Z7,f4,rfl,rfl,rfl,rfl,f6⟩|exact⟨G,rfl,Z6,Z7,BR,f4,rfl,rfl,rfl,rfl,by simpa using f6⟩)
end
def wi(R:AV->Value->Prop)(us:List AV)(cs:List Value):Prop:=us.length=cs.length/\∀(j:Nat) u c,us[j]?=some u->cs[j]?=some c->R u c
theorem wi.app{R:AV->Value->Prop}{us dj:List AV}{cs JU:List Value}(h:wi R us cs)(h':wi R dj JU):wi R (us++dj) (cs++JU):=by
 refine⟨by rw[be,be,h.1,h'.1],λj u c hu hc=>?_⟩
 rcases eJ j us.length with aC|kT
 .rw[bM aC]at hu
  rw[bM (by rw[<-h.1];exact aC)]at hc;exact h.2 j u c hu hc
 .rw[cm kT]at hu
  rw[cm (by rw[<-h.1];exact kT),<-h.1]at hc;exact h'.2 _ u c hu hc
theorem wi.take{R:AV->Value->Prop}{us:List AV}{cs:List Value}(h:wi R us cs)(k:Nat):wi R (us.take k) (cs.take k):=by
 refine⟨by rw[aO,aO,h.1],λj u c hu hc=>?_⟩;rw[bQ]at hu hc
 split at hu
 .rw[if_pos (by assumption)]at hc;exact h.2 j u c hu hc
 .cases hu
theorem wi.drop{R:AV->Value->Prop}{us:List AV}{cs:List Value}(h:wi R us cs)(k:Nat):wi R (us.drop k) (cs.drop k):=by
 refine⟨by rw[jY,jY,h.1],λj u c hu hc=>?_⟩;rw[cV]at hu hc;exact h.2 _ u c hu hc
def Z8(w:World)(own:Option Nat)(E n sz:Nat)(cells:List Value)(en:Ending)(w':World):Prop:=
 ∃(g' cap:Nat)(dw:Array Value),en=.returned (.slice (some ⟨g',0,none⟩) (n+1) cap)/\n+1<=cap/\cap<=maxLen/\cap*sz=dw.size/\w'.heap[g']?=some (.cells dw E (0,0))/\(w.heap.size<=g'∨own=some g')/\NI (λg=>own=some g) w w'/\dw.toList.take ((n+1)*sz)=cells
section
variable{P:Program} {ρ:Ren} {sz Lf:Nat} {z:Value}
theorem xu{w w':World}{E n sz cap:Nat}{dw:Array Value}{cells:List Value}{en:Ending}{own:Option Nat}(h1:en=.returned (.slice (some ⟨w.heap.size,0,none⟩) (n+1) cap))(h2:n+1<=cap)(h3:cap<=maxLen)(h4:cap*sz=dw.size)
  (h5:w'.heap=w.heap.push (.cells dw E))(h6:w'.os=w.os)(h7:w'.tape=w.tape)(h8:w'.output=w.output)(h9:dw.toList.take ((n+1)*sz)=cells):Z8 w own E n sz cells en w':=by
 refine⟨w.heap.size,cap,dw,h1,h2,h3,h4,by rw[h5];simp,.inl (bG _),⟨h6,h7,h8,by rw[h5];simp,λg hg _=>?_,λg aJ e hc=>?_⟩,h9⟩
 .rw[h5,mr,if_neg (by omega)]
 .have aC:=(bd.1 hc).1
  exact⟨aJ,by rw[h5,mr,if_neg (by omega)];exact hc,rfl⟩
theorem HP{w w0:World}{E n sz b c:Nat}{aJ dw:Array Value}{cells:List Value}{en:Ending}(h0:w0.heap=w.heap)(h1:en=.returned (.slice (some ⟨b,0,none⟩) (n+1) c))(h2:n+1<=c)(h3:c<=maxLen)(h4:c*sz=aJ.size)(hs:dw.size=aJ.size)
  (hb:w.heap[b]?=some (.cells aJ E (0,0)))(h6:w0.os=w.os)(h7:w0.tape=w.tape)(h8:w0.output=w.output)(h9:dw.toList.take ((n+1)*sz)=cells):Z8 w (some b) E n sz cells en (w0.setRow b dw):=by
 have Fy:w0.heap[b]?=some (.cells aJ E (0,0)):=by rw[h0];exact hb
 refine⟨b,c,dw,h1,h2,h3,by rw[hs];exact h4,setRow_heap _ _ _ _ _ _ Fy,.inr rfl,⟨h6,h7,h8,by rw[<-h0];simp[World.setRow],λg hg dW=>?_,λg cu e hc=>?_⟩,h9⟩
 .show(w0.heap.modify b _)[g]?=_
  rw[jX,if_neg (λe=>dW (by rw[e])),h0]
 .by_cases e1:b=g
  .subst e1
   rw[hb]at hc;injection hc with hc;injection hc with q1 q2;subst q1 q2
   exact⟨dw,setRow_heap _ _ _ _ _ _ Fy,hs⟩
  .refine⟨cu,?_,rfl⟩
   show(w0.heap.modify b _)[g]?=_
   rw[jX,if_neg e1,h0];exact hc
theorem M0(L:HO P ρ sz Lf z)(own:Option Nat)(v:Value)(n i vb vc:Nat)(aJ ea:Array Value)(ve:TypeId)(w:World)(hi:i<=n)(wI:(n+1)*Lf<=140737488355328)(UJ:n+1<=maxLen)
  (hv:(own=none/\n=0/\v=.slice none 0 0)∨∃b c,own=some b/\v=.slice (some ⟨b,0,none⟩) n c/\n<=c/\c<=maxLen/\c*sz=aJ.size/\vb≠b/\w.heap[b]?=some (.cells aJ (ρ.t 9) (0,0)))
  (h1:∀v∈aJ.toList.take (n*sz),v.oneCell'=true)(hw:w.heap[vb]?=some (.cells ea ve (0,0)))(n9:sz<=ea.size)(MY:∀v∈ea.toList.take sz,v.oneCell'=true):
  Calls P (ρ.f 22) #[v,.int .i64 i,.slice (some ⟨vb,0,none⟩) 1 vc] w (Z8 w own (ρ.t 9) n sz (aJ.toList.take (i*sz)++ea.toList.take sz++(aJ.toList.drop (i*sz)).take ((n-i)*sz))):=by
 have anf:maxLen<=9223372036854775807:=by unfold maxLen;omega
 have m2:(n+1)*sz=n*sz+sz:=by rw[bh,Cl]
 have m3:(n-i)*sz+i*sz=n*sz:=by rw[<-bh];congr 1;omega
 rcases hv with⟨rfl,rfl,rfl⟩|⟨b,c,rfl,rfl,l4,CF,dM,dW,hb⟩
 .have Qv:i=0:=by omega
  subst Qv;refine(Lj L none 0 vb vc [] ea ve w wI (by omega) UJ (by simp) (λ_=>rfl) (λa h=>by cases h) hw n9 MY).mono ?_;rintro en w' ⟨cap,dw,e1,e2,e3,e4,e5,e6,e7,e8,e9⟩;exact xu e1 e2 e3 e4 e5 e6 e7 e8 (by rw[e9];simp)
 .have m4:n*sz<=c*sz:=gR _ l4
  rcases eJ c (n+1)with aC|kT
  .have Nv:c=n:=by omega
   subst Nv
   rcases eJ i c with hic|hic
   .refine(Q4 L b c i vb vc aJ ea _ ve w hic wI (by omega) UJ hb dM h1 hw n9 MY).mono ?_
    rintro en w' ⟨cap,dw,e1,e2,e3,e4,e5,e6,e7,e8,e9⟩;exact xu e1 e2 e3 e4 e5 e6 e7 e8 e9
   .have hic:i=c:=by omega
    subst hic;refine(Lj L (some ⟨b,0,none⟩) i vb vc (aJ.toList.take (i*sz)) ea ve w wI (by omega) UJ (by rw[aO,gf];omega) (λh=>by cases h) (λa h j v hj=>?_) hw n9 MY).mono ?_
    .cases h
     rw[Addr.add_lit];rw[bQ]at hj
     split at hj
     .show(match w.heap[b]? with|some (.cells c _ _)=>c[0+j]?|_=>none)=some v
      rw[hb];simpa using hj
     .cases hj
    .rintro en w' ⟨cap,dw,e1,e2,e3,e4,e5,e6,e7,e8,e9⟩
     exact xu e1 e2 e3 e4 e5 e6 e7 e8 (by rw[e9];simp)
  .have m5:(n+1)*sz<=c*sz:=gR _ kT
   have BM:(ea.toList.take sz).length=sz:=by rw[aO,gf];omega
   rcases eJ i n with wq|wq
   .refine(MX L b n c i vb vc aJ ea _ ve w wq kT (by omega) dW hb dM h1 hw n9 MY).mono ?_
    rintro en w' ⟨e1,dw,rfl,e2⟩;have mR:(aJ.toList.take (i*sz)++ea.toList.take sz++(aJ.toList.drop (i*sz)).take ((n-i)*sz)).length=(n+1)*sz:=by
     simp only[be,aO,jY,gf];omega
    refine HP (w0:=w.drew) rfl e1 kT CF dM ?_ hb rfl rfl rfl ?_
    .rw[<-gf,e2,be,mR,jY,gf];omega
    .rw[e2];exact rT mR
   .have wq:i=n:=by omega
    subst wq;refine(Q5 L b i c vb vc aJ ea ve w kT (by omega) dW hb dM hw n9 MY).mono ?_;rintro en w' ⟨e1,rfl⟩;have mR:(aJ.toList.take (i*sz)++ea.toList.take sz).length=(i+1)*sz:=by
     simp only[be,aO,gf];omega
    refine HP (w0:=w) rfl e1 kT CF dM ?_ hb rfl rfl rfl ?_
    .simp only[cL,be,aO,jY,gf];omega
    .show List.take _ (aJ.toList.take (i*sz)++ea.toList.take sz++_)=_
     rw[rT mR];simp
set_option maxHeartbeats 4000000 in
theorem Lk(L:HO P ρ sz Lf z){N:Nat}{ps:List Nat}{aB:Array Oper}{p:Nat}{c:aM}{o:Oper}{fo s x y:Operand}{ts:Array TypeId}{d b b2 n:Nat}{i:Nat}{ae JC:ak}{row:List AV}
  (ho:aB[p]?=some o)(cq:o.op=.call {callee:=.value fo,args:=#[s,x,y],argTypes:=ts})(hd:o.dst=some d)(hg:gX o=true)(hf:j8 c fo=.func (ρ.f 22) [])
  (hs:j8 c s=.bn b sz n)(hx:j8 c x=.int .i64 i)(hy:j8 c y=.bn b2 sz 1)(hb:aK c.O b=some ae)(Fx:aK c.O b2=some JC)(dW:Nat.beq b b2=false)
  (uB:ae.aa.length=n)(H2:ae.sz=sz)(qv:ae.e=ρ.t 9)(hbn:ae.fF=[])(hk:Mg ae.kd=true)(h2r:JC.aa=[row])(h2s:JC.sz=sz)(SN:JC.kd=.pure∨JC.kd=ae.kd)
  (hi:i<=n)(wI:(n+1)*Lf<=140737488355328)(UJ:n+1<=maxLen)(hdN:fg N c (some d)=true)(jF:eP (16*d) c=true):
  BN P N ps aB p c (λc'=>c'=⟨(d,.bn (16*d) sz (n+1))::c.fr,di (16*d) {e:=ρ.t 9,sz:=sz,kd:=ae.kd,aa:=ae.aa.take i++[row]++ae.aa.drop i} (iC b c.O)⟩):=by
 rintro E a w Q hN hp ⟨K,h⟩;have dW:b≠b2:=λe=>by subst e;simp at dW
 have az:=fh (c:=c) h;obtain⟨f1,f2,f3⟩:=jq jF;have yv:=fD jF;have agR:(aK c.O b).isSome=true:=by rw[hb];rfl
 obtain⟨K1,LH,iF,lS⟩:=h.rename yv hb f1 f2 f3;obtain⟨cv,ef,Ni,_⟩:=VR.fJ (az.at hf);have Y7:cv=#[]:=yG (by simpa using Ni.symm);subst Y7;have ev:a.eval x=.int .i64 i:=by have:=az.at hx;cases hh:a.eval x<;>rw[hh]at this<;>cases this;rfl
 have cP:=h.aa b ae hb;rw[H2]at cP;have xW:=h.aa b2 JC Fx;have Ec:row.length=sz:=by rw[<-h2s];exact xW row (by rw[h2r];simp)
 rcases VR.c9 (az.at hy)with⟨_,h0,_⟩|⟨gv,vc,ea,ve,mv,hKv,_,eV,Y7,CG,hvm,hvz⟩
 .cases h0
 rcases h.own b2 JC Fx with⟨k1,_⟩|⟨g',k1,ang,M1,huv⟩
 .rw[hKv]at k1;cases k1
 have alY:=aU hKv;rw[hKv]at k1;injection k1 with k1;injection k1 with k1 k2;injection k1 with k1;subst k1
 replace M1:=M1.nX Y7;rw[Y7]at M1;injection M1 with M1;injection M1 with q1 q2;subst q1
 have n9:sz<=ea.size:=by
  have:=gR sz CG;omega
 have toR:∀(kd Wf:Kd)(u:AV)(y:Value),Mg Wf=true->(kd=.pure∨kd=Wf)->VR w (uN kd (XX E K c.O)) (zD kd K) u y->VR w (uN Wf (XX E K c.O)) K0 u y:=by
  intro kd Wf u y h1 h2 hv
  rcases h2 with rfl|rfl
  .cases Wf with
   |pure=>exact hv
   |flat=>exact VR.sub hv λ_ _ _=>trivial
   |any=>cases h1
   |map _ _=>cases h1
  .cases kd with
   |pure=>exact hv
   |flat=>exact hv
   |any=>cases h1
   |map _ _=>cases h1
 have hZ2:wi (λu y=>y.oneCell'=true/\VR w (uN ae.kd (XX E K c.O)) K0 u y) row (ea.toList.take sz):=by
  refine⟨by rw[Ec,aO,gf,rS n9],λj u y hu hy=>?_⟩;obtain⟨y',J1,wJ,pV⟩:=huv j u (by rw[h2r];simpa using hu);rw[bQ]at hy
  split at hy
  .have:y'=y:=by
    have:ea[j]?=some y:=by simpa using hy
    rw[J1]at this;injection this
   subst this;exact⟨wJ,toR _ _ _ _ hk SN pV⟩
  .cases hy
 have hA:∃(own:Option Nat)(aJ:Array Value),((own=none/\n=0/\a.eval s=.slice none 0 0)∨∃b' c',own=some b'/\a.eval s=.slice (some ⟨b',0,none⟩) n c'/\n<=c'/\c'<=maxLen/\c'*sz=aJ.size/\gv≠b'/\w.heap[b']?=some (.cells aJ (ρ.t 9) (0,0)))/\
   wi (λu y=>y.oneCell'=true/\VR w (uN ae.kd (XX E K c.O)) K0 u y) ae.aa.flatten (aJ.toList.take (n*sz))/\aG K b=own:=by
  rcases VR.c9 (az.at hs)with⟨hK,hz,e1⟩|⟨g0,cap,aJ,e0,m,hK,nu,e1,hc,l4,hm,dL⟩
  .have wH:ae.aa=[]:=bE (by omega)
   refine⟨none,#[],.inl ⟨rfl,hz,e1⟩,⟨by rw[wH];simp,λj u y hu=>by rw[wH]at hu;simp at hu⟩,by simp[aG,hK]⟩
  .rcases h.own b ae hb with⟨k1,_⟩|⟨g',k1,dw,fw,hu⟩
   .rw[hK]at k1;cases k1
   .have Fz:=hK
    rw[hK]at k1;injection k1 with k1;injection k1 with k1 k2;injection k1 with k1;subst k1
    replace fw:=fw.nX hc;rw[hc]at fw;injection fw with fw;injection fw with h1 h2;subst h1
    have dM:n*sz<=aJ.size:=by rw[<-dL];exact gR _ l4
    refine⟨some g0,aJ,.inr ⟨g0,cap,rfl,e1,l4,hm,dL,λe=>?_,by rw[hc,h2,qv]⟩,⟨by rw[bD cP,uB,aO,gf,rS dM],λj u y hju hy=>?_⟩,aU Fz⟩
    .subst e
     exact dW (h.inj b b2 _ (by simp[hb]) (by simp[Fx]) (aU Fz) alY)
    .obtain⟨y',J1,wJ,pV⟩:=hu j u hju
     rw[bQ]at hy
     split at hy
     .have:y'=y:=by
       have:aJ[j]?=some y:=by simpa using hy
       rw[J1]at this;injection this
      subst this;exact⟨wJ,toR _ _ _ _ hk (.inr rfl) pV⟩
     .cases hy
 obtain⟨own,aJ,agS,hZ1,gz⟩:=hA;have WY:∀{us:List AV}{cs:List Value},wi (λu y=>y.oneCell'=true/\VR w (uN ae.kd (XX E K c.O)) K0 u y) us cs->∀v∈cs,v.oneCell'=true:=by
  intro us cs hz v hv;obtain⟨j,hj⟩:=fQ hv;have so:=(aE.1 hj).1;exact(hz.2 j _ v (aW (by rw[hz.1];exact so)) hj).1
 have Z9:=M0 L own (a.eval s) n i gv vc aJ ea ve w hi wI UJ agS (WY hZ1) Y7 n9 (WY hZ2);unfold wpOp;rw[ho];simp only;have tZ:o.guard=none:=by unfold gX at hg;split at hg<;>first|assumption|cases hg
 rw[if_pos (dS tZ)]
 left
 unfold Oper.wp;obtain⟨nm,tg,nu,UI⟩:=L.f22;have Ck:(execOp a.eval o).run P w=.ok (.enter (ρ.f 22) #[a.eval s,.int .i64 i,.slice (some ⟨gv,0,none⟩) 1 vc]) w:=by
  simp only[execOp,cq,resolve,ef,Deferred.ofValue,Sem.run_bind,Sem.run_pure,Result.andThen_ok,invoke,callFunc,run_program];simp[UI,nu,ev,eV];intro Fy;have mj:(Body2.n22 ρ).body.isNone=false:=by kernel_rfl
  rw[Fy]at mj;cases mj
 rw[Ck,Oper.upon_enter];refine Z9.mono ?_;rintro en w1 ⟨g',cap,dw,rfl,l4,CF,dM,fw,tZ,oe,lq⟩;obtain⟨nb,NW⟩:∃nb:ak,nb={e:=ρ.t 9,sz:=sz,kd:=ae.kd,aa:=ae.aa.take i++[row]++ae.aa.drop i}:=⟨_,rfl⟩;have Gj:aG K1 (16*d)=own:=by rw[<-gz];unfold aG;rw[iF]
 have dB:(aK (di (16*d) ae (iC b c.O)) (16*d)).isSome=true:=by rw[ba,if_pos rfl];rfl
 have cY:Step (λr=>(aK (di (16*d) ae (iC b c.O)) (16*d)).isSome=true/\aG K1 (16*d)=some r) w w1:=
  ⟨⟨oe.size,λg hg XE=>oe.block g hg λtV=>XE ⟨dB,by rw[Gj];exact tV⟩,oe.shape⟩,oe.os,oe.tape,oe.output⟩
 have hO1:∀i y,aK (di (16*d) ae (iC b c.O)) i=some y->i≠16*d->y.kd=.any->cw (16*d) y.aa=false:=by
  intro i y hi ou hk;rw[ba,kf,if_neg (λe=>ou e.symm)]at hi
  by_cases e2:b=i
  .rw[if_pos e2]at hi;cases hi
  .rw[if_neg e2]at hi;exact f3 i y hi hk
 have N4:w.heap.size<=g'∨((aK (di (16*d) ae (iC b c.O)) (16*d)).isSome=true/\aG K1 (16*d)=some g'):=by
  rcases tZ with tZ|tZ
  .exact .inl tZ
  .exact .inr ⟨dB,by rw[Gj];exact tZ⟩
 have wq:i<=ae.aa.length:=by omega
 have It:∀r∈nb.aa,r.length=nb.sz:=by
  subst NW;intro r hr;have hr:r∈ae.aa.take i++[row]++ae.aa.drop i:=hr
  rcases cE.1 hr with hr|hr
  .rcases cE.1 hr with hr|hr
   .exact cP r (my hr)
   .rw[iw.1 hr];exact Ec
  .exact cP r (uE hr)
 have nt:nb.aa.flatten=ae.aa.flatten.take (i*sz)++row++ae.aa.flatten.drop (i*sz):=by
  subst NW
  show(ae.aa.take i++[row]++ae.aa.drop i).flatten=_
  rw[lA,lA,oT cP wq,sr cP wq];simp
 have ny:nb.aa.length=n+1:=by
  subst NW
  show(ae.aa.take i++[row]++ae.aa.drop i).length=_
  simp;omega
 have hZ:wi (λu y=>y.oneCell'=true/\VR w (uN ae.kd (XX E K c.O)) K0 u y) nb.aa.flatten (dw.toList.take ((n+1)*sz)):=by
  rw[nt,lq];have e1:(aJ.toList.take (n*sz)).take (i*sz)=aJ.toList.take (i*sz):=by
   rw[List.take_take,rS (gR _ hi)]
  have e2:(aJ.toList.take (n*sz)).drop (i*sz)=(aJ.toList.drop (i*sz)).take ((n-i)*sz):=by
   rw[List.drop_take,Nat.sub_mul]
  have h1:=hZ1.take (i*sz);have h2:=hZ1.drop (i*sz);rw[e1]at h1;rw[e2]at h2;exact(h1.app hZ2).app h2
 have hX:∀g,g<w.heap.size->XX E (pU K1 (16*d) (some g',nb.aa.length)) (di (16*d) nb (di (16*d) ae (iC b c.O))) g->XX E K c.O g:=by
  rintro g hgl (⟨i',ou,nI⟩|hx)
  .by_cases e:i'=16*d
   .subst e
    rw[iz]at nI;injection nI with nI;subst nI
    rcases tZ with tZ|tZ
    .omega
    .exact .inl ⟨b,agR,by rw[gz];exact tZ⟩
   .rw[bU _ _ e]at nI
    rw[ba,if_neg (λe'=>e e'.symm),ba,if_neg (λe'=>e e'.symm),kf]at ou
    split at ou
    .cases ou
    .refine .inl ⟨i',ou,?_⟩
     unfold aG at nI⊢;rw[<-LH i' e];exact nI
  .exact .inr hx
 have dR:dv (XX E K c.O) w w1:=cY.ad.mono λr _ hr=>.inl ⟨b,agR,by rw[gz,<-Gj];exact hr.2⟩
 have hB:l8 w1 (XX E (pU K1 (16*d) (some g',nb.aa.length)) (di (16*d) nb (di (16*d) ae (iC b c.O)))) (pU K1 (16*d) (some g',nb.aa.length)) g' nb:=by
  have hkn:nb.kd=ae.kd:=by subst NW;rfl
  have hen:nb.e=ρ.t 9:=by subst NW;rfl
  refine⟨dw,aV.mk (λag st h'=>by rw[hkn]at h';rw[h']at hk;cases hk) (by rw[hen];exact fw),λj u hj=>?_⟩;have so:=(aE.1 hj).1;rw[hZ.1]at so;obtain⟨y,hy⟩:∃y,(dw.toList.take ((n+1)*sz))[j]?=some y:=⟨_,aW so⟩;obtain⟨wJ,pV⟩:=hZ.2 j u y hj hy;rw[bQ]at hy
  split at hy
  .refine⟨y,by simpa using hy,wJ,?_⟩
   rw[hkn]
   cases fZ:ae.kd with
   |pure=>rw[fZ]at pV;exact VR.ad pV (dR.mono λ_ _ _=>trivial) (λ_ _ _=>trivial) λ_ _=>rfl
   |flat=>rw[fZ]at pV;exact VR.ad pV dR (λr hr hx=>hX r hr hx) λ_ _=>rfl
   |any=>rw[fZ]at hk;cases hk
   |map _ _=>rw[fZ]at hk;cases hk
  .cases hy
 have uz:=lS.rebind yv (b:=16*d) (g:=g') (ae:=nb) cY f2 hO1 N4 It hB;have U3:fg E.N ⟨c.fr,di (16*d) nb (di (16*d) ae (iC b c.O))⟩ o.dst=true:=by rw[hd,hN];exact hdN
 have hp:=uz.put (dst:=o.dst) (u:=.bn (16*d) sz (n+1)) (v:=.slice (some ⟨g',0,none⟩) (n+1) cap) U3 λ_ _=>FV.of (.bn (dF _ _ _) (by omega) (by rw[show(ρ.t 9)=nb.e from by subst NW;rfl]at fw;exact fw) l4 CF dM)
 refine⟨_,rfl,pU K1 (16*d) (some g',nb.aa.length),?_⟩;rw[hd]at hp⊢;rw[<-NW];refine hp.uS (λt=>.inl rfl) λi' x' ou=>?_
 rw[ba]at ou⊢
 by_cases e:16*d=i'
 .rw[if_pos e]at ou⊢;exact ou
 .rw[if_neg e]at ou⊢;rw[ba,if_neg e];exact ou
end
end Go.an
