import Derived.Maps.RangeRun
import Derived.Test.YtpfmbblnhjpclaaGreatDoorJ17
import Derived.Lib.ConvBytes
import Derived.Test.YtpfmbblnhjpclaaGreatDoorJ24
set_option linter.unusedVariables false
set_option linter.unusedSimpArgs false
set_option maxRecDepth 20000
namespace Go.an
open Go.RowKit
open Go.ChangeMaps (setBlock)
structure jO(w:World)(g:Nat)(es:Array MapEntry)(l:List (Int×Int)):Prop where
 obj:w.heap[g]?=some (.map es es.size)
 born:∀(i:Nat) e,es[i]?=some e->e.born=i
 FO:es.toList.map (λe=>(e.key,e.val))=l.map λx=>(Value.int .i64 x.1,Value.int .i64 x.2)
theorem jO.of_eq{w w':World}{g:Nat}{es:Array MapEntry}{l:List (Int×Int)}(h:jO w g es l)(e:w'.heap[g]?=w.heap[g]?):jO w' g es l:=⟨e.trans h.obj,h.born,h.FO⟩
theorem jO.YY{w:World}{g:Nat}{es:Array MapEntry}{l:List (Int×Int)}(h:jO w g es l){e:MapEntry}(he:e∈es.toList):∃x∈l,e.key=.int .i64 x.1/\e.val=.int .i64 x.2:=by
 have:(e.key,e.val)∈es.toList.map (λe=>(e.key,e.val)):=cK.2 ⟨e,he,rfl⟩;rw[h.FO]at this;obtain⟨x,hx,e1⟩:=cK.1 this;injection e1 with e1 e2
 exact⟨x,hx,e1.symm,e2.symm⟩
theorem jO.mem_of{w:World}{g:Nat}{es:Array MapEntry}{l:List (Int×Int)}(h:jO w g es l){x:Int×Int}(hx:x∈l):∃e∈es.toList,e.key=.int .i64 x.1/\e.val=.int .i64 x.2:=by
 have:(Value.int .i64 x.1,Value.int .i64 x.2)∈l.map λx=>(Value.int .i64 x.1,Value.int .i64 x.2):=cK.2 ⟨x,hx,rfl⟩
 rw[<-h.FO]at this;obtain⟨e,he,e1⟩:=cK.1 this;injection e1 with e1 e2
 exact⟨e,he,e1,e2⟩
theorem jO.ow{w:World}{g:Nat}{es:Array MapEntry}{l:List (Int×Int)}(h:jO w g es l):∀x∈es.toList,x.born<es.size:=by
 intro x hx;obtain⟨i,hi⟩:=fQ hx;have ou:es[i]?=some x:=by simpa using hi
 rw[h.born i x ou];exact(bd.1 ou).1
theorem KG{w:World}{X:Nat->Prop}{K:KM}:∀(l:List (Int×Int))(E:List MapEntry),(∀e∈E,(j6 e).length=2)->(∀e∈E,¬∃vs,e.val=.agg vs)->(E.map j6).flatten.length=(l.map λx=>[AV.int .i64 x.1,.int .i64 x.2]).flatten.length->
  (∀(j:Nat) u c,(l.map λx=>[AV.int .i64 x.1,.int .i64 x.2]).flatten[j]?=some u->(E.map j6).flatten[j]?=some c->VR w X K u c)->E.map (λe=>(e.key,e.val))=l.map λx=>(Value.int .i64 x.1,Value.int .i64 x.2)
 |[],[],_,_,_,_=>rfl
 |[],e::E,h2,_,hl,_=>by
  have:=h2 e (by simp);simp at hl;rw[hl.1]at this;simp at this
 |x::l,[],h2,_,hl,_=>by simp at hl
 |x::l,e::E,h2,ha,hl,hv=>by
  have dW:=ha e (by simp);have he:j6 e=[e.key,e.val]:=by
   unfold j6
   cases nv:e.val with
   |agg vs=>exact absurd ⟨vs,nv⟩ dW
   |_=>rfl
  simp only[cU,iH,he]at hl hv;have v0:=hv 0 _ _ rfl rfl;have v1:=hv 1 _ _ rfl rfl;have k0:e.key=.int .i64 x.1:=by cases hk:e.key<;>rw[hk]at v0<;>cases v0;rfl
  have k1:e.val=.int .i64 x.2:=by cases hk:e.val<;>rw[hk]at v1<;>cases v1;rfl
  have ih:=KG l E (λe' h=>h2 e' (by simp[h])) (λe' h=>ha e' (by simp[h])) (by simpa using hl) λj u c hu hc=>hv (j+2) u c (by simpa using hu) (by simpa using hc)
  simp only[cU,ih,k0,k1]
abbrev YZ(l:List (Int×Int)):AV:=.iB false false 2 (l.map λx=>[AV.int .i64 x.1,.int .i64 x.2])
theorem PJ{w:World}{X:Nat->Prop}{K:KM}{l:List (Int×Int)}{v:Value}(h:VR w X K (YZ l) v):∃g es,v=.map (some g)/\g<w.heap.size/\¬X g/\jO w g es l:=by
 obtain⟨g,e,h1,h2,h3,cs,⟨es,h4,h5⟩,h6,h7,h8⟩:=VR.zL h;refine⟨g,es,e,h1,h2,h4,h5.born,?_⟩;have hc:=h5.cells;subst hc;refine KG l es.toList h5.len (λe he hx=>?_) h6 h8;have:=(h5.agg e he).1 hx
 cases this
section
variable{P:Program} {T:dD} {E:Env} {K:KM} {c:aM} {a:Act} {w:World} {aB:Array Oper} {o:Oper} {Q:Exit->Act->World->Prop} {K':Act->World->Prop} {p d:Nat}
theorem I6(hs:bC E K c a w)(ho:aB[p]?=some o){t:TypeId}{x:Operand}(cq:o.op=.range t x)(hg:o.guard=none)(hd:o.dst=some d)(Nu:fg E.N c (some d)=true){k e:TypeId}(ht:P.underlying t=some (.map k e)){l:List (Int×Int)}(hx:j8 c x=YZ l)
  (h:∀r g es a' w',bC E K ⟨(d,.lit (.pointer (some ⟨r,0,none⟩)))::c.fr,c.O⟩ a' w'->E.w0.heap.size<=r->¬XX E K c.O g->w'.heap[r]?=some (.mapIter (some g) es.size #[] es.size)->jO w' g es l->K' a' w'):wpOp P aB Q p K' a w:=by
 obtain⟨g,es,ev,h1,h2,hE⟩:=PJ ((fh hs).at hx);refine jG (v:=.pointer (some ⟨w.heap.size,0,none⟩)) (w':=w.alloc (.mapIter (some g) es.size #[] es.size)) ho (dS hg) ?_ ?_
 .have hr:=run_range_map w t k e g es es.size ht hE.obj
  simp only[execOp,cq,ev,Sem.run_bind,hr,Result.andThen_ok,Sem.run_pure]
 .have lS:bC E K c a (w.alloc (.mapIter (some g) es.size #[] es.size)):=hs.vG (qo.alloc w _ hs.ext.size)
  rw[hd];exact h w.heap.size g es _ _ (lS.put (dst:=some d) (u:=.lit _) Nu λ_ _=>FV.of .lit) hs.ext.size h2 (iN w _) (hE.of_eq (Below.heap_alloc w _ g h1))
theorem yZ{X:Nat->Prop}{v u:Value}(h:VR w X K (.lit v) u):u=v:=by cases h;rfl
theorem Mt(hs:bC E K c a w)(ho:aB[p]?=some o){x:Operand}(cq:o.op=.next x false)(hg:o.guard=none)(hd:o.dst=some d)(Nu:fg E.N c (some d)=true){l:List (Int×Int)}{r g c0:Nat}{es:Array MapEntry}{seen:Array Nat}(hx:j8 c x=.lit (.pointer (some ⟨r,0,none⟩)))
  (wH:E.w0.heap.size<=r)(hr:w.heap[r]?=some (.mapIter (some g) es.size seen c0))(hE:jO w g es l)(hc:es.size<=c0)
  (h0:∀a',(∀e∈es.toList,seen.contains e.born=true)->bC E K ⟨(d,.bY [.bool false])::c.fr,c.O⟩ a' w->K' a' w)
  (h1:∀e x a' w',e∈es.toList->x∈l->e.key=.int .i64 x.1->e.val=.int .i64 x.2->bC E K ⟨(d,.bY [.bool true,.int .i64 x.1,.int .i64 x.2])::c.fr,c.O⟩ a' w'->w'.heap[r]?=some (.mapIter (some g) es.size (seen.push e.born) es.size)->jO w' g es l->(leftOf es (seen.push e.born)).size< (leftOf es seen).size->K' a' w'):wpOp P aB Q p K' a w:=by
 have ev:=yZ ((fh hs).at hx);have dW:g≠r:=by rintro rfl;rw[hE.obj]at hr;cases hr
 rcases run_next_at (P:=P) w o.type r g es.size c0 seen es es.size hr hE.obj hE.ow hc with⟨n0,Ck⟩|⟨e,he,w1,EL,Ck⟩
 .refine jG (v:=.tuple #[.bool false]) (w':=w) ho (dS hg) ?_ ?_
  .simp only[execOp,cq,ev,Sem.run_bind,Ck,Result.andThen_ok,Sem.run_pure]
  .rw[hd]
   exact h0 _ (all_seen es seen n0) (hs.put (dst:=some d) Nu λ_ _=>FV.of (.bY (by simp) λj u c hu hc=>by
    cases j with
    |zero=>simp at hu hc;subst hu;subst hc;exact .bool
    |succ j=>simp at hu))
 .refine jG (v:=.tuple #[.bool true,e.key,e.val]) (w':=setBlock w1 r (.mapIter (some g) es.size (seen.push e.born) es.size)) ho (dS hg) ?_ ?_
  .simp only[execOp,cq,ev,Sem.run_bind,Ck,Result.andThen_ok,Sem.run_pure]
  .obtain⟨hem,_⟩:=mem_left he
   obtain⟨x,hx,k1,k2⟩:=hE.YY hem;have LC:AR (.mapIter (some g) es.size seen c0)=true:=by
    have:=hE.ow e hem
    show(!Nat.beq es.size 0)=true
    cases h:es.size with
    |zero=>omega
    |succ n=>rfl
   have Y0:w1.heap=w.heap:=by rcases EL with rfl|rfl<;>rfl
   have ajQ:=(bd.1 hr).1;have xK:(setBlock w1 r (.mapIter (some g) es.size (seen.push e.born) es.size)).heap[r]?=some (.mapIter (some g) es.size (seen.push e.born) es.size):=by
    simp only[setBlock,Y0];simp[ajQ]
   have PK:∀i,i≠r->(setBlock w1 r (.mapIter (some g) es.size (seen.push e.born) es.size)).heap[i]?=w.heap[i]?:=by
    intro i hi;simp only[setBlock,Y0];rw[hU (Ne.symm hi)]
   have tV:qo E.w0.heap.size w (setBlock w1 r (.mapIter (some g) es.size (seen.push e.born) es.size)):=by
    refine⟨by rcases EL with rfl|rfl<;>rfl,by rcases EL with rfl|rfl<;>rfl,by rcases EL with rfl|rfl<;>rfl,by simp[setBlock,Y0],λi o' q1 q2=>?_,λi hi=>PK i (by omega)⟩;rw[PK i]
    .exact q1
    .rintro rfl;rw[hr]at q1;cases q1;rw[LC]at q2;cases q2
   rw[hd];have lS:=(hs.vG tV).put (dst:=some d) (u:=.bY [.bool true,.int .i64 x.1,.int .i64 x.2]) (v:=.tuple #[.bool true,e.key,e.val]) Nu λ_ _=>FV.of (.bY (by simp) λj u c hu hc=>by
    match j with
    |0=>simp at hu hc;subst hu;subst hc;exact .bool
    |1=>simp at hu hc;subst hu;subst hc;rw[k1];exact .int
    |2=>simp at hu hc;subst hu;subst hc;rw[k2];exact .int
    |j+3=>simp at hu)
   exact h1 e x _ _ hem hx k1 k2 lS xK (hE.of_eq (PK g dW)) (left_shrinks es seen e he)
theorem xZ(h:bC E K c a w){r:Nat}{m:Option Nat}{s t:Nat}{seen:Array Nat}(hr:w.heap[r]?=some (.mapIter m s seen t)):¬bH K c.O r:=by
 rintro⟨b,hb,hk⟩;obtain⟨x,hx⟩:=bF.1 hb
 rcases h.own b x hx with⟨h1,_⟩|⟨g',h1,aJ,hc,_⟩
 .rw[show aG K b=none from by simp[aG,h1]]at hk;cases hk
 .rw[aU h1]at hk;injection hk with hk;subst hk
  unfold aV at hc
  split at hc
  .obtain⟨_,_,es,hm⟩:=hc
   have:=hm.obj;rw[hr]at this;cases this
  .rw[hr]at hc;cases hc
theorem PL{N:Nat}{ks wk ps:List Nat}{gs:List (Nat×List Nat)}(hT:br P T)(h1:bW T=true)(hN:E.N=N)(hm:P.follows .mixedOrders=true)(hp:∀b,bm b ps=false->E.gK b=none){code:Code}{Q:Ex->aM->Prop}{Q':Exit->Act->World->Prop}{l:List (Int×Int)}{r g c0 since:Nat}{es:Array MapEntry}{seen:Array Nat}
  (hd:cr code=true)(h:mY P T N ks gs wk ps code c Q)(hs:bC E K c a w)(hr:w.heap[r]?=some (.mapIter (some g) since seen c0))(hE:jO w g es l)(hg:¬bH K c.O g)
  (hQ:∀e c a' w',Q e c->SR E c a' w'->w'.heap[r]?=some (.mapIter (some g) since seen c0)->jO w' g es l->Q' e.jj a' w'):code.wp P Q' a w:=by
 refine cD (E:=E.at K c.O w hs.ext hs.fI) hT h1 hN hm hp code c Q Q' a w hd h (λe c' a' w' hq ⟨K',eh⟩=>?_) ⟨K,hs.start⟩;have hx:=eh.ext;exact hQ e c' a' w' hq ⟨K',eh.CZ⟩ ((hx.block r (bd.1 hr).1 (xZ hs hr)).trans hr) (hE.of_eq (hx.block g (bd.1 hE.obj).1 hg))
end
end Go.an
namespace Go.an
open Go.RowKit Go.Lib
section
variable{P:Program} {E:Env} {K:KM} {c:aM} {a:Act} {w wO w':World} {aB:Array Oper} {o:Oper} {Q:Exit->Act->World->Prop} {K':Act->World->Prop} {p d:Nat}
def G9(E:Env)(K:KM)(c:aM)(a:Act)(w:World):Prop:=∀w',qo E.w0.heap.size w w'->bC E K c a w'
theorem G9.of(h:bC E K c a w):G9 E K c a w:=λ_ ho=>h.vG ho
theorem G9.ev(h:G9 E K c a wO){x:Operand}{v:Value}(hx:j8 c x=.lit v):a.eval x=v:=yZ ((fh (h wO (qo.refl _ _))).at hx)
theorem pO(h:G9 E K c a wO)(ho:aB[p]?=some o)(hg:o.guard=none)(hd:o.dst=some d)(Nu:fg E.N c (some d)=true){v:Value}(Ck:(execOp a.eval o).run P w=.ok (.value v) w')(hk:∀a',G9 E K ⟨(d,.lit v)::c.fr,c.O⟩ a' wO->K' a' w'):wpOp P aB Q p K' a w:=
 jG ho (dS hg) Ck (by rw[hd];exact hk _ λw2 h2=>(h w2 h2).put (dst:=some d) (u:=.lit v) Nu λ_ _=>FV.of .lit)
theorem PM(h:G9 E K c a wO)(ho:aB[p]?=some o)(hg:o.guard=none)(hd:o.dst=none)(Ck:(execOp a.eval o).run P w=.ok .skip w')(hk:K' a w'):wpOp P aB Q p K' a w:=
 Mc ho (dS hg) Ck (by rw[hd];exact hk)
theorem bC.Y1{fr:List (Nat×AV)}{O:List (Nat×ak)}{v:Value}{u:AV}(h:bC E K ⟨(d,.lit v)::fr,O⟩ a w)(hu:VR w (XX E K O) K u v):bC E K ⟨(d,u)::fr,O⟩ a w:=by
 refine⟨h.size,h.defers,h.ext,λr=>?_,h.aa,h.own,h.inj,h.fI,h.gK⟩;have hr:=h.fr r;simp only[lk]at hr⊢
 split
 .rename_i e
  rw[e]at hr;have hr:VR w (XX E K O) K (.lit v) _:=hr;rw[yZ hr];exact FV.of hu
 .rename_i e
  rw[e]at hr;exact hr
theorem Mu{B:Nat}(w:World)(e:TypeId)(s:ByteArray)(hB:B<=w.heap.size):qo B w (bytesWorld w e s):=
 ⟨by simp[bytesWorld,World.freeze];rfl,by simp[bytesWorld,World.freeze],by simp[bytesWorld,World.freeze];rfl,by rw[bytesWorld_size];omega,λg o h _=>(bytesWorld_at_old w e s g (bd.1 h).1).trans h,λg hg=>bytesWorld_at_old w e s g (by omega)⟩
theorem B7{B:Nat}(w:World)(e:TypeId)(s:ByteArray)(i:Nat)(v:Value)(hB:B<=w.heap.size):qo B w ((bytesWorld w e s).setCell ⟨w.heap.size,i,none⟩ v):=by
 have h:=Mu (B:=B) w e s hB;refine⟨h.os,h.tape,h.output,by simpa using h.size,λg o hg hn=>?_,λg hg=>?_⟩
 .have:=(bd.1 hg).1
  rw[Below.heap_setCell _ _ _ _ (by show g≠w.heap.size;omega)];exact h.data g o hg hn
 .rw[Below.heap_setCell _ _ _ _ (by show g≠w.heap.size;omega)]
  exact h.low g hg
end
end Go.an
namespace Go.an.ax.G
open Go Go.an Go.Proofs Go.RowKit Go.Lib
theorem Y2{P:Program}{name:String}{w:World}(hg:P.globalNamed name=some 1)(h:WI w):TabIs P w name .u64 pow10Tab:=by
 obtain⟨_,t,s,h⟩:=h;unfold TabIs World.var?;rw[hg];simp only[Option.bind_some,h]
theorem I7{w:World}(k:Nat)(os:Array Obj):Below w.heap.size w (Go.Sort.grow (w.drewN k) os):=by
 refine⟨rfl,rfl,rfl,?_,λg hg=>?_⟩
 .simp[Go.Sort.grow,World.drewN]
 .simp only[Go.Sort.grow,World.drewN]
  rw[D1 hg]
theorem ajR(s:ByteArray)(n:Nat)(hn:s.size*n<=100000)(RC:n<=100000):Fn kg 327 [.str s,I n] (.str ⟨(repeatL s.data.toList n).toArray⟩):=by
 refine⟨⟨_,Tryz.func327,by kernel_rfl,by kernel_rfl⟩,λX w vs hw hl hv=>?_⟩;have hs:vs=#[.string s,.int .i64 n]:=by
  obtain⟨l⟩:=vs
  match l,hl with
  |[x,y],_=>
   have h0:=hv 0 _ x rfl rfl;have h1:=hv 1 _ y rfl rfl
   cases h0
   cases h1
   rfl
 subst hs;refine(Any.strings_Repeat Tryz.TO Tryz.I5 s n w (by omega) (by omega)).mono ?_;rintro e w' ⟨rfl,hb⟩;exact⟨_,rfl,.str,hb⟩
noncomputable abbrev vP:Code:=body Tryz.f282
noncomputable abbrev Y3:Array Oper:=(dU 1 vP).pop.pop
noncomputable abbrev PN:Oper:=((dU 1 vP)[13]?).getD default
noncomputable abbrev PO:Oper:=((dU 1 vP)[14]?).getD default
noncomputable abbrev yC(i:Nat):Oper:=((dU 2 vP)[i]?).getD default
abbrev pP(s:List Int)(t:ByteArray)(n:Int):AV:=.aw (Us s++[.str t,I n]) 0
def lY(t:ByteArray):ByteArray:=t++⟨#[6]⟩++⟨(repeatL [0] (135-t.size)).toArray⟩
abbrev PQ:List Nat:=[0,2,3,4,5,6,19,33,34]
theorem ajS(s:Ln 25)(t:ByteArray)(n:Int)(ht:t.size<=135):cZ true Tryz.prog tt 51 [] Y3 ⟨⟨[(0,pP s.1 t n)],[]⟩,[],[]⟩ 0 Y3.toList ⟨[(0,pP s.1 t n)],[]⟩ (λc=>aj [] c ⟨[(19,.str (lY t)),(0,pP s.1 t n)],[]⟩):=by
 obtain⟨a0,a1,a2,a3,a4,a5,a6,a7,a8,a9,om,nz,a12,p8,p9,pb,qa,a17,qb,qc,a20,a21,a22,a23,a24,ha⟩:=fP s.2;rw[ha];have h1:(t++(⟨#[6]⟩:ByteArray)).size=t.size+1:=by rw[zv];rfl
 have h2:(⟨(repeatL [0] (135-t.size)).toArray⟩:ByteArray).size=135-t.size:=by
  show(repeatL [0] (135-t.size)).toArray.size=_
  rw[cL,repeatL_length];simp
 refine⟨by show t.size+1<=_;omega,_,au (y:=((135-t.size:Nat):Int)) (by omega),_,ajR ⟨#[0]⟩ (135-t.size) (by show 1*_<=_;omega) (by omega),?_,aj.ad [19,0] []⟩
 show(t++(⟨#[6]⟩:ByteArray)).size+(⟨(repeatL [0] (135-t.size)).toArray⟩:ByteArray).size<=_
 rw[h1,h2];omega
def Qm(c0:aM):Ex->aM->Prop
 |.normal,c=>aj [] c c0
 |_,_=>False
theorem A8(t:ByteArray)(ht:t.size<=135):(lY t).size=136:=by
 unfold lY;rw[zv,zv]
 show t.size+1+(repeatL [0] (135-t.size)).toArray.size=_
 rw[cL,repeatL_length];simp;omega
def o3(t:ByteArray):Int:=((((lY t).data.toList.getD 135 0).toNat:Nat):Int)
def qd(t:ByteArray):List Int:=((lY t).data.toList.map λb=>((b.toNat:Nat):Int)).set 135 (bits .or .u8 (o3 t) 128)
theorem Dv(t:ByteArray)(ht:t.size<=135):(qd t).length=136:=by
 have:=A8 t ht;simp only[qd,zt,gB,gf];exact this
abbrev EP(g cap:Nat):Value:=.slice (some ⟨g,0,none⟩) 136 cap
abbrev A9(g:Nat):Value:=.pointer (some ⟨g,135,none⟩)
theorem PR{w:World}{g:Nat}{x y:Int}(hc:w.cell? ⟨g,135,none⟩=some (.int .u8 y))(hf:w.frozen? ⟨g,135,none⟩=false):(Instr.storeAt 5 (A9 g) (.int .u8 x)).run Tryz.prog w=.ok () (w.setCell ⟨g,135,none⟩ (.int .u8 x)):=by
 have h:=run_store Tryz.prog w ⟨g,135,none⟩ (.int .u8 x) .plain rfl;rw[hc,hf]at h;simp[Instr.storeAt,Instr.sureAddr,storeVar,Tryz.sizeOf5,Value.cells,storeCells,fK,h]
theorem ajT{E:Env}{Q:Exit->Act->World->Prop}(s:Ln 25)(t:ByteArray)(n:Int)(ht:t.size<=135)(hN:E.N=51)(ji:∀b,bm b []=false->E.gK b=none){a:Act}{w:World}(hs:SR E ⟨[(0,pP s.1 t n)],[]⟩ a w)
  (h:∀a w,SR E ⟨[(3,.aL 1 136 ((qd t).map λb=>[AV.int .u8 b])),(0,pP s.1 t n)],[]⟩ a w->(o0 3 vP).wp Tryz.prog Q a w):(o0 1 vP).wp Tryz.prog Q a w:=by
 rw[show o0 1 vP=.seq (.region 1 ((Y3.push PN).push PO) true) (.seq (.region 2 (dU 2 vP) false) (o0 3 vP))by kernel_rfl];refine wp_seq (pZ cC bZ hN mixed (by kernel_rfl) (by kernel_rfl) (by kernel_rfl) (by kernel_rfl) (by kernel_rfl) (ajS s t n ht) hs λc a w hc hs=>?_);obtain⟨K,hs⟩:=hc E a w ji hs;have hX:=A8 t ht;have ev:a.eval (.tmp 19)=.string (lY t):=VR.gD ((fh hs).at (x:=.tmp 19) rfl);have hA:=G9.of hs;have hB:=hs.ext.size;have Ck:=Go.Lib.run_convert_string_bytes (P:=Tryz.prog) w 9 202 5 (lY t) Tryz.underlying9 Tryz.underlying202 Tryz.underlying5;generalize iW:grownCap w (lY t).size 0 5=cap at Ck;rw[hX]at Ck;have TP:∃w2,w2=bytesWorld w 5 (lY t):=⟨_,rfl⟩;obtain⟨w2,TP⟩:=TP;rw[<-TP]at Ck;have cH:w2.cell? ⟨w.heap.size,135,none⟩=some (.int .u8 (o3 t)):=by rw[TP];exact bytesWorld_cell w 5 (lY t) 135 (by omega)
 have hfz:w2.frozen? ⟨w.heap.size,135,none⟩=false:=by
  rw[TP];simp only[World.frozen?,bytesWorld_at_new];have:136<=(bytesCells w 5 (lY t)).size:=by
   simp only[bytesCells,lB,Array.size_map];have:(lY t).data.size=136:=hX;omega
  simp;omega
 refine pO (d:=20) (v:=EP w.heap.size cap) (w':=w2) (o:=PN) hA Array.getElem?_push_size (by kernel_rfl) (by kernel_rfl) (by rw[hN];rfl) ?_ λa hA=>?_
 .have cq:PN.op=.convert 9 202 (.tmp 19):=by kernel_rfl
  simp only[execOp,cq,ev,Sem.run_bind,Ck,Result.andThen_ok,Sem.run_pure]
 refine pO (d:=3) (v:=EP w.heap.size cap) (w':=w2) (o:=PO) hA Array.getElem?_push_size (by kernel_rfl) (by kernel_rfl) (by rw[hN];rfl) ?_ λa hA=>?_
 .have cq:PO.op=.assign (.tmp 20):=by kernel_rfl
  simp only[execOp,cq,hA.ev (x:=.tmp 20) (v:=EP w.heap.size cap) rfl,Sem.run_pure]
 show Exit.then _ _ Exit.normal a w2
 refine wp_seq (wp_region ?_)
 show wpOps _ _ _ [0,1,2,3,4,5] _ _
 have SB:(Instr.indexAt 202 (EP w.heap.size cap) (.int .i64 135)).run Tryz.prog w2=.ok (A9 w.heap.size) w2:=by
  simp[Instr.indexAt,asIntOf,run_underlying Tryz.underlying202,Tryz.sizeOf5,fK]
 rw[wpOps_cons];refine pO (d:=21) (v:=EP w.heap.size cap) (w':=w2) (o:=yC 0) hA (by kernel_rfl) (by kernel_rfl) (by kernel_rfl) (by rw[hN];rfl) ?_ λa hA=>?_
 .have cq:(yC 0).op=.move (.tmp 3):=by kernel_rfl
  simp only[execOp,cq,hA.ev (x:=.tmp 3) (v:=EP w.heap.size cap) rfl,Sem.run_pure]
 rw[wpOps_cons];refine pO (d:=22) (v:=A9 w.heap.size) (w':=w2) (o:=yC 1) hA (by kernel_rfl) (by kernel_rfl) (by kernel_rfl) (by rw[hN];rfl) ?_ λa hA=>?_
 .have cq:(yC 1).op=.indexAddr 202 (.tmp 21) (.const (.int .i64 135)):=by kernel_rfl
  have h0:a.eval (.const (.int .i64 135))=.int .i64 135:=rfl;simp only[execOp,cq,hA.ev (x:=.tmp 21) (v:=EP w.heap.size cap) rfl,h0,Sem.run_bind,SB,Result.andThen_ok,Sem.run_pure]
 rw[wpOps_cons];refine pO (d:=23) (v:=.int .u8 (o3 t)) (w':=w2) (o:=yC 2) hA (by kernel_rfl) (by kernel_rfl) (by kernel_rfl) (by rw[hN];rfl) ?_ λa hA=>?_
 .have hl:(Instr.loadAt 5 (A9 w.heap.size)).run Tryz.prog w2=.ok (.int .u8 (o3 t)) w2:=by
   simp[Instr.loadAt,Instr.sureAddr,loadVar,Tryz.isAgg5,cH]
  have cq:(yC 2).op=.load 5 (.tmp 22):=by kernel_rfl
  simp only[execOp,cq,hA.ev (x:=.tmp 22) (v:=A9 w.heap.size) rfl,Sem.run_bind,hl,Result.andThen_ok,Sem.run_pure]
 rw[wpOps_cons];refine pO (d:=24) (v:=.int .u8 (bits .or .u8 (o3 t) 128)) (w':=w2) (o:=yC 3) hA (by kernel_rfl) (by kernel_rfl) (by kernel_rfl) (by rw[hN];rfl) ?_ λa hA=>?_
 .have cq:(yC 3).op=.binOp .or 5 (.tmp 23) (.const (.int .u8 128)) 5:=by kernel_rfl
  have h0:a.eval (.const (.int .u8 128))=.int .u8 128:=rfl;have hg:(eqGuard .or 5 (.tmp 23) (.const (.int .u8 128)) (.int .u8 (o3 t)) (.int .u8 128)).run Tryz.prog w2=.ok () w2:=by simp[eqGuard]
  have hb:(binOp .or 5 (.int .u8 (o3 t)) (.int .u8 128)).run Tryz.prog w2=.ok (.int .u8 (bits .or .u8 (o3 t) 128)) w2:=by simp[binOp,intBits_or]
  simp only[execOp,cq,hA.ev (x:=.tmp 23) (v:=.int .u8 (o3 t)) rfl,h0,Sem.run_bind,hg,hb,Result.andThen_ok,Sem.run_pure]
 rw[wpOps_cons];refine pO (d:=25) (v:=A9 w.heap.size) (w':=w2) (o:=yC 4) hA (by kernel_rfl) (by kernel_rfl) (by kernel_rfl) (by rw[hN];rfl) ?_ λa hA=>?_
 .have cq:(yC 4).op=.indexAddr 202 (.tmp 21) (.const (.int .i64 135)):=by kernel_rfl
  have h0:a.eval (.const (.int .i64 135))=.int .i64 135:=rfl;simp only[execOp,cq,hA.ev (x:=.tmp 21) (v:=EP w.heap.size cap) rfl,h0,Sem.run_bind,SB,Result.andThen_ok,Sem.run_pure]
 rw[wpOps_cons];refine PM (w':=w2.setCell ⟨w.heap.size,135,none⟩ (.int .u8 (bits .or .u8 (o3 t) 128))) (o:=yC 5) hA (by kernel_rfl) (by kernel_rfl) (by kernel_rfl) ?_ ?_
 .have cq:(yC 5).op=.store 5 (.tmp 25) (.tmp 24):=by kernel_rfl
  have cY:=PR (x:=bits .or .u8 (o3 t) 128) cH hfz;simp only[execOp,cq,hA.ev (x:=.tmp 25) (v:=A9 w.heap.size) rfl,hA.ev (x:=.tmp 24) (v:=.int .u8 (bits .or .u8 (o3 t) 128)) rfl,Sem.run_bind,cY,Result.andThen_ok,Sem.run_pure]
 show Exit.then _ _ Exit.normal a _
 rw[TP];have hO:=B7 (B:=E.w0.heap.size) w 5 (lY t) 135 (.int .u8 (bits .or .u8 (o3 t) 128)) hB;have hS:=hA _ hO;refine h a _ ?_;have hS2:bC E K ⟨[(3,.lit (EP w.heap.size cap)),(0,pP s.1 t n)],[]⟩ a _:=hS.uS (λr=>by
  match r with
  |0=>exact .inl rfl
  |1=>exact .inl rfl
  |2=>exact .inl rfl
  |3=>exact .inl rfl
  |r+4=>exact .inr rfl) (λb x hb=>hb)
 refine⟨K,hS2.Y1 ?_⟩;have uB:=Dv t ht;have aeA:136<=cap:=by
  have:=grownCap_ge w (lY t).size 0 5;rw[iW,hX]at this;exact this
 have nt:((qd t).map λb=>[AV.int .u8 b]).flatten=(qd t).map (AV.int .u8):=by
  generalize qd t=l
  induction l with
  |nil=>rfl
  |cons x l ih=>simpa using ih
 refine .aL (cs:=(qd t).map (Value.int .u8)) (by simp[uB]) (λrow hr=>by obtain⟨b,_,rfl⟩:=cK.1 hr;rfl) aeA (λh=>by cases h) (by rw[nt];simp) (λc hc=>by obtain⟨b,_,rfl⟩:=cK.1 hc;rfl) (λ_=>⟨_,_,rfl,?_,?_,λj c hj=>?_⟩) (λj u c hu hc=>?_)
 .simp[bytesWorld_size]
 .rintro(⟨b,hb,_⟩|⟨_,h2⟩)
  .simp[aK]at hb
  .omega
 .rw[aS]at hj
  cases hb:(qd t)[j]? with
  |none=>rw[hb]at hj;cases hj
  |some b=>
   rw[hb]at hj;injection hj with hj
   subst hj;have aC:j<136:=by have:=(aE.1 hb).1;omega
   rw[dp];unfold qd at hb
   by_cases e:j=135
   .subst e
    rw[DW (by have h0:(lY t).data.size=136:=hX;simp[h0])]at hb;injection hb with hb
    subst hb;exact World.cell?_setCell_same _ _ _ (TP▸cH)
   .rw[List.getElem?_set_ne (Ne.symm e),aS]at hb
    rw[World.cell?_setCell_other _ _ _ _ (by intro q;simp only[Addr.mk.injEq]at q;omega),bytesWorld_cell w 5 (lY t) j (by omega)]
    cases hx:(lY t).data.toList[j]? with
    |none=>rw[hx]at hb;cases hb
    |some x=>
     rw[hx]at hb;injection hb with hb
     rw[lJ,hx,<-hb]
     rfl
 .rw[nt,aS]at hu
  rw[aS]at hc
  cases hb:(qd t)[j]? with
  |none=>rw[hb]at hu;cases hu
  |some b=>
   rw[hb]at hu hc;injection hu with hu
   injection hc with hc
   subst hu hc;exact .int
end Go.an.ax.G
namespace Go.an.ax.G
open Go Go.an Go.Proofs Go.RowKit Go.Lib
def rp(ys:List Int):Nat->List Int
 |0=>[]
 |i+1=>rp ys i++[IntKind.u8.wrap (ys.getD (i/8) 0/2^(8*((i:Nat):Int).tmod 8).toNat)]
theorem Ba(ys:List Int):∀i,(rp ys i).length=i
 |0=>rfl
 |i+1=>by rw[rp,be,Ba ys i];rfl
abbrev rU(l:List Int):List (List AV):=l.map λb=>[AV.int .u8 b]
abbrev Y4(ys:List Int)(i:Nat):aM:=match i with
 |0=>⟨[(4,.af 64 0),(5,.ai),(33,I 0)],[(64,⟨409,25,.any,[Us ys],[]⟩)]⟩
 |i+1=>⟨[(4,.af 64 0),(5,.bn 752 1 (i+1)),(33,I ((i+1:Nat):Int))],[(64,⟨409,25,.any,[Us ys],[]⟩),(752,⟨5,1,.flat,rU (rp ys (i+1)),[]⟩)]⟩
noncomputable abbrev ajU:Code:=xX (Wl (o0 5 vP))
theorem ER{ys:List Int}{i q:Nat}{y:Int}(hq:(i+1)/8=q)(hy:ys[q]?=some y):(rU (rp ys (i+1))).take (i+1)++[[AV.int .u8 (IntKind.u8.wrap (y/2^(8*((i+1:Nat):Int).tmod 8).toNat))]]=rU (rp ys (i+1+1)):=by
 have h1:(rU (rp ys (i+1))).take (i+1)=rU (rp ys (i+1)):=ph (by rw[gB,Ba];omega);rw[h1,show rp ys (i+1+1)=rp ys (i+1)++[IntKind.u8.wrap (ys.getD ((i+1)/8) 0/2^(8*((i+1:Nat):Int).tmod 8).toNat)]from rfl,hq,lJ,hy];simp[rU]
set_option maxHeartbeats 4000000 in
theorem ajV(y0 y1 y2 y3 y4 y5 y6 y7 y8 y9 Df Dg Dh Di Dj Dk Dl Dm Dn Dp Dq Dr Ds Dt Du:Int)(i:Nat)(hi:i<32)(Q:Ex->aM->Prop)(hQ:∀c',aj [] c' (Y4 [y0,y1,y2,y3,y4,y5,y6,y7,y8,y9,Df,Dg,Dh,Di,Dj,Dk,Dl,Dm,Dn,Dp,Dq,Dr,Ds,Dt,Du] (i+1))->Q .normal c'):
  mY kg tt 51 PQ [] [] [] ajU (Y4 [y0,y1,y2,y3,y4,y5,y6,y7,y8,y9,Df,Dg,Dh,Di,Dj,Dk,Dl,Dm,Dn,Dp,Dq,Dr,Ds,Dt,Du] i) Q:=by
 have hm:=Wr i
 match i,hi with
 |0,_=>
  refine⟨λ_=>?_,λh=>absurd h (by decide)⟩;refine⟨by decide,0,by decide,⟨by decide,by decide⟩,by decide,0,by decide,⟨by decide,by decide⟩,_,rfl,?_⟩;refine⟨⟨by decide,by decide⟩,false,_,au (y:=1) (by decide) (by decide) (by decide),?_⟩;exact hQ _ ((aj.ad [4,5,33] [64,752]).trans (aj.of (c:=⟨[(4,.af 64 0),(5,.bn 752 1 1),(33,I 1)],[(64,⟨409,25,.any,[Us [y0,y1,y2,y3,y4,y5,y6,y7,y8,y9,Df,Dg,Dh,Di,Dj,Dk,Dl,Dm,Dn,Dp,Dq,Dr,Ds,Dt,Du]],[]⟩),(752,⟨5,1,.flat,[[AV.int .u8 (IntKind.u8.wrap (y0/2^Int.toNat 0))]],[]⟩)]⟩) rfl))
 |i+1,hi=>
  obtain⟨q,hq⟩:∃q,(i+1)/8=q:=⟨_,rfl⟩;have hq4:q<4:=by omega
  match q,hq4,hq with
  |0,_,hq=>
   refine⟨λ_=>?_,λh=>absurd (j0 h) (by omega)⟩;refine⟨by decide,0,by rw[ju (i+1) 0 hq];rfl,⟨by decide,by decide⟩,by decide,8*((i+1:Nat):Int).tmod 8,by rw[hm,IntKind.wrap_i64];omega,⟨by rw[hm];omega,by rw[hm];show _<=(64:Int);omega⟩,_,rfl,?_⟩;refine⟨⟨by show(i+1+1)*1<=_;omega,by show i+1+1<=_;omega⟩,_,au (y:=((i+1+1:Nat):Int)) (by omega),?_⟩;exact hQ _ ((aj.ad [4,5,33] [64,752]).trans (aj.of (c:=⟨[(4,.af 64 0),(5,.bn 752 1 (i+1+1)),(33,I ((i+1+1:Nat):Int))],[(64,⟨409,25,.any,[Us [y0,y1,y2,y3,y4,y5,y6,y7,y8,y9,Df,Dg,Dh,Di,Dj,Dk,Dl,Dm,Dn,Dp,Dq,Dr,Ds,Dt,Du]],[]⟩),(752,⟨5,1,.flat,(rU (rp [y0,y1,y2,y3,y4,y5,y6,y7,y8,y9,Df,Dg,Dh,Di,Dj,Dk,Dl,Dm,Dn,Dp,Dq,Dr,Ds,Dt,Du] (i+1))).take (i+1)++[[AV.int .u8 (IntKind.u8.wrap (y0/2^(8*((i+1:Nat):Int).tmod 8).toNat))]],[]⟩)]⟩) (by rw[ER hq rfl])))
  |1,_,hq=>
   refine⟨λ_=>?_,λh=>absurd (j0 h) (by omega)⟩;refine⟨by decide,1,by rw[ju (i+1) 1 hq];rfl,⟨by decide,by decide⟩,by decide,8*((i+1:Nat):Int).tmod 8,by rw[hm,IntKind.wrap_i64];omega,⟨by rw[hm];omega,by rw[hm];show _<=(64:Int);omega⟩,_,rfl,?_⟩;refine⟨⟨by show(i+1+1)*1<=_;omega,by show i+1+1<=_;omega⟩,_,au (y:=((i+1+1:Nat):Int)) (by omega),?_⟩;exact hQ _ ((aj.ad [4,5,33] [64,752]).trans (aj.of (c:=⟨[(4,.af 64 0),(5,.bn 752 1 (i+1+1)),(33,I ((i+1+1:Nat):Int))],[(64,⟨409,25,.any,[Us [y0,y1,y2,y3,y4,y5,y6,y7,y8,y9,Df,Dg,Dh,Di,Dj,Dk,Dl,Dm,Dn,Dp,Dq,Dr,Ds,Dt,Du]],[]⟩),(752,⟨5,1,.flat,(rU (rp [y0,y1,y2,y3,y4,y5,y6,y7,y8,y9,Df,Dg,Dh,Di,Dj,Dk,Dl,Dm,Dn,Dp,Dq,Dr,Ds,Dt,Du] (i+1))).take (i+1)++[[AV.int .u8 (IntKind.u8.wrap (y1/2^(8*((i+1:Nat):Int).tmod 8).toNat))]],[]⟩)]⟩) (by rw[ER hq rfl])))
  |2,_,hq=>
   refine⟨λ_=>?_,λh=>absurd (j0 h) (by omega)⟩;refine⟨by decide,2,by rw[ju (i+1) 2 hq];rfl,⟨by decide,by decide⟩,by decide,8*((i+1:Nat):Int).tmod 8,by rw[hm,IntKind.wrap_i64];omega,⟨by rw[hm];omega,by rw[hm];show _<=(64:Int);omega⟩,_,rfl,?_⟩;refine⟨⟨by show(i+1+1)*1<=_;omega,by show i+1+1<=_;omega⟩,_,au (y:=((i+1+1:Nat):Int)) (by omega),?_⟩;exact hQ _ ((aj.ad [4,5,33] [64,752]).trans (aj.of (c:=⟨[(4,.af 64 0),(5,.bn 752 1 (i+1+1)),(33,I ((i+1+1:Nat):Int))],[(64,⟨409,25,.any,[Us [y0,y1,y2,y3,y4,y5,y6,y7,y8,y9,Df,Dg,Dh,Di,Dj,Dk,Dl,Dm,Dn,Dp,Dq,Dr,Ds,Dt,Du]],[]⟩),(752,⟨5,1,.flat,(rU (rp [y0,y1,y2,y3,y4,y5,y6,y7,y8,y9,Df,Dg,Dh,Di,Dj,Dk,Dl,Dm,Dn,Dp,Dq,Dr,Ds,Dt,Du] (i+1))).take (i+1)++[[AV.int .u8 (IntKind.u8.wrap (y2/2^(8*((i+1:Nat):Int).tmod 8).toNat))]],[]⟩)]⟩) (by rw[ER hq rfl])))
  |3,_,hq=>
   refine⟨λ_=>?_,λh=>absurd (j0 h) (by omega)⟩;refine⟨by decide,3,by rw[ju (i+1) 3 hq];rfl,⟨by decide,by decide⟩,by decide,8*((i+1:Nat):Int).tmod 8,by rw[hm,IntKind.wrap_i64];omega,⟨by rw[hm];omega,by rw[hm];show _<=(64:Int);omega⟩,_,rfl,?_⟩;refine⟨⟨by show(i+1+1)*1<=_;omega,by show i+1+1<=_;omega⟩,_,au (y:=((i+1+1:Nat):Int)) (by omega),?_⟩;exact hQ _ ((aj.ad [4,5,33] [64,752]).trans (aj.of (c:=⟨[(4,.af 64 0),(5,.bn 752 1 (i+1+1)),(33,I ((i+1+1:Nat):Int))],[(64,⟨409,25,.any,[Us [y0,y1,y2,y3,y4,y5,y6,y7,y8,y9,Df,Dg,Dh,Di,Dj,Dk,Dl,Dm,Dn,Dp,Dq,Dr,Ds,Dt,Du]],[]⟩),(752,⟨5,1,.flat,(rU (rp [y0,y1,y2,y3,y4,y5,y6,y7,y8,y9,Df,Dg,Dh,Di,Dj,Dk,Dl,Dm,Dn,Dp,Dq,Dr,Ds,Dt,Du] (i+1))).take (i+1)++[[AV.int .u8 (IntKind.u8.wrap (y3/2^(8*((i+1:Nat):Int).tmod 8).toNat))]],[]⟩)]⟩) (by rw[ER hq rfl])))
theorem ES(l:List Int):(bytesOf l).size=l.length:=by
 have:∀(l:List Int)(r:ByteArray),(l.foldl (λr n=>r.push (UInt8.ofNat n.toNat)) r).size=r.size+l.length:=by
  intro l
  induction l with
  |nil=>intro r;rfl
  |cons x l ih=>intro r;rw[List.foldl_cons,ih,ByteArray.size_push];simp;omega
 have:=this l ByteArray.empty;rw[bytesOf,this];simp
theorem pF(l:List Int):JQ (l.map (AV.int .u8))=l:=by
 induction l with
 |nil=>rfl
 |cons x l ih=>exact gQ (x::·) ih
theorem PT(l:List Int):rU l=(l.map (AV.int .u8)).map λu=>[u]:=by simp[rU]
theorem PU(l:List Int):∀u∈l.map (AV.int .u8),∃n,u=.int .u8 n:=λu hu=>by obtain⟨b,_,rfl⟩:=cK.1 hu;exact⟨b,rfl⟩
set_option maxHeartbeats 4000000 in
theorem ajW(s:Ln 25)(t:ByteArray)(n:Int)(ht:t.size<=135):∃d:ByteArray,Fn kg 282 [pP s.1 t n] (.str d):=by
 obtain⟨R,aeB⟩:=ajN s (bytesOf (JQ ((qd t).map (AV.int .u8)))) (by rw[pF,ES,Dv t ht];omega);obtain⟨d,hd⟩:∃d,d=bytesOf (JQ ((rp R.1 32).map (AV.int .u8))):=⟨_,rfl⟩;refine⟨d,wT (N:=51) (code:=vP) [.tmp 2] cC Tryz.func282 rfl (by kernel_rfl) rfl rfl rfl λE K a w hN hp hs=>?_⟩;have ji:∀b,bm b []=false->E.gK b=none:=λb _=>hp b
 rw[show vP=.seq (Wl vP) (o0 1 vP)by kernel_rfl];refine wp_seq (cD (ks:=PQ) (gs:=[]) (wk:=[]) cC bZ hN mixed ji _ ⟨idx 0 [pP s.1 t n],[]⟩ (Qm ⟨[(0,pP s.1 t n)],[]⟩) _ a w (by kernel_rfl) (aj.ad [0] []) (λe c a w jB hs=>?_) ⟨K,hs⟩)
 cases e with
 |exit id=>exact jB.elim
 |ret=>exact jB.elim
 |normal=>
 show Exit.then _ _ Exit.normal a w
 refine ajT s t n ht hN ji (jB E a w ji hs) λa w hs=>?_
 obtain⟨a0,a1,a2,a3,a4,a5,a6,a7,a8,a9,om,nz,a12,p8,p9,pb,qa,a17,qb,qc,a20,a21,a22,a23,a24,ha⟩:=fP s.2;obtain⟨y0,y1,y2,y3,y4,y5,y6,y7,y8,y9,Df,Dg,Dh,Di,Dj,Dk,Dl,Dm,Dn,Dp,Dq,Dr,Ds,Dt,Du,hy⟩:=fP R.2;rw[ha,hy]at aeB;rw[ha]at hs;rw[hy]at hd;refine cD (ks:=PQ) (gs:=[]) (wk:=[]) cC bZ hN mixed ji _ _ (kq tt [.tmp 2] (.str d)) _ a w (by kernel_rfl) ?_ (λe c a w jB hs=>?_) hs
 .refine⟨(qd t).map (AV.int .u8),⟨PT _,PU _⟩,_,aeB,?_⟩
  refine⟨λm c=>∃i,i<=32/\m=32-i/\c=Y4 [y0,y1,y2,y3,y4,y5,y6,y7,y8,y9,Df,Dg,Dh,Di,Dj,Dk,Dl,Dm,Dn,Dp,Dq,Dr,Ds,Dt,Du] i,⟨_,_,aj.ad [4,5,33] [64],0,by omega,rfl,rfl⟩,?_⟩;rintro m c ⟨i,hi,rfl,rfl⟩
  by_cases aC:i<32
  .refine ajV y0 y1 y2 y3 y4 y5 y6 y7 y8 y9 Df Dg Dh Di Dj Dk Dl Dm Dn Dp Dq Dr Ds Dt Du i aC _ λc' hw=>?_
   exact⟨_,_,hw,by omega,i+1,by omega,rfl,rfl⟩
  .obtain⟨j,rfl⟩:∃j,i=j+1:=⟨i-1,by omega⟩
   have hj:j+1=32:=by omega
   rw[<-hj]at hd;have hl:=Ba [y0,y1,y2,y3,y4,y5,y6,y7,y8,y9,Df,Dg,Dh,Di,Dj,Dk,Dl,Dm,Dn,Dp,Dq,Dr,Ds,Dt,Du] (j+1)
   show mY _ _ _ _ _ _ _ _ ⟨[(4,.af 64 0),(5,.bn 752 1 (j+1)),(33,I ((j+1:Nat):Int))],[(64,⟨409,25,.any,[Us [y0,y1,y2,y3,y4,y5,y6,y7,y8,y9,Df,Dg,Dh,Di,Dj,Dk,Dl,Dm,Dn,Dp,Dq,Dr,Ds,Dt,Du]],[]⟩),(752,⟨5,1,.flat,rU (rp [y0,y1,y2,y3,y4,y5,y6,y7,y8,y9,Df,Dg,Dh,Di,Dj,Dk,Dl,Dm,Dn,Dp,Dq,Dr,Ds,Dt,Du] (j+1)),[]⟩)]⟩ _
   generalize rp [y0,y1,y2,y3,y4,y5,y6,y7,y8,y9,Df,Dg,Dh,Di,Dj,Dk,Dl,Dm,Dn,Dp,Dq,Dr,Ds,Dt,Du] (j+1)=L at hd hl;clear aC;refine⟨λh=>absurd (aP h) (by omega),λ_=>?_⟩;refine⟨L.map (AV.int .u8),⟨?_,PU _⟩,?_⟩
   .rw[<-PT]
    exact ph (by rw[gB,hl];exact bG _)
   .rw[hd]
    exact⟨_,aj.ad [2] [],rfl,rfl,rfl⟩
 .cases e with
  |exit id=>exact jB.elim
  |normal=>obtain⟨c2,h1,h2⟩:=jB;obtain⟨K2,h3⟩:=h1 E a w ji hs;exact⟨.inl rfl,K2,c2,h3,h2⟩
  |ret=>obtain⟨c2,h1,h2⟩:=jB;obtain⟨K2,h3⟩:=h1 E a w ji hs;exact⟨.inr rfl,K2,c2,h3,h2⟩
end Go.an.ax.G
