import Derived.WalkKit
import Derived.Lib.ItoaNum
set_option linter.unusedVariables false
set_option linter.unusedSimpArgs false
namespace Go.an
def Xe:List Nat:=[292,353,352,228,325]
def tC:List (Nat×List Nat):=[(215,[0]),(210,[0])]
def WI(w:World):Prop:=(∃m,w.cell? ⟨0,0,none⟩=some (.int .i64 m))/\∃t s,w.heap[1]?=some (.cells (Lib.pow10Tab.map λz=>Value.int .u64 z).toArray t s)
theorem WI.mono{w w':World}(_hs:w.heap.size<=w'.heap.size)(hb:∀g,g<w.heap.size->w'.heap[g]?=w.heap[g]?)(h:WI w):WI w':=by
 obtain⟨⟨m,h0⟩,t,s,h⟩:=h;have h1:=(Array.getElem?_eq_some_iff.1 h).1;refine⟨⟨m,?_⟩,t,s,(hb 1 h1).trans h⟩;rw[<-h0];simp only[World.cell?,hb 0 (by omega)]
def Xf:Bool:=true
def aht:List (Nat×Nat):=[(30,1),(30,3),(30,4),(22,1),(23,7),(42,2),(41,1),(227,3)]
def ahu:List (Nat×Nat):=[(30,160)]
def aas:List (Nat×Nat):=[(46,1616)]
abbrev bG:= @Nat.le_refl
abbrev du:= @Nat.le_trans
abbrev ew:= @Nat.lt_of_lt_of_le
abbrev pd:= @Iff.rfl
abbrev H8:= @Nat.eq_of_beq_eq_true
abbrev tD:= @Bool.or_eq_false_iff
abbrev iH:= @List.flatten_cons
abbrev eJ:= @Nat.lt_or_ge
abbrev bM:= @List.getElem?_append_left
abbrev cm:= @List.getElem?_append_right
abbrev nB:= @List.cons_append
abbrev bK:= @List.mem_cons
abbrev bd:= @Array.getElem?_eq_some_iff
abbrev jX:= @Array.getElem?_modify
abbrev bF:= @Option.isSome_iff_exists
abbrev dn:= @Nat.le_of_ble_eq_true
abbrev aA:= @Bool.and_eq_true
abbrev dI:= @Array.getD_eq_getD_getElem?
abbrev cU:= @List.map_cons
abbrev be:= @List.length_append
abbrev bB:= @List.length_cons
abbrev bh:= @Nat.add_mul
abbrev ly:= @Nat.zero_mul
abbrev dp:= @Nat.zero_add
abbrev rM:= @List.mem_cons_of_mem
abbrev cK:= @List.mem_map
abbrev nC:= @List.mem_flatten
abbrev gQ:= @congrArg
abbrev ay:= @List.mem_of_getElem?
abbrev rN:= @Array.mem_toList_iff
abbrev rO:= @Array.mem_of_getElem?
abbrev aE:= @List.getElem?_eq_some_iff
abbrev fQ:= @List.getElem?_of_mem
abbrev aW:= @List.getElem?_eq_getElem
abbrev nD:= @Array.getElem?_eq_getElem
abbrev uD:= @List.getElem_mem
abbrev mq:= @Nat.eq_zero_or_pos
abbrev mr:= @Array.getElem?_push
abbrev yF:= @Array.toList_push
abbrev cE:= @List.mem_append
abbrev iw:= @List.mem_singleton
abbrev mu:= @Array.getElem?_toList
abbrev DW:= @List.getElem?_set_self
abbrev aP:= @of_decide_eq_true
abbrev aS:= @List.getElem?_map
abbrev DX:= @Array.getElem?_map
abbrev pf:= @Nat.add_assoc
abbrev rP:= @List.getElem?_cons_succ
abbrev cF:= @Nat.zero_le
abbrev rQ:= @true_and
abbrev lz:= @Nat.sub_zero
abbrev DY:= @List.set_cons_succ
abbrev mw:= @List.mem_or_eq_of_mem_set
abbrev cV:= @List.getElem?_drop
abbrev bQ:= @List.getElem?_take
abbrev aO:= @List.length_take
abbrev ed:= @Nat.add_zero
abbrev gR:= @Nat.mul_le_mul_right
abbrev bE:= @List.eq_nil_of_length_eq_zero
abbrev gf:= @Array.length_toList
abbrev cL:= @List.size_toArray
abbrev jY:= @List.length_drop
abbrev eD:= @List.getElem?_toArray
abbrev cM:= @List.append_assoc
abbrev iT:= @List.all_eq_true
abbrev iU:= @Option.map_some
abbrev dN:= @List.append_nil
abbrev uE:= @List.mem_of_mem_drop
abbrev my:= @List.mem_of_mem_take
abbrev gS:= @List.map_toArray
abbrev dO:= @List.map_nil
abbrev gT:= @Option.map_none
abbrev rR:= @List.take_append_drop
abbrev lA:= @List.flatten_append
abbrev rS:= @Nat.min_eq_left
abbrev yG:= @Array.eq_empty_of_size_eq_zero
abbrev yH:= @if_true
abbrev bL:= @getElem!_pos
abbrev DZ:= @Nat.lt_irrefl
abbrev D0:= @Nat.le_of_eq
abbrev aY:= @Int.toNat_natCast
abbrev yI:= @Array.toList_append
abbrev gU:= @List.take_append_of_le_length
abbrev ph:= @List.take_of_length_le
abbrev bk:= @List.nil_append
abbrev dz:= @Nat.beq_refl
abbrev lB:= @Array.size_append
abbrev gB:= @List.length_map
abbrev D1:= @Array.getElem?_append_left
abbrev lC:= @Array.getElem?_append_right
abbrev pj:= @Bool.or_eq_true
abbrev mz:= @List.mem_replicate
abbrev rT:= @List.take_left'
abbrev rV:= @Go.MapKept.run_getObj_map
abbrev uF:= @Go.MapKept.run_checkKey
abbrev nE:= @Go.MapKept.run_findKey
abbrev rW:= @Go.MapKept.run_setObj_map
abbrev rX:= @List.all_cons
abbrev rY:= @List.range'_succ
abbrev iV:= @List.mem_range
abbrev mL:= @Bool.not_true
abbrev cX:= @Bool.false_or
abbrev zm:= @List.any_eq_true
abbrev eZ:= @List.mem_filter
abbrev qy:= @Option.getD_some
abbrev mM:= @Array.all_eq_true_iff_forall_mem
abbrev jZ:= @Nat.lt_trichotomy
abbrev FE:= @Array.getElem?_setIfInBounds
abbrev zn:= @Array.toList_setIfInBounds
abbrev oz:= @Array.getElem?_replicate
abbrev lI:= @List.range_eq_range'
abbrev lJ:= @List.getD_eq_getElem?_getD
abbrev zo:= @List.drop_of_length_le
abbrev zp:= @decide_eq_true_eq
abbrev zq:= @Bool.eq_iff_iff
abbrev zr:= @Bool.not_eq_true'
abbrev lK:= @beq_iff_eq
abbrev aI:= @List.range'_append
abbrev FF:= @List.getElem?_take_of_lt
abbrev gg:= @Array.size_pop
abbrev hU:= @Array.getElem?_setIfInBounds_ne
abbrev gF:= @List.pairwise_cons
abbrev ct:= @List.filter_cons_of_neg
abbrev bP:= @List.filter_cons_of_pos
abbrev oA:= @List.any_cons
abbrev ee:= @or_assoc
abbrev j0:= @of_decide_eq_false
abbrev qz:= @Array.getElem?_setIfInBounds_self_of_lt
abbrev j4:= @List.drop_length
abbrev oB:= @List.take_length
abbrev oC:= @List.map_set
abbrev uG:= @decide_eq_true
abbrev qA:= @decide_eq_false
abbrev zt:= @List.length_set
abbrev qB:= @List.map_append
abbrev qC:= @Classical.choose_spec
abbrev zu:= @Int.tmod_eq_emod_of_nonneg
abbrev zv:= @ByteArray.size_append
abbrev oD:= @List.length_eq_zero_iff
abbrev qD:= @Int.lt_or_eq_of_le
abbrev oE:= @Int.lt_trichotomy
abbrev uH:= @Int.add_zero
abbrev zw:= @Bool.not_eq_true
abbrev j5:= @List.not_mem_nil
abbrev zx:= @List.length_filter_le
abbrev zy:= @List.find?_eq_none
abbrev uI:= @List.find?_eq_some_iff_getElem
abbrev zz:= @List.map_take
abbrev uJ:= @List.getLast?_eq_getElem?
abbrev gG:= @List.filter_append
abbrev qE:= @List.ext_getElem?
abbrev Kf:= @List.getElem?_set
abbrev Wc:= @Option.some.inj
abbrev SI:= @List.getLast?_cons_cons
abbrev AB:= @List.eraseIdx_eq_take_drop_succ
abbrev N0:= @List.length_eraseIdx
abbrev XD:= @List.length_eraseIdx_le
abbrev Xy:= @List.any_eq_false
abbrev Cl:= @Nat.one_mul
abbrev LU:= @Classical.not_not
end Go.an
namespace Go.an
open Go.RowKit
inductive AV where
 |top
 |bool (b:Bool)
 |int (k:IntKind) (n:Int)
 |str (s:ByteArray)
 |ai
 |fc
 |nU
 |o9
 |lit (v:Value)
 |aL (sz n:Nat) (aa:List (List AV))
 |aw (xs:List AV) (off:Nat)
 |bn (b sz n:Nat)
 |dq (b sz lo n:Nat)
 |af (b off:Nat)
 |dP (b sz i off:Nat)
 |dh (pure:Bool) (e sz n:Nat) (aa:List (List AV))
 |agg (xs:List AV)
 |bY (xs:List AV)
 |func (f:FuncId) (dt:List AV)
 |dX (b:Nat)
 |iB (ag st:Bool) (sz:Nat) (aa:List (List AV))
 |xx
 |opt (d:Nat) (bf:Bool) (v:AV)
 deriving Inhabited
mutual
def AV.has(b:Nat):AV->Bool
 |.bn b' _ _=>b'==b
 |.dP b' _ _ _=>b'==b
 |.dq b' _ _ _=>b'==b
 |.af b' _=>b'==b
 |.dX b'=>b'==b
 |.agg xs=>AV.cN b xs
 |.bY xs=>AV.cN b xs
 |.func _ xs=>AV.cN b xs
 |.opt _ _ v=>AV.has b v
 |_=>false
def AV.cN(b:Nat):List AV->Bool
 |[]=>false
 |u::us=>AV.has b u||AV.cN b us
end
theorem AV.mA{b:Nat}:∀{xs:List AV}{j:Nat}{u:AV},xs[j]?=some u->AV.has b u=true->AV.cN b xs=true
 |[],_,_,h,_=>by simp at h
 |x::xs,0,u,h,hu=>by simp at h;subst h;simp[AV.cN,hu]
 |x::xs,j+1,u,h,hu=>by simp at h;simp[AV.cN,AV.mA h hu]
abbrev KM:=Nat->Option (Option Nat×Nat)
def aG(K:KM)(b:Nat):Option Nat:=match K b with|some (some g,_)=>some g|_=>none
theorem aU{K:KM}{b g m:Nat}(h:K b=some (some g,m)):aG K b=some g:=by simp[aG,h]
theorem uK{K K':KM}{b:Nat}(h:K' b=K b):aG K' b=aG K b:=by simp[aG,h]
def K0:KM:=λ_=>none
def fR(st:Bool)(k:AV):Bool:=
 match k with
 |.int .i64 _=>match st with|true=>false|false=>true
 |.str _=>st
 |_=>false
def tE(st:Bool):List AV->Bool
 |k::_=>fR st k
 |[]=>false
def j6(e:MapEntry):List Value:=e.key::(match e.val with|.agg vs=>vs.toList|v=>[v])
structure UU(es:Array MapEntry)(ag st:Bool)(sz:Nat)(cs:List Value):Prop where
 born:∀(i:Nat) e,es[i]?=some e->e.born=i
 agg:∀e∈es.toList,(∃vs,e.val=.agg vs)↔ag=true
 key:∀e∈es.toList,(st=true->∃s,e.key=.string s)/\(st=false->∃n,e.key=.int .i64 n)
 len:∀e∈es.toList,(j6 e).length=sz
 cells:cs=(es.toList.map j6).flatten
def tF(w:World)(g:Nat)(ag st:Bool)(sz:Nat)(cs:List Value):Prop:=∃es,w.heap[g]?=some (.map es es.size)/\UU es ag st sz cs
theorem tF.of_eq{w w':World}{g sz:Nat}{ag st:Bool}{cs:List Value}(h:tF w g ag st sz cs)(e:w'.heap[g]?=w.heap[g]?):tF w' g ag st sz cs:=by
 obtain⟨es,h1,h2⟩:=h;exact⟨es,e.trans h1,h2⟩
inductive VR(w:World):(Nat->Prop)->KM->AV->Value->Prop
 |top {X K v}:VR w X K .top v
 |bool {X K b}:VR w X K (.bool b) (.bool b)
 |int {X K k n}:VR w X K (.int k n) (.int k n)
 |str {X K s}:VR w X K (.str s) (.string s)
 |ai {X K}:VR w X K .ai (.slice none 0 0)
 |fc {X K}:VR w X K .fc .nilFunc
 |o9 {X K}:VR w X K .o9 undef
 |lit {X K v}:VR w X K (.lit v) v
 |nU {X K A cap}:VR w X K .nU (.slice (some A) 0 cap)
 |agg {X K xs vs}:xs.length=vs.size->(∀(j:Nat) c,vs[j]?=some c->c.oneCell'=true)->(∀(j:Nat) u c,xs[j]?=some u->vs[j]?=some c->VR w X K u c)->VR w X K (.agg xs) (.agg vs)
 |bY {X K xs vs}:xs.length=vs.size->(∀(j:Nat) u c,xs[j]?=some u->vs[j]?=some c->VR w X K u c)->VR w X K (.bY xs) (.tuple vs)
 |func {X K f xs vs}:xs.length=vs.size->(∀(j:Nat) u c,xs[j]?=some u->vs[j]?=some c->VR w X K u c)->VR w X K (.func f xs) (.func (.func f) #[] vs)
 |aL {X K sz n aa A cap} {cs:List Value}:n=aa.length->(∀row∈aa,row.length=sz)->n<=cap->(A=none->cap=0)->cs.length=aa.flatten.length->(∀c∈cs,c.oneCell'=true)->
   (aa≠ [] ->∃g o,A=some ⟨g,o,none⟩/\g<w.heap.size/\¬X g/\∀(j:Nat) c,cs[j]?=some c->w.cell? ⟨g,o+j,none⟩=some c)->
   (∀(j:Nat) u c,aa.flatten[j]?=some u->cs[j]?=some c->VR w X K0 u c)->VR w X K (.aL sz n aa) (.slice A n cap)
 |aw {X K xs off g o} {cs:List Value}:cs.length=xs.length->(∀c∈cs,c.oneCell'=true)->g<w.heap.size->¬X g->(∀(j:Nat) c,cs[j]?=some c->w.cell? ⟨g,o+j,none⟩=some c)->
   (∀(j:Nat) u c,xs[j]?=some u->cs[j]?=some c->VR w X K0 u c)->VR w X K (.aw xs off) (.pointer (some ⟨g,o+off,none⟩))
 |bn {X K b sz n g m cap aJ e}:K b=some (some g,m)->n<=m->w.heap[g]?=some (.cells aJ e (0,0))->n<=cap->cap<=maxLen->cap*sz=aJ.size->VR w X K (.bn b sz n) (.slice (some ⟨g,0,none⟩) n cap)
 |fE {X K b sz}:K b=some (none,0)->VR w X K (.bn b sz 0) (.slice none 0 0)
 |dq {X K b sz lo n A cap}:(0<n->∃g m,K b=some (some g,m)/\lo+n<=m/\A=some ⟨g,lo*sz,none⟩)->
   (0<n->n<=cap/\cap<=maxLen/\∃g o aJ e,A=some ⟨g,o,none⟩/\w.heap[g]?=some (.cells aJ e (0,0))/\o+cap*sz=aJ.size)->VR w X K (.dq b sz lo n) (.slice A n cap)
 |af {X K b off g}:aG K b=some g->VR w X K (.af b off) (.pointer (some ⟨g,off,none⟩))
 |dP {X K b sz i off g}:aG K b=some g->VR w X K (.dP b sz i off) (.pointer (some ⟨g,i*sz+off,none⟩))
 |dX {X K b g}:aG K b=some g->VR w X K (.dX b) (.map (some g))
 |iB {X K ag st sz aa g} {cs:List Value}:tF w g ag st sz cs->g<w.heap.size->¬X g->(∀row∈aa,row.length=sz/\tE st row=true)->cs.length=aa.flatten.length->(∀c∈cs,c.oneCell'=true)->
   (∀(j:Nat) u c,aa.flatten[j]?=some u->cs[j]?=some c->VR w X K0 u c)->VR w X K (.iB ag st sz aa) (.map (some g))
 |xx {X K r g}:w.heap[r]?=some (.mapIter (some g) 0 #[] 0)->w.heap[g]?=some (.map #[] 0)->r<w.heap.size->g<w.heap.size->¬X r->¬X g->VR w X K .xx (.pointer (some ⟨r,0,none⟩))
structure dv(X:Nat->Prop)(w w':World):Prop where
 size:w.heap.size<=w'.heap.size
 block:∀g,g<w.heap.size->¬X g->w'.heap[g]?=w.heap[g]?
 shape:∀(g:Nat)(aJ:Array Value)(e:TypeId),w.heap[g]?=some (Obj.cells aJ e (0,0))->∃dw:Array Value,w'.heap[g]?=some (Obj.cells dw e (0,0))/\dw.size=aJ.size
theorem dv.refl(X:Nat->Prop)(w:World):dv X w w:=⟨bG _,λ_ _ _=>rfl,λ_ aJ _ h=>⟨aJ,h,rfl⟩⟩
theorem dv.trans{X X':Nat->Prop}{a b c:World}(h:dv X a b)(k:dv X' b c)(hX:∀g,g<a.heap.size->X' g->X g):dv X a c:=
  ⟨du h.size k.size,λg hg hx=>(k.block g (ew hg h.size) (λsU=>hx (hX g hg sU))).trans (h.block g hg hx),
   λg aJ e hc=>by
    obtain⟨c1,h1,s1⟩:=h.shape g aJ e hc;obtain⟨c2,h2,s2⟩:=k.shape g c1 e h1;exact⟨c2,h2,s2.trans s1⟩⟩
theorem sV{w w':World}{g o:Nat}(h:w'.heap[g]?=w.heap[g]?):w'.cell? ⟨g,o,none⟩=w.cell? ⟨g,o,none⟩:=by
 simp only[World.cell?,h]
theorem VR.ad{X:Nat->Prop}{w w':World}{K:KM}{u:AV}{v:Value}(h:VR w X K u v):
  ∀{X':Nat->Prop}{K':KM},dv X w w'->(∀g,g<w.heap.size->X' g->X g)->(∀b,u.has b=true->K' b=K b)->VR w' X' K' u v:=by
 induction h with
 |top=>intros;exact .top
 |bool=>intros;exact .bool
 |int=>intros;exact .int
 |str=>intros;exact .str
 |ai=>intros;exact .ai
 |fc=>intros;exact .fc
 |nU=>intros;exact .nU
 |o9=>intros;exact .o9
 |lit=>intros;exact .lit
 |agg hl h1 hv ih=>intro X' K' hk hX hK;exact .agg hl h1 λj u c hu hc=>ih j u c hu hc hk hX λb hb=>hK b (AV.mA hu hb)
 |bY hl hv ih=>intro X' K' hk hX hK;exact .bY hl λj u c hu hc=>ih j u c hu hc hk hX λb hb=>hK b (AV.mA hu hb)
 |func hl hv ih=>intro X' K' hk hX hK;exact .func hl λj u c hu hc=>ih j u c hu hc hk hX λb hb=>hK b (AV.mA hu hb)
 |aL hn bJ iW hA dM h1 cH hv ih=>
  intro X' K' hk hX hK;refine .aL hn bJ iW hA dM h1 (λdW=>?_) (λj u c hu hc=>ih j u c hu hc hk hX λb _=>rfl);obtain⟨g,o,e,hg,hx,hc⟩:=cH dW;exact⟨g,o,e,ew hg hk.size,λsU=>hx (hX g hg sU),λj c hj=>(sV (hk.block g hg hx)).trans (hc j c hj)⟩
 |aw dM h1 hg hx hc hv ih=>
  intro X' K' hk hX hK;exact .aw dM h1 (ew hg hk.size) (λsU=>hx (hX _ hg sU)) (λj c hj=>(sV (hk.block _ hg hx)).trans (hc j c hj)) (λj u c hu hc=>ih j u c hu hc hk hX λb _=>rfl)
 |bn iF nu hc hn hm iW=>
  intro X' K' hk hX hK;obtain⟨dw,h1,h2⟩:=hk.shape _ _ _ hc;exact .bn ((hK _ (by simp[AV.has])).trans iF) nu h1 hn hm (by rw[h2];exact iW)
 |fE iF=>intro X' K' hk hX hK;exact .fE ((hK _ (by simp[AV.has])).trans iF)
 |dq hn hc=>intro X' K' hk hX hK;exact .dq (λh=>(by obtain⟨g,m,h1,h2⟩:=hn h;exact⟨g,m,(hK _ (by simp[AV.has])).trans h1,h2⟩)) (λh=>(by
   obtain⟨h1,h2,g,o,aJ,e,h3,h4,h5⟩:=hc h;obtain⟨dw,h6,h7⟩:=hk.shape _ _ _ h4;exact⟨h1,h2,g,o,dw,e,h3,h6,by rw[h7];exact h5⟩))
 |af iF=>intro X' K' hk hX hK;exact .af ((uK (hK _ (by simp[AV.has]))).trans iF)
 |dP iF=>intro X' K' hk hX hK;exact .dP ((uK (hK _ (by simp[AV.has]))).trans iF)
 |dX iF=>intro X' K' hk hX hK;exact .dX ((uK (hK _ (by simp[AV.has]))).trans iF)
 |iB hm hg hx bJ hl h1 hv ih=>intro X' K' hk hX hK;exact .iB (hm.of_eq (hk.block _ hg hx)) (ew hg hk.size) (λsU=>hx (hX _ hg sU)) bJ hl h1 (λj u c hu hc=>ih j u c hu hc hk hX λb _=>rfl)
 |xx h1 h2 h3 h4 h5 h6=>intro X' K' hk hX hK;exact .xx ((hk.block _ h3 h5).trans h1) ((hk.block _ h4 h6).trans h2) (ew h3 hk.size) (ew h4 hk.size) (λsU=>h5 (hX _ h3 sU)) (λsU=>h6 (hX _ h4 sU))
theorem VR.sub{X X':Nat->Prop}{w:World}{K:KM}{u:AV}{v:Value}(h:VR w X K u v)(hX:∀g,g<w.heap.size->X' g->X g):VR w X' K u v:=
 h.ad (dv.refl X w) hX (λ_ _=>rfl)
theorem VR.any{X:Nat->Prop}{w:World}{u:AV}{v:Value}(h:VR w X K0 u v):∀K,VR w X K u v:=by
 suffices∀{X K' u v},VR w X K' u v->K'=K0->∀K,VR w X K u v fromλK=>this h rfl K
 intro X K' u v h
 induction h with
 |top=>intros;exact .top
 |bool=>intros;exact .bool
 |int=>intros;exact .int
 |str=>intros;exact .str
 |ai=>intros;exact .ai
 |fc=>intros;exact .fc
 |nU=>intros;exact .nU
 |o9=>intros;exact .o9
 |lit=>intros;exact .lit
 |agg hl h1 hv ih=>intro e K;exact .agg hl h1 λj u c hu hc=>ih j u c hu hc e K
 |bY hl hv ih=>intro e K;exact .bY hl λj u c hu hc=>ih j u c hu hc e K
 |func hl hv ih=>intro e K;exact .func hl λj u c hu hc=>ih j u c hu hc e K
 |aL hn bJ iW hA dM h1 cH hv ih=>intro e K;exact .aL hn bJ iW hA dM h1 cH hv
 |aw dM h1 hg hx hc hv ih=>intro e K;exact .aw dM h1 hg hx hc hv
 |bn iF nu hc hn hm iW=>intro e K;subst e;simp[K0]at iF
 |fE iF=>intro e K;subst e;simp[K0]at iF
 |dq hn hc=>intro e K;subst e;exact .dq (λh=>(by obtain⟨g,m,h1,_⟩:=hn h;simp[K0]at h1)) hc
 |af iF=>intro e K;subst e;simp[K0,aG]at iF
 |dP iF=>intro e K;subst e;simp[K0,aG]at iF
 |dX iF=>intro e K;subst e;simp[K0,aG]at iF
 |iB hm hg hx bJ hl h1 hv ih=>intro e K;exact .iB hm hg hx bJ hl h1 hv
 |xx h1 h2 h3 h4 h5 h6=>intro e K;exact .xx h1 h2 h3 h4 h5 h6
end Go.an
