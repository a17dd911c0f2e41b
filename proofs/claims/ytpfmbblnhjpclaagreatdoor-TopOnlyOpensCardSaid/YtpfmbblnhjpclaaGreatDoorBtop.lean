import Derived.Laws.StructEq
import Derived.Test.YtpfmbblnhjpclaaGreatDoorProg
import Derived.Test.YtpfmbblnhjpclaaGreatDoorJ17
set_option linter.unusedVariables false
set_option linter.unusedSimpArgs false
set_option maxRecDepth 20000
namespace Go.an.ax
open Go Go.an Go.Proofs
abbrev mJ:Value:=Value.slice none 0 0
abbrev cR:Value:=Value.int IntKind.i64 0
abbrev wu(e:Nat):JM:=⟨.slice e,1,24,mJ,[]⟩
def tt:dD:=[(3,⟨.int .i64,1,8,cR,[]⟩),
 (4,⟨.bool,1,1,(Value.bool false),[]⟩),
 (5,⟨.int .u8,1,1,(Value.int IntKind.u8 0),[]⟩),
 (9,⟨.str,1,16,(Value.string {data:=#[]}),[]⟩),
 (21,⟨.int .i32,1,4,(Value.int IntKind.i32 0),[]⟩),
 (22,wu 58),
 (23,wu 33),
 (24,⟨.array 2 3,2,16,(Value.agg #[cR,cR]),[]⟩),
 (27,wu 50),
 (30,wu 3),
 (31,wu 9),
 (33,⟨.struct [(0,3),(1,3),(2,3),(3,30),(4,31)],5,72,(Value.agg #[cR,cR,cR,mJ,mJ]),[]⟩),
 (34,wu 94),
 (35,wu 139),
 (36,wu 142),
 (37,wu 145),
 (38,wu 148),
 (40,⟨.struct [(0,34),(1,35),(2,36),(3,3),(4,37),(5,38)],6,128,(Value.agg #[mJ,mJ,mJ,cR,mJ,mJ]),[]⟩),
 (41,wu 84),
 (42,wu 81),
 (43,wu 156),
 (44,wu 159),
 (45,wu 162),
 (46,wu 97),
 (47,wu 166),
 (48,wu 169),
 (50,⟨.struct [(0,40),(6,41),(7,42),(8,43),(9,44),(10,3),(11,45),(12,46),(13,47),(14,48),(15,3)],16,336,(Value.agg #[mJ,mJ,mJ,cR,mJ,mJ,mJ,mJ,mJ,mJ,cR,mJ,mJ,mJ,mJ,cR]),[]⟩),
 (54,⟨.int .i64,1,8,cR,[]⟩),
 (58,⟨.struct [(0,3),(1,3),(2,3)],3,24,(Value.agg #[cR,cR,cR]),[]⟩),
 (61,⟨.other,1,8,Value.nilFunc,[]⟩),
 (69,⟨.struct [(0,3),(1,3)],2,16,(Value.agg #[cR,cR]),[.i .i64,.i .i64]⟩),
 (72,wu 191),
 (74,⟨.struct [(0,3),(1,3),(2,3),(3,4),(4,72)],5,56,(Value.agg #[cR,cR,cR,(Value.bool false),mJ]),[]⟩),
 (77,wu 198),
 (81,⟨.struct [(0,3),(1,3),(2,3),(3,3)],4,32,(Value.agg #[cR,cR,cR,cR]),[]⟩),
 (82,wu 152),
 (84,⟨.struct [(0,3),(1,3),(2,3),(3,3),(4,82)],5,56,(Value.agg #[cR,cR,cR,cR,mJ]),[]⟩),
 (90,⟨.other,1,8,(Value.pointer none),[]⟩),
 (92,⟨.struct [(0,3),(1,3)],2,16,(Value.agg #[cR,cR]),[]⟩),
 (94,⟨.struct [(0,3),(1,92),(3,3),(4,30)],5,56,(Value.agg #[cR,cR,cR,cR,mJ]),[]⟩),
 (97,⟨.struct [(0,3),(1,3),(2,3),(3,3),(4,3),(5,3),(6,30),(7,30)],8,96,(Value.agg #[cR,cR,cR,cR,cR,cR,mJ,mJ]),[]⟩),
 (103,⟨.other,1,8,Value.nilFunc,[]⟩),
 (110,⟨.map 3 69,1,8,(Value.map none),[]⟩),
 (112,⟨.struct [(0,110),(1,3)],2,16,(Value.agg #[(Value.map none),cR]),[]⟩),
 (113,⟨.other,1,8,(Value.pointer none),[]⟩),
 (119,⟨.struct [(0,42),(1,41)],2,48,(Value.agg #[mJ,mJ]),[]⟩),
 (121,⟨.struct [(0,30),(1,77)],2,48,(Value.agg #[mJ,mJ]),[]⟩),
 (123,⟨.map 9 121,1,8,(Value.map none),[]⟩),
 (133,⟨.other,1,8,Value.nilFunc,[]⟩),
 (137,⟨.struct [(0,3),(1,3)],2,16,(Value.agg #[cR,cR]),[]⟩),
 (139,⟨.struct [(0,3),(1,3),(2,3),(3,4),(4,137)],6,48,(Value.agg #[cR,cR,cR,(Value.bool false),cR,cR]),[]⟩),
 (142,⟨.struct [(0,3),(1,9),(2,92),(4,92)],6,56,(Value.agg #[cR,(Value.string {data:=#[]}),cR,cR,cR,cR]),[.i .i64,.s,.i .i64,.i .i64,.i .i64,.i .i64]⟩),
 (145,⟨.struct [(0,3),(1,3),(2,3),(3,4),(4,137)],6,48,(Value.agg #[cR,cR,cR,(Value.bool false),cR,cR]),[]⟩),
 (148,⟨.struct [(0,3),(1,3),(2,3),(3,3),(4,137)],6,48,(Value.agg #[cR,cR,cR,cR,cR,cR]),[]⟩),
 (152,⟨.struct [(0,3),(1,3)],2,16,(Value.agg #[cR,cR]),[]⟩),
 (156,⟨.struct [(0,3),(1,3),(2,69),(4,69)],6,48,(Value.agg #[cR,cR,cR,cR,cR,cR]),[]⟩),
 (159,⟨.struct [(0,3),(1,3),(2,3),(3,3),(4,3),(5,3),(6,3)],7,56,(Value.agg #[cR,cR,cR,cR,cR,cR,cR]),[]⟩),
 (162,⟨.struct [(0,3),(1,3),(2,137)],4,32,(Value.agg #[cR,cR,cR,cR]),[]⟩),
 (166,⟨.struct [(0,3),(1,3)],2,16,(Value.agg #[cR,cR]),[]⟩),
 (169,⟨.struct [(0,3),(1,3),(2,3)],3,24,(Value.agg #[cR,cR,cR]),[]⟩),
 (170,⟨.other,1,8,Value.nilFunc,[]⟩),
 (172,⟨.struct [(0,3),(1,3),(2,4),(3,3),(4,170)],5,40,(Value.agg #[cR,cR,(Value.bool false),cR,Value.nilFunc]),[]⟩),
 (175,⟨.other,1,8,(Value.pointer none),[]⟩),
 (177,⟨.struct [(0,50),(16,22),(17,33)],22,432,(Value.agg #[mJ,mJ,mJ,cR,mJ,mJ,mJ,mJ,mJ,mJ,cR,mJ,mJ,mJ,mJ,cR,mJ,cR,cR,cR,mJ,mJ]),[]⟩),
 (182,⟨.other,1,8,Value.nilFunc,[]⟩),
 (184,wu 187),
 (187,⟨.struct [(0,3),(1,3),(2,3),(3,3)],4,32,(Value.agg #[cR,cR,cR,cR]),[]⟩),
 (191,⟨.struct [(0,187),(4,3)],5,40,(Value.agg #[cR,cR,cR,cR,cR]),[]⟩),
 (195,wu 30),
 (198,⟨.struct [(0,3),(1,3),(2,3)],3,24,(Value.agg #[cR,cR,cR]),[]⟩),
 (202,wu 5),
 (209,wu 54),
 (216,⟨.other,1,8,Value.nilFunc,[]⟩),
 (218,⟨.other,1,8,Value.nilFunc,[]⟩),
 (219,⟨.map 3 3,1,8,(Value.map none),[]⟩),
 (222,⟨.other,1,8,Value.nilFunc,[]⟩),
 (223,⟨.map 3 172,1,8,(Value.map none),[]⟩),
 (226,⟨.int .u64,1,8,(Value.int IntKind.u64 0),[]⟩),
 (227,wu 232),
 (229,⟨.other,1,8,Value.nilFunc,[]⟩),
 (230,⟨.other,1,8,Value.nilFunc,[]⟩),
 (232,⟨.struct [(0,229),(1,230)],2,16,(Value.agg #[Value.nilFunc,Value.nilFunc]),[]⟩),
 (235,⟨.other,1,8,Value.nilFunc,[]⟩),
 (237,⟨.other,1,8,Value.nilFunc,[]⟩),
 (240,⟨.other,1,8,Value.nilFunc,[]⟩),
 (241,⟨.other,1,8,Value.nilFunc,[]⟩),
 (247,⟨.other,1,8,Value.nilFunc,[]⟩),
 (248,⟨.map 3 4,1,8,(Value.map none),[]⟩),
 (250,⟨.other,1,8,Value.nilFunc,[]⟩),
 (251,⟨.other,1,8,Value.nilFunc,[]⟩),
 (256,⟨.other,1,8,Value.nilFunc,[]⟩),
 (271,⟨.other,1,8,Value.nilFunc,[]⟩),
 (276,⟨.other,1,8,Value.nilFunc,[]⟩),
 (282,⟨.other,1,8,Value.nilFunc,[]⟩),
 (286,⟨.other,1,8,Value.nilFunc,[]⟩),
 (289,⟨.other,1,8,(Value.pointer none),[]⟩),
 (295,⟨.other,1,8,(Value.pointer none),[]⟩),
 (299,⟨.other,1,8,(Value.pointer none),[]⟩),
 (303,⟨.other,1,8,(Value.pointer none),[]⟩),
 (306,⟨.other,1,8,Value.nilFunc,[]⟩),
 (310,⟨.other,1,8,(Value.pointer none),[]⟩),
 (318,⟨.other,1,8,(Value.pointer none),[]⟩),
 (325,⟨.other,1,8,(Value.pointer none),[]⟩),
 (328,⟨.other,1,8,Value.nilFunc,[]⟩),
 (335,⟨.other,1,8,(Value.pointer none),[]⟩),
 (339,⟨.other,1,8,(Value.pointer none),[]⟩),
 (340,⟨.other,1,8,(Value.pointer none),[]⟩),
 (348,⟨.other,1,8,(Value.pointer none),[]⟩),
 (350,⟨.other,1,8,Value.nilFunc,[]⟩),
 (355,wu 137),
 (362,wu 145),
 (363,⟨.other,1,8,Value.nilFunc,[]⟩),
 (371,⟨.other,1,8,(Value.pointer none),[]⟩),
 (391,⟨.other,1,8,(Value.pointer none),[]⟩),
 (395,⟨.struct [(0,3),(1,251)],2,16,(Value.agg #[cR,Value.nilFunc]),[]⟩),
 (398,⟨.other,1,8,Value.nilFunc,[]⟩),
 (403,⟨.other,1,8,Value.nilFunc,[]⟩),
 (408,⟨.int .u64,1,8,(Value.int IntKind.u64 0),[]⟩),
 (409,⟨.array 25 408,25,200,(Value.agg #[(Value.int IntKind.u64 0),(Value.int IntKind.u64 0),(Value.int IntKind.u64 0),(Value.int IntKind.u64 0),(Value.int IntKind.u64 0),(Value.int IntKind.u64 0),(Value.int IntKind.u64 0),(Value.int IntKind.u64 0),(Value.int IntKind.u64 0),(Value.int IntKind.u64 0),(Value.int IntKind.u64 0),(Value.int IntKind.u64 0),(Value.int IntKind.u64 0),(Value.int IntKind.u64 0),(Value.int IntKind.u64 0),(Value.int IntKind.u64 0),(Value.int IntKind.u64 0),(Value.int IntKind.u64 0),(Value.int IntKind.u64 0),(Value.int IntKind.u64 0),(Value.int IntKind.u64 0),(Value.int IntKind.u64 0),(Value.int IntKind.u64 0),(Value.int IntKind.u64 0),(Value.int IntKind.u64 0)]),[]⟩),
 (411,⟨.struct [(0,409),(25,9),(26,3)],27,224,(Value.agg #[(Value.int IntKind.u64 0),(Value.int IntKind.u64 0),(Value.int IntKind.u64 0),(Value.int IntKind.u64 0),(Value.int IntKind.u64 0),(Value.int IntKind.u64 0),(Value.int IntKind.u64 0),(Value.int IntKind.u64 0),(Value.int IntKind.u64 0),(Value.int IntKind.u64 0),(Value.int IntKind.u64 0),(Value.int IntKind.u64 0),(Value.int IntKind.u64 0),(Value.int IntKind.u64 0),(Value.int IntKind.u64 0),(Value.int IntKind.u64 0),(Value.int IntKind.u64 0),(Value.int IntKind.u64 0),(Value.int IntKind.u64 0),(Value.int IntKind.u64 0),(Value.int IntKind.u64 0),(Value.int IntKind.u64 0),(Value.int IntKind.u64 0),(Value.int IntKind.u64 0),(Value.int IntKind.u64 0),(Value.string {data:=#[]}),cR]),[]⟩),
 (423,⟨.int .u32,1,4,(Value.int IntKind.u32 0),[]⟩),
 (440,⟨.other,1,8,Value.nilFunc,[]⟩),
 (470,⟨.array 12 3,12,96,(Value.agg #[cR,cR,cR,cR,cR,cR,cR,cR,cR,cR,cR,cR]),[]⟩),
 (474,⟨.array 25 3,25,200,(Value.agg #[cR,cR,cR,cR,cR,cR,cR,cR,cR,cR,cR,cR,cR,cR,cR,cR,cR,cR,cR,cR,cR,cR,cR,cR,cR]),[]⟩),
 (476,⟨.array 24 408,24,192,(Value.agg #[(Value.int IntKind.u64 0),(Value.int IntKind.u64 0),(Value.int IntKind.u64 0),(Value.int IntKind.u64 0),(Value.int IntKind.u64 0),(Value.int IntKind.u64 0),(Value.int IntKind.u64 0),(Value.int IntKind.u64 0),(Value.int IntKind.u64 0),(Value.int IntKind.u64 0),(Value.int IntKind.u64 0),(Value.int IntKind.u64 0),(Value.int IntKind.u64 0),(Value.int IntKind.u64 0),(Value.int IntKind.u64 0),(Value.int IntKind.u64 0),(Value.int IntKind.u64 0),(Value.int IntKind.u64 0),(Value.int IntKind.u64 0),(Value.int IntKind.u64 0),(Value.int IntKind.u64 0),(Value.int IntKind.u64 0),(Value.int IntKind.u64 0),(Value.int IntKind.u64 0)]),[]⟩),
 (496,⟨.array 5 408,5,40,(Value.agg #[(Value.int IntKind.u64 0),(Value.int IntKind.u64 0),(Value.int IntKind.u64 0),(Value.int IntKind.u64 0),(Value.int IntKind.u64 0)]),[]⟩)]
theorem bZ:bW tt=true:=by kernel_rfl
theorem O5:D8 Tryz.prog 69 [.i .i64,.i .i64]:=by
 refine⟨by kernel_rfl,λw us vs sq F4=>?_⟩;obtain⟨a0,us0,rfl,hu1⟩:=kp sq;obtain⟨a1,us1,rfl,hu2⟩:=kp hu1
 cases vA hu2
 obtain⟨b0,mJ,rfl,Np⟩:=kp F4;obtain⟨b1,vs1,rfl,Ay⟩:=kp Np
 cases vA Ay
 have u3:=Tryz.underlying3;have a3x:=Tryz.isAgg3;have z3:=Tryz.sizeOf3;have ahV:Tryz.prog.underlying 69=some (.struct (Tryz.prog.fieldsOf 69)):=by kernel_rfl
 have ahW:Tryz.prog.stoodInHeld 69=false:=by kernel_rfl
 rw[show(10000:Nat)=9999+1 from rfl,run_equalIn_agg w 9999 69 _ _ ahV ahW];simp only[Program.fieldsOf,Tryz.underlying69,List.map,AV.toV]
 go_simp
 clear sq F4 hu1 Np hu2 Ay
 repeat' split
 all_goals simp_all [HY,eqC]
theorem Mk:D8 Tryz.prog 142 [.i .i64,.s,.i .i64,.i .i64,.i .i64,.i .i64]:=by
 refine⟨by kernel_rfl,λw us vs sq F4=>?_⟩;obtain⟨a0,us0,rfl,hu1⟩:=kp sq;obtain⟨a1,us1,rfl,hu2⟩:=Ou hu1;obtain⟨a2,us2,rfl,hu3⟩:=kp hu2;obtain⟨a3,us3,rfl,hu4⟩:=kp hu3;obtain⟨a4,us4,rfl,hu5⟩:=kp hu4;obtain⟨a5,us5,rfl,hu6⟩:=kp hu5
 cases vA hu6
 obtain⟨b0,mJ,rfl,Np⟩:=kp F4;obtain⟨b1,vs1,rfl,Ay⟩:=Ou Np;obtain⟨b2,vs2,rfl,hv3⟩:=kp Ay;obtain⟨b3,vs3,rfl,hv4⟩:=kp hv3;obtain⟨b4,vs4,rfl,hv5⟩:=kp hv4;obtain⟨b5,vs5,rfl,hv6⟩:=kp hv5
 cases vA hv6
 have u3:=Tryz.underlying3;have a3x:=Tryz.isAgg3;have z3:=Tryz.sizeOf3;have u9:=Tryz.underlying9;have a9x:=Tryz.isAgg9;have z9:=Tryz.sizeOf9;have u92:=Tryz.underlying92;have am4:=Tryz.isAgg92;have z92:=Tryz.sizeOf92;have abo:Tryz.prog.underlying 142=some (.struct (Tryz.prog.fieldsOf 142)):=by kernel_rfl
 have abp:Tryz.prog.stoodInHeld 142=false:=by kernel_rfl
 have am5:Tryz.prog.underlying 92=some (.struct (Tryz.prog.fieldsOf 92)):=by kernel_rfl
 have am6:Tryz.prog.stoodInHeld 92=false:=by kernel_rfl
 rw[show(10000:Nat)=9999+1 from rfl,run_equalIn_agg w 9999 142 _ _ abo abp];simp only[Program.fieldsOf,Tryz.underlying142,List.map,AV.toV]
 go_simp
 clear sq F4 hu1 Np hu2 Ay hu3 hv3 hu4 hv4 hu5 hv5 hu6 hv6
 repeat' split
 all_goals simp_all [HY,eqC]
theorem dJ{A B C:Prop}(a:A:=by kernel_rfl)(b:B:=by kernel_rfl)(c:C:=by exactλh=>absurd rfl h):A/\B/\C:=⟨a,b,c⟩
theorem cC:br Tryz.prog tt:=⟨dJ,
 dJ,
 dJ,
 dJ,
 dJ,
 dJ,
 dJ,
 dJ,
 dJ,
 dJ,
 dJ,
 dJ,
 dJ,
 dJ,
 dJ,
 dJ,
 dJ,
 dJ,
 dJ,
 dJ,
 dJ,
 dJ,
 dJ,
 dJ,
 dJ,
 dJ,
 dJ,
 dJ,
 dJ,
 dJ,
 ⟨by kernel_rfl,by kernel_rfl,λ_=>O5⟩,
 dJ,
 dJ,
 dJ,
 dJ,
 dJ,
 dJ,
 dJ,
 dJ,
 dJ,
 dJ,
 dJ,
 dJ,
 dJ,
 dJ,
 dJ,
 dJ,
 dJ,
 dJ,
 dJ,
 dJ,
 ⟨by kernel_rfl,by kernel_rfl,λ_=>Mk⟩,
 dJ,
 dJ,
 dJ,
 dJ,
 dJ,
 dJ,
 dJ,
 dJ,
 dJ,
 dJ,
 dJ,
 dJ,
 dJ,
 dJ,
 dJ,
 dJ,
 dJ,
 dJ,
 dJ,
 dJ,
 dJ,
 dJ,
 dJ,
 dJ,
 dJ,
 dJ,
 dJ,
 dJ,
 dJ,
 dJ,
 dJ,
 dJ,
 dJ,
 dJ,
 dJ,
 dJ,
 dJ,
 dJ,
 dJ,
 dJ,
 dJ,
 dJ,
 dJ,
 dJ,
 dJ,
 dJ,
 dJ,
 dJ,
 dJ,
 dJ,
 dJ,
 dJ,
 dJ,
 dJ,
 dJ,
 dJ,
 dJ,
 dJ,
 dJ,
 dJ,
 dJ,
 dJ,
 dJ,
 dJ,
 dJ,
 dJ,
 dJ,
 dJ,
 dJ,
 dJ,
 dJ,
 dJ,
 dJ,
 dJ,trivial⟩
theorem mixed:Tryz.prog.follows .mixedOrders=true:=by kernel_rfl
def body(f:Func):Code:=match f.body with|some c=>c|none=>.skip
noncomputable abbrev kg:=Tryz.prog
structure FD(f:FuncId)(n:Func)(N:Nat)(rv:List ResultVar)(ks:List Nat):Prop where
 fda:Tryz.prog.funcs[f]?=some n
 fdb:n.body=some (body n)
 fdc:(n.name== "runtime.NumGoroutine")=false
 fdd:cr (body n)=true
 fde:n.ntmps=N
 fdf:n.results.toList=rv
theorem qm{f:FuncId}{n:Func}{N:Nat}{rv:List ResultVar}{ks:List Nat}(a:Tryz.prog.funcs[f]?=some n)(b:n.body=some (body n):=by rfl)(c:(n.name== "runtime.NumGoroutine")=false:=by kernel_rfl)(d:cr (body n)=true:=by kernel_rfl)(e:n.ntmps=N:=by rfl)(g:n.results.toList=rv:=by rfl):FD f n N rv ks:=⟨a,b,c,d,e,g⟩
theorem fdn{f:FuncId}{n:Func}{N:Nat}{rv:List ResultVar}{ks:List Nat}(q:FD f n N rv ks){k:Nat}(h:Nat.ble k N=true):Nat.ble k n.ntmps=true:=by rw[q.fde];exact h
theorem aH{f:FuncId}{n:Func}{N:Nat}{rv:List ResultVar}{ks:List Nat}(q:FD f n N rv ks){args:List AV}{r:AV}(h:ev kg tt N ks (body n) ⟨idx 0 args,[]⟩ (aa3 tt rv r))(hn:Nat.ble args.length N=true:=by rfl):Fn kg f args r:=
 aa5 rv cC bZ mixed q.fda q.fdb q.fdc q.fdd (fdn q hn) q.fde q.fdf h
theorem lX{f:FuncId}{n:Func}{N:Nat}{rv:List ResultVar}{ks:List Nat}(q:FD f n N rv ks)(gs:List (Nat×List Nat))(wk:List Nat){args:List AV}{r:AV}(h:mY kg tt N ks gs wk [] (body n) ⟨idx 0 args,[]⟩ (kq tt rv r))(hn:Nat.ble args.length N=true:=by rfl):Fn kg f args r:=
 XW rv cC bZ mixed q.fda q.fdb q.fdc q.fdd (fdn q hn) q.fde q.fdf h
theorem dK{f:FuncId}{n:Func}{N:Nat}{rv:List ResultVar}{ks:List Nat}(q:FD f n N rv ks)(gs:List (Nat×List Nat))(wk:List Nat){args:List AV}{O O1:List (Nat×ak)}{pins:List Nat}{r:AV}(hp:∀b,bm b pins=true->Nat.ble 2 (b %16)=true/\(aK O b).isSome=true)(h:mY kg tt N ks gs wk pins (body n) ⟨idx 0 args,O⟩ (rh tt pins rv r O1))(hn:Nat.ble args.length N=true:=by rfl):fS kg f args O pins O1 r:=
 S1 rv cC bZ mixed q.fda q.fdb q.fdc q.fdd (fdn q hn) q.fde q.fdf hp h
theorem qq5:FD 5 Tryz.f5 12 [.tmp 4] [0,1,4]:=qm Tryz.func5
theorem qq8:FD 8 Tryz.f8 25 [.tmp 6,.tmp 7] [0,1,2,4,6,7,8,9]:=qm Tryz.func8
theorem X4:FD 10 Tryz.f10 8 [.tmp 2] [0,2,4]:=qm Tryz.func10
theorem S9:FD 11 Tryz.f11 9 [.tmp 4] [0,1,4]:=qm Tryz.func11
theorem ahX:FD 12 Tryz.f12 8 [.tmp 3] [0,1,3]:=qm Tryz.func12
theorem ahY:FD 13 Tryz.f13 9 [.tmp 4] [0,1,4]:=qm Tryz.func13
theorem ahZ:FD 14 Tryz.f14 8 [.tmp 3] [0,1,3]:=qm Tryz.func14
theorem X5:FD 19 Tryz.f19 29 [.cell 10 74,.tmp 11] [0,1,2,3,4,6,10,11,12,20]:=qm Tryz.func19
theorem ah0:FD 20 Tryz.f20 46 [.tmp 8,.tmp 9] [0,1,2,3,8,9,10,11,12,13,14,20,27,43]:=qm Tryz.func20
theorem ah1:FD 21 Tryz.f21 24 [.tmp 4,.tmp 5] [0,1,4,5,6,7,15]:=qm Tryz.func21
theorem ah2:FD 22 Tryz.f22 38 [.tmp 2] [0,2,4,6,7,8,9,10,22,24,25,26,27,32]:=qm Tryz.func22
theorem ah3:FD 23 Tryz.f23 48 [.tmp 4] [0,1,3,4,6,8,9,10,11,17]:=qm Tryz.func23
theorem Ta:FD 24 Tryz.f24 23 [.cell 6 50,.tmp 7] [0,1,2,3,5,6,7,15]:=qm Tryz.func24
theorem ah4:FD 27 Tryz.f27 55 [.tmp 8,.tmp 9] [0,1,2,3,5,8,9,10,12,13,22,34,35,36,37,47]:=qm Tryz.func27
theorem ah5:FD 28 Tryz.f28 9 [.tmp 2] [0,2]:=qm Tryz.func28
theorem ah6:FD 29 Tryz.f29 8 [.tmp 4] [0,1,3,4]:=qm Tryz.func29
theorem Tb:FD 31 Tryz.f31 19 [.tmp 4] [0,1,4,5,7,8,9,16]:=qm Tryz.func31
theorem ah7:FD 32 Tryz.f32 19 [.tmp 4] [0,1,4,5,7,8,9,16]:=qm Tryz.func32
theorem ah8:FD 33 Tryz.f33 15 [.tmp 6] [0,1,2,6]:=qm Tryz.func33
theorem O6:FD 34 Tryz.f34 17 [.tmp 2] [0,1,2]:=qm Tryz.func34
theorem ah9:FD 38 Tryz.f38 9 [.tmp 2] [0,2]:=qm Tryz.func38
theorem aia:FD 39 Tryz.f39 9 [.tmp 2] [0,2]:=qm Tryz.func39
theorem GR:FD 41 Tryz.f41 37 [.tmp 10] [0,1,2,3,4,6,10,11,20,32]:=qm Tryz.func41
theorem abq:FD 42 Tryz.f42 76 [.cell 10 74] [0,1,2,3,4,6,10,11,12,14,15,16,28,29,30,31,58]:=qm Tryz.func42
theorem abr:FD 43 Tryz.f43 21 [.tmp 6] [0,1,2,6,7,8,16]:=qm Tryz.func43
theorem aib:FD 46 Tryz.f46 16 [.tmp 4,.tmp 5] [0,1,4,5,6,11]:=qm Tryz.func46
theorem aic:FD 47 Tryz.f47 6 [.tmp 2] [0,2]:=qm Tryz.func47
theorem aid:FD 48 Tryz.f48 19 [.tmp 2] [0,2,4,5,6,7,8,14]:=qm Tryz.func48
theorem aie:FD 49 Tryz.f49 6 [.tmp 2] [0,2]:=qm Tryz.func49
theorem aif:FD 50 Tryz.f50 13 [.tmp 4] [0,1,4]:=qm Tryz.func50
theorem abt:FD 51 Tryz.f51 37 [.tmp 2] [0,1,2,4,17,18,19,20,24,34]:=qm Tryz.func51
theorem aih:FD 52 Tryz.f52 19 [.tmp 4] [0,1,4,5,7,8,9,16]:=qm Tryz.func52
theorem aii:FD 53 Tryz.f53 8 [.tmp 3] [0,1,2,3]:=qm Tryz.func53
theorem abu:FD 55 Tryz.f55 167 [.tmp 2] [0,1,2,4,5,6,7,8,9,10,31,32,33,34,38,41,42,43,44,66,69,70,71,72,101,104,105,106,107,144]:=qm Tryz.func55
theorem X6:FD 59 Tryz.f59 8 [.tmp 2] [0,2,4]:=qm Tryz.func59
theorem X7:FD 60 Tryz.f60 8 [.tmp 2] [0,2,4]:=qm Tryz.func60
theorem X8:FD 61 Tryz.f61 8 [.tmp 2] [0,2,4]:=qm Tryz.func61
theorem X9:FD 62 Tryz.f62 8 [.tmp 2] [0,2,4]:=qm Tryz.func62
theorem Ya:FD 63 Tryz.f63 8 [.tmp 2] [0,2,4]:=qm Tryz.func63
theorem Yb:FD 64 Tryz.f64 8 [.tmp 2] [0,2,4]:=qm Tryz.func64
theorem Tc:FD 65 Tryz.f65 8 [.tmp 2] [0,2,4]:=qm Tryz.func65
theorem Td:FD 66 Tryz.f66 8 [.tmp 2] [0,2,4]:=qm Tryz.func66
theorem Te:FD 67 Tryz.f67 8 [.tmp 2] [0,2,4]:=qm Tryz.func67
theorem Yc:FD 68 Tryz.f68 8 [.tmp 2] [0,2,4]:=qm Tryz.func68
theorem Ml:FD 69 Tryz.f69 8 [.tmp 2] [0,2,4]:=qm Tryz.func69
theorem Yd:FD 70 Tryz.f70 8 [.tmp 2] [0,2,4]:=qm Tryz.func70
theorem Ye:FD 71 Tryz.f71 8 [.tmp 2] [0,2,4]:=qm Tryz.func71
theorem Yf:FD 72 Tryz.f72 8 [.tmp 2] [0,2,4]:=qm Tryz.func72
theorem Tf:FD 73 Tryz.f73 8 [.tmp 2] [0,2,4]:=qm Tryz.func73
theorem I1:FD 74 Tryz.f74 58 [.cell 2 172,.tmp 3] [0,1,2,3,4,5,6,43]:=qm Tryz.func74
theorem aij:FD 76 Tryz.f76 49 [.tmp 6,.tmp 7] [0,1,2,6,7,8,9,10,11,17,31]:=qm Tryz.func76
theorem aik:FD 77 Tryz.f77 9 [.tmp 4] [0,1,2,4,8]:=qm Tryz.func77
theorem abv:FD 80 Tryz.f80 28 [.tmp 10,.tmp 11] [0,1,2,3,4,6,7,8,9,10,11,12,22]:=qm Tryz.func80
theorem ail:FD 81 Tryz.f81 13 [.tmp 4] [0,1,3,4]:=qm Tryz.func81
theorem aim:FD 82 Tryz.f82 31 [.cell 4 119,.tmp 5] [0,1,4,5,6,14,17,18,19,25]:=qm Tryz.func82
theorem ain:FD 83 Tryz.f83 81 [.tmp 4] [0,1,2,4,6,7,8,9,10,16,17,18,19,20,26,32,33,34,35,79]:=qm Tryz.func83
theorem aio:FD 85 Tryz.f85 15 [.tmp 6] [0,1,2,6,7]:=qm Tryz.func85
theorem aip:FD 86 Tryz.f86 9 [.tmp 4] [0,1,2,3,4]:=qm Tryz.func86
theorem Yg:FD 87 Tryz.f87 8 [.tmp 2] [0,2,4]:=qm Tryz.func87
theorem aiq:FD 88 Tryz.f88 9 [.tmp 4] [0,1,2,3,4]:=qm Tryz.func88
theorem air:FD 89 Tryz.f89 14 [.tmp 4] [0,1,4,5,10]:=qm Tryz.func89
theorem ais:FD 90 Tryz.f90 81 [.tmp 4] [0,1,4,5,6,7,8,9,10,11,17,18,19,22,27,28,29,30,38,63]:=qm Tryz.func90
theorem abw:FD 91 Tryz.f91 40 [.tmp 2] [0,2,3,4,7,8,9,10,11,15,19,33]:=qm Tryz.func91
theorem abx:FD 92 Tryz.f92 35 [.tmp 2] [0,2,3,4,5,8,9,10,11,12,19,33]:=qm Tryz.func92
theorem aby:FD 93 Tryz.f93 34 [.tmp 2] [0,2,3,4,7,8,9,10,11,15,19]:=qm Tryz.func93
theorem abz:FD 94 Tryz.f94 34 [.tmp 2] [0,2,3,4,7,8,9,10,11,15,19]:=qm Tryz.func94
theorem abA:FD 95 Tryz.f95 74 [.tmp 2] [0,1,2,3,4,6,10,12,13,14,15,19,34,39,61,62,63,64,71]:=qm Tryz.func95
theorem ait:FD 96 Tryz.f96 54 [.tmp 2] [0,2,3,4,5,6,8,11,13,14,15,16,23,37,39,40,41,42,48]:=qm Tryz.func96
theorem aiu:FD 97 Tryz.f97 53 [.tmp 2] [0,2,3,4,7,8,9,10,11,15,38]:=qm Tryz.func97
theorem abB:FD 98 Tryz.f98 70 [.tmp 2] [0,2,3,4,7,8,9,10,11,15,19,44,56]:=qm Tryz.func98
theorem abC:FD 99 Tryz.f99 36 [.tmp 4] [0,1,4,5,6,7,8,15,19,20,21,22,33]:=qm Tryz.func99
theorem nN:FD 100 Tryz.f100 80 [.tmp 2] [0,1,2,3,50,61,76]:=qm Tryz.func100
theorem abD:FD 101 Tryz.f101 5 [.tmp 2] [0,2]:=qm Tryz.func101
theorem Vo:FD 102 Tryz.f102 14 [.tmp 3] [0,1,2,3]:=qm Tryz.func102
theorem O7:FD 103 Tryz.f103 9 [.tmp 4] [0,1,2,3,4]:=qm Tryz.func103
theorem abE:FD 104 Tryz.f104 9 [.tmp 4] [0,1,4]:=qm Tryz.func104
theorem Vp:FD 105 Tryz.f105 31 [.tmp 4] [0,1,2,3,4]:=qm Tryz.func105
theorem O8:FD 106 Tryz.f106 9 [.tmp 4] [0,1,2,3,4]:=qm Tryz.func106
theorem Kp:FD 107 Tryz.f107 15 [.cell 4 69] [0,1,2,4,5]:=qm Tryz.func107
theorem abF:FD 108 Tryz.f108 9 [.tmp 4] [0,1,4]:=qm Tryz.func108
theorem Kq:FD 109 Tryz.f109 22 [.tmp 4] [0,1,2,3,4,5]:=qm Tryz.func109
theorem Vq:FD 112 Tryz.f112 5 [.tmp 0] [0]:=qm Tryz.func112
theorem Vr:FD 113 Tryz.f113 19 [.tmp 4] [0,1,4,5,7,8,9,16]:=qm Tryz.func113
theorem abG:FD 114 Tryz.f114 13 [.tmp 6] [0,1,2,3,4,5,6]:=qm Tryz.func114
theorem abH:FD 115 Tryz.f115 26 [.tmp 10] [0,1,2,3,4,5,10]:=qm Tryz.func115
theorem abI:FD 116 Tryz.f116 9 [.tmp 4] [0,1,4]:=qm Tryz.func116
theorem abJ:FD 117 Tryz.f117 12 [.tmp 3] [0,1,2,3]:=qm Tryz.func117
theorem O9:FD 118 Tryz.f118 19 [.tmp 4] [0,1,4,5,7,8,9,16]:=qm Tryz.func118
theorem abK:FD 119 Tryz.f119 8 [.tmp 3] [0,1,2,3]:=qm Tryz.func119
theorem abL:FD 120 Tryz.f120 19 [.tmp 4] [0,1,4,5,7,8,9,16]:=qm Tryz.func120
theorem abM:FD 121 Tryz.f121 8 [.tmp 3] [0,1,2,3]:=qm Tryz.func121
theorem Vs:FD 122 Tryz.f122 20 [.tmp 4] [0,1,3,4,5,12,16]:=qm Tryz.func122
theorem abN:FD 123 Tryz.f123 36 [.tmp 2] [0,1,2]:=qm Tryz.func123
theorem abO:FD 124 Tryz.f124 9 [.tmp 4] [0,1,4]:=qm Tryz.func124
theorem abP:FD 125 Tryz.f125 27 [.tmp 3] [0,1,2,3]:=qm Tryz.func125
theorem abQ:FD 126 Tryz.f126 36 [.tmp 2] [0,1,2,3,12,17,28]:=qm Tryz.func126
theorem abR:FD 127 Tryz.f127 52 [.tmp 2] [0,1,2]:=qm Tryz.func127
theorem abS:FD 128 Tryz.f128 47 [.tmp 2] [0,1,2]:=qm Tryz.func128
theorem Vu:FD 129 Tryz.f129 18 [.tmp 2] [0,1,2,17]:=qm Tryz.func129
theorem abT:FD 130 Tryz.f130 24 [.tmp 2] [0,2,3,5,6,7,22]:=qm Tryz.func130
theorem abU:FD 131 Tryz.f131 9 [.tmp 4] [0,1,4]:=qm Tryz.func131
theorem abV:FD 132 Tryz.f132 8 [.tmp 3] [0,1,2,3]:=qm Tryz.func132
theorem abW:FD 133 Tryz.f133 45 [.tmp 2] [0,1,2,3,33,38]:=qm Tryz.func133
theorem abX:FD 134 Tryz.f134 15 [.tmp 6] [0,1,2,6]:=qm Tryz.func134
theorem abY:FD 135 Tryz.f135 60 [.tmp 2] [0,1,2]:=qm Tryz.func135
theorem abZ:FD 136 Tryz.f136 8 [.tmp 4] [0,1,3,4]:=qm Tryz.func136
theorem ab0:FD 137 Tryz.f137 11 [.tmp 2] [0,1,2]:=qm Tryz.func137
theorem ab1:FD 138 Tryz.f138 10 [.tmp 6] [0,1,2,4,5,6]:=qm Tryz.func138
theorem ab2:FD 139 Tryz.f139 53 [.tmp 6] [0,1,2,5,6,7,24,40,47]:=qm Tryz.func139
theorem ab3:FD 140 Tryz.f140 5 [.tmp 2] [0,2]:=qm Tryz.func140
theorem ab4:FD 141 Tryz.f141 15 [.tmp 6] [0,1,2,6]:=qm Tryz.func141
theorem ab5:FD 142 Tryz.f142 6 [.tmp 2] [0,2]:=qm Tryz.func142
theorem ab6:FD 143 Tryz.f143 24 [.tmp 2] [0,2,3,5,6,7,22]:=qm Tryz.func143
theorem ab7:FD 144 Tryz.f144 9 [.tmp 4] [0,1,2,4]:=qm Tryz.func144
theorem vJ:FD 146 Tryz.f146 53 [.tmp 2] [0,1,2,4,5,16,27,40]:=qm Tryz.func146
theorem ab8:FD 147 Tryz.f147 8 [.tmp 3] [0,1,2,3]:=qm Tryz.func147
theorem Vv:FD 148 Tryz.f148 19 [.tmp 4] [0,1,4,5,7,8,9,16]:=qm Tryz.func148
theorem ab9:FD 149 Tryz.f149 8 [.tmp 3] [0,1,2,3]:=qm Tryz.func149
theorem aca:FD 170 Tryz.f170 18 [.tmp 2] [0,1,2,4,5,12]:=qm Tryz.func170
theorem Vw:FD 171 Tryz.f171 37 [.tmp 6] [0,1,2,3,4,6,7,9,10,34]:=qm Tryz.func171
theorem Pb:FD 172 Tryz.f172 19 [.cell 4 94,.tmp 5] [0,1,2,3,4,5,6,12]:=qm Tryz.func172
theorem Kr:FD 173 Tryz.f173 40 [.cell 8 187,.tmp 9] [0,1,2,3,6,8,9,10,11,32]:=qm Tryz.func173
theorem Vx:FD 176 Tryz.f176 32 [.tmp 6] [0,1,2,3,4,6,7,9]:=qm Tryz.func176
theorem Vy:FD 177 Tryz.f177 91 [.tmp 10,.tmp 11] [0,1,2,3,4,7,10,11,12,13,15,16,17,18,27,43,44,45,60,62,63,64,65,72,82]:=qm Tryz.func177
theorem Vz:FD 179 Tryz.f179 16 [.tmp 6] [0,1,2,3,4,6,9]:=qm Tryz.func179
theorem acb:FD 180 Tryz.f180 32 [.tmp 6] [0,1,2,6,7,8,10,13,14,15,16,17,23]:=qm Tryz.func180
theorem acd:FD 183 Tryz.f183 29 [.tmp 6] [0,1,2,3,6]:=qm Tryz.func183
theorem Pc:FD 184 Tryz.f184 20 [.tmp 4] [0,1,2,4]:=qm Tryz.func184
theorem ace:FD 185 Tryz.f185 19 [.tmp 4] [0,1,4,5,7,8,9,16]:=qm Tryz.func185
theorem VA:FD 186 Tryz.f186 11 [.tmp 3] [0,1,3]:=qm Tryz.func186
theorem acf:FD 187 Tryz.f187 18 [.tmp 2] [0,1,2]:=qm Tryz.func187
theorem Pd:FD 188 Tryz.f188 19 [.tmp 4] [0,1,4,5,7,8,9,16]:=qm Tryz.func188
theorem acg:FD 189 Tryz.f189 36 [.tmp 2] [0,2,3]:=qm Tryz.func189
theorem ach:FD 190 Tryz.f190 9 [.tmp 2] [0,2]:=qm Tryz.func190
theorem aci:FD 191 Tryz.f191 19 [.tmp 4] [0,1,4,5,7,8,9,16]:=qm Tryz.func191
theorem acj:FD 192 Tryz.f192 15 [.tmp 6] [0,1,2,6]:=qm Tryz.func192
theorem VB:FD 193 Tryz.f193 9 [.tmp 4] [0,1,4]:=qm Tryz.func193
theorem ack:FD 194 Tryz.f194 6 [.tmp 2] [0,1,2]:=qm Tryz.func194
theorem acm:FD 195 Tryz.f195 11 [.tmp 2] [0,1,2]:=qm Tryz.func195
theorem acn:FD 196 Tryz.f196 18 [.tmp 2] [0,2,3,5,6,7,8,9]:=qm Tryz.func196
theorem aco:FD 197 Tryz.f197 9 [.tmp 2] [0,2]:=qm Tryz.func197
theorem acp:FD 198 Tryz.f198 9 [.tmp 2] [0,2]:=qm Tryz.func198
theorem VC:FD 199 Tryz.f199 9 [.tmp 4] [0,1,4]:=qm Tryz.func199
theorem acq:FD 200 Tryz.f200 13 [.tmp 3] [0,1,2,3]:=qm Tryz.func200
theorem acr:FD 201 Tryz.f201 19 [.tmp 4] [0,1,2,3,4]:=qm Tryz.func201
theorem acs:FD 202 Tryz.f202 9 [.tmp 2] [0,2]:=qm Tryz.func202
theorem acu:FD 203 Tryz.f203 18 [.tmp 2] [0,1,2]:=qm Tryz.func203
theorem acv:FD 204 Tryz.f204 10 [.tmp 6] [0,1,2,4,5,6]:=qm Tryz.func204
theorem acw:FD 205 Tryz.f205 12 [.tmp 6] [0,1,2,3,4,5,6]:=qm Tryz.func205
theorem acx:FD 206 Tryz.f206 8 [.tmp 3] [0,1,3]:=qm Tryz.func206
theorem acy:FD 207 Tryz.f207 17 [.tmp 4] [0,1,2,4]:=qm Tryz.func207
theorem acz:FD 211 Tryz.f211 18 [.tmp 5] [0,1,2,5]:=qm Tryz.func211
theorem acA:FD 212 Tryz.f212 18 [.tmp 2] [0,2,3,5,6,7,8,9,14]:=qm Tryz.func212
theorem acB:FD 213 Tryz.f213 20 [.tmp 4] [0,1,4,5,6,11,12,13,16,19]:=qm Tryz.func213
theorem acC:FD 214 Tryz.f214 20 [.tmp 4] [0,1,4,5,6,11,12,13,16,19]:=qm Tryz.func214
theorem VD:FD 216 Tryz.f216 12 [.tmp 4] [0,1,4]:=qm Tryz.func216
theorem acD:FD 218 Tryz.f218 47 [.tmp 6,.tmp 7] [0,1,2,4,6,7,8,9,12,16,19]:=qm Tryz.func218
theorem acE:FD 221 Tryz.f221 57 [.tmp 8,.tmp 9] [0,1,2,3,6,7,8,9,10,11,12,13,26,31,43,51]:=qm Tryz.func221
theorem acF:FD 223 Tryz.f223 39 [.tmp 4,.tmp 5] [0,1,3,4,5,6,10,14,30]:=qm Tryz.func223
theorem AX:FD 225 Tryz.f225 57 [.tmp 6,.tmp 7] [0,1,2,4,6,7,8,9,12,16,19,26,44]:=qm Tryz.func225
theorem acG:FD 226 Tryz.f226 49 [.tmp 6,.tmp 7] [0,1,2,6,7,8,9,10,11,17,31]:=qm Tryz.func226
theorem acH:FD 227 Tryz.f227 9 [.tmp 4] [0,1,2,4]:=qm Tryz.func227
theorem Pf:FD 231 Tryz.f231 13 [.tmp 4] [0,1,4]:=qm Tryz.func231
theorem vK:FD 232 Tryz.f232 79 [.tmp 8,.tmp 9] [0,1,2,3,7,8,9,10,11,13,14,17,22,34,46,49,54]:=qm Tryz.func232
theorem Ks:FD 233 Tryz.f233 28 [.tmp 4,.tmp 5,.tmp 6] [0,1,4,5,6,7,8,21]:=qm Tryz.func233
theorem Pg:FD 234 Tryz.f234 45 [.tmp 4,.cell 5 152,.tmp 6] [0,1,4,5,6,7,8,9,12,21]:=qm Tryz.func234
theorem VE:FD 236 Tryz.f236 54 [.tmp 6] [0,1,2,4,5,6,7,9,14,21,22,23,24,44,53]:=qm Tryz.func236
theorem Ph:FD 238 Tryz.f238 35 [.tmp 6] [0,1,2,6,7,8]:=qm Tryz.func238
theorem acI:FD 239 Tryz.f239 86 [.tmp 4,.tmp 5] [0,1,3,4,5,6,9,13,42,67,74]:=qm Tryz.func239
theorem Pj:FD 241 Tryz.f241 25 [.cell 4 159,.tmp 5] [0,1,3,4,5,6,15]:=qm Tryz.func241
theorem acJ:FD 242 Tryz.f242 24 [.tmp 4] [0,1,2,3,4]:=qm Tryz.func242
theorem VF:FD 243 Tryz.f243 12 [.tmp 4] [0,1,2,3,4]:=qm Tryz.func243
theorem acK:FD 244 Tryz.f244 9 [.tmp 4] [0,1,4]:=qm Tryz.func244
theorem acL:FD 245 Tryz.f245 15 [.tmp 6,.tmp 7] [0,1,2,6,7]:=qm Tryz.func245
theorem acM:FD 246 Tryz.f246 15 [.tmp 6,.tmp 7] [0,1,2,6,7]:=qm Tryz.func246
theorem acN:FD 247 Tryz.f247 21 [.tmp 8,.tmp 9] [0,1,2,3,8,9,10,12]:=qm Tryz.func247
theorem GU:FD 248 Tryz.f248 28 [.tmp 6,.tmp 7] [0,1,2,5,6,7,8,12,15,21]:=qm Tryz.func248
theorem VG:FD 250 Tryz.f250 28 [.cell 10 97,.tmp 11] [0,1,2,3,4,10,11,12,13,24]:=qm Tryz.func250
theorem C5:FD 253 Tryz.f253 34 [.cell 2 97,.tmp 3] [0,1,2,3,4,5,10,20]:=qm Tryz.func253
theorem C7:FD 255 Tryz.f255 44 [.cell 4 97,.tmp 5] [0,1,2,4,5,6,7,12,17,22,41]:=qm Tryz.func255
theorem VH:FD 258 Tryz.f258 19 [.tmp 4] [0,1,4,5,7,8,9,16]:=qm Tryz.func258
theorem acO:FD 259 Tryz.f259 8 [.tmp 3] [0,1,2,3]:=qm Tryz.func259
theorem Pm:FD 260 Tryz.f260 24 [.cell 6 139,.tmp 7] [0,1,2,4,5,6,7,8,18]:=qm Tryz.func260
theorem VI:FD 261 Tryz.f261 24 [.tmp 4] [0,1,2,3,4,5,16]:=qm Tryz.func261
theorem acP:FD 264 Tryz.f264 8 [.tmp 4] [0,1,3,4]:=qm Tryz.func264
theorem acQ:FD 265 Tryz.f265 26 [.tmp 6] [0,1,2,3,4,6]:=qm Tryz.func265
theorem acR:FD 266 Tryz.f266 8 [.cell 2 187] [0,1,2]:=qm Tryz.func266
theorem acS:FD 267 Tryz.f267 9 [.tmp 2] [0,1,2]:=qm Tryz.func267
theorem acT:FD 268 Tryz.f268 35 [.tmp 6] [0,1,2,3,6]:=qm Tryz.func268
theorem acU:FD 270 Tryz.f270 9 [.tmp 2] [0,2]:=qm Tryz.func270
theorem Pn:FD 273 Tryz.f273 19 [.tmp 4] [0,1,4,5,7,8,9,16]:=qm Tryz.func273
theorem Pp:FD 274 Tryz.f274 19 [.tmp 4] [0,1,4,5,7,8,9,16]:=qm Tryz.func274
theorem acV:FD 275 Tryz.f275 15 [.tmp 4] [0,1,2,3,4]:=qm Tryz.func275
theorem acW:FD 276 Tryz.f276 17 [.tmp 4] [0,1,2,3,4]:=qm Tryz.func276
theorem acX:FD 277 Tryz.f277 47 [.tmp 4] [0,1,3,4,5,7,11,12,13,14,35]:=qm Tryz.func277
theorem acY:FD 278 Tryz.f278 10 [.tmp 4] [0,1,2,4]:=qm Tryz.func278
theorem acZ:FD 279 Tryz.f279 35 [.tmp 4] [0,1,4,5,7,8,9,10,11,30]:=qm Tryz.func279
theorem ac0:FD 286 Tryz.f286 6 [.tmp 2] [0,2]:=qm Tryz.func286
theorem ac1:FD 287 Tryz.f287 6 [.tmp 2] [0,2]:=qm Tryz.func287
theorem ac2:FD 289 Tryz.f289 8 [.tmp 3] [0,1,2,3]:=qm Tryz.func289
theorem ac3:FD 290 Tryz.f290 36 [.cell 6 142,.tmp 7] [0,1,2,3,4,5,6,7,8,9]:=qm Tryz.func290
theorem ac4:FD 291 Tryz.f291 8 [.tmp 3] [0,1,2,3]:=qm Tryz.func291
theorem ac5:FD 295 Tryz.f295 8 [.tmp 4] [0,1,3,4]:=qm Tryz.func295
theorem ac6:FD 296 Tryz.f296 25 [.tmp 4,.tmp 5] [0,1,3,4,5,6,7,8,9,10,11,12,21]:=qm Tryz.func296
theorem VJ:FD 297 Tryz.f297 24 [.tmp 2] [0,2,3,4,8,9,10]:=qm Tryz.func297
theorem VK:FD 298 Tryz.f298 13 [.tmp 6] [0,1,2,5,6]:=qm Tryz.func298
theorem ac7:FD 299 Tryz.f299 11 [.tmp 4] [0,1,4]:=qm Tryz.func299
theorem ac8:FD 302 Tryz.f302 8 [.tmp 3] [0,1,2,3]:=qm Tryz.func302
theorem VL:FD 303 Tryz.f303 19 [.tmp 4] [0,1,4,5,7,8,9,16]:=qm Tryz.func303
theorem ac9:FD 304 Tryz.f304 14 [.tmp 4] [0,1,4]:=qm Tryz.func304
theorem ada:FD 305 Tryz.f305 11 [.tmp 4] [0,1,3,4,7]:=qm Tryz.func305
theorem adb:FD 306 Tryz.f306 54 [.tmp 8,.tmp 9] [0,1,2,3,4,8,9,10,11,14,18,21,33]:=qm Tryz.func306
theorem ade:FD 307 Tryz.f307 11 [.tmp 4] [0,1,4]:=qm Tryz.func307
theorem adf:FD 308 Tryz.f308 11 [.tmp 4] [0,1,4]:=qm Tryz.func308
theorem adg:FD 309 Tryz.f309 19 [.tmp 4] [0,1,4,5,7,8,9,16]:=qm Tryz.func309
theorem adh:FD 310 Tryz.f310 14 [.tmp 3] [0,1,2,3]:=qm Tryz.func310
theorem adi:FD 311 Tryz.f311 12 [.cell 2 97] [0,1,2]:=qm Tryz.func311
theorem adj:FD 312 Tryz.f312 7 [.tmp 3] [0,1,2,3]:=qm Tryz.func312
theorem adk:FD 313 Tryz.f313 9 [.tmp 4] [0,1,4]:=qm Tryz.func313
theorem adl:FD 314 Tryz.f314 8 [.tmp 3] [0,1,2,3]:=qm Tryz.func314
theorem adm:FD 315 Tryz.f315 41 [.tmp 2] [0,2,3,4,5,6,7,8,36]:=qm Tryz.func315
theorem adn:FD 316 Tryz.f316 23 [.tmp 4] [0,1,2,3,4]:=qm Tryz.func316
theorem ado:FD 317 Tryz.f317 47 [.tmp 4,.tmp 5] [0,1,4,5,6,7,8,9,10,27,32,45]:=qm Tryz.func317
theorem adp:FD 318 Tryz.f318 23 [.tmp 2,.tmp 3] [0,2,3,4,7,16]:=qm Tryz.func318
theorem adq:FD 320 Tryz.f320 8 [.tmp 3] [0,1,2,3]:=qm Tryz.func320
theorem adr:FD 321 Tryz.f321 21 [.tmp 4] [0,1,4,6,7,8,9,10]:=qm Tryz.func321
theorem ads:FD 326 Tryz.f326 28 [.cell 4 409] [0,1,2,4,5,7,8,9]:=qm Tryz.func326
theorem adt:FD 348 Tryz.f348 31 [.cell 4 92,.tmp 5] [0,1,2,3,4,5,6,28]:=qm Tryz.func348
theorem adu:FD 350 Tryz.f350 8 [.tmp 3] [0,1,2,3]:=qm Tryz.func350
theorem adv:FD 351 Tryz.f351 8 [.tmp 3] [0,1,2,3]:=qm Tryz.func351
theorem adw:FD 354 Tryz.f354 13 [.tmp 3] [0,1,2,3]:=qm Tryz.func354
theorem adx:FD 355 Tryz.f355 8 [.tmp 4] [0,1,3,4]:=qm Tryz.func355
theorem ady:FD 356 Tryz.f356 19 [.tmp 4] [0,1,4,5,7,8,9,16]:=qm Tryz.func356
theorem adz:FD 357 Tryz.f357 44 [.tmp 2,.tmp 3,.tmp 4,.tmp 5] [0,2,3,4,5,8,21,32]:=qm Tryz.func357
theorem adA:FD 358 Tryz.f358 39 [.tmp 6,.tmp 7] [0,1,2,6,7,8,9,10,20,28,37]:=qm Tryz.func358
theorem adB:FD 359 Tryz.f359 29 [.tmp 4] [0,1,4,18,24]:=qm Tryz.func359
theorem adC:FD 360 Tryz.f360 20 [.tmp 2] [0,2,3]:=qm Tryz.func360
theorem adD:FD 368 Tryz.f368 17 [.cell 2 409] [0,1,2,3,5,7,8,9]:=qm Tryz.func368
theorem adE:FD 387 Tryz.f387 13 [.tmp 4] [0,1,2,3,4]:=qm Tryz.func387
theorem adF:FD 391 Tryz.f391 8 [.tmp 3] [0,1,2,3]:=qm Tryz.func391
theorem adG:FD 392 Tryz.f392 9 [.tmp 2] [0,2]:=qm Tryz.func392
theorem adH:FD 393 Tryz.f393 16 [.tmp 2] [0,2]:=qm Tryz.func393
theorem adI:FD 394 Tryz.f394 2 [.cell 0 470] [0]:=qm Tryz.func394
theorem adJ:FD 400 Tryz.f400 2 [.cell 0 474] [0]:=qm Tryz.func400
theorem adK:FD 401 Tryz.f401 2 [.cell 0 476] [0]:=qm Tryz.func401
theorem adL:FD 402 Tryz.f402 118 [.cell 6 409] [0,1,2,3,4,6,7,8,9,10,11,12,13,14,15,16,17,18,19,20,31,32,34,35,74,75,77,78]:=qm Tryz.func402
theorem adM:FD 425 Tryz.f425 17 [.tmp 4] [0,1,4,5]:=qm Tryz.func425
theorem qq3:FD 3 Tryz.f3 125 [.tmp 6] [0,1,2,5,6,7,8,9,10,11,12,13,14,15,16,17,18,26,47,48,49,50,51,90,123]:=qm Tryz.func3
theorem qq4:FD 4 Tryz.f4 90 [.tmp 0] [0,1,2,3,4,5,6,7,8,9,10,11,12]:=qm Tryz.func4
theorem qq6:FD 6 Tryz.f6 65 [.tmp 6,.tmp 7] [0,1,2,6,7,8,9,10,11,13,14,15,28,32,33,34,35,53]:=qm Tryz.func6
theorem qq7:FD 7 Tryz.f7 135 [.cell 2 50] [0,1,2,3,4,5,20,21,22,109,110,111]:=qm Tryz.func7
theorem aiv:FD 15 Tryz.f15 19 [.cell 4 50,.tmp 5] [0,1,4,5,13]:=qm Tryz.func15
theorem aiw:FD 16 Tryz.f16 47 [.cell 6 50,.tmp 7,.tmp 8] [0,1,2,3,6,7,8,9,10,11,12,13,21,25,26,27,28,40]:=qm Tryz.func16
theorem aix:FD 18 Tryz.f18 31 [.cell 6 69,.tmp 7] [0,1,2,6,7,8,13]:=qm Tryz.func18
theorem aiy:FD 25 Tryz.f25 26 [.tmp 2] [0,2,3,4,9,10,11]:=qm Tryz.func25
theorem aiz:FD 26 Tryz.f26 14 [.cell 2 97] [0,1,2]:=qm Tryz.func26
theorem aiA:FD 30 Tryz.f30 6 [.tmp 4] [0,1,2,3,4]:=qm Tryz.func30
theorem Tg:FD 35 Tryz.f35 156 [.cell 2 50] [0,1,2,3,4,5,6,52,53,54,79,80,81,126,127,128]:=qm Tryz.func35
theorem I2:FD 36 Tryz.f36 57 [.cell 6 50,.tmp 7] [0,1,2,3,5,6,7,8,9,10,11,17,21,28,44]:=qm Tryz.func36
theorem aiB:FD 37 Tryz.f37 11 [.tmp 2] [0,2,4]:=qm Tryz.func37
theorem aiC:FD 40 Tryz.f40 23 [.tmp 4] [0,1,4,5,7]:=qm Tryz.func40
theorem aiD:FD 44 Tryz.f44 79 [.tmp 4] [0,1,2,4,5,6,7,9,10,12,24,37,38,39,40,60]:=qm Tryz.func44
theorem aiE:FD 45 Tryz.f45 24 [.tmp 4] [0,1,2,4,5,7,8,9,10,11]:=qm Tryz.func45
theorem adN:FD 56 Tryz.f56 10 [.tmp 2] [0,1,2,3]:=qm Tryz.func56
theorem adO:FD 57 Tryz.f57 53 [.tmp 2] [0,1,2,3,5,6,7,10,11,12,13,22,51]:=qm Tryz.func57
theorem aiF:FD 58 Tryz.f58 48 [.tmp 2] [0,1,2,3,5,6,7,10,11,12,13,20,23,31,33,42]:=qm Tryz.func58
theorem aiG:FD 75 Tryz.f75 30 [.tmp 2,.tmp 3] [0,2,3,4,6,7,13,15,16,17,18,25]:=qm Tryz.func75
theorem aiH:FD 84 Tryz.f84 57 [.tmp 4] [0,1,2,4,5,6,7,9,11,12,13,14,19,20,21,22,41]:=qm Tryz.func84
theorem adP:FD 145 Tryz.f145 21 [.tmp 4] [0,1,2,3,4,5,6]:=qm Tryz.func145
theorem VM:FD 150 Tryz.f150 53 [.tmp 2] [0,2,3,4,14]:=qm Tryz.func150
theorem Pq:FD 151 Tryz.f151 40 [.tmp 2] [0,2,3,4,5,15]:=qm Tryz.func151
theorem adQ:FD 152 Tryz.f152 45 [.tmp 2] [0,2,3,4,5]:=qm Tryz.func152
theorem adR:FD 153 Tryz.f153 39 [.tmp 2] [0,2,3,4,5,6]:=qm Tryz.func153
theorem VN:FD 154 Tryz.f154 53 [.tmp 2] [0,2,3,4,14]:=qm Tryz.func154
theorem Pr:FD 155 Tryz.f155 54 [.tmp 2] [0,2,3,4,5,15]:=qm Tryz.func155
theorem VO:FD 156 Tryz.f156 35 [.tmp 2] [0,2,3,4]:=qm Tryz.func156
theorem VP:FD 157 Tryz.f157 72 [.tmp 2] [0,2,3,4,5,6,7,51]:=qm Tryz.func157
theorem VQ:FD 158 Tryz.f158 38 [.tmp 2] [0,2,3,4]:=qm Tryz.func158
theorem Kt:FD 159 Tryz.f159 45 [.tmp 2] [0,2,3,4,5,15]:=qm Tryz.func159
theorem Ku:FD 160 Tryz.f160 57 [.tmp 2] [0,2,3,5,6,8,26,29]:=qm Tryz.func160
theorem VT:FD 161 Tryz.f161 38 [.tmp 2] [0,2,3,4]:=qm Tryz.func161
theorem vL:FD 162 Tryz.f162 88 [.tmp 2] [0,2,3,4,5,6,7,35,47,60,80]:=qm Tryz.func162
theorem Kv:FD 163 Tryz.f163 72 [.tmp 2] [0,2,3,4,6,7,8,27,30]:=qm Tryz.func163
theorem Kw:FD 164 Tryz.f164 139 [.tmp 2] [0,1,2,3,4,5,6,7,8,9,10,11,13,27,36,52,56,65,88,98,109,115,116,117,118]:=qm Tryz.func164
theorem AY:FD 165 Tryz.f165 89 [.tmp 2] [0,2,3,4,6,7,8,9,17,18,46,58]:=qm Tryz.func165
theorem Kx:FD 166 Tryz.f166 51 [.tmp 2] [0,2,3,4,5,15]:=qm Tryz.func166
theorem Ky:FD 167 Tryz.f167 74 [.tmp 2] [0,2,3,4,5,6,18,37]:=qm Tryz.func167
theorem VU:FD 168 Tryz.f168 21 [.tmp 2] [0,2,3,4,5,9]:=qm Tryz.func168
theorem GV:FD 169 Tryz.f169 72 [.tmp 2] [0,2,3,4,5,6,7,8,12,27,34,42]:=qm Tryz.func169
theorem adS:FD 208 Tryz.f208 11 [.tmp 2] [0,2,3]:=qm Tryz.func208
theorem Kz:FD 217 Tryz.f217 13 [.tmp 6] [0,1,2,6,8]:=qm Tryz.func217
theorem VV:FD 219 Tryz.f219 24 [.cell 2 92,.cell 3 92] [0,2,3,4]:=qm Tryz.func219
theorem KA:FD 220 Tryz.f220 13 [.tmp 6] [0,1,2,6,8]:=qm Tryz.func220
theorem VW:FD 222 Tryz.f222 13 [.tmp 6] [0,1,2,6,8]:=qm Tryz.func222
theorem VX:FD 224 Tryz.f224 13 [.tmp 6] [0,1,2,6,8]:=qm Tryz.func224
theorem VY:FD 229 Tryz.f229 13 [.tmp 6] [0,1,2,4,6,8]:=qm Tryz.func229
theorem C8:FD 230 Tryz.f230 13 [.tmp 6] [0,1,2,6,8]:=qm Tryz.func230
theorem Ps:FD 235 Tryz.f235 13 [.tmp 6] [0,1,2,6,8]:=qm Tryz.func235
theorem C9:FD 237 Tryz.f237 39 [.tmp 6] [0,1,2,5,6,7,8]:=qm Tryz.func237
theorem Pt:FD 240 Tryz.f240 13 [.tmp 6] [0,1,2,6,8]:=qm Tryz.func240
theorem Pu:FD 249 Tryz.f249 13 [.tmp 6] [0,1,2,6,8]:=qm Tryz.func249
theorem VZ:FD 251 Tryz.f251 13 [.tmp 6] [0,1,2,6,8]:=qm Tryz.func251
theorem V0:FD 252 Tryz.f252 20 [.tmp 2] [0,1,2,3,12]:=qm Tryz.func252
theorem V1:FD 254 Tryz.f254 13 [.tmp 6] [0,1,2,4,6,8]:=qm Tryz.func254
theorem p0:FD 256 Tryz.f256 86 [.tmp 6,.tmp 7] [0,1,2,3,4,6,7,8,9,10,11,13,22,26,38,53,58,69,70,71,72]:=qm Tryz.func256
theorem V2:FD 257 Tryz.f257 13 [.tmp 6] [0,1,2,6,8]:=qm Tryz.func257
theorem adT:FD 280 Tryz.f280 3 [.tmp 0] [0]:=qm Tryz.func280
theorem adU:FD 281 Tryz.f281 62 [.tmp 4] [0,1,4,6,7,8,9,10,35]:=qm Tryz.func281
theorem adV:FD 300 Tryz.f300 32 [.tmp 4,.tmp 5] [0,1,3,4,5,6,7,8,14,17,25]:=qm Tryz.func300
theorem Da:FD 301 Tryz.f301 13 [.tmp 6] [0,1,2,6,8]:=qm Tryz.func301
theorem adW:FD 352 Tryz.f352 95 [.tmp 6] [0,1,2,6,7,8,9,16,22,31,68]:=qm Tryz.func352
end Go.an.ax
