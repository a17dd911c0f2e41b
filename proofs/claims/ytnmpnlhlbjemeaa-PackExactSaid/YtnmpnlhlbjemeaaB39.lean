import Derived.Test.YtnmpnlhlbjemeaaN2
import Derived.Laws.StructEq
import Derived.Test.YtnmpnlhlbjemeaaProg
namespace Go.Abs.L39
open Go Go.Abs Go.Proofs
set_option linter.unusedVariables false
set_option maxRecDepth 20000
/-- the types that the code names -/
def tt : Tab := [(3, ⟨.int .i64, 1, 8, (Value.int IntKind.i64 0), []⟩),
  (4, ⟨.bool, 1, 1, (Value.bool false), []⟩),
  (22, ⟨.slice 3, 1, 24, (Value.slice none 0 0), []⟩),
  (25, ⟨.slice 22, 1, 24, (Value.slice none 0 0), []⟩),
  (26, ⟨.int .i64, 1, 8, (Value.int IntKind.i64 0), []⟩),
  (34, ⟨.array 2 3, 2, 16, (Value.agg #[(Value.int IntKind.i64 0), (Value.int IntKind.i64 0)]), []⟩),
  (46, ⟨.other, 1, 8, Value.nilFunc, []⟩),
  (51, ⟨.slice 4, 1, 24, (Value.slice none 0 0), []⟩)]
theorem tabOne : TabOne tt = true := by kernel_rfl
theorem tabOK : TabOK Try.prog tt := ⟨⟨by kernel_rfl, by kernel_rfl, fun h => absurd rfl h⟩,
  ⟨by kernel_rfl, by kernel_rfl, fun h => absurd rfl h⟩,
  ⟨by kernel_rfl, by kernel_rfl, fun h => absurd rfl h⟩,
  ⟨by kernel_rfl, by kernel_rfl, fun h => absurd rfl h⟩,
  ⟨by kernel_rfl, by kernel_rfl, fun h => absurd rfl h⟩,
  ⟨by kernel_rfl, by kernel_rfl, fun h => absurd rfl h⟩,
  ⟨by kernel_rfl, by kernel_rfl, fun h => absurd rfl h⟩,
  ⟨by kernel_rfl, by kernel_rfl, fun h => absurd rfl h⟩, trivial⟩
theorem mixed : Try.prog.follows .mixedOrders = true := by kernel_rfl
def body (f : Func) : Code := match f.body with | some c => c | none => .skip
/-- archivum/archivumlaw39.PackOrders -/
theorem mk3 {args : List AV} {r : AV} (hn : Nat.ble args.length 62 = true) (h : ev Try.prog tt 62 [0, 1, 4, 5, 6, 7, 8, 9, 10, 11, 12, 14, 17] (body Try.f3) ⟨idx 0 args, []⟩ (retQ tt [.tmp 4] r)) : Fn Try.prog 3 args r :=
  fn_of [.tmp 4] tabOK tabOne mixed Try.func3 rfl (by kernel_rfl) (by kernel_rfl) hn rfl rfl h
/-- archivum/archivumlaw39.PackExact -/
theorem mk4 {args : List AV} {r : AV} (hn : Nat.ble args.length 67 = true) (h : ev Try.prog tt 67 [0, 1, 4, 5, 6, 7, 8, 9, 10, 11, 12, 14, 22] (body Try.f4) ⟨idx 0 args, []⟩ (retQ tt [.tmp 4] r)) : Fn Try.prog 4 args r :=
  fn_of [.tmp 4] tabOK tabOne mixed Try.func4 rfl (by kernel_rfl) (by kernel_rfl) hn rfl rfl h
/-- archivum/archivumlaw39.PackMore -/
theorem mk5 {args : List AV} {r : AV} (hn : Nat.ble args.length 74 = true) (h : ev Try.prog tt 74 [0, 1, 2, 5, 6, 7, 8, 9, 10, 11, 12, 14, 17, 26, 52] (body Try.f5) ⟨idx 0 args, []⟩ (retQ tt [.tmp 6] r)) : Fn Try.prog 5 args r :=
  fn_of [.tmp 6] tabOK tabOne mixed Try.func5 rfl (by kernel_rfl) (by kernel_rfl) hn rfl rfl h
/-- archivum/archivumlaw39.PackSets -/
theorem mk6 {args : List AV} {r : AV} (hn : Nat.ble args.length 112 = true) (h : ev Try.prog tt 112 [0, 1, 2, 5, 6, 7, 8, 9, 10, 11, 12, 13, 15, 23, 32, 47] (body Try.f6) ⟨idx 0 args, []⟩ (retQ tt [.tmp 6] r)) : Fn Try.prog 6 args r :=
  fn_of [.tmp 6] tabOK tabOne mixed Try.func6 rfl (by kernel_rfl) (by kernel_rfl) hn rfl rfl h
/-- archivum/archivumlaw39.PackTables -/
theorem mk7 {args : List AV} {r : AV} (hn : Nat.ble args.length 69 = true) (h : ev Try.prog tt 69 [0, 1, 2, 6, 7, 8, 9, 10, 12, 25] (body Try.f7) ⟨idx 0 args, []⟩ (retQ tt [.tmp 6] r)) : Fn Try.prog 7 args r :=
  fn_of [.tmp 6] tabOK tabOne mixed Try.func7 rfl (by kernel_rfl) (by kernel_rfl) hn rfl rfl h
/-- archivum/archivumlaw39.PackFewest -/
theorem mk8 {args : List AV} {r : AV} (hn : Nat.ble args.length 115 = true) (h : ev Try.prog tt 115 [0, 1, 2, 6, 7, 8, 9, 10, 11, 12, 13, 14, 16, 24, 33, 81, 101] (body Try.f8) ⟨idx 0 args, []⟩ (retQ tt [.tmp 6] r)) : Fn Try.prog 8 args r :=
  fn_of [.tmp 6] tabOK tabOne mixed Try.func8 rfl (by kernel_rfl) (by kernel_rfl) hn rfl rfl h
/-- archivum/archivumlaw39.PackKeepsOrder -/
theorem mk9 {args : List AV} {r : AV} (hn : Nat.ble args.length 114 = true) (h : ev Try.prog tt 114 [0, 1, 2, 6, 7, 8, 9, 11, 13, 14, 15, 17, 25, 34, 38, 39, 40, 41, 44, 45, 46, 47, 52, 69, 71, 72, 73, 81] (body Try.f9) ⟨idx 0 args, []⟩ (retQ tt [.tmp 6] r)) : Fn Try.prog 9 args r :=
  fn_of [.tmp 6] tabOK tabOne mixed Try.func9 rfl (by kernel_rfl) (by kernel_rfl) hn rfl rfl h
/-- archivum/archivumlaw39.awake -/
theorem mk10 {args : List AV} {r : AV} (hn : Nat.ble args.length 73 = true) (h : ev Try.prog tt 73 [0, 1, 2, 3, 4, 5, 6, 7, 8, 9] (body Try.f10) ⟨idx 0 args, []⟩ (retQ tt [.tmp 0] r)) : Fn Try.prog 10 args r :=
  fn_of [.tmp 0] tabOK tabOne mixed Try.func10 rfl (by kernel_rfl) (by kernel_rfl) hn rfl rfl h
/-- archivum/archivumref39.Few -/
theorem mk11 {args : List AV} {r : AV} (hn : Nat.ble args.length 6 = true) (h : ev Try.prog tt 6 [0, 2] (body Try.f11) ⟨idx 0 args, []⟩ (retQ tt [.tmp 2] r)) : Fn Try.prog 11 args r :=
  fn_of [.tmp 2] tabOK tabOne mixed Try.func11 rfl (by kernel_rfl) (by kernel_rfl) hn rfl rfl h
/-- archivum/pack.InOrder -/
theorem mk12 {args : List AV} {r : AV} (hn : Nat.ble args.length 47 = true) (h : ev Try.prog tt 47 [0, 1, 4, 5, 6, 7, 8, 9, 13, 14, 15, 16, 17, 23] (body Try.f12) ⟨idx 0 args, []⟩ (retQ tt [.tmp 4, .tmp 5] r)) : Fn Try.prog 12 args r :=
  fn_of [.tmp 4, .tmp 5] tabOK tabOne mixed Try.func12 rfl (by kernel_rfl) (by kernel_rfl) hn rfl rfl h
/-- slices.Clone[[]int,int] -/
theorem mk13 {args : List AV} {r : AV} (hn : Nat.ble args.length 8 = true) (h : ev Try.prog tt 8 [0, 2, 4] (body Try.f13) ⟨idx 0 args, []⟩ (retQ tt [.tmp 2] r)) : Fn Try.prog 13 args r :=
  fn_of [.tmp 2] tabOK tabOne mixed Try.func13 rfl (by kernel_rfl) (by kernel_rfl) hn rfl rfl h
/-- archivum/archivumref39.InOrder -/
theorem mk14 {args : List AV} {r : AV} (hn : Nat.ble args.length 47 = true) (h : ev Try.prog tt 47 [0, 1, 4, 5, 6, 7, 8, 9, 13, 14, 15, 16, 17, 23] (body Try.f14) ⟨idx 0 args, []⟩ (retQ tt [.tmp 4, .tmp 5] r)) : Fn Try.prog 14 args r :=
  fn_of [.tmp 4, .tmp 5] tabOK tabOne mixed Try.func14 rfl (by kernel_rfl) (by kernel_rfl) hn rfl rfl h
/-- archivum/pack.Bound -/
theorem mk15 {args : List AV} {r : AV} (hn : Nat.ble args.length 38 = true) (h : ev Try.prog tt 38 [0, 1, 4, 5, 6, 7, 9, 13, 14, 15, 16, 17, 26] (body Try.f15) ⟨idx 0 args, []⟩ (retQ tt [.tmp 4, .tmp 5] r)) : Fn Try.prog 15 args r :=
  fn_of [.tmp 4, .tmp 5] tabOK tabOne mixed Try.func15 rfl (by kernel_rfl) (by kernel_rfl) hn rfl rfl h
/-- archivum/archivumref39.Bound -/
theorem mk16 {args : List AV} {r : AV} (hn : Nat.ble args.length 38 = true) (h : ev Try.prog tt 38 [0, 1, 4, 5, 6, 7, 9, 13, 14, 15, 16, 17, 26] (body Try.f16) ⟨idx 0 args, []⟩ (retQ tt [.tmp 4, .tmp 5] r)) : Fn Try.prog 16 args r :=
  fn_of [.tmp 4, .tmp 5] tabOK tabOne mixed Try.func16 rfl (by kernel_rfl) (by kernel_rfl) hn rfl rfl h
/-- archivum/archivumref39.Same -/
theorem mk17 {args : List AV} {r : AV} (hn : Nat.ble args.length 53 = true) (h : ev Try.prog tt 53 [0, 1, 4, 5, 6, 11, 13, 14, 15, 27, 32, 33, 34, 50] (body Try.f17) ⟨idx 0 args, []⟩ (retQ tt [.tmp 4] r)) : Fn Try.prog 17 args r :=
  fn_of [.tmp 4] tabOK tabOne mixed Try.func17 rfl (by kernel_rfl) (by kernel_rfl) hn rfl rfl h
/-- archivum/pack.Exact -/
theorem mk18 {args : List AV} {r : AV} (hn : Nat.ble args.length 25 = true) (h : ev Try.prog tt 25 [0, 1, 2, 3, 4, 5, 6, 7, 8, 9, 10, 18, 23] (body Try.f18) ⟨idx 0 args, []⟩ (retQ tt [.tmp 4, .tmp 5] r)) : Fn Try.prog 18 args r :=
  fn_of [.tmp 4, .tmp 5] tabOK tabOne mixed Try.func18 rfl (by kernel_rfl) (by kernel_rfl) hn rfl rfl h
/-- archivum/archivumref39.Exact -/
theorem mk19 {args : List AV} {r : AV} (hn : Nat.ble args.length 50 = true) (h : ev Try.prog tt 50 [0, 1, 4, 5, 6, 7, 8, 10, 11, 12, 20, 31, 32, 33, 34] (body Try.f19) ⟨idx 0 args, []⟩ (retQ tt [.tmp 4, .tmp 5] r)) : Fn Try.prog 19 args r :=
  fn_of [.tmp 4, .tmp 5] tabOK tabOne mixed Try.func19 rfl (by kernel_rfl) (by kernel_rfl) hn rfl rfl h
/-- archivum/pack.Least -/
theorem mk20 {args : List AV} {r : AV} (hn : Nat.ble args.length 24 = true) (h : ev Try.prog tt 24 [0, 1, 4, 5, 6, 7, 15] (body Try.f20) ⟨idx 0 args, []⟩ (retQ tt [.tmp 4, .tmp 5] r)) : Fn Try.prog 20 args r :=
  fn_of [.tmp 4, .tmp 5] tabOK tabOne mixed Try.func20 rfl (by kernel_rfl) (by kernel_rfl) hn rfl rfl h
/-- archivum/archivumref39.Least -/
theorem mk21 {args : List AV} {r : AV} (hn : Nat.ble args.length 24 = true) (h : ev Try.prog tt 24 [0, 1, 4, 5, 6, 7, 15] (body Try.f21) ⟨idx 0 args, []⟩ (retQ tt [.tmp 4, .tmp 5] r)) : Fn Try.prog 21 args r :=
  fn_of [.tmp 4, .tmp 5] tabOK tabOne mixed Try.func21 rfl (by kernel_rfl) (by kernel_rfl) hn rfl rfl h
/-- archivum/pack.Table -/
theorem mk22 {args : List AV} {r : AV} (hn : Nat.ble args.length 16 = true) (h : ev Try.prog tt 16 [0, 1, 4, 5, 6, 11] (body Try.f22) ⟨idx 0 args, []⟩ (retQ tt [.tmp 4, .tmp 5] r)) : Fn Try.prog 22 args r :=
  fn_of [.tmp 4, .tmp 5] tabOK tabOne mixed Try.func22 rfl (by kernel_rfl) (by kernel_rfl) hn rfl rfl h
/-- archivum/archivumref39.Table -/
theorem mk23 {args : List AV} {r : AV} (hn : Nat.ble args.length 95 = true) (h : ev Try.prog tt 95 [0, 1, 4, 5, 6, 7, 8, 9, 10, 11, 12, 13, 14, 15, 16, 21, 33, 36, 37, 38, 39, 50, 72, 87] (body Try.f23) ⟨idx 0 args, []⟩ (retQ tt [.tmp 4, .tmp 5] r)) : Fn Try.prog 23 args r :=
  fn_of [.tmp 4, .tmp 5] tabOK tabOne mixed Try.func23 rfl (by kernel_rfl) (by kernel_rfl) hn rfl rfl h
/-- slices.Equal[[]int,int] -/
theorem mk24 {args : List AV} {r : AV} (hn : Nat.ble args.length 26 = true) (h : ev Try.prog tt 26 [0, 1, 4, 5, 10, 12, 13, 14, 24] (body Try.f24) ⟨idx 0 args, []⟩ (retQ tt [.tmp 4] r)) : Fn Try.prog 24 args r :=
  fn_of [.tmp 4] tabOK tabOne mixed Try.func24 rfl (by kernel_rfl) (by kernel_rfl) hn rfl rfl h
/-- archivum/pack.Verify -/
theorem mk25 {args : List AV} {r : AV} (hn : Nat.ble args.length 24 = true) (h : ev Try.prog tt 24 [0, 1, 2, 6, 7, 8, 15, 19] (body Try.f25) ⟨idx 0 args, []⟩ (retQ tt [.tmp 6] r)) : Fn Try.prog 25 args r :=
  fn_of [.tmp 6] tabOK tabOne mixed Try.func25 rfl (by kernel_rfl) (by kernel_rfl) hn rfl rfl h
/-- archivum/archivumref39.Verify -/
theorem mk26 {args : List AV} {r : AV} (hn : Nat.ble args.length 39 = true) (h : ev Try.prog tt 39 [0, 1, 2, 6, 7, 8, 9, 17, 23, 25, 26, 27, 37] (body Try.f26) ⟨idx 0 args, []⟩ (retQ tt [.tmp 6] r)) : Fn Try.prog 26 args r :=
  fn_of [.tmp 6] tabOK tabOne mixed Try.func26 rfl (by kernel_rfl) (by kernel_rfl) hn rfl rfl h
/-- archivum/archivumref39.FewBoxes -/
theorem mk27 {args : List AV} {r : AV} (hn : Nat.ble args.length 18 = true) (h : ev Try.prog tt 18 [0, 2, 4, 5, 6, 7, 8, 13] (body Try.f27) ⟨idx 0 args, []⟩ (retQ tt [.tmp 2] r)) : Fn Try.prog 27 args r :=
  fn_of [.tmp 2] tabOK tabOne mixed Try.func27 rfl (by kernel_rfl) (by kernel_rfl) hn rfl rfl h
/-- archivum/pack.Valid -/
theorem mk28 {args : List AV} {r : AV} (hn : Nat.ble args.length 98 = true) (h : ev Try.prog tt 98 [0, 1, 2, 6, 7, 8, 9, 10, 11, 12, 16, 20, 21, 22, 23, 29, 30, 31, 32, 33, 37, 46, 51, 94, 97] (body Try.f28) ⟨idx 0 args, []⟩ (retQ tt [.tmp 6] r)) : Fn Try.prog 28 args r :=
  fn_of [.tmp 6] tabOK tabOne mixed Try.func28 rfl (by kernel_rfl) (by kernel_rfl) hn rfl rfl h
/-- archivum/archivumlaw39.cp -/
theorem mk29 {args : List AV} {r : AV} (hn : Nat.ble args.length 21 = true) (h : ev Try.prog tt 21 [0, 2, 3, 7, 8, 9] (body Try.f29) ⟨idx 0 args, []⟩ (retQ tt [.tmp 2] r)) : Fn Try.prog 29 args r :=
  fn_of [.tmp 2] tabOK tabOne mixed Try.func29 rfl (by kernel_rfl) (by kernel_rfl) hn rfl rfl h
/-- slices.Contains[[]int,int] -/
theorem mk30 {args : List AV} {r : AV} (hn : Nat.ble args.length 9 = true) (h : ev Try.prog tt 9 [0, 1, 4] (body Try.f30) ⟨idx 0 args, []⟩ (retQ tt [.tmp 4] r)) : Fn Try.prog 30 args r :=
  fn_of [.tmp 4] tabOK tabOne mixed Try.func30 rfl (by kernel_rfl) (by kernel_rfl) hn rfl rfl h
/-- archivum/pack.Check -/
theorem mk31 {args : List AV} {r : AV} (hn : Nat.ble args.length 20 = true) (h : ev Try.prog tt 20 [0, 1, 3, 4, 5, 12, 16] (body Try.f31) ⟨idx 0 args, []⟩ (retQ tt [.tmp 4] r)) : Fn Try.prog 31 args r :=
  fn_of [.tmp 4] tabOK tabOne mixed Try.func31 rfl (by kernel_rfl) (by kernel_rfl) hn rfl rfl h
/-- archivum/archivumref39.Check -/
theorem mk32 {args : List AV} {r : AV} (hn : Nat.ble args.length 30 = true) (h : ev Try.prog tt 30 [0, 1, 4, 6, 12, 15, 16, 17, 18, 19, 28] (body Try.f32) ⟨idx 0 args, []⟩ (retQ tt [.tmp 4] r)) : Fn Try.prog 32 args r :=
  fn_of [.tmp 4] tabOK tabOne mixed Try.func32 rfl (by kernel_rfl) (by kernel_rfl) hn rfl rfl h
/-- archivum/pack.Exact$1 -/
theorem mk33 {args : List AV} {r : AV} (hn : Nat.ble args.length 113 = true) (h : ev Try.prog tt 113 [0, 1, 2, 3, 4, 5, 6, 8, 9, 13, 15, 16, 17, 29, 55, 86, 102] (body Try.f33) ⟨idx 0 args, []⟩ (retQ tt [.tmp 8] r)) : Fn Try.prog 33 args r :=
  fn_of [.tmp 8] tabOK tabOne mixed Try.func33 rfl (by kernel_rfl) (by kernel_rfl) hn rfl rfl h
/-- archivum/archivumref39.search -/
theorem mk34 {args : List AV} {r : AV} (hn : Nat.ble args.length 85 = true) (h : ev Try.prog tt 85 [0, 1, 2, 3, 4, 10, 11, 12, 13, 14, 15, 16, 21, 36, 50, 57, 83] (body Try.f34) ⟨idx 0 args, []⟩ (retQ tt [.tmp 10, .tmp 11] r)) : Fn Try.prog 34 args r :=
  fn_of [.tmp 10, .tmp 11] tabOK tabOne mixed Try.func34 rfl (by kernel_rfl) (by kernel_rfl) hn rfl rfl h
/-- archivum/pack.few -/
theorem mk35 {args : List AV} {r : AV} (hn : Nat.ble args.length 14 = true) (h : ev Try.prog tt 14 [0, 1, 4, 5, 10] (body Try.f35) ⟨idx 0 args, []⟩ (retQ tt [.tmp 4] r)) : Fn Try.prog 35 args r :=
  fn_of [.tmp 4] tabOK tabOne mixed Try.func35 rfl (by kernel_rfl) (by kernel_rfl) hn rfl rfl h
/-- archivum/pack.table -/
theorem mk36 {args : List AV} {r : AV} (hn : Nat.ble args.length 81 = true) (h : ev Try.prog tt 81 [0, 1, 4, 5, 6, 7, 8, 9, 10, 11, 17, 18, 19, 22, 27, 28, 29, 30, 38, 63] (body Try.f36) ⟨idx 0 args, []⟩ (retQ tt [.tmp 4] r)) : Fn Try.prog 36 args r :=
  fn_of [.tmp 4] tabOK tabOne mixed Try.func36 rfl (by kernel_rfl) (by kernel_rfl) hn rfl rfl h
/-- archivum/archivumref39.start -/
theorem mk37 {args : List AV} {r : AV} (hn : Nat.ble args.length 12 = true) (h : ev Try.prog tt 12 [0, 1, 4, 8, 11] (body Try.f37) ⟨idx 0 args, []⟩ (retQ tt [.tmp 4] r)) : Fn Try.prog 37 args r :=
  fn_of [.tmp 4] tabOK tabOne mixed Try.func37 rfl (by kernel_rfl) (by kernel_rfl) hn rfl rfl h
/-- archivum/archivumref39.bits -/
theorem mk38 {args : List AV} {r : AV} (hn : Nat.ble args.length 20 = true) (h : ev Try.prog tt 20 [0, 2, 3, 5, 6, 7] (body Try.f38) ⟨idx 0 args, []⟩ (retQ tt [.tmp 2] r)) : Fn Try.prog 38 args r :=
  fn_of [.tmp 2] tabOK tabOne mixed Try.func38 rfl (by kernel_rfl) (by kernel_rfl) hn rfl rfl h
/-- slices.Contains[[]bool,bool] -/
theorem mk39 {args : List AV} {r : AV} (hn : Nat.ble args.length 9 = true) (h : ev Try.prog tt 9 [0, 1, 4] (body Try.f39) ⟨idx 0 args, []⟩ (retQ tt [.tmp 4] r)) : Fn Try.prog 39 args r :=
  fn_of [.tmp 4] tabOK tabOne mixed Try.func39 rfl (by kernel_rfl) (by kernel_rfl) hn rfl rfl h
/-- slices.Clone[[][]int,[]int] -/
theorem mk40 {args : List AV} {r : AV} (hn : Nat.ble args.length 8 = true) (h : ev Try.prog tt 8 [0, 2, 4] (body Try.f40) ⟨idx 0 args, []⟩ (retQ tt [.tmp 2] r)) : Fn Try.prog 40 args r :=
  fn_of [.tmp 2] tabOK tabOne mixed Try.func40 rfl (by kernel_rfl) (by kernel_rfl) hn rfl rfl h
/-- slices.Index[[]int,int] -/
theorem mk41 {args : List AV} {r : AV} (hn : Nat.ble args.length 19 = true) (h : ev Try.prog tt 19 [0, 1, 4, 5, 7, 8, 9, 16] (body Try.f41) ⟨idx 0 args, []⟩ (retQ tt [.tmp 4] r)) : Fn Try.prog 41 args r :=
  fn_of [.tmp 4] tabOK tabOne mixed Try.func41 rfl (by kernel_rfl) (by kernel_rfl) hn rfl rfl h
/-- slices.ContainsFunc[[]int,int] -/
theorem mk42 {args : List AV} {r : AV} (hn : Nat.ble args.length 9 = true) (h : ev Try.prog tt 9 [0, 1, 4] (body Try.f42) ⟨idx 0 args, []⟩ (retQ tt [.tmp 4] r)) : Fn Try.prog 42 args r :=
  fn_of [.tmp 4] tabOK tabOne mixed Try.func42 rfl (by kernel_rfl) (by kernel_rfl) hn rfl rfl h
/-- archivum/pack.Check$1 -/
theorem mk43 {args : List AV} {r : AV} (hn : Nat.ble args.length 11 = true) (h : ev Try.prog tt 11 [0, 1, 3] (body Try.f43) ⟨idx 0 args, []⟩ (retQ tt [.tmp 3] r)) : Fn Try.prog 43 args r :=
  fn_of [.tmp 3] tabOK tabOne mixed Try.func43 rfl (by kernel_rfl) (by kernel_rfl) hn rfl rfl h
/-- slices.Index[[]bool,bool] -/
theorem mk44 {args : List AV} {r : AV} (hn : Nat.ble args.length 19 = true) (h : ev Try.prog tt 19 [0, 1, 4, 5, 7, 8, 9, 16] (body Try.f44) ⟨idx 0 args, []⟩ (retQ tt [.tmp 4] r)) : Fn Try.prog 44 args r :=
  fn_of [.tmp 4] tabOK tabOne mixed Try.func44 rfl (by kernel_rfl) (by kernel_rfl) hn rfl rfl h
/-- slices.IndexFunc[[]int,int] -/
theorem mk45 {args : List AV} {r : AV} (hn : Nat.ble args.length 19 = true) (h : ev Try.prog tt 19 [0, 1, 4, 5, 7, 8, 9, 16] (body Try.f45) ⟨idx 0 args, []⟩ (retQ tt [.tmp 4] r)) : Fn Try.prog 45 args r :=
  fn_of [.tmp 4] tabOK tabOne mixed Try.func45 rfl (by kernel_rfl) (by kernel_rfl) hn rfl rfl h
end Go.Abs.L39
