import Derived.Test.YtjpcpnakcapojaaN3
import Derived.Laws.StructEq
import Derived.Test.YtjpcpnakcapojaaProg
namespace Go.Abs.L38
open Go Go.Abs Go.Proofs
set_option linter.unusedVariables false
set_option maxRecDepth 20000
/-- the types that the code names -/
def tt : Tab := [(3, ⟨.int .i64, 1, 8, (Value.int IntKind.i64 0), []⟩),
  (4, ⟨.bool, 1, 1, (Value.bool false), []⟩),
  (5, ⟨.int .u8, 1, 1, (Value.int IntKind.u8 0), []⟩),
  (9, ⟨.str, 1, 16, (Value.string { data := #[] }), []⟩),
  (22, ⟨.slice 25, 1, 24, (Value.slice none 0 0), []⟩),
  (25, ⟨.slice 3, 1, 24, (Value.slice none 0 0), []⟩),
  (26, ⟨.int .i64, 1, 8, (Value.int IntKind.i64 0), []⟩),
  (32, ⟨.struct [(0, 25), (1, 25)], 2, 48, (Value.agg #[(Value.slice none 0 0), (Value.slice none 0 0)]), []⟩),
  (47, ⟨.struct [(0, 25), (1, 32), (3, 3)], 4, 80, (Value.agg #[(Value.slice none 0 0), (Value.slice none 0 0), (Value.slice none 0 0), (Value.int IntKind.i64 0)]), []⟩),
  (51, ⟨.other, 1, 8, Value.nilFunc, []⟩),
  (56, ⟨.slice 59, 1, 24, (Value.slice none 0 0), []⟩),
  (58, ⟨.other, 1, 8, Value.nilFunc, []⟩),
  (59, ⟨.int .u64, 1, 8, (Value.int IntKind.u64 0), []⟩),
  (64, ⟨.other, 1, 8, Value.nilFunc, []⟩),
  (66, ⟨.other, 1, 8, Value.nilFunc, []⟩),
  (68, ⟨.slice 4, 1, 24, (Value.slice none 0 0), []⟩),
  (70, ⟨.int .u32, 1, 4, (Value.int IntKind.u32 0), []⟩),
  (72, ⟨.int .u64, 1, 8, (Value.int IntKind.u64 0), []⟩)]
theorem tabOne : TabOne tt = true := by kernel_rfl
theorem tabOK : TabOK Try.prog tt := ⟨⟨by kernel_rfl, by kernel_rfl, fun h => absurd rfl h⟩,
  ⟨by kernel_rfl, by kernel_rfl, fun h => absurd rfl h⟩,
  ⟨by kernel_rfl, by kernel_rfl, fun h => absurd rfl h⟩,
  ⟨by kernel_rfl, by kernel_rfl, fun h => absurd rfl h⟩,
  ⟨by kernel_rfl, by kernel_rfl, fun h => absurd rfl h⟩,
  ⟨by kernel_rfl, by kernel_rfl, fun h => absurd rfl h⟩,
  ⟨by kernel_rfl, by kernel_rfl, fun h => absurd rfl h⟩,
  ⟨by kernel_rfl, by kernel_rfl, fun h => absurd rfl h⟩,
  ⟨by kernel_rfl, by kernel_rfl, fun h => absurd rfl h⟩,
  ⟨by kernel_rfl, by kernel_rfl, fun h => absurd rfl h⟩,
  ⟨by kernel_rfl, by kernel_rfl, fun h => absurd rfl h⟩,
  ⟨by kernel_rfl, by kernel_rfl, fun h => absurd rfl h⟩,
  ⟨by kernel_rfl, by kernel_rfl, fun h => absurd rfl h⟩,
  ⟨by kernel_rfl, by kernel_rfl, fun h => absurd rfl h⟩,
  ⟨by kernel_rfl, by kernel_rfl, fun h => absurd rfl h⟩,
  ⟨by kernel_rfl, by kernel_rfl, fun h => absurd rfl h⟩,
  ⟨by kernel_rfl, by kernel_rfl, fun h => absurd rfl h⟩,
  ⟨by kernel_rfl, by kernel_rfl, fun h => absurd rfl h⟩, trivial⟩
theorem mixed : Try.prog.follows .mixedOrders = true := by kernel_rfl
def body (f : Func) : Code := match f.body with | some c => c | none => .skip
/-- archivum/archivumlaw38.AssignCheapest -/
theorem mk3 {args : List AV} {r : AV} (hn : Nat.ble args.length 40 = true) (h : ev Try.prog tt 40 [0, 2, 3, 4, 5, 6, 7, 8, 10, 13] (body Try.f3) ⟨idx 0 args, []⟩ (retQ tt [.tmp 2] r)) : Fn Try.prog 3 args r :=
  fn_of [.tmp 2] tabOK tabOne mixed Try.func3 rfl (by kernel_rfl) (by kernel_rfl) hn rfl rfl h
/-- archivum/archivumlaw38.AssignBounds -/
theorem mk4 {args : List AV} {r : AV} (hn : Nat.ble args.length 53 = true) (h : ev Try.prog tt 53 [0, 1, 3, 4, 5, 6, 7, 8, 10, 25] (body Try.f4) ⟨idx 0 args, []⟩ (retQ tt [.tmp 4] r)) : Fn Try.prog 4 args r :=
  fn_of [.tmp 4] tabOK tabOne mixed Try.func4 rfl (by kernel_rfl) (by kernel_rfl) hn rfl rfl h
/-- archivum/archivumlaw38.AssignWider -/
theorem mk5 {args : List AV} {r : AV} (hn : Nat.ble args.length 82 = true) (h : ev Try.prog tt 82 [0, 1, 4, 6, 7, 8, 9, 11, 12, 14, 24, 45, 49, 50, 51] (body Try.f5) ⟨idx 0 args, []⟩ (retQ tt [.tmp 4] r)) : Fn Try.prog 5 args r :=
  fn_of [.tmp 4] tabOK tabOne mixed Try.func5 rfl (by kernel_rfl) (by kernel_rfl) hn rfl rfl h
/-- archivum/archivumlaw38.AssignNarrow -/
theorem mk6 {args : List AV} {r : AV} (hn : Nat.ble args.length 49 = true) (h : ev Try.prog tt 49 [0, 1, 4, 5, 6, 7, 8, 10, 18] (body Try.f6) ⟨idx 0 args, []⟩ (retQ tt [.tmp 4] r)) : Fn Try.prog 6 args r :=
  fn_of [.tmp 4] tabOK tabOne mixed Try.func6 rfl (by kernel_rfl) (by kernel_rfl) hn rfl rfl h
/-- archivum/archivumlaw38.AssignEither -/
theorem mk7 {args : List AV} {r : AV} (hn : Nat.ble args.length 64 = true) (h : ev Try.prog tt 64 [0, 1, 4, 7, 8, 9, 11, 25, 40] (body Try.f7) ⟨idx 0 args, []⟩ (retQ tt [.tmp 4] r)) : Fn Try.prog 7 args r :=
  fn_of [.tmp 4] tabOK tabOne mixed Try.func7 rfl (by kernel_rfl) (by kernel_rfl) hn rfl rfl h
/-- archivum/archivumlaw38.AssignChecks -/
theorem mk8 {args : List AV} {r : AV} (hn : Nat.ble args.length 49 = true) (h : ev Try.prog tt 49 [0, 1, 4, 5, 6, 7, 8, 10, 18] (body Try.f8) ⟨idx 0 args, []⟩ (retQ tt [.tmp 4] r)) : Fn Try.prog 8 args r :=
  fn_of [.tmp 4] tabOK tabOne mixed Try.func8 rfl (by kernel_rfl) (by kernel_rfl) hn rfl rfl h
/-- archivum/archivumlaw38.AssignProves -/
theorem mk9 {args : List AV} {r : AV} (hn : Nat.ble args.length 82 = true) (h : ev Try.prog tt 82 [0, 2, 3, 4, 5, 6, 7, 8, 9, 10, 11, 13, 16, 36] (body Try.f9) ⟨idx 0 args, []⟩ (retQ tt [.tmp 2] r)) : Fn Try.prog 9 args r :=
  fn_of [.tmp 2] tabOK tabOne mixed Try.func9 rfl (by kernel_rfl) (by kernel_rfl) hn rfl rfl h
/-- archivum/archivumlaw38.AssignLeast -/
theorem mk10 {args : List AV} {r : AV} (hn : Nat.ble args.length 95 = true) (h : ev Try.prog tt 95 [0, 1, 2, 5, 6, 7, 8, 9, 10, 11, 12, 13, 15, 35, 45] (body Try.f10) ⟨idx 0 args, []⟩ (retQ tt [.tmp 6] r)) : Fn Try.prog 10 args r :=
  fn_of [.tmp 6] tabOK tabOne mixed Try.func10 rfl (by kernel_rfl) (by kernel_rfl) hn rfl rfl h
/-- archivum/archivumlaw38.awake -/
theorem mk11 {args : List AV} {r : AV} (hn : Nat.ble args.length 90 = true) (h : ev Try.prog tt 90 [0, 1, 2, 3, 4, 5, 6, 7, 8, 9, 10, 11, 12] (body Try.f11) ⟨idx 0 args, []⟩ (retQ tt [.tmp 0] r)) : Fn Try.prog 11 args r :=
  fn_of [.tmp 0] tabOK tabOne mixed Try.func11 rfl (by kernel_rfl) (by kernel_rfl) hn rfl rfl h
/-- archivum/archivumref38.Few -/
theorem mk12 {args : List AV} {r : AV} (hn : Nat.ble args.length 18 = true) (h : ev Try.prog tt 18 [0, 2, 4, 5, 6, 7, 8, 13] (body Try.f12) ⟨idx 0 args, []⟩ (retQ tt [.tmp 2] r)) : Fn Try.prog 12 args r :=
  fn_of [.tmp 2] tabOK tabOne mixed Try.func12 rfl (by kernel_rfl) (by kernel_rfl) hn rfl rfl h
/-- archivum/assign.Cheapest -/
theorem mk13 {args : List AV} {r : AV} (hn : Nat.ble args.length 31 = true) (h : ev Try.prog tt 31 [0, 1, 2, 3, 4, 5, 6, 7, 8, 11, 21] (body Try.f13) ⟨idx 0 args, []⟩ (retQ tt [.tmp 2, .tmp 3, .tmp 4] r)) : Fn Try.prog 13 args r :=
  fn_of [.tmp 2, .tmp 3, .tmp 4] tabOK tabOne mixed Try.func13 rfl (by kernel_rfl) (by kernel_rfl) hn rfl rfl h
/-- archivum/archivumlaw38.cp -/
theorem mk14 {args : List AV} {r : AV} (hn : Nat.ble args.length 21 = true) (h : ev Try.prog tt 21 [0, 2, 3, 7, 8, 9] (body Try.f14) ⟨idx 0 args, []⟩ (retQ tt [.tmp 2] r)) : Fn Try.prog 14 args r :=
  fn_of [.tmp 2] tabOK tabOne mixed Try.func14 rfl (by kernel_rfl) (by kernel_rfl) hn rfl rfl h
/-- archivum/archivumref38.Cheapest -/
theorem mk15 {args : List AV} {r : AV} (hn : Nat.ble args.length 75 = true) (h : ev Try.prog tt 75 [0, 2, 3, 4, 6, 7, 8, 9, 10, 12, 13, 16, 24, 26, 27, 28, 32, 33, 34, 55, 69] (body Try.f15) ⟨idx 0 args, []⟩ (retQ tt [.tmp 2, .tmp 3, .tmp 4] r)) : Fn Try.prog 15 args r :=
  fn_of [.tmp 2, .tmp 3, .tmp 4] tabOK tabOne mixed Try.func15 rfl (by kernel_rfl) (by kernel_rfl) hn rfl rfl h
/-- slices.Equal[[]int,int] -/
theorem mk16 {args : List AV} {r : AV} (hn : Nat.ble args.length 26 = true) (h : ev Try.prog tt 26 [0, 1, 4, 5, 10, 12, 13, 14, 24] (body Try.f16) ⟨idx 0 args, []⟩ (retQ tt [.tmp 4] r)) : Fn Try.prog 16 args r :=
  fn_of [.tmp 4] tabOK tabOne mixed Try.func16 rfl (by kernel_rfl) (by kernel_rfl) hn rfl rfl h
/-- archivum/assign.Bound -/
theorem mk17 {args : List AV} {r : AV} (hn : Nat.ble args.length 102 = true) (h : ev Try.prog tt 102 [0, 1, 3, 4, 5, 6, 8, 10, 11, 12, 13, 14, 17, 33, 35, 36, 37, 38, 46, 52, 53, 54, 55, 63, 68, 69, 70, 71, 75, 76, 77, 78, 98] (body Try.f17) ⟨idx 0 args, []⟩ (retQ tt [.tmp 4, .tmp 5] r)) : Fn Try.prog 17 args r :=
  fn_of [.tmp 4, .tmp 5] tabOK tabOne mixed Try.func17 rfl (by kernel_rfl) (by kernel_rfl) hn rfl rfl h
/-- slices.Clone[[]int,int] -/
theorem mk18 {args : List AV} {r : AV} (hn : Nat.ble args.length 8 = true) (h : ev Try.prog tt 8 [0, 2, 4] (body Try.f18) ⟨idx 0 args, []⟩ (retQ tt [.tmp 2] r)) : Fn Try.prog 18 args r :=
  fn_of [.tmp 2] tabOK tabOne mixed Try.func18 rfl (by kernel_rfl) (by kernel_rfl) hn rfl rfl h
/-- archivum/archivumref38.Bound -/
theorem mk19 {args : List AV} {r : AV} (hn : Nat.ble args.length 102 = true) (h : ev Try.prog tt 102 [0, 1, 3, 4, 5, 6, 8, 10, 11, 12, 13, 14, 17, 33, 35, 36, 37, 38, 46, 52, 53, 54, 55, 63, 68, 69, 70, 71, 75, 76, 77, 78, 98] (body Try.f19) ⟨idx 0 args, []⟩ (retQ tt [.tmp 4, .tmp 5] r)) : Fn Try.prog 19 args r :=
  fn_of [.tmp 4, .tmp 5] tabOK tabOne mixed Try.func19 rfl (by kernel_rfl) (by kernel_rfl) hn rfl rfl h
/-- archivum/assign.Narrow -/
theorem mk20 {args : List AV} {r : AV} (hn : Nat.ble args.length 25 = true) (h : ev Try.prog tt 25 [0, 2, 3, 4, 5, 6, 7, 10, 15, 16, 17, 22] (body Try.f20) ⟨idx 0 args, []⟩ (retQ tt [.tmp 2, .tmp 3] r)) : Fn Try.prog 20 args r :=
  fn_of [.tmp 2, .tmp 3] tabOK tabOne mixed Try.func20 rfl (by kernel_rfl) (by kernel_rfl) hn rfl rfl h
/-- archivum/archivumref38.Narrow -/
theorem mk21 {args : List AV} {r : AV} (hn : Nat.ble args.length 45 = true) (h : ev Try.prog tt 45 [0, 2, 3, 6, 7, 8, 9, 12, 19, 23, 26, 27, 28, 36, 39] (body Try.f21) ⟨idx 0 args, []⟩ (retQ tt [.tmp 2, .tmp 3] r)) : Fn Try.prog 21 args r :=
  fn_of [.tmp 2, .tmp 3] tabOK tabOne mixed Try.func21 rfl (by kernel_rfl) (by kernel_rfl) hn rfl rfl h
/-- archivum/assign.Refutes -/
theorem mk22 {args : List AV} {r : AV} (hn : Nat.ble args.length 54 = true) (h : ev Try.prog tt 54 [0, 1, 4, 5, 6, 7, 8, 11, 14, 15, 16, 17, 41] (body Try.f22) ⟨idx 0 args, []⟩ (retQ tt [.tmp 4] r)) : Fn Try.prog 22 args r :=
  fn_of [.tmp 4] tabOK tabOne mixed Try.func22 rfl (by kernel_rfl) (by kernel_rfl) hn rfl rfl h
/-- archivum/archivumref38.Refutes -/
theorem mk23 {args : List AV} {r : AV} (hn : Nat.ble args.length 45 = true) (h : ev Try.prog tt 45 [0, 1, 4, 5, 6, 9, 10, 11, 12, 13, 37] (body Try.f23) ⟨idx 0 args, []⟩ (retQ tt [.tmp 4] r)) : Fn Try.prog 23 args r :=
  fn_of [.tmp 4] tabOK tabOne mixed Try.func23 rfl (by kernel_rfl) (by kernel_rfl) hn rfl rfl h
/-- archivum/assign.Check -/
theorem mk24 {args : List AV} {r : AV} (hn : Nat.ble args.length 53 = true) (h : ev Try.prog tt 53 [0, 1, 2, 4, 6, 7, 18, 29, 33, 34, 35, 36, 39, 40, 41, 42, 50] (body Try.f24) ⟨idx 0 args, []⟩ (retQ tt [.tmp 2] r)) : Fn Try.prog 24 args r :=
  fn_of [.tmp 2] tabOK tabOne mixed Try.func24 rfl (by kernel_rfl) (by kernel_rfl) hn rfl rfl h
/-- archivum/assign.Cost -/
theorem mk25 {args : List AV} {r : AV} (hn : Nat.ble args.length 59 = true) (h : ev Try.prog tt 59 [0, 1, 2, 4, 5, 6, 7, 8, 9, 10, 14, 20, 24, 25, 26, 27, 35, 57] (body Try.f25) ⟨idx 0 args, []⟩ (retQ tt [.tmp 4, .tmp 5] r)) : Fn Try.prog 25 args r :=
  fn_of [.tmp 4, .tmp 5] tabOK tabOne mixed Try.func25 rfl (by kernel_rfl) (by kernel_rfl) hn rfl rfl h
/-- archivum/archivumref38.Cost -/
theorem mk26 {args : List AV} {r : AV} (hn : Nat.ble args.length 84 = true) (h : ev Try.prog tt 84 [0, 1, 4, 5, 7, 8, 9, 10, 11, 12, 15, 20, 21, 22, 23, 24, 36, 39, 40, 41, 43, 44, 45, 55, 58, 59, 60, 61, 72] (body Try.f26) ⟨idx 0 args, []⟩ (retQ tt [.tmp 4, .tmp 5] r)) : Fn Try.prog 26 args r :=
  fn_of [.tmp 4, .tmp 5] tabOK tabOne mixed Try.func26 rfl (by kernel_rfl) (by kernel_rfl) hn rfl rfl h
/-- archivum/archivumref38.Check -/
theorem mk27 {args : List AV} {r : AV} (hn : Nat.ble args.length 63 = true) (h : ev Try.prog tt 63 [0, 2, 4, 6, 8, 18, 28, 29, 30, 31, 32, 41, 43, 44, 45, 46, 49, 50, 51, 52, 60] (body Try.f27) ⟨idx 0 args, []⟩ (retQ tt [.tmp 2] r)) : Fn Try.prog 27 args r :=
  fn_of [.tmp 2] tabOK tabOne mixed Try.func27 rfl (by kernel_rfl) (by kernel_rfl) hn rfl rfl h
/-- archivum/assign.Prove -/
theorem mk28 {args : List AV} {r : AV} (hn : Nat.ble args.length 23 = true) (h : ev Try.prog tt 23 [0, 2, 3, 4, 5, 8, 19] (body Try.f28) ⟨idx 0 args, []⟩ (retQ tt [.cell 2 32, .tmp 3] r)) : Fn Try.prog 28 args r :=
  fn_of [.cell 2 32, .tmp 3] tabOK tabOne mixed Try.func28 rfl (by kernel_rfl) (by kernel_rfl) hn rfl rfl h
/-- slices.Compare[[]int,int] -/
theorem mk29 {args : List AV} {r : AV} (hn : Nat.ble args.length 36 = true) (h : ev Try.prog tt 36 [0, 1, 4, 5, 6, 7, 8, 9, 10, 11, 12, 19, 28, 35] (body Try.f29) ⟨idx 0 args, []⟩ (retQ tt [.tmp 4] r)) : Fn Try.prog 29 args r :=
  fn_of [.tmp 4] tabOK tabOne mixed Try.func29 rfl (by kernel_rfl) (by kernel_rfl) hn rfl rfl h
/-- archivum/assign.solve -/
theorem mk30 {args : List AV} {r : AV} (hn : Nat.ble args.length 230 = true) (h : ev Try.prog tt 230 [0, 1, 2, 3, 4, 5, 6, 7, 8, 9, 10, 11, 12, 13, 14, 15, 16, 17, 18, 19, 20, 21, 22, 23, 24, 25, 34, 48, 64, 65, 66, 76, 86, 92, 114, 128, 135, 136, 137, 142, 170, 195, 202] (body Try.f30) ⟨idx 0 args, []⟩ (retQ tt [.cell 4 47, .tmp 5] r)) : Fn Try.prog 30 args r :=
  fn_of [.cell 4 47, .tmp 5] tabOK tabOne mixed Try.func30 rfl (by kernel_rfl) (by kernel_rfl) hn rfl rfl h
/-- archivum/assign.free -/
theorem mk31 {args : List AV} {r : AV} (hn : Nat.ble args.length 6 = true) (h : ev Try.prog tt 6 [0, 2] (body Try.f31) ⟨idx 0 args, []⟩ (retQ tt [.tmp 2] r)) : Fn Try.prog 31 args r :=
  fn_of [.tmp 2] tabOK tabOne mixed Try.func31 rfl (by kernel_rfl) (by kernel_rfl) hn rfl rfl h
/-- archivum/assign.Cheapest$1 -/
theorem mk32 {args : List AV} {r : AV} (hn : Nat.ble args.length 44 = true) (h : ev Try.prog tt 44 [0, 1, 2, 3, 4, 6, 7, 8, 12, 17, 18, 19, 38] (body Try.f32) ⟨idx 0 args, []⟩ (retQ tt [] r)) : Fn Try.prog 32 args r :=
  fn_of [] tabOK tabOne mixed Try.func32 rfl (by kernel_rfl) (by kernel_rfl) hn rfl rfl h
/-- slices.Clone[[][]int,[]int] -/
theorem mk33 {args : List AV} {r : AV} (hn : Nat.ble args.length 8 = true) (h : ev Try.prog tt 8 [0, 2, 4] (body Try.f33) ⟨idx 0 args, []⟩ (retQ tt [.tmp 2] r)) : Fn Try.prog 33 args r :=
  fn_of [.tmp 2] tabOK tabOne mixed Try.func33 rfl (by kernel_rfl) (by kernel_rfl) hn rfl rfl h
/-- archivum/archivumref38.least -/
theorem mk34 {args : List AV} {r : AV} (hn : Nat.ble args.length 229 = true) (h : ev Try.prog tt 229 [0, 2, 3, 4, 5, 6, 7, 8, 9, 10, 11, 12, 13, 14, 15, 16, 17, 18, 19, 20, 21, 22, 23, 24, 25, 26, 35, 50, 63, 64, 65, 75, 85, 91, 102, 119, 133, 141, 147, 174, 193, 200, 223] (body Try.f34) ⟨idx 0 args, []⟩ (retQ tt [.tmp 2, .tmp 3, .tmp 4] r)) : Fn Try.prog 34 args r :=
  fn_of [.tmp 2, .tmp 3, .tmp 4] tabOK tabOne mixed Try.func34 rfl (by kernel_rfl) (by kernel_rfl) hn rfl rfl h
/-- archivum/archivumref38.in -/
theorem mk35 {args : List AV} {r : AV} (hn : Nat.ble args.length 17 = true) (h : ev Try.prog tt 17 [0, 1, 4, 6, 7, 8, 9, 10, 15] (body Try.f35) ⟨idx 0 args, []⟩ (retQ tt [.tmp 4] r)) : Fn Try.prog 35 args r :=
  fn_of [.tmp 4] tabOK tabOne mixed Try.func35 rfl (by kernel_rfl) (by kernel_rfl) hn rfl rfl h
/-- archivum/archivumref38.fix -/
theorem mk36 {args : List AV} {r : AV} (hn : Nat.ble args.length 69 = true) (h : ev Try.prog tt 69 [0, 1, 4, 5, 6, 7, 8, 9, 10, 11, 12, 13, 14, 15, 16, 24, 25, 26, 28, 29, 30, 31, 42, 58] (body Try.f36) ⟨idx 0 args, []⟩ (retQ tt [.tmp 4] r)) : Fn Try.prog 36 args r :=
  fn_of [.tmp 4] tabOK tabOne mixed Try.func36 rfl (by kernel_rfl) (by kernel_rfl) hn rfl rfl h
/-- archivum/assign.masks -/
theorem mk37 {args : List AV} {r : AV} (hn : Nat.ble args.length 38 = true) (h : ev Try.prog tt 38 [0, 2, 3, 4, 5, 6, 7, 11, 12, 13, 14, 18, 19, 20, 21, 26] (body Try.f37) ⟨idx 0 args, []⟩ (retQ tt [.tmp 2] r)) : Fn Try.prog 37 args r :=
  fn_of [.tmp 2] tabOK tabOne mixed Try.func37 rfl (by kernel_rfl) (by kernel_rfl) hn rfl rfl h
/-- archivum/assign.Narrow$1 -/
theorem mk38 {args : List AV} {r : AV} (hn : Nat.ble args.length 48 = true) (h : ev Try.prog tt 48 [0, 1, 2, 3, 4, 5, 9, 10, 12, 24, 42] (body Try.f38) ⟨idx 0 args, []⟩ (retQ tt [.tmp 9] r)) : Fn Try.prog 38 args r :=
  fn_of [.tmp 9] tabOK tabOne mixed Try.func38 rfl (by kernel_rfl) (by kernel_rfl) hn rfl rfl h
/-- math/bits.OnesCount -/
theorem mk39 {args : List AV} {r : AV} (hn : Nat.ble args.length 8 = true) (h : ev Try.prog tt 8 [0, 2] (body Try.f39) ⟨idx 0 args, []⟩ (retQ tt [.tmp 2] r)) : Fn Try.prog 39 args r :=
  fn_of [.tmp 2] tabOK tabOne mixed Try.func39 rfl (by kernel_rfl) (by kernel_rfl) hn rfl rfl h
/-- archivum/archivumref38.next -/
theorem mk40 {args : List AV} {r : AV} (hn : Nat.ble args.length 53 = true) (h : ev Try.prog tt 53 [0, 1, 4, 5, 6, 7, 15, 28, 40] (body Try.f40) ⟨idx 0 args, []⟩ (retQ tt [.tmp 4] r)) : Fn Try.prog 40 args r :=
  fn_of [.tmp 4] tabOK tabOne mixed Try.func40 rfl (by kernel_rfl) (by kernel_rfl) hn rfl rfl h
/-- archivum/archivumref38.columns -/
theorem mk41 {args : List AV} {r : AV} (hn : Nat.ble args.length 35 = true) (h : ev Try.prog tt 35 [0, 1, 4, 5, 6, 8, 12, 13, 14, 16, 17, 18, 19, 29] (body Try.f41) ⟨idx 0 args, []⟩ (retQ tt [.tmp 4] r)) : Fn Try.prog 41 args r :=
  fn_of [.tmp 4] tabOK tabOne mixed Try.func41 rfl (by kernel_rfl) (by kernel_rfl) hn rfl rfl h
/-- slices.ContainsFunc[[][]int,[]int] -/
theorem mk42 {args : List AV} {r : AV} (hn : Nat.ble args.length 9 = true) (h : ev Try.prog tt 9 [0, 1, 4] (body Try.f42) ⟨idx 0 args, []⟩ (retQ tt [.tmp 4] r)) : Fn Try.prog 42 args r :=
  fn_of [.tmp 4] tabOK tabOne mixed Try.func42 rfl (by kernel_rfl) (by kernel_rfl) hn rfl rfl h
/-- archivum/assign.Check$1 -/
theorem mk43 {args : List AV} {r : AV} (hn : Nat.ble args.length 11 = true) (h : ev Try.prog tt 11 [0, 1, 3] (body Try.f43) ⟨idx 0 args, []⟩ (retQ tt [.tmp 3] r)) : Fn Try.prog 43 args r :=
  fn_of [.tmp 3] tabOK tabOne mixed Try.func43 rfl (by kernel_rfl) (by kernel_rfl) hn rfl rfl h
/-- slices.ContainsFunc[[]int,int] -/
theorem mk44 {args : List AV} {r : AV} (hn : Nat.ble args.length 9 = true) (h : ev Try.prog tt 9 [0, 1, 4] (body Try.f44) ⟨idx 0 args, []⟩ (retQ tt [.tmp 4] r)) : Fn Try.prog 44 args r :=
  fn_of [.tmp 4] tabOK tabOne mixed Try.func44 rfl (by kernel_rfl) (by kernel_rfl) hn rfl rfl h
/-- archivum/assign.Cost$1 -/
theorem mk45 {args : List AV} {r : AV} (hn : Nat.ble args.length 14 = true) (h : ev Try.prog tt 14 [0, 1, 3] (body Try.f45) ⟨idx 0 args, []⟩ (retQ tt [.tmp 3] r)) : Fn Try.prog 45 args r :=
  fn_of [.tmp 3] tabOK tabOne mixed Try.func45 rfl (by kernel_rfl) (by kernel_rfl) hn rfl rfl h
/-- slices.Contains[[]int,int] -/
theorem mk46 {args : List AV} {r : AV} (hn : Nat.ble args.length 9 = true) (h : ev Try.prog tt 9 [0, 1, 4] (body Try.f46) ⟨idx 0 args, []⟩ (retQ tt [.tmp 4] r)) : Fn Try.prog 46 args r :=
  fn_of [.tmp 4] tabOK tabOne mixed Try.func46 rfl (by kernel_rfl) (by kernel_rfl) hn rfl rfl h
/-- cmp.Compare[int] -/
theorem mk47 {args : List AV} {r : AV} (hn : Nat.ble args.length 20 = true) (h : ev Try.prog tt 20 [0, 1, 4, 5, 6, 11, 12, 13, 16, 19] (body Try.f47) ⟨idx 0 args, []⟩ (retQ tt [.tmp 4] r)) : Fn Try.prog 47 args r :=
  fn_of [.tmp 4] tabOK tabOne mixed Try.func47 rfl (by kernel_rfl) (by kernel_rfl) hn rfl rfl h
/-- archivum/assign.solve$1 -/
theorem mk48 {args : List AV} {r : AV} (hn : Nat.ble args.length 33 = true) (h : ev Try.prog tt 33 [0, 1, 2, 3, 6, 7, 31] (body Try.f48) ⟨idx 0 args, []⟩ (retQ tt [.tmp 6] r)) : Fn Try.prog 48 args r :=
  fn_of [.tmp 6] tabOK tabOne mixed Try.func48 rfl (by kernel_rfl) (by kernel_rfl) hn rfl rfl h
/-- slices.Repeat[[]int,int] -/
theorem mk49 {args : List AV} {r : AV} (hn : Nat.ble args.length 48 = true) (h : ev Try.prog tt 48 [0, 1, 4, 5, 6, 7, 8, 10, 26, 37] (body Try.f49) ⟨idx 0 args, []⟩ (retQ tt [.tmp 4] r)) : Fn Try.prog 49 args r :=
  fn_of [.tmp 4] tabOK tabOne mixed Try.func49 rfl (by kernel_rfl) (by kernel_rfl) hn rfl rfl h
/-- math/bits.OnesCount32 -/
theorem mk50 {args : List AV} {r : AV} (hn : Nat.ble args.length 21 = true) (h : ev Try.prog tt 21 [0, 2] (body Try.f50) ⟨idx 0 args, []⟩ (retQ tt [.tmp 2] r)) : Fn Try.prog 50 args r :=
  fn_of [.tmp 2] tabOK tabOne mixed Try.func50 rfl (by kernel_rfl) (by kernel_rfl) hn rfl rfl h
/-- math/bits.OnesCount64 -/
theorem mk51 {args : List AV} {r : AV} (hn : Nat.ble args.length 35 = true) (h : ev Try.prog tt 35 [0, 2] (body Try.f51) ⟨idx 0 args, []⟩ (retQ tt [.tmp 2] r)) : Fn Try.prog 51 args r :=
  fn_of [.tmp 2] tabOK tabOne mixed Try.func51 rfl (by kernel_rfl) (by kernel_rfl) hn rfl rfl h
/-- slices.IndexFunc[[][]int,[]int] -/
theorem mk52 {args : List AV} {r : AV} (hn : Nat.ble args.length 19 = true) (h : ev Try.prog tt 19 [0, 1, 4, 5, 7, 8, 9, 16] (body Try.f52) ⟨idx 0 args, []⟩ (retQ tt [.tmp 4] r)) : Fn Try.prog 52 args r :=
  fn_of [.tmp 4] tabOK tabOne mixed Try.func52 rfl (by kernel_rfl) (by kernel_rfl) hn rfl rfl h
/-- slices.IndexFunc[[]int,int] -/
theorem mk53 {args : List AV} {r : AV} (hn : Nat.ble args.length 19 = true) (h : ev Try.prog tt 19 [0, 1, 4, 5, 7, 8, 9, 16] (body Try.f53) ⟨idx 0 args, []⟩ (retQ tt [.tmp 4] r)) : Fn Try.prog 53 args r :=
  fn_of [.tmp 4] tabOK tabOne mixed Try.func53 rfl (by kernel_rfl) (by kernel_rfl) hn rfl rfl h
/-- slices.Index[[]int,int] -/
theorem mk54 {args : List AV} {r : AV} (hn : Nat.ble args.length 19 = true) (h : ev Try.prog tt 19 [0, 1, 4, 5, 7, 8, 9, 16] (body Try.f54) ⟨idx 0 args, []⟩ (retQ tt [.tmp 4] r)) : Fn Try.prog 54 args r :=
  fn_of [.tmp 4] tabOK tabOne mixed Try.func54 rfl (by kernel_rfl) (by kernel_rfl) hn rfl rfl h
/-- cmp.isNaN[int] -/
theorem mk55 {args : List AV} {r : AV} (hn : Nat.ble args.length 6 = true) (h : ev Try.prog tt 6 [0, 2] (body Try.f55) ⟨idx 0 args, []⟩ (retQ tt [.tmp 2] r)) : Fn Try.prog 55 args r :=
  fn_of [.tmp 2] tabOK tabOne mixed Try.func55 rfl (by kernel_rfl) (by kernel_rfl) hn rfl rfl h
/-- math/bits.Mul -/
theorem mk56 {args : List AV} {r : AV} (hn : Nat.ble args.length 30 = true) (h : ev Try.prog tt 30 [0, 1, 4, 5, 6, 7, 8, 9] (body Try.f56) ⟨idx 0 args, []⟩ (retQ tt [.tmp 4, .tmp 5] r)) : Fn Try.prog 56 args r :=
  fn_of [.tmp 4, .tmp 5] tabOK tabOne mixed Try.func56 rfl (by kernel_rfl) (by kernel_rfl) hn rfl rfl h
/-- math/bits.Mul32 -/
theorem mk57 {args : List AV} {r : AV} (hn : Nat.ble args.length 17 = true) (h : ev Try.prog tt 17 [0, 1, 4, 5, 6] (body Try.f57) ⟨idx 0 args, []⟩ (retQ tt [.tmp 4, .tmp 5] r)) : Fn Try.prog 57 args r :=
  fn_of [.tmp 4, .tmp 5] tabOK tabOne mixed Try.func57 rfl (by kernel_rfl) (by kernel_rfl) hn rfl rfl h
/-- math/bits.Mul64 -/
theorem mk58 {args : List AV} {r : AV} (hn : Nat.ble args.length 51 = true) (h : ev Try.prog tt 51 [0, 1, 4, 5, 6, 7, 8, 9, 10, 11, 12, 13] (body Try.f58) ⟨idx 0 args, []⟩ (retQ tt [.tmp 4, .tmp 5] r)) : Fn Try.prog 58 args r :=
  fn_of [.tmp 4, .tmp 5] tabOK tabOne mixed Try.func58 rfl (by kernel_rfl) (by kernel_rfl) hn rfl rfl h
end Go.Abs.L38
