import Derived.Test.YtofanemeemenlaaDoorA3
import Derived.Laws.StructEq
import Derived.Test.YtofanemeemenlaaDoorProg
namespace Go.Abs.L02
open Go Go.Abs Go.Proofs
set_option linter.unusedVariables false
set_option maxRecDepth 20000
/-- the types that the code names -/
def tt : Tab := [(3, ⟨.int .i64, 1, 8, (Value.int IntKind.i64 0), []⟩),
  (4, ⟨.bool, 1, 1, (Value.bool false), []⟩),
  (5, ⟨.int .u8, 1, 1, (Value.int IntKind.u8 0), []⟩),
  (9, ⟨.str, 1, 16, (Value.string { data := #[] }), []⟩),
  (22, ⟨.array 3 3, 3, 24, (Value.agg #[(Value.int IntKind.i64 0), (Value.int IntKind.i64 0), (Value.int IntKind.i64 0)]), []⟩),
  (24, ⟨.int .i64, 1, 8, (Value.int IntKind.i64 0), []⟩),
  (41, ⟨.array 12 3, 12, 96, (Value.agg #[(Value.int IntKind.i64 0), (Value.int IntKind.i64 0), (Value.int IntKind.i64 0), (Value.int IntKind.i64 0), (Value.int IntKind.i64 0), (Value.int IntKind.i64 0), (Value.int IntKind.i64 0), (Value.int IntKind.i64 0), (Value.int IntKind.i64 0), (Value.int IntKind.i64 0), (Value.int IntKind.i64 0), (Value.int IntKind.i64 0)]), []⟩)]
theorem tabOne : TabOne tt = true := by kernel_rfl
theorem tabOK : TabOK Tryd.prog tt := ⟨⟨by kernel_rfl, by kernel_rfl, fun h => absurd rfl h⟩,
  ⟨by kernel_rfl, by kernel_rfl, fun h => absurd rfl h⟩,
  ⟨by kernel_rfl, by kernel_rfl, fun h => absurd rfl h⟩,
  ⟨by kernel_rfl, by kernel_rfl, fun h => absurd rfl h⟩,
  ⟨by kernel_rfl, by kernel_rfl, fun h => absurd rfl h⟩,
  ⟨by kernel_rfl, by kernel_rfl, fun h => absurd rfl h⟩,
  ⟨by kernel_rfl, by kernel_rfl, fun h => absurd rfl h⟩, trivial⟩
theorem mixed : Tryd.prog.follows .mixedOrders = true := by kernel_rfl
def body (f : Func) : Code := match f.body with | some c => c | none => .skip
/-- archivum/archivumlaw02.DayConverts -/
theorem mk3 {args : List AV} {r : AV} (hn : Nat.ble args.length 105 = true) (h : ev Tryd.prog tt 105 [0, 1, 2, 4, 5, 6, 7, 8, 9, 10, 11, 12, 13, 14, 15, 16, 17, 18, 19, 20, 22] (body Tryd.f3) ⟨idx 0 args, []⟩ (retQ tt [.tmp 4] r)) : Fn Tryd.prog 3 args r :=
  fn_of [.tmp 4] tabOK tabOne mixed Tryd.func3 rfl (by kernel_rfl) (by kernel_rfl) hn rfl rfl h
/-- archivum/archivumlaw02.DayNext -/
theorem mk4 {args : List AV} {r : AV} (hn : Nat.ble args.length 154 = true) (h : ev Tryd.prog tt 154 [0, 2, 3, 4, 5, 6, 7, 8, 9, 10, 11, 12, 13, 14, 16, 37, 107, 112, 128] (body Tryd.f4) ⟨idx 0 args, []⟩ (retQ tt [.tmp 2] r)) : Fn Tryd.prog 4 args r :=
  fn_of [.tmp 2] tabOK tabOne mixed Tryd.func4 rfl (by kernel_rfl) (by kernel_rfl) hn rfl rfl h
/-- archivum/archivumlaw02.DayCycle -/
theorem mk5 {args : List AV} {r : AV} (hn : Nat.ble args.length 84 = true) (h : ev Tryd.prog tt 84 [0, 2, 3, 4, 5, 6, 7, 8, 9, 10, 11, 12, 13, 14, 16, 22] (body Tryd.f5) ⟨idx 0 args, []⟩ (retQ tt [.tmp 2] r)) : Fn Tryd.prog 5 args r :=
  fn_of [.tmp 2] tabOK tabOne mixed Tryd.func5 rfl (by kernel_rfl) (by kernel_rfl) hn rfl rfl h
/-- archivum/archivumlaw02.DayLater -/
theorem mk6 {args : List AV} {r : AV} (hn : Nat.ble args.length 68 = true) (h : ev Tryd.prog tt 68 [0, 1, 2, 3, 8, 9, 10, 11, 12, 13, 14, 15, 16, 18] (body Tryd.f6) ⟨idx 0 args, []⟩ (retQ tt [.tmp 8] r)) : Fn Tryd.prog 6 args r :=
  fn_of [.tmp 8] tabOK tabOne mixed Tryd.func6 rfl (by kernel_rfl) (by kernel_rfl) hn rfl rfl h
/-- archivum/archivumlaw02.DayKeeps -/
theorem mk7 {args : List AV} {r : AV} (hn : Nat.ble args.length 155 = true) (h : ev Tryd.prog tt 155 [0, 1, 2, 3, 8, 9, 10, 11, 12, 13, 14, 15, 16, 17, 18, 19, 22, 23, 26, 28, 45, 99] (body Tryd.f7) ⟨idx 0 args, []⟩ (retQ tt [.tmp 8] r)) : Fn Tryd.prog 7 args r :=
  fn_of [.tmp 8] tabOK tabOne mixed Tryd.func7 rfl (by kernel_rfl) (by kernel_rfl) hn rfl rfl h
/-- archivum/archivumlaw02.DayTexts -/
theorem mk8 {args : List AV} {r : AV} (hn : Nat.ble args.length 56 = true) (h : ev Tryd.prog tt 56 [0, 1, 4, 5, 6, 7, 8, 9, 10, 11, 12, 14, 17] (body Tryd.f8) ⟨idx 0 args, []⟩ (retQ tt [.tmp 4] r)) : Fn Tryd.prog 8 args r :=
  fn_of [.tmp 4] tabOK tabOne mixed Tryd.func8 rfl (by kernel_rfl) (by kernel_rfl) hn rfl rfl h
/-- archivum/archivumlaw02.DayBack -/
theorem mk9 {args : List AV} {r : AV} (hn : Nat.ble args.length 109 = true) (h : ev Tryd.prog tt 109 [0, 1, 4, 5, 6, 7, 8, 9, 10, 11, 12, 13, 14, 15, 16, 17, 18, 20, 23, 49, 51, 79, 86] (body Tryd.f9) ⟨idx 0 args, []⟩ (retQ tt [.tmp 4] r)) : Fn Tryd.prog 9 args r :=
  fn_of [.tmp 4] tabOK tabOne mixed Tryd.func9 rfl (by kernel_rfl) (by kernel_rfl) hn rfl rfl h
/-- archivum/archivumlaw02.awake -/
theorem mk10 {args : List AV} {r : AV} (hn : Nat.ble args.length 55 = true) (h : ev Tryd.prog tt 55 [0, 1, 2, 3, 4, 5, 6, 7, 8] (body Tryd.f10) ⟨idx 0 args, []⟩ (retQ tt [.tmp 0] r)) : Fn Tryd.prog 10 args r :=
  fn_of [.tmp 0] tabOK tabOne mixed Tryd.func10 rfl (by kernel_rfl) (by kernel_rfl) hn rfl rfl h
/-- archivum/day.Of -/
theorem mk11 {args : List AV} {r : AV} (hn : Nat.ble args.length 39 = true) (h : ev Tryd.prog tt 39 [0, 1, 2, 6, 7, 8, 9, 10, 20, 28, 37] (body Tryd.f11) ⟨idx 0 args, []⟩ (retQ tt [.tmp 6, .tmp 7] r)) : Fn Tryd.prog 11 args r :=
  fn_of [.tmp 6, .tmp 7] tabOK tabOne mixed Tryd.func11 rfl (by kernel_rfl) (by kernel_rfl) hn rfl rfl h
/-- archivum/archivumref02.Of -/
theorem mk12 {args : List AV} {r : AV} (hn : Nat.ble args.length 37 = true) (h : ev Tryd.prog tt 37 [0, 1, 2, 6, 7, 8, 9, 18, 26, 35] (body Tryd.f12) ⟨idx 0 args, []⟩ (retQ tt [.tmp 6, .tmp 7] r)) : Fn Tryd.prog 12 args r :=
  fn_of [.tmp 6, .tmp 7] tabOK tabOne mixed Tryd.func12 rfl (by kernel_rfl) (by kernel_rfl) hn rfl rfl h
/-- archivum/day.Date -/
theorem mk13 {args : List AV} {r : AV} (hn : Nat.ble args.length 44 = true) (h : ev Tryd.prog tt 44 [0, 2, 3, 4, 5, 8, 21, 32] (body Tryd.f13) ⟨idx 0 args, []⟩ (retQ tt [.tmp 2, .tmp 3, .tmp 4, .tmp 5] r)) : Fn Tryd.prog 13 args r :=
  fn_of [.tmp 2, .tmp 3, .tmp 4, .tmp 5] tabOK tabOne mixed Tryd.func13 rfl (by kernel_rfl) (by kernel_rfl) hn rfl rfl h
/-- archivum/archivumref02.Date -/
theorem mk14 {args : List AV} {r : AV} (hn : Nat.ble args.length 41 = true) (h : ev Tryd.prog tt 41 [0, 2, 3, 4, 5, 6, 7, 10, 18, 29] (body Tryd.f14) ⟨idx 0 args, []⟩ (retQ tt [.tmp 2, .tmp 3, .tmp 4, .tmp 5] r)) : Fn Tryd.prog 14 args r :=
  fn_of [.tmp 2, .tmp 3, .tmp 4, .tmp 5] tabOK tabOne mixed Tryd.func14 rfl (by kernel_rfl) (by kernel_rfl) hn rfl rfl h
/-- archivum/day.Weekday -/
theorem mk15 {args : List AV} {r : AV} (hn : Nat.ble args.length 10 = true) (h : ev Tryd.prog tt 10 [0, 2, 3, 6] (body Tryd.f15) ⟨idx 0 args, []⟩ (retQ tt [.tmp 2, .tmp 3] r)) : Fn Tryd.prog 15 args r :=
  fn_of [.tmp 2, .tmp 3] tabOK tabOne mixed Tryd.func15 rfl (by kernel_rfl) (by kernel_rfl) hn rfl rfl h
/-- archivum/archivumref02.Weekday -/
theorem mk16 {args : List AV} {r : AV} (hn : Nat.ble args.length 10 = true) (h : ev Tryd.prog tt 10 [0, 2, 3, 6] (body Tryd.f16) ⟨idx 0 args, []⟩ (retQ tt [.tmp 2, .tmp 3] r)) : Fn Tryd.prog 16 args r :=
  fn_of [.tmp 2, .tmp 3] tabOK tabOne mixed Tryd.func16 rfl (by kernel_rfl) (by kernel_rfl) hn rfl rfl h
/-- archivum/day.Length -/
theorem mk17 {args : List AV} {r : AV} (hn : Nat.ble args.length 29 = true) (h : ev Tryd.prog tt 29 [0, 1, 4, 18, 24] (body Tryd.f17) ⟨idx 0 args, []⟩ (retQ tt [.tmp 4] r)) : Fn Tryd.prog 17 args r :=
  fn_of [.tmp 4] tabOK tabOne mixed Tryd.func17 rfl (by kernel_rfl) (by kernel_rfl) hn rfl rfl h
/-- archivum/day.Years -/
theorem mk18 {args : List AV} {r : AV} (hn : Nat.ble args.length 47 = true) (h : ev Tryd.prog tt 47 [0, 1, 4, 5, 6, 7, 8, 9, 10, 27, 32, 45] (body Tryd.f18) ⟨idx 0 args, []⟩ (retQ tt [.tmp 4, .tmp 5] r)) : Fn Tryd.prog 18 args r :=
  fn_of [.tmp 4, .tmp 5] tabOK tabOne mixed Tryd.func18 rfl (by kernel_rfl) (by kernel_rfl) hn rfl rfl h
/-- archivum/archivumref02.Years -/
theorem mk19 {args : List AV} {r : AV} (hn : Nat.ble args.length 54 = true) (h : ev Tryd.prog tt 54 [0, 1, 4, 5, 6, 7, 8, 10, 11, 22, 43, 52] (body Tryd.f19) ⟨idx 0 args, []⟩ (retQ tt [.tmp 4, .tmp 5] r)) : Fn Tryd.prog 19 args r :=
  fn_of [.tmp 4, .tmp 5] tabOK tabOne mixed Tryd.func19 rfl (by kernel_rfl) (by kernel_rfl) hn rfl rfl h
/-- archivum/day.YearEnd -/
theorem mk20 {args : List AV} {r : AV} (hn : Nat.ble args.length 23 = true) (h : ev Tryd.prog tt 23 [0, 2, 3, 4, 7, 16] (body Tryd.f20) ⟨idx 0 args, []⟩ (retQ tt [.tmp 2, .tmp 3] r)) : Fn Tryd.prog 20 args r :=
  fn_of [.tmp 2, .tmp 3] tabOK tabOne mixed Tryd.func20 rfl (by kernel_rfl) (by kernel_rfl) hn rfl rfl h
/-- archivum/archivumref02.YearEnd -/
theorem mk21 {args : List AV} {r : AV} (hn : Nat.ble args.length 28 = true) (h : ev Tryd.prog tt 28 [0, 2, 3, 4, 7, 8, 9, 18, 26] (body Tryd.f21) ⟨idx 0 args, []⟩ (retQ tt [.tmp 2, .tmp 3] r)) : Fn Tryd.prog 21 args r :=
  fn_of [.tmp 2, .tmp 3] tabOK tabOne mixed Tryd.func21 rfl (by kernel_rfl) (by kernel_rfl) hn rfl rfl h
/-- archivum/archivumref02.Length -/
theorem mk22 {args : List AV} {r : AV} (hn : Nat.ble args.length 29 = true) (h : ev Tryd.prog tt 29 [0, 1, 4, 18, 24] (body Tryd.f22) ⟨idx 0 args, []⟩ (retQ tt [.tmp 4] r)) : Fn Tryd.prog 22 args r :=
  fn_of [.tmp 4] tabOK tabOne mixed Tryd.func22 rfl (by kernel_rfl) (by kernel_rfl) hn rfl rfl h
/-- archivum/day.Format -/
theorem mk23 {args : List AV} {r : AV} (hn : Nat.ble args.length 28 = true) (h : ev Tryd.prog tt 28 [0, 2, 3, 4, 5, 6, 7, 16] (body Tryd.f23) ⟨idx 0 args, []⟩ (retQ tt [.tmp 2, .tmp 3] r)) : Fn Tryd.prog 23 args r :=
  fn_of [.tmp 2, .tmp 3] tabOK tabOne mixed Tryd.func23 rfl (by kernel_rfl) (by kernel_rfl) hn rfl rfl h
/-- archivum/archivumref02.Format -/
theorem mk24 {args : List AV} {r : AV} (hn : Nat.ble args.length 28 = true) (h : ev Tryd.prog tt 28 [0, 2, 3, 4, 5, 6, 7, 16] (body Tryd.f24) ⟨idx 0 args, []⟩ (retQ tt [.tmp 2, .tmp 3] r)) : Fn Tryd.prog 24 args r :=
  fn_of [.tmp 2, .tmp 3] tabOK tabOne mixed Tryd.func24 rfl (by kernel_rfl) (by kernel_rfl) hn rfl rfl h
/-- archivum/day.Parse -/
theorem mk25 {args : List AV} {r : AV} (hn : Nat.ble args.length 40 = true) (h : ev Tryd.prog tt 40 [0, 2, 3, 4, 5, 6, 19, 33] (body Tryd.f25) ⟨idx 0 args, []⟩ (retQ tt [.tmp 2, .tmp 3] r)) : Fn Tryd.prog 25 args r :=
  fn_of [.tmp 2, .tmp 3] tabOK tabOne mixed Tryd.func25 rfl (by kernel_rfl) (by kernel_rfl) hn rfl rfl h
/-- archivum/archivumref02.Parse -/
theorem mk26 {args : List AV} {r : AV} (hn : Nat.ble args.length 57 = true) (h : ev Tryd.prog tt 57 [0, 2, 3, 4, 5, 6, 7, 8, 9, 22, 50] (body Tryd.f26) ⟨idx 0 args, []⟩ (retQ tt [.tmp 2, .tmp 3] r)) : Fn Tryd.prog 26 args r :=
  fn_of [.tmp 2, .tmp 3] tabOK tabOne mixed Tryd.func26 rfl (by kernel_rfl) (by kernel_rfl) hn rfl rfl h
/-- archivum/day.begin -/
theorem mk27 {args : List AV} {r : AV} (hn : Nat.ble args.length 20 = true) (h : ev Tryd.prog tt 20 [0, 2, 3] (body Tryd.f27) ⟨idx 0 args, []⟩ (retQ tt [.tmp 2] r)) : Fn Tryd.prog 27 args r :=
  fn_of [.tmp 2] tabOK tabOne mixed Tryd.func27 rfl (by kernel_rfl) (by kernel_rfl) hn rfl rfl h
/-- archivum/archivumref02.before -/
theorem mk28 {args : List AV} {r : AV} (hn : Nat.ble args.length 25 = true) (h : ev Tryd.prog tt 25 [0, 2, 3, 7] (body Tryd.f28) ⟨idx 0 args, []⟩ (retQ tt [.tmp 2] r)) : Fn Tryd.prog 28 args r :=
  fn_of [.tmp 2] tabOK tabOne mixed Tryd.func28 rfl (by kernel_rfl) (by kernel_rfl) hn rfl rfl h
/-- archivum/day.is -/
theorem mk29 {args : List AV} {r : AV} (hn : Nat.ble args.length 9 = true) (h : ev Tryd.prog tt 9 [0, 2] (body Tryd.f29) ⟨idx 0 args, []⟩ (retQ tt [.tmp 2] r)) : Fn Tryd.prog 29 args r :=
  fn_of [.tmp 2] tabOK tabOne mixed Tryd.func29 rfl (by kernel_rfl) (by kernel_rfl) hn rfl rfl h
/-- archivum/archivumref02.Good -/
theorem mk30 {args : List AV} {r : AV} (hn : Nat.ble args.length 9 = true) (h : ev Tryd.prog tt 9 [0, 2] (body Tryd.f30) ⟨idx 0 args, []⟩ (retQ tt [.tmp 2] r)) : Fn Tryd.prog 30 args r :=
  fn_of [.tmp 2] tabOK tabOne mixed Tryd.func30 rfl (by kernel_rfl) (by kernel_rfl) hn rfl rfl h
/-- archivum/day.leap -/
theorem mk31 {args : List AV} {r : AV} (hn : Nat.ble args.length 16 = true) (h : ev Tryd.prog tt 16 [0, 2] (body Tryd.f31) ⟨idx 0 args, []⟩ (retQ tt [.tmp 2] r)) : Fn Tryd.prog 31 args r :=
  fn_of [.tmp 2] tabOK tabOne mixed Tryd.func31 rfl (by kernel_rfl) (by kernel_rfl) hn rfl rfl h
/-- archivum/day.lengths -/
theorem mk32 {args : List AV} {r : AV} (hn : Nat.ble args.length 2 = true) (h : ev Tryd.prog tt 2 [0] (body Tryd.f32) ⟨idx 0 args, []⟩ (retQ tt [.cell 0 41] r)) : Fn Tryd.prog 32 args r :=
  fn_of [.cell 0 41] tabOK tabOne mixed Tryd.func32 rfl (by kernel_rfl) (by kernel_rfl) hn rfl rfl h
/-- archivum/archivumref02.leap -/
theorem mk33 {args : List AV} {r : AV} (hn : Nat.ble args.length 16 = true) (h : ev Tryd.prog tt 16 [0, 2] (body Tryd.f33) ⟨idx 0 args, []⟩ (retQ tt [.tmp 2] r)) : Fn Tryd.prog 33 args r :=
  fn_of [.tmp 2] tabOK tabOne mixed Tryd.func33 rfl (by kernel_rfl) (by kernel_rfl) hn rfl rfl h
/-- archivum/day.digits -/
theorem mk34 {args : List AV} {r : AV} (hn : Nat.ble args.length 18 = true) (h : ev Tryd.prog tt 18 [0, 1, 4, 5, 11, 12, 13] (body Tryd.f34) ⟨idx 0 args, []⟩ (retQ tt [.tmp 4] r)) : Fn Tryd.prog 34 args r :=
  fn_of [.tmp 4] tabOK tabOne mixed Tryd.func34 rfl (by kernel_rfl) (by kernel_rfl) hn rfl rfl h
/-- archivum/archivumref02.Digits -/
theorem mk35 {args : List AV} {r : AV} (hn : Nat.ble args.length 24 = true) (h : ev Tryd.prog tt 24 [0, 1, 4, 5, 6, 7, 10] (body Tryd.f35) ⟨idx 0 args, []⟩ (retQ tt [.tmp 4] r)) : Fn Tryd.prog 35 args r :=
  fn_of [.tmp 4] tabOK tabOne mixed Tryd.func35 rfl (by kernel_rfl) (by kernel_rfl) hn rfl rfl h
/-- archivum/day.number -/
theorem mk36 {args : List AV} {r : AV} (hn : Nat.ble args.length 30 = true) (h : ev Tryd.prog tt 30 [0, 2, 3, 4, 6, 7, 8, 19] (body Tryd.f36) ⟨idx 0 args, []⟩ (retQ tt [.tmp 2] r)) : Fn Tryd.prog 36 args r :=
  fn_of [.tmp 2] tabOK tabOne mixed Tryd.func36 rfl (by kernel_rfl) (by kernel_rfl) hn rfl rfl h
/-- archivum/archivumref02.Number -/
theorem mk37 {args : List AV} {r : AV} (hn : Nat.ble args.length 34 = true) (h : ev Tryd.prog tt 34 [0, 2, 3, 4, 5, 9, 21] (body Tryd.f37) ⟨idx 0 args, []⟩ (retQ tt [.tmp 2, .tmp 3] r)) : Fn Tryd.prog 37 args r :=
  fn_of [.tmp 2, .tmp 3] tabOK tabOne mixed Tryd.func37 rfl (by kernel_rfl) (by kernel_rfl) hn rfl rfl h
end Go.Abs.L02
