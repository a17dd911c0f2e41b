import Derived.Test.YtioekoecinogjaaDoorA3
import Derived.Laws.StructEq
import Derived.Test.YtioekoecinogjaaDoorProg
namespace Go.Abs.L03
open Go Go.Abs Go.Proofs
set_option linter.unusedVariables false
set_option maxRecDepth 20000
/-- the types that the code names -/
def tt : Tab := [(3, ⟨.int .i64, 1, 8, (Value.int IntKind.i64 0), []⟩),
  (4, ⟨.bool, 1, 1, (Value.bool false), []⟩),
  (5, ⟨.int .u8, 1, 1, (Value.int IntKind.u8 0), []⟩),
  (9, ⟨.str, 1, 16, (Value.string { data := #[] }), []⟩),
  (23, ⟨.struct [(0, 3), (1, 3)], 2, 16, (Value.agg #[(Value.int IntKind.i64 0), (Value.int IntKind.i64 0)]), [.i .i64, .i .i64]⟩),
  (25, ⟨.int .i64, 1, 8, (Value.int IntKind.i64 0), []⟩),
  (35, ⟨.int .u32, 1, 4, (Value.int IntKind.u32 0), []⟩),
  (40, ⟨.slice 23, 1, 24, (Value.slice none 0 0), []⟩),
  (48, ⟨.other, 1, 8, Value.nilFunc, []⟩),
  (60, ⟨.slice 9, 1, 24, (Value.slice none 0 0), []⟩),
  (68, ⟨.slice 3, 1, 24, (Value.slice none 0 0), []⟩),
  (77, ⟨.array 12 3, 12, 96, (Value.agg #[(Value.int IntKind.i64 0), (Value.int IntKind.i64 0), (Value.int IntKind.i64 0), (Value.int IntKind.i64 0), (Value.int IntKind.i64 0), (Value.int IntKind.i64 0), (Value.int IntKind.i64 0), (Value.int IntKind.i64 0), (Value.int IntKind.i64 0), (Value.int IntKind.i64 0), (Value.int IntKind.i64 0), (Value.int IntKind.i64 0)]), []⟩)]
theorem tabOne : TabOne tt = true := by kernel_rfl
theorem eqSpec23 : EqSpec Tryd.prog 23 [.i .i64, .i .i64] := by
  refine ⟨by kernel_rfl, fun w us vs hu0 hv0 => ?_⟩
  obtain ⟨a0, us0, rfl, hu1⟩ := fits_i hu0
  obtain ⟨a1, us1, rfl, hu2⟩ := fits_i hu1
  cases fits_nil hu2
  obtain ⟨b0, vs0, rfl, hv1⟩ := fits_i hv0
  obtain ⟨b1, vs1, rfl, hv2⟩ := fits_i hv1
  cases fits_nil hv2
  have u3 := Tryd.underlying3
  have a3x := Tryd.isAgg3
  have z3 := Tryd.sizeOf3
  have hS23 : Tryd.prog.underlying 23 = some (.struct (Tryd.prog.fieldsOf 23)) := by kernel_rfl
  have hp23 : Tryd.prog.stoodInHeld 23 = false := by kernel_rfl
  rw [show (10000 : Nat) = 9999 + 1 from rfl, run_equalIn_agg w 9999 23 _ _ hS23 hp23]
  simp only [Program.fieldsOf, Tryd.underlying23, List.map, AV.toV]
  go_simp
  clear hu0 hv0 hu1 hv1 hu2 hv2
  repeat' split
  all_goals simp_all [eqL, eqC]
theorem tabOK : TabOK Tryd.prog tt := ⟨⟨by kernel_rfl, by kernel_rfl, fun h => absurd rfl h⟩,
  ⟨by kernel_rfl, by kernel_rfl, fun h => absurd rfl h⟩,
  ⟨by kernel_rfl, by kernel_rfl, fun h => absurd rfl h⟩,
  ⟨by kernel_rfl, by kernel_rfl, fun h => absurd rfl h⟩,
  ⟨by kernel_rfl, by kernel_rfl, fun _ => eqSpec23⟩,
  ⟨by kernel_rfl, by kernel_rfl, fun h => absurd rfl h⟩,
  ⟨by kernel_rfl, by kernel_rfl, fun h => absurd rfl h⟩,
  ⟨by kernel_rfl, by kernel_rfl, fun h => absurd rfl h⟩,
  ⟨by kernel_rfl, by kernel_rfl, fun h => absurd rfl h⟩,
  ⟨by kernel_rfl, by kernel_rfl, fun h => absurd rfl h⟩,
  ⟨by kernel_rfl, by kernel_rfl, fun h => absurd rfl h⟩,
  ⟨by kernel_rfl, by kernel_rfl, fun h => absurd rfl h⟩, trivial⟩
theorem mixed : Tryd.prog.follows .mixedOrders = true := by kernel_rfl
def body (f : Func) : Code := match f.body with | some c => c | none => .skip
/-- archivum/archivumlaw03.DatingTexts -/
theorem mk3 {args : List AV} {r : AV} (hn : Nat.ble args.length 56 = true) (h : ev Tryd.prog tt 56 [0, 1, 2, 4, 5, 6, 7, 8, 9, 10, 11, 12, 14, 17] (body Tryd.f3) ⟨idx 0 args, []⟩ (retQ tt [.tmp 4] r)) : Fn Tryd.prog 3 args r :=
  fn_of [.tmp 4] tabOK tabOne mixed Tryd.func3 rfl (by kernel_rfl) (by kernel_rfl) hn rfl rfl h
/-- archivum/archivumlaw03.DatingBack -/
theorem mk4 {args : List AV} {r : AV} (hn : Nat.ble args.length 91 = true) (h : ev Tryd.prog tt 91 [0, 1, 2, 4, 5, 6, 7, 8, 9, 10, 11, 12, 13, 14, 16, 19, 26, 38, 46, 53] (body Tryd.f4) ⟨idx 0 args, []⟩ (retQ tt [.tmp 4] r)) : Fn Tryd.prog 4 args r :=
  fn_of [.tmp 4] tabOK tabOne mixed Tryd.func4 rfl (by kernel_rfl) (by kernel_rfl) hn rfl rfl h
/-- archivum/archivumlaw03.DatingRelates -/
theorem mk5 {args : List AV} {r : AV} (hn : Nat.ble args.length 64 = true) (h : ev Tryd.prog tt 64 [0, 1, 2, 3, 4, 5, 6, 7, 8, 9, 10, 11, 12, 14] (body Tryd.f5) ⟨idx 0 args, []⟩ (retQ tt [.tmp 4] r)) : Fn Tryd.prog 5 args r :=
  fn_of [.tmp 4] tabOK tabOne mixed Tryd.func5 rfl (by kernel_rfl) (by kernel_rfl) hn rfl rfl h
/-- archivum/archivumlaw03.DatingSound -/
theorem mk6 {args : List AV} {r : AV} (hn : Nat.ble args.length 151 = true) (h : ev Tryd.prog tt 151 [0, 1, 2, 3, 4, 5, 8, 9, 10, 11, 12, 13, 14, 15, 17, 25, 103, 119] (body Tryd.f6) ⟨idx 0 args, []⟩ (retQ tt [.tmp 8] r)) : Fn Tryd.prog 6 args r :=
  fn_of [.tmp 8] tabOK tabOne mixed Tryd.func6 rfl (by kernel_rfl) (by kernel_rfl) hn rfl rfl h
/-- archivum/archivumlaw03.DatingNarrows -/
theorem mk7 {args : List AV} {r : AV} (hn : Nat.ble args.length 121 = true) (h : ev Tryd.prog tt 121 [0, 1, 2, 3, 4, 5, 6, 7, 8, 9, 10, 11, 12, 13, 14, 15, 16, 17, 18, 19, 20, 22, 35] (body Tryd.f7) ⟨idx 0 args, []⟩ (retQ tt [.tmp 6] r)) : Fn Tryd.prog 7 args r :=
  fn_of [.tmp 6] tabOK tabOne mixed Tryd.func7 rfl (by kernel_rfl) (by kernel_rfl) hn rfl rfl h
/-- archivum/archivumlaw03.DatingHulls -/
theorem mk8 {args : List AV} {r : AV} (hn : Nat.ble args.length 138 = true) (h : ev Tryd.prog tt 138 [0, 1, 4, 5, 6, 7, 8, 9, 10, 11, 12, 13, 15, 27, 36, 37, 38, 39, 54, 132] (body Tryd.f8) ⟨idx 0 args, []⟩ (retQ tt [.tmp 4] r)) : Fn Tryd.prog 8 args r :=
  fn_of [.tmp 4] tabOK tabOne mixed Tryd.func8 rfl (by kernel_rfl) (by kernel_rfl) hn rfl rfl h
/-- archivum/archivumlaw03.DatingYears -/
theorem mk9 {args : List AV} {r : AV} (hn : Nat.ble args.length 99 = true) (h : ev Tryd.prog tt 99 [0, 1, 2, 3, 6, 7, 8, 9, 10, 11, 12, 13, 14, 15, 17, 29] (body Tryd.f9) ⟨idx 0 args, []⟩ (retQ tt [.tmp 6] r)) : Fn Tryd.prog 9 args r :=
  fn_of [.tmp 6] tabOK tabOne mixed Tryd.func9 rfl (by kernel_rfl) (by kernel_rfl) hn rfl rfl h
/-- archivum/archivumlaw03.DatingJoins -/
theorem mk10 {args : List AV} {r : AV} (hn : Nat.ble args.length 98 = true) (h : ev Tryd.prog tt 98 [0, 1, 2, 3, 4, 5, 8, 9, 10, 11, 12, 13, 14, 15, 16, 17, 18, 19, 20, 22, 35] (body Tryd.f10) ⟨idx 0 args, []⟩ (retQ tt [.tmp 8] r)) : Fn Tryd.prog 10 args r :=
  fn_of [.tmp 8] tabOK tabOne mixed Tryd.func10 rfl (by kernel_rfl) (by kernel_rfl) hn rfl rfl h
/-- archivum/archivumlaw03.awake -/
theorem mk11 {args : List AV} {r : AV} (hn : Nat.ble args.length 55 = true) (h : ev Tryd.prog tt 55 [0, 1, 2, 3, 4, 5, 6, 7, 8] (body Tryd.f11) ⟨idx 0 args, []⟩ (retQ tt [.tmp 0] r)) : Fn Tryd.prog 11 args r :=
  fn_of [.tmp 0] tabOK tabOne mixed Tryd.func11 rfl (by kernel_rfl) (by kernel_rfl) hn rfl rfl h
/-- archivum/dating.Format -/
theorem mk12 {args : List AV} {r : AV} (hn : Nat.ble args.length 46 = true) (h : ev Tryd.prog tt 46 [0, 1, 2, 3, 4, 7, 12, 16, 20, 29] (body Tryd.f12) ⟨idx 0 args, []⟩ (retQ tt [.tmp 2, .tmp 3] r)) : Fn Tryd.prog 12 args r :=
  fn_of [.tmp 2, .tmp 3] tabOK tabOne mixed Tryd.func12 rfl (by kernel_rfl) (by kernel_rfl) hn rfl rfl h
/-- archivum/archivumref03.Format -/
theorem mk13 {args : List AV} {r : AV} (hn : Nat.ble args.length 79 = true) (h : ev Tryd.prog tt 79 [0, 1, 2, 3, 4, 6, 7, 10, 14, 17, 41, 46, 53, 57, 65] (body Tryd.f13) ⟨idx 0 args, []⟩ (retQ tt [.tmp 2, .tmp 3] r)) : Fn Tryd.prog 13 args r :=
  fn_of [.tmp 2, .tmp 3] tabOK tabOne mixed Tryd.func13 rfl (by kernel_rfl) (by kernel_rfl) hn rfl rfl h
/-- archivum/dating.Parse -/
theorem mk14 {args : List AV} {r : AV} (hn : Nat.ble args.length 98 = true) (h : ev Tryd.prog tt 98 [0, 2, 3, 4, 5, 6, 7, 8, 9, 10, 11, 12, 13, 15, 16, 18, 19, 20, 40, 44, 49, 54, 60, 61, 62, 63, 68, 71, 72, 73, 74, 83, 95] (body Tryd.f14) ⟨idx 0 args, []⟩ (retQ tt [.cell 2 23, .tmp 3] r)) : Fn Tryd.prog 14 args r :=
  fn_of [.cell 2 23, .tmp 3] tabOK tabOne mixed Tryd.func14 rfl (by kernel_rfl) (by kernel_rfl) hn rfl rfl h
/-- archivum/archivumref03.Parse -/
theorem mk15 {args : List AV} {r : AV} (hn : Nat.ble args.length 108 = true) (h : ev Tryd.prog tt 108 [0, 2, 3, 4, 5, 6, 7, 8, 9, 10, 11, 12, 14, 23, 31, 47, 55, 67, 73, 92] (body Tryd.f15) ⟨idx 0 args, []⟩ (retQ tt [.cell 2 23, .tmp 3] r)) : Fn Tryd.prog 15 args r :=
  fn_of [.cell 2 23, .tmp 3] tabOK tabOne mixed Tryd.func15 rfl (by kernel_rfl) (by kernel_rfl) hn rfl rfl h
/-- archivum/dating.Check -/
theorem mk16 {args : List AV} {r : AV} (hn : Nat.ble args.length 18 = true) (h : ev Tryd.prog tt 18 [0, 1, 2, 17] (body Tryd.f16) ⟨idx 0 args, []⟩ (retQ tt [.tmp 2] r)) : Fn Tryd.prog 16 args r :=
  fn_of [.tmp 2] tabOK tabOne mixed Tryd.func16 rfl (by kernel_rfl) (by kernel_rfl) hn rfl rfl h
/-- archivum/dating.Before -/
theorem mk17 {args : List AV} {r : AV} (hn : Nat.ble args.length 23 = true) (h : ev Tryd.prog tt 23 [0, 1, 2, 3, 4, 5, 6, 11, 17] (body Tryd.f17) ⟨idx 0 args, []⟩ (retQ tt [.tmp 4, .tmp 5] r)) : Fn Tryd.prog 17 args r :=
  fn_of [.tmp 4, .tmp 5] tabOK tabOne mixed Tryd.func17 rfl (by kernel_rfl) (by kernel_rfl) hn rfl rfl h
/-- archivum/archivumref03.Before -/
theorem mk18 {args : List AV} {r : AV} (hn : Nat.ble args.length 24 = true) (h : ev Tryd.prog tt 24 [0, 1, 2, 3, 4, 5, 13, 18, 23] (body Tryd.f18) ⟨idx 0 args, []⟩ (retQ tt [.tmp 4, .tmp 5] r)) : Fn Tryd.prog 18 args r :=
  fn_of [.tmp 4, .tmp 5] tabOK tabOne mixed Tryd.func18 rfl (by kernel_rfl) (by kernel_rfl) hn rfl rfl h
/-- archivum/dating.Same -/
theorem mk19 {args : List AV} {r : AV} (hn : Nat.ble args.length 30 = true) (h : ev Tryd.prog tt 30 [0, 1, 2, 3, 4, 5, 7, 11, 21, 29] (body Tryd.f19) ⟨idx 0 args, []⟩ (retQ tt [.tmp 4, .tmp 5] r)) : Fn Tryd.prog 19 args r :=
  fn_of [.tmp 4, .tmp 5] tabOK tabOne mixed Tryd.func19 rfl (by kernel_rfl) (by kernel_rfl) hn rfl rfl h
/-- archivum/archivumref03.Same -/
theorem mk20 {args : List AV} {r : AV} (hn : Nat.ble args.length 36 = true) (h : ev Tryd.prog tt 36 [0, 1, 2, 3, 4, 5, 13, 25, 35] (body Tryd.f20) ⟨idx 0 args, []⟩ (retQ tt [.tmp 4, .tmp 5] r)) : Fn Tryd.prog 20 args r :=
  fn_of [.tmp 4, .tmp 5] tabOK tabOne mixed Tryd.func20 rfl (by kernel_rfl) (by kernel_rfl) hn rfl rfl h
/-- archivum/archivumref03.Check -/
theorem mk21 {args : List AV} {r : AV} (hn : Nat.ble args.length 6 = true) (h : ev Tryd.prog tt 6 [0, 1, 2, 5] (body Tryd.f21) ⟨idx 0 args, []⟩ (retQ tt [.tmp 2] r)) : Fn Tryd.prog 21 args r :=
  fn_of [.tmp 2] tabOK tabOne mixed Tryd.func21 rfl (by kernel_rfl) (by kernel_rfl) hn rfl rfl h
/-- archivum/dating.Meet -/
theorem mk22 {args : List AV} {r : AV} (hn : Nat.ble args.length 31 = true) (h : ev Tryd.prog tt 31 [0, 1, 2, 3, 4, 5, 6, 28] (body Tryd.f22) ⟨idx 0 args, []⟩ (retQ tt [.cell 4 23, .tmp 5] r)) : Fn Tryd.prog 22 args r :=
  fn_of [.cell 4 23, .tmp 5] tabOK tabOne mixed Tryd.func22 rfl (by kernel_rfl) (by kernel_rfl) hn rfl rfl h
/-- archivum/dating.Hull -/
theorem mk23 {args : List AV} {r : AV} (hn : Nat.ble args.length 41 = true) (h : ev Tryd.prog tt 41 [0, 2, 3, 4, 6, 9, 13, 18, 19, 20, 21, 26] (body Tryd.f23) ⟨idx 0 args, []⟩ (retQ tt [.cell 2 23, .tmp 3] r)) : Fn Tryd.prog 23 args r :=
  fn_of [.cell 2 23, .tmp 3] tabOK tabOne mixed Tryd.func23 rfl (by kernel_rfl) (by kernel_rfl) hn rfl rfl h
/-- archivum/dating.Years -/
theorem mk24 {args : List AV} {r : AV} (hn : Nat.ble args.length 38 = true) (h : ev Tryd.prog tt 38 [0, 1, 2, 4, 5, 6, 7, 8, 9, 12, 33] (body Tryd.f24) ⟨idx 0 args, []⟩ (retQ tt [.cell 4 23, .tmp 5] r)) : Fn Tryd.prog 24 args r :=
  fn_of [.cell 4 23, .tmp 5] tabOK tabOne mixed Tryd.func24 rfl (by kernel_rfl) (by kernel_rfl) hn rfl rfl h
/-- archivum/day.Years -/
theorem mk25 {args : List AV} {r : AV} (hn : Nat.ble args.length 47 = true) (h : ev Tryd.prog tt 47 [0, 1, 4, 5, 6, 7, 8, 9, 10, 27, 32, 45] (body Tryd.f25) ⟨idx 0 args, []⟩ (retQ tt [.tmp 4, .tmp 5] r)) : Fn Tryd.prog 25 args r :=
  fn_of [.tmp 4, .tmp 5] tabOK tabOne mixed Tryd.func25 rfl (by kernel_rfl) (by kernel_rfl) hn rfl rfl h
/-- archivum/archivumref03.Years -/
theorem mk26 {args : List AV} {r : AV} (hn : Nat.ble args.length 32 = true) (h : ev Tryd.prog tt 32 [0, 1, 2, 4, 5, 6, 7, 8, 12] (body Tryd.f26) ⟨idx 0 args, []⟩ (retQ tt [.cell 4 23, .tmp 5] r)) : Fn Tryd.prog 26 args r :=
  fn_of [.cell 4 23, .tmp 5] tabOK tabOne mixed Tryd.func26 rfl (by kernel_rfl) (by kernel_rfl) hn rfl rfl h
/-- archivum/archivumref03.Meet -/
theorem mk27 {args : List AV} {r : AV} (hn : Nat.ble args.length 35 = true) (h : ev Tryd.prog tt 35 [0, 1, 2, 3, 4, 5, 6, 32] (body Tryd.f27) ⟨idx 0 args, []⟩ (retQ tt [.cell 4 23, .tmp 5] r)) : Fn Tryd.prog 27 args r :=
  fn_of [.cell 4 23, .tmp 5] tabOK tabOne mixed Tryd.func27 rfl (by kernel_rfl) (by kernel_rfl) hn rfl rfl h
/-- archivum/archivumref03.Hull -/
theorem mk28 {args : List AV} {r : AV} (hn : Nat.ble args.length 48 = true) (h : ev Tryd.prog tt 48 [0, 2, 3, 4, 5, 8, 12, 20, 28] (body Tryd.f28) ⟨idx 0 args, []⟩ (retQ tt [.cell 2 23, .tmp 3] r)) : Fn Tryd.prog 28 args r :=
  fn_of [.cell 2 23, .tmp 3] tabOK tabOne mixed Tryd.func28 rfl (by kernel_rfl) (by kernel_rfl) hn rfl rfl h
/-- archivum/dating.text -/
theorem mk29 {args : List AV} {r : AV} (hn : Nat.ble args.length 29 = true) (h : ev Tryd.prog tt 29 [0, 1, 4, 5, 8, 14, 15, 16, 17, 24] (body Tryd.f29) ⟨idx 0 args, []⟩ (retQ tt [.tmp 4] r)) : Fn Tryd.prog 29 args r :=
  fn_of [.tmp 4] tabOK tabOne mixed Tryd.func29 rfl (by kernel_rfl) (by kernel_rfl) hn rfl rfl h
/-- archivum/dating.Format$1 -/
theorem mk30 {args : List AV} {r : AV} (hn : Nat.ble args.length 7 = true) (h : ev Tryd.prog tt 7 [0, 1, 2, 3] (body Tryd.f30) ⟨idx 0 args, []⟩ (retQ tt [.tmp 3] r)) : Fn Tryd.prog 30 args r :=
  fn_of [.tmp 3] tabOK tabOne mixed Tryd.func30 rfl (by kernel_rfl) (by kernel_rfl) hn rfl rfl h
/-- archivum/dating.unknown -/
theorem mk31 {args : List AV} {r : AV} (hn : Nat.ble args.length 2 = true) (h : ev Tryd.prog tt 2 [0] (body Tryd.f31) ⟨idx 0 args, []⟩ (retQ tt [.cell 0 23] r)) : Fn Tryd.prog 31 args r :=
  fn_of [.cell 0 23] tabOK tabOne mixed Tryd.func31 rfl (by kernel_rfl) (by kernel_rfl) hn rfl rfl h
/-- archivum/dating.begins -/
theorem mk32 {args : List AV} {r : AV} (hn : Nat.ble args.length 6 = true) (h : ev Tryd.prog tt 6 [0, 1, 2] (body Tryd.f32) ⟨idx 0 args, []⟩ (retQ tt [.tmp 2] r)) : Fn Tryd.prog 32 args r :=
  fn_of [.tmp 2] tabOK tabOne mixed Tryd.func32 rfl (by kernel_rfl) (by kernel_rfl) hn rfl rfl h
/-- archivum/dating.ends -/
theorem mk33 {args : List AV} {r : AV} (hn : Nat.ble args.length 6 = true) (h : ev Tryd.prog tt 6 [0, 1, 2] (body Tryd.f33) ⟨idx 0 args, []⟩ (retQ tt [.tmp 2] r)) : Fn Tryd.prog 33 args r :=
  fn_of [.tmp 2] tabOK tabOne mixed Tryd.func33 rfl (by kernel_rfl) (by kernel_rfl) hn rfl rfl h
/-- archivum/archivumref03.Good -/
theorem mk34 {args : List AV} {r : AV} (hn : Nat.ble args.length 18 = true) (h : ev Tryd.prog tt 18 [0, 1, 2] (body Tryd.f34) ⟨idx 0 args, []⟩ (retQ tt [.tmp 2] r)) : Fn Tryd.prog 34 args r :=
  fn_of [.tmp 2] tabOK tabOne mixed Tryd.func34 rfl (by kernel_rfl) (by kernel_rfl) hn rfl rfl h
/-- archivum/archivumref02.Format -/
theorem mk35 {args : List AV} {r : AV} (hn : Nat.ble args.length 28 = true) (h : ev Tryd.prog tt 28 [0, 2, 3, 4, 5, 6, 7, 16] (body Tryd.f35) ⟨idx 0 args, []⟩ (retQ tt [.tmp 2, .tmp 3] r)) : Fn Tryd.prog 35 args r :=
  fn_of [.tmp 2, .tmp 3] tabOK tabOne mixed Tryd.func35 rfl (by kernel_rfl) (by kernel_rfl) hn rfl rfl h
/-- archivum/archivumref02.Date -/
theorem mk36 {args : List AV} {r : AV} (hn : Nat.ble args.length 41 = true) (h : ev Tryd.prog tt 41 [0, 2, 3, 4, 5, 6, 7, 10, 18, 29] (body Tryd.f36) ⟨idx 0 args, []⟩ (retQ tt [.tmp 2, .tmp 3, .tmp 4, .tmp 5] r)) : Fn Tryd.prog 36 args r :=
  fn_of [.tmp 2, .tmp 3, .tmp 4, .tmp 5] tabOK tabOne mixed Tryd.func36 rfl (by kernel_rfl) (by kernel_rfl) hn rfl rfl h
/-- archivum/archivumref03.month -/
theorem mk37 {args : List AV} {r : AV} (hn : Nat.ble args.length 26 = true) (h : ev Tryd.prog tt 26 [0, 1, 4, 5, 6, 7, 15] (body Tryd.f37) ⟨idx 0 args, []⟩ (retQ tt [.cell 4 23, .tmp 5] r)) : Fn Tryd.prog 37 args r :=
  fn_of [.cell 4 23, .tmp 5] tabOK tabOne mixed Tryd.func37 rfl (by kernel_rfl) (by kernel_rfl) hn rfl rfl h
/-- archivum/archivumref03.year -/
theorem mk38 {args : List AV} {r : AV} (hn : Nat.ble args.length 20 = true) (h : ev Tryd.prog tt 20 [0, 2, 3, 5] (body Tryd.f38) ⟨idx 0 args, []⟩ (retQ tt [.cell 2 23] r)) : Fn Tryd.prog 38 args r :=
  fn_of [.cell 2 23] tabOK tabOne mixed Tryd.func38 rfl (by kernel_rfl) (by kernel_rfl) hn rfl rfl h
/-- archivum/archivumref03.begins -/
theorem mk39 {args : List AV} {r : AV} (hn : Nat.ble args.length 34 = true) (h : ev Tryd.prog tt 34 [0, 2, 3, 6, 7, 26, 30] (body Tryd.f39) ⟨idx 0 args, []⟩ (retQ tt [.tmp 2] r)) : Fn Tryd.prog 39 args r :=
  fn_of [.tmp 2] tabOK tabOne mixed Tryd.func39 rfl (by kernel_rfl) (by kernel_rfl) hn rfl rfl h
/-- archivum/archivumref03.ends -/
theorem mk40 {args : List AV} {r : AV} (hn : Nat.ble args.length 43 = true) (h : ev Tryd.prog tt 43 [0, 2, 3, 5, 6, 9, 33, 39] (body Tryd.f40) ⟨idx 0 args, []⟩ (retQ tt [.tmp 2] r)) : Fn Tryd.prog 40 args r :=
  fn_of [.tmp 2] tabOK tabOne mixed Tryd.func40 rfl (by kernel_rfl) (by kernel_rfl) hn rfl rfl h
/-- strings.Cut -/
theorem mk41 {args : List AV} {r : AV} (hn : Nat.ble args.length 13 = true) (h : ev Tryd.prog tt 13 [0, 1, 4, 5, 6] (body Tryd.f41) ⟨idx 0 args, []⟩ (retQ tt [.tmp 4, .tmp 5, .tmp 6] r)) : Fn Tryd.prog 41 args r :=
  fn_of [.tmp 4, .tmp 5, .tmp 6] tabOK tabOne mixed Tryd.func41 rfl (by kernel_rfl) (by kernel_rfl) hn rfl rfl h
/-- strings.CutPrefix -/
theorem mk42 {args : List AV} {r : AV} (hn : Nat.ble args.length 11 = true) (h : ev Tryd.prog tt 11 [0, 1, 4, 5] (body Tryd.f42) ⟨idx 0 args, []⟩ (retQ tt [.tmp 4, .tmp 5] r)) : Fn Tryd.prog 42 args r :=
  fn_of [.tmp 4, .tmp 5] tabOK tabOne mixed Tryd.func42 rfl (by kernel_rfl) (by kernel_rfl) hn rfl rfl h
/-- archivum/dating.Parse$1 -/
theorem mk43 {args : List AV} {r : AV} (hn : Nat.ble args.length 6 = true) (h : ev Tryd.prog tt 6 [0, 1] (body Tryd.f43) ⟨idx 0 args, []⟩ (retQ tt [] r)) : Fn Tryd.prog 43 args r :=
  fn_of [] tabOK tabOne mixed Tryd.func43 rfl (by kernel_rfl) (by kernel_rfl) hn rfl rfl h
/-- archivum/dating.Parse$2 -/
theorem mk44 {args : List AV} {r : AV} (hn : Nat.ble args.length 10 = true) (h : ev Tryd.prog tt 10 [0, 1] (body Tryd.f44) ⟨idx 0 args, []⟩ (retQ tt [] r)) : Fn Tryd.prog 44 args r :=
  fn_of [] tabOK tabOne mixed Tryd.func44 rfl (by kernel_rfl) (by kernel_rfl) hn rfl rfl h
/-- archivum/dating.Parse$3 -/
theorem mk45 {args : List AV} {r : AV} (hn : Nat.ble args.length 10 = true) (h : ev Tryd.prog tt 10 [0, 1] (body Tryd.f45) ⟨idx 0 args, []⟩ (retQ tt [] r)) : Fn Tryd.prog 45 args r :=
  fn_of [] tabOK tabOne mixed Tryd.func45 rfl (by kernel_rfl) (by kernel_rfl) hn rfl rfl h
/-- archivum/dating.Parse$4 -/
theorem mk46 {args : List AV} {r : AV} (hn : Nat.ble args.length 13 = true) (h : ev Tryd.prog tt 13 [0, 1] (body Tryd.f46) ⟨idx 0 args, []⟩ (retQ tt [] r)) : Fn Tryd.prog 46 args r :=
  fn_of [] tabOK tabOne mixed Tryd.func46 rfl (by kernel_rfl) (by kernel_rfl) hn rfl rfl h
/-- archivum/dating.shaped -/
theorem mk47 {args : List AV} {r : AV} (hn : Nat.ble args.length 53 = true) (h : ev Tryd.prog tt 53 [0, 2, 3, 4, 17, 19, 20, 21, 51] (body Tryd.f47) ⟨idx 0 args, []⟩ (retQ tt [.tmp 2] r)) : Fn Tryd.prog 47 args r :=
  fn_of [.tmp 2] tabOK tabOne mixed Tryd.func47 rfl (by kernel_rfl) (by kernel_rfl) hn rfl rfl h
/-- archivum/dating.read -/
theorem mk48 {args : List AV} {r : AV} (hn : Nat.ble args.length 22 = true) (h : ev Tryd.prog tt 22 [0, 2, 3, 4, 5, 16] (body Tryd.f48) ⟨idx 0 args, []⟩ (retQ tt [.cell 2 23, .tmp 3] r)) : Fn Tryd.prog 48 args r :=
  fn_of [.cell 2 23, .tmp 3] tabOK tabOne mixed Tryd.func48 rfl (by kernel_rfl) (by kernel_rfl) hn rfl rfl h
/-- archivum/archivumref03.period -/
theorem mk49 {args : List AV} {r : AV} (hn : Nat.ble args.length 83 = true) (h : ev Tryd.prog tt 83 [0, 2, 3, 4, 5, 6, 7, 8, 9, 10, 11, 12, 13, 16, 23, 30, 36, 59, 68, 77] (body Tryd.f49) ⟨idx 0 args, []⟩ (retQ tt [.cell 2 23, .tmp 3] r)) : Fn Tryd.prog 49 args r :=
  fn_of [.cell 2 23, .tmp 3] tabOK tabOne mixed Tryd.func49 rfl (by kernel_rfl) (by kernel_rfl) hn rfl rfl h
/-- archivum/archivumref03.span -/
theorem mk50 {args : List AV} {r : AV} (hn : Nat.ble args.length 15 = true) (h : ev Tryd.prog tt 15 [0, 1, 4, 5, 6, 12] (body Tryd.f50) ⟨idx 0 args, []⟩ (retQ tt [.cell 4 23, .tmp 5] r)) : Fn Tryd.prog 50 args r :=
  fn_of [.cell 4 23, .tmp 5] tabOK tabOne mixed Tryd.func50 rfl (by kernel_rfl) (by kernel_rfl) hn rfl rfl h
/-- archivum/archivumref03.worse -/
theorem mk51 {args : List AV} {r : AV} (hn : Nat.ble args.length 15 = true) (h : ev Tryd.prog tt 15 [0, 1, 4, 10, 12] (body Tryd.f51) ⟨idx 0 args, []⟩ (retQ tt [.tmp 4] r)) : Fn Tryd.prog 51 args r :=
  fn_of [.tmp 4] tabOK tabOne mixed Tryd.func51 rfl (by kernel_rfl) (by kernel_rfl) hn rfl rfl h
/-- archivum/dating.both -/
theorem mk52 {args : List AV} {r : AV} (hn : Nat.ble args.length 13 = true) (h : ev Tryd.prog tt 13 [0, 1, 2, 3, 4] (body Tryd.f52) ⟨idx 0 args, []⟩ (retQ tt [.tmp 4] r)) : Fn Tryd.prog 52 args r :=
  fn_of [.tmp 4] tabOK tabOne mixed Tryd.func52 rfl (by kernel_rfl) (by kernel_rfl) hn rfl rfl h
/-- archivum/day.Date -/
theorem mk53 {args : List AV} {r : AV} (hn : Nat.ble args.length 44 = true) (h : ev Tryd.prog tt 44 [0, 2, 3, 4, 5, 8, 21, 32] (body Tryd.f53) ⟨idx 0 args, []⟩ (retQ tt [.tmp 2, .tmp 3, .tmp 4, .tmp 5] r)) : Fn Tryd.prog 53 args r :=
  fn_of [.tmp 2, .tmp 3, .tmp 4, .tmp 5] tabOK tabOne mixed Tryd.func53 rfl (by kernel_rfl) (by kernel_rfl) hn rfl rfl h
/-- archivum/day.Of -/
theorem mk54 {args : List AV} {r : AV} (hn : Nat.ble args.length 39 = true) (h : ev Tryd.prog tt 39 [0, 1, 2, 6, 7, 8, 9, 10, 20, 28, 37] (body Tryd.f54) ⟨idx 0 args, []⟩ (retQ tt [.tmp 6, .tmp 7] r)) : Fn Tryd.prog 54 args r :=
  fn_of [.tmp 6, .tmp 7] tabOK tabOne mixed Tryd.func54 rfl (by kernel_rfl) (by kernel_rfl) hn rfl rfl h
/-- archivum/day.Length -/
theorem mk55 {args : List AV} {r : AV} (hn : Nat.ble args.length 29 = true) (h : ev Tryd.prog tt 29 [0, 1, 4, 18, 24] (body Tryd.f55) ⟨idx 0 args, []⟩ (retQ tt [.tmp 4] r)) : Fn Tryd.prog 55 args r :=
  fn_of [.tmp 4] tabOK tabOne mixed Tryd.func55 rfl (by kernel_rfl) (by kernel_rfl) hn rfl rfl h
/-- archivum/archivumref02.Years -/
theorem mk56 {args : List AV} {r : AV} (hn : Nat.ble args.length 54 = true) (h : ev Tryd.prog tt 54 [0, 1, 4, 5, 6, 7, 8, 10, 11, 22, 43, 52] (body Tryd.f56) ⟨idx 0 args, []⟩ (retQ tt [.tmp 4, .tmp 5] r)) : Fn Tryd.prog 56 args r :=
  fn_of [.tmp 4, .tmp 5] tabOK tabOne mixed Tryd.func56 rfl (by kernel_rfl) (by kernel_rfl) hn rfl rfl h
/-- archivum/day.Format -/
theorem mk57 {args : List AV} {r : AV} (hn : Nat.ble args.length 28 = true) (h : ev Tryd.prog tt 28 [0, 2, 3, 4, 5, 6, 7, 16] (body Tryd.f57) ⟨idx 0 args, []⟩ (retQ tt [.tmp 2, .tmp 3] r)) : Fn Tryd.prog 57 args r :=
  fn_of [.tmp 2, .tmp 3] tabOK tabOne mixed Tryd.func57 rfl (by kernel_rfl) (by kernel_rfl) hn rfl rfl h
/-- archivum/dating.period -/
theorem mk58 {args : List AV} {r : AV} (hn : Nat.ble args.length 58 = true) (h : ev Tryd.prog tt 58 [0, 1, 4, 5, 6, 9, 11, 13, 22, 23, 38] (body Tryd.f58) ⟨idx 0 args, []⟩ (retQ tt [.cell 4 23] r)) : Fn Tryd.prog 58 args r :=
  fn_of [.cell 4 23] tabOK tabOne mixed Tryd.func58 rfl (by kernel_rfl) (by kernel_rfl) hn rfl rfl h
/-- archivum/dating.begins$1 -/
theorem mk59 {args : List AV} {r : AV} (hn : Nat.ble args.length 8 = true) (h : ev Tryd.prog tt 8 [0, 1, 2, 3] (body Tryd.f59) ⟨idx 0 args, []⟩ (retQ tt [.tmp 3] r)) : Fn Tryd.prog 59 args r :=
  fn_of [.tmp 3] tabOK tabOne mixed Tryd.func59 rfl (by kernel_rfl) (by kernel_rfl) hn rfl rfl h
/-- archivum/dating.ends$1 -/
theorem mk60 {args : List AV} {r : AV} (hn : Nat.ble args.length 8 = true) (h : ev Tryd.prog tt 8 [0, 1, 2, 3] (body Tryd.f60) ⟨idx 0 args, []⟩ (retQ tt [.tmp 3] r)) : Fn Tryd.prog 60 args r :=
  fn_of [.tmp 3] tabOK tabOne mixed Tryd.func60 rfl (by kernel_rfl) (by kernel_rfl) hn rfl rfl h
/-- archivum/archivumref02.Digits -/
theorem mk61 {args : List AV} {r : AV} (hn : Nat.ble args.length 24 = true) (h : ev Tryd.prog tt 24 [0, 1, 4, 5, 6, 7, 10] (body Tryd.f61) ⟨idx 0 args, []⟩ (retQ tt [.tmp 4] r)) : Fn Tryd.prog 61 args r :=
  fn_of [.tmp 4] tabOK tabOne mixed Tryd.func61 rfl (by kernel_rfl) (by kernel_rfl) hn rfl rfl h
/-- archivum/archivumref02.Good -/
theorem mk62 {args : List AV} {r : AV} (hn : Nat.ble args.length 9 = true) (h : ev Tryd.prog tt 9 [0, 2] (body Tryd.f62) ⟨idx 0 args, []⟩ (retQ tt [.tmp 2] r)) : Fn Tryd.prog 62 args r :=
  fn_of [.tmp 2] tabOK tabOne mixed Tryd.func62 rfl (by kernel_rfl) (by kernel_rfl) hn rfl rfl h
/-- archivum/archivumref02.before -/
theorem mk63 {args : List AV} {r : AV} (hn : Nat.ble args.length 25 = true) (h : ev Tryd.prog tt 25 [0, 2, 3, 7] (body Tryd.f63) ⟨idx 0 args, []⟩ (retQ tt [.tmp 2] r)) : Fn Tryd.prog 63 args r :=
  fn_of [.tmp 2] tabOK tabOne mixed Tryd.func63 rfl (by kernel_rfl) (by kernel_rfl) hn rfl rfl h
/-- archivum/archivumref02.Length -/
theorem mk64 {args : List AV} {r : AV} (hn : Nat.ble args.length 29 = true) (h : ev Tryd.prog tt 29 [0, 1, 4, 18, 24] (body Tryd.f64) ⟨idx 0 args, []⟩ (retQ tt [.tmp 4] r)) : Fn Tryd.prog 64 args r :=
  fn_of [.tmp 4] tabOK tabOne mixed Tryd.func64 rfl (by kernel_rfl) (by kernel_rfl) hn rfl rfl h
/-- archivum/archivumref02.Of -/
theorem mk65 {args : List AV} {r : AV} (hn : Nat.ble args.length 37 = true) (h : ev Tryd.prog tt 37 [0, 1, 2, 6, 7, 8, 9, 18, 26, 35] (body Tryd.f65) ⟨idx 0 args, []⟩ (retQ tt [.tmp 6, .tmp 7] r)) : Fn Tryd.prog 65 args r :=
  fn_of [.tmp 6, .tmp 7] tabOK tabOne mixed Tryd.func65 rfl (by kernel_rfl) (by kernel_rfl) hn rfl rfl h
/-- archivum/archivumref02.YearEnd -/
theorem mk66 {args : List AV} {r : AV} (hn : Nat.ble args.length 28 = true) (h : ev Tryd.prog tt 28 [0, 2, 3, 4, 7, 8, 9, 18, 26] (body Tryd.f66) ⟨idx 0 args, []⟩ (retQ tt [.tmp 2, .tmp 3] r)) : Fn Tryd.prog 66 args r :=
  fn_of [.tmp 2, .tmp 3] tabOK tabOne mixed Tryd.func66 rfl (by kernel_rfl) (by kernel_rfl) hn rfl rfl h
/-- internal/stringslite.Cut -/
theorem mk67 {args : List AV} {r : AV} (hn : Nat.ble args.length 23 = true) (h : ev Tryd.prog tt 23 [0, 1, 4, 5, 6, 7, 12] (body Tryd.f67) ⟨idx 0 args, []⟩ (retQ tt [.tmp 4, .tmp 5, .tmp 6] r)) : Fn Tryd.prog 67 args r :=
  fn_of [.tmp 4, .tmp 5, .tmp 6] tabOK tabOne mixed Tryd.func67 rfl (by kernel_rfl) (by kernel_rfl) hn rfl rfl h
/-- internal/stringslite.CutPrefix -/
theorem mk68 {args : List AV} {r : AV} (hn : Nat.ble args.length 15 = true) (h : ev Tryd.prog tt 15 [0, 1, 4, 5, 9] (body Tryd.f68) ⟨idx 0 args, []⟩ (retQ tt [.tmp 4, .tmp 5] r)) : Fn Tryd.prog 68 args r :=
  fn_of [.tmp 4, .tmp 5] tabOK tabOne mixed Tryd.func68 rfl (by kernel_rfl) (by kernel_rfl) hn rfl rfl h
/-- archivum/day.Parse -/
theorem mk69 {args : List AV} {r : AV} (hn : Nat.ble args.length 40 = true) (h : ev Tryd.prog tt 40 [0, 2, 3, 4, 5, 6, 19, 33] (body Tryd.f69) ⟨idx 0 args, []⟩ (retQ tt [.tmp 2, .tmp 3] r)) : Fn Tryd.prog 69 args r :=
  fn_of [.tmp 2, .tmp 3] tabOK tabOne mixed Tryd.func69 rfl (by kernel_rfl) (by kernel_rfl) hn rfl rfl h
/-- archivum/archivumref02.Number -/
theorem mk70 {args : List AV} {r : AV} (hn : Nat.ble args.length 34 = true) (h : ev Tryd.prog tt 34 [0, 2, 3, 4, 5, 9, 21] (body Tryd.f70) ⟨idx 0 args, []⟩ (retQ tt [.tmp 2, .tmp 3] r)) : Fn Tryd.prog 70 args r :=
  fn_of [.tmp 2, .tmp 3] tabOK tabOne mixed Tryd.func70 rfl (by kernel_rfl) (by kernel_rfl) hn rfl rfl h
/-- archivum/archivumref02.Parse -/
theorem mk71 {args : List AV} {r : AV} (hn : Nat.ble args.length 57 = true) (h : ev Tryd.prog tt 57 [0, 2, 3, 4, 5, 6, 7, 8, 9, 22, 50] (body Tryd.f71) ⟨idx 0 args, []⟩ (retQ tt [.tmp 2, .tmp 3] r)) : Fn Tryd.prog 71 args r :=
  fn_of [.tmp 2, .tmp 3] tabOK tabOne mixed Tryd.func71 rfl (by kernel_rfl) (by kernel_rfl) hn rfl rfl h
/-- archivum/day.is -/
theorem mk72 {args : List AV} {r : AV} (hn : Nat.ble args.length 9 = true) (h : ev Tryd.prog tt 9 [0, 2] (body Tryd.f72) ⟨idx 0 args, []⟩ (retQ tt [.tmp 2] r)) : Fn Tryd.prog 72 args r :=
  fn_of [.tmp 2] tabOK tabOne mixed Tryd.func72 rfl (by kernel_rfl) (by kernel_rfl) hn rfl rfl h
/-- archivum/day.begin -/
theorem mk73 {args : List AV} {r : AV} (hn : Nat.ble args.length 20 = true) (h : ev Tryd.prog tt 20 [0, 2, 3] (body Tryd.f73) ⟨idx 0 args, []⟩ (retQ tt [.tmp 2] r)) : Fn Tryd.prog 73 args r :=
  fn_of [.tmp 2] tabOK tabOne mixed Tryd.func73 rfl (by kernel_rfl) (by kernel_rfl) hn rfl rfl h
/-- archivum/day.leap -/
theorem mk74 {args : List AV} {r : AV} (hn : Nat.ble args.length 16 = true) (h : ev Tryd.prog tt 16 [0, 2] (body Tryd.f74) ⟨idx 0 args, []⟩ (retQ tt [.tmp 2] r)) : Fn Tryd.prog 74 args r :=
  fn_of [.tmp 2] tabOK tabOne mixed Tryd.func74 rfl (by kernel_rfl) (by kernel_rfl) hn rfl rfl h
/-- archivum/day.lengths -/
theorem mk75 {args : List AV} {r : AV} (hn : Nat.ble args.length 2 = true) (h : ev Tryd.prog tt 2 [0] (body Tryd.f75) ⟨idx 0 args, []⟩ (retQ tt [.cell 0 77] r)) : Fn Tryd.prog 75 args r :=
  fn_of [.cell 0 77] tabOK tabOne mixed Tryd.func75 rfl (by kernel_rfl) (by kernel_rfl) hn rfl rfl h
/-- archivum/archivumref02.leap -/
theorem mk76 {args : List AV} {r : AV} (hn : Nat.ble args.length 16 = true) (h : ev Tryd.prog tt 16 [0, 2] (body Tryd.f76) ⟨idx 0 args, []⟩ (retQ tt [.tmp 2] r)) : Fn Tryd.prog 76 args r :=
  fn_of [.tmp 2] tabOK tabOne mixed Tryd.func76 rfl (by kernel_rfl) (by kernel_rfl) hn rfl rfl h
/-- archivum/day.digits -/
theorem mk77 {args : List AV} {r : AV} (hn : Nat.ble args.length 18 = true) (h : ev Tryd.prog tt 18 [0, 1, 4, 5, 11, 12, 13] (body Tryd.f77) ⟨idx 0 args, []⟩ (retQ tt [.tmp 4] r)) : Fn Tryd.prog 77 args r :=
  fn_of [.tmp 4] tabOK tabOne mixed Tryd.func77 rfl (by kernel_rfl) (by kernel_rfl) hn rfl rfl h
/-- archivum/day.YearEnd -/
theorem mk78 {args : List AV} {r : AV} (hn : Nat.ble args.length 23 = true) (h : ev Tryd.prog tt 23 [0, 2, 3, 4, 7, 16] (body Tryd.f78) ⟨idx 0 args, []⟩ (retQ tt [.tmp 2, .tmp 3] r)) : Fn Tryd.prog 78 args r :=
  fn_of [.tmp 2, .tmp 3] tabOK tabOne mixed Tryd.func78 rfl (by kernel_rfl) (by kernel_rfl) hn rfl rfl h
/-- internal/stringslite.HasPrefix -/
theorem mk80 {args : List AV} {r : AV} (hn : Nat.ble args.length 18 = true) (h : ev Tryd.prog tt 18 [0, 1, 4] (body Tryd.f80) ⟨idx 0 args, []⟩ (retQ tt [.tmp 4] r)) : Fn Tryd.prog 80 args r :=
  fn_of [.tmp 4] tabOK tabOne mixed Tryd.func80 rfl (by kernel_rfl) (by kernel_rfl) hn rfl rfl h
/-- archivum/day.number -/
theorem mk81 {args : List AV} {r : AV} (hn : Nat.ble args.length 30 = true) (h : ev Tryd.prog tt 30 [0, 2, 3, 4, 6, 7, 8, 19] (body Tryd.f81) ⟨idx 0 args, []⟩ (retQ tt [.tmp 2] r)) : Fn Tryd.prog 81 args r :=
  fn_of [.tmp 2] tabOK tabOne mixed Tryd.func81 rfl (by kernel_rfl) (by kernel_rfl) hn rfl rfl h
theorem mkS43 {args : List AV} {O O1 : List (Nat × OBlk)} {r : AV} (hn : Nat.ble args.length 6 = true) (hp : pinsOK O = true) (hdom : ∀ b, (olk O1 b).isSome = true → (olk O b).isSome = true) (h : ev Tryd.prog tt 6 [0, 1] (body Tryd.f43) ⟨idx 0 args, O⟩ (retQS [] r O1)) : FnS Tryd.prog 43 args O O1 r :=
  fnS_of [] tabOK tabOne mixed Tryd.func43 rfl (by kernel_rfl) (by kernel_rfl) hn rfl rfl hp hdom h
theorem mkS44 {args : List AV} {O O1 : List (Nat × OBlk)} {r : AV} (hn : Nat.ble args.length 10 = true) (hp : pinsOK O = true) (hdom : ∀ b, (olk O1 b).isSome = true → (olk O b).isSome = true) (h : ev Tryd.prog tt 10 [0, 1] (body Tryd.f44) ⟨idx 0 args, O⟩ (retQS [] r O1)) : FnS Tryd.prog 44 args O O1 r :=
  fnS_of [] tabOK tabOne mixed Tryd.func44 rfl (by kernel_rfl) (by kernel_rfl) hn rfl rfl hp hdom h
theorem mkS45 {args : List AV} {O O1 : List (Nat × OBlk)} {r : AV} (hn : Nat.ble args.length 10 = true) (hp : pinsOK O = true) (hdom : ∀ b, (olk O1 b).isSome = true → (olk O b).isSome = true) (h : ev Tryd.prog tt 10 [0, 1] (body Tryd.f45) ⟨idx 0 args, O⟩ (retQS [] r O1)) : FnS Tryd.prog 45 args O O1 r :=
  fnS_of [] tabOK tabOne mixed Tryd.func45 rfl (by kernel_rfl) (by kernel_rfl) hn rfl rfl hp hdom h
theorem mkS46 {args : List AV} {O O1 : List (Nat × OBlk)} {r : AV} (hn : Nat.ble args.length 13 = true) (hp : pinsOK O = true) (hdom : ∀ b, (olk O1 b).isSome = true → (olk O b).isSome = true) (h : ev Tryd.prog tt 13 [0, 1] (body Tryd.f46) ⟨idx 0 args, O⟩ (retQS [] r O1)) : FnS Tryd.prog 46 args O O1 r :=
  fnS_of [] tabOK tabOne mixed Tryd.func46 rfl (by kernel_rfl) (by kernel_rfl) hn rfl rfl hp hdom h
end Go.Abs.L03
