import Derived.Test.YtknbomaidhlnlaaA3
import Derived.Laws.StructEq
import Derived.Test.YtknbomaidhlnlaaProg
namespace Go.Abs.L42
open Go Go.Abs Go.Proofs
set_option linter.unusedVariables false
set_option maxRecDepth 20000
/-- the types that the code names -/
def tt : Tab := [(3, ⟨.int .i64, 1, 8, (Value.int IntKind.i64 0), []⟩),
  (4, ⟨.bool, 1, 1, (Value.bool false), []⟩),
  (22, ⟨.slice 24, 1, 24, (Value.slice none 0 0), []⟩),
  (24, ⟨.struct [(0, 3), (1, 3), (2, 3), (3, 3), (4, 3), (5, 3), (6, 3)], 7, 56, (Value.agg #[(Value.int IntKind.i64 0), (Value.int IntKind.i64 0), (Value.int IntKind.i64 0), (Value.int IntKind.i64 0), (Value.int IntKind.i64 0), (Value.int IntKind.i64 0), (Value.int IntKind.i64 0)]), [.i .i64, .i .i64, .i .i64, .i .i64, .i .i64, .i .i64, .i .i64]⟩),
  (27, ⟨.int .i64, 1, 8, (Value.int IntKind.i64 0), []⟩),
  (41, ⟨.other, 1, 8, Value.nilFunc, []⟩),
  (42, ⟨.other, 1, 8, Value.nilFunc, []⟩),
  (43, ⟨.slice 4, 1, 24, (Value.slice none 0 0), []⟩),
  (46, ⟨.slice 47, 1, 24, (Value.slice none 0 0), []⟩),
  (47, ⟨.array 3 3, 3, 24, (Value.agg #[(Value.int IntKind.i64 0), (Value.int IntKind.i64 0), (Value.int IntKind.i64 0)]), []⟩),
  (53, ⟨.slice 3, 1, 24, (Value.slice none 0 0), []⟩),
  (59, ⟨.struct [(0, 3), (1, 42)], 2, 16, (Value.agg #[(Value.int IntKind.i64 0), Value.nilFunc]), []⟩)]
theorem tabOne : TabOne tt = true := by kernel_rfl
theorem eqSpec24 : EqSpec Try.prog 24 [.i .i64, .i .i64, .i .i64, .i .i64, .i .i64, .i .i64, .i .i64] := by
  refine ⟨by kernel_rfl, fun w us vs hu0 hv0 => ?_⟩
  obtain ⟨a0, us0, rfl, hu1⟩ := fits_i hu0
  obtain ⟨a1, us1, rfl, hu2⟩ := fits_i hu1
  obtain ⟨a2, us2, rfl, hu3⟩ := fits_i hu2
  obtain ⟨a3, us3, rfl, hu4⟩ := fits_i hu3
  obtain ⟨a4, us4, rfl, hu5⟩ := fits_i hu4
  obtain ⟨a5, us5, rfl, hu6⟩ := fits_i hu5
  obtain ⟨a6, us6, rfl, hu7⟩ := fits_i hu6
  cases fits_nil hu7
  obtain ⟨b0, vs0, rfl, hv1⟩ := fits_i hv0
  obtain ⟨b1, vs1, rfl, hv2⟩ := fits_i hv1
  obtain ⟨b2, vs2, rfl, hv3⟩ := fits_i hv2
  obtain ⟨b3, vs3, rfl, hv4⟩ := fits_i hv3
  obtain ⟨b4, vs4, rfl, hv5⟩ := fits_i hv4
  obtain ⟨b5, vs5, rfl, hv6⟩ := fits_i hv5
  obtain ⟨b6, vs6, rfl, hv7⟩ := fits_i hv6
  cases fits_nil hv7
  have u3 := Try.underlying3
  have a3x := Try.isAgg3
  have z3 := Try.sizeOf3
  have hS24 : Try.prog.underlying 24 = some (.struct (Try.prog.fieldsOf 24)) := by kernel_rfl
  have hp24 : Try.prog.stoodInHeld 24 = false := by kernel_rfl
  rw [show (10000 : Nat) = 9999 + 1 from rfl, run_equalIn_agg w 9999 24 _ _ hS24 hp24]
  simp only [Program.fieldsOf, Try.underlying24, List.map, AV.toV]
  go_simp
  clear hu0 hv0 hu1 hv1 hu2 hv2 hu3 hv3 hu4 hv4 hu5 hv5 hu6 hv6 hu7 hv7
  repeat' split
  all_goals simp_all [eqL, eqC]
theorem tabOK : TabOK Try.prog tt := ⟨⟨by kernel_rfl, by kernel_rfl, fun h => absurd rfl h⟩,
  ⟨by kernel_rfl, by kernel_rfl, fun h => absurd rfl h⟩,
  ⟨by kernel_rfl, by kernel_rfl, fun h => absurd rfl h⟩,
  ⟨by kernel_rfl, by kernel_rfl, fun _ => eqSpec24⟩,
  ⟨by kernel_rfl, by kernel_rfl, fun h => absurd rfl h⟩,
  ⟨by kernel_rfl, by kernel_rfl, fun h => absurd rfl h⟩,
  ⟨by kernel_rfl, by kernel_rfl, fun h => absurd rfl h⟩,
  ⟨by kernel_rfl, by kernel_rfl, fun h => absurd rfl h⟩,
  ⟨by kernel_rfl, by kernel_rfl, fun h => absurd rfl h⟩,
  ⟨by kernel_rfl, by kernel_rfl, fun h => absurd rfl h⟩,
  ⟨by kernel_rfl, by kernel_rfl, fun h => absurd rfl h⟩,
  ⟨by kernel_rfl, by kernel_rfl, fun h => absurd rfl h⟩, trivial⟩
theorem mixed : Try.prog.follows .mixedOrders = true := by kernel_rfl
def body (f : Func) : Code := match f.body with | some c => c | none => .skip
/-- archivum/archivumlaw42.RequestChecks -/
theorem mk3 {args : List AV} {r : AV} (hn : Nat.ble args.length 43 = true) (h : ev Try.prog tt 43 [0, 1, 3, 4, 5, 6, 7, 8, 10, 13] (body Try.f3) ⟨idx 0 args, []⟩ (retQ tt [.tmp 4] r)) : Fn Try.prog 3 args r :=
  fn_of [.tmp 4] tabOK tabOne mixed Try.func3 rfl (by kernel_rfl) (by kernel_rfl) hn rfl rfl h
/-- archivum/archivumlaw42.RequestFull -/
theorem mk4 {args : List AV} {r : AV} (hn : Nat.ble args.length 88 = true) (h : ev Try.prog tt 88 [0, 1, 4, 5, 6, 7, 8, 9, 10, 12, 13, 14, 62] (body Try.f4) ⟨idx 0 args, []⟩ (retQ tt [.tmp 4] r)) : Fn Try.prog 4 args r :=
  fn_of [.tmp 4] tabOK tabOne mixed Try.func4 rfl (by kernel_rfl) (by kernel_rfl) hn rfl rfl h
/-- archivum/archivumlaw42.RequestFair -/
theorem mk5 {args : List AV} {r : AV} (hn : Nat.ble args.length 94 = true) (h : ev Try.prog tt 94 [0, 1, 4, 5, 6, 7, 8, 9, 10, 12, 14, 23, 24, 25, 26, 27, 33, 67, 92] (body Try.f5) ⟨idx 0 args, []⟩ (retQ tt [.tmp 4] r)) : Fn Try.prog 5 args r :=
  fn_of [.tmp 4] tabOK tabOne mixed Try.func5 rfl (by kernel_rfl) (by kernel_rfl) hn rfl rfl h
/-- archivum/archivumlaw42.RequestChanges -/
theorem mk6 {args : List AV} {r : AV} (hn : Nat.ble args.length 109 = true) (h : ev Try.prog tt 109 [0, 1, 2, 6, 7, 8, 9, 10, 11, 12, 13, 14, 16, 17, 18, 19, 20, 22, 25, 75, 76, 77, 78, 79, 107] (body Try.f6) ⟨idx 0 args, []⟩ (retQ tt [.tmp 6] r)) : Fn Try.prog 6 args r :=
  fn_of [.tmp 6] tabOK tabOne mixed Try.func6 rfl (by kernel_rfl) (by kernel_rfl) hn rfl rfl h
/-- archivum/archivumlaw42.RequestOne -/
theorem mk7 {args : List AV} {r : AV} (hn : Nat.ble args.length 77 = true) (h : ev Try.prog tt 77 [0, 1, 4, 6, 7, 8, 9, 11, 13, 27, 28, 29, 30, 31, 41, 46, 48, 49, 50, 51, 62] (body Try.f7) ⟨idx 0 args, []⟩ (retQ tt [.tmp 4] r)) : Fn Try.prog 7 args r :=
  fn_of [.tmp 4] tabOK tabOne mixed Try.func7 rfl (by kernel_rfl) (by kernel_rfl) hn rfl rfl h
/-- archivum/archivumlaw42.RequestNearer -/
theorem mk8 {args : List AV} {r : AV} (hn : Nat.ble args.length 108 = true) (h : ev Try.prog tt 108 [0, 1, 2, 4, 5, 6, 7, 8, 9, 10, 12, 13, 14, 15, 16, 17, 18, 20, 29, 43, 44, 45, 46, 58, 68, 87, 106] (body Try.f8) ⟨idx 0 args, []⟩ (retQ tt [.tmp 6] r)) : Fn Try.prog 8 args r :=
  fn_of [.tmp 6] tabOK tabOne mixed Try.func8 rfl (by kernel_rfl) (by kernel_rfl) hn rfl rfl h
/-- archivum/archivumlaw42.RequestFinds -/
theorem mk9 {args : List AV} {r : AV} (hn : Nat.ble args.length 78 = true) (h : ev Try.prog tt 78 [0, 1, 3, 4, 5, 6, 7, 8, 9, 10, 11, 12, 14, 17] (body Try.f9) ⟨idx 0 args, []⟩ (retQ tt [.tmp 4] r)) : Fn Try.prog 9 args r :=
  fn_of [.tmp 4] tabOK tabOne mixed Try.func9 rfl (by kernel_rfl) (by kernel_rfl) hn rfl rfl h
/-- archivum/archivumlaw42.awake -/
theorem mk10 {args : List AV} {r : AV} (hn : Nat.ble args.length 101 = true) (h : ev Try.prog tt 101 [0, 1, 2, 3, 4, 5, 6, 7, 8, 9, 11, 12, 13, 14, 15, 16, 17] (body Try.f10) ⟨idx 0 args, []⟩ (retQ tt [.tmp 0] r)) : Fn Try.prog 10 args r :=
  fn_of [.tmp 0] tabOK tabOne mixed Try.func10 rfl (by kernel_rfl) (by kernel_rfl) hn rfl rfl h
/-- archivum/archivumref42.Few -/
theorem mk11 {args : List AV} {r : AV} (hn : Nat.ble args.length 6 = true) (h : ev Try.prog tt 6 [0, 2] (body Try.f11) ⟨idx 0 args, []⟩ (retQ tt [.tmp 2] r)) : Fn Try.prog 11 args r :=
  fn_of [.tmp 2] tabOK tabOne mixed Try.func11 rfl (by kernel_rfl) (by kernel_rfl) hn rfl rfl h
/-- archivum/request.Place -/
theorem mk12 {args : List AV} {r : AV} (hn : Nat.ble args.length 86 = true) (h : ev Try.prog tt 86 [0, 1, 3, 4, 5, 6, 9, 13, 42, 67, 74] (body Try.f12) ⟨idx 0 args, []⟩ (retQ tt [.tmp 4, .tmp 5] r)) : Fn Try.prog 12 args r :=
  fn_of [.tmp 4, .tmp 5] tabOK tabOne mixed Try.func12 rfl (by kernel_rfl) (by kernel_rfl) hn rfl rfl h
/-- slices.Clone[[]archivum/api.Request,archivum/api.Request] -/
theorem mk13 {args : List AV} {r : AV} (hn : Nat.ble args.length 8 = true) (h : ev Try.prog tt 8 [0, 2, 4] (body Try.f13) ⟨idx 0 args, []⟩ (retQ tt [.tmp 2] r)) : Fn Try.prog 13 args r :=
  fn_of [.tmp 2] tabOK tabOne mixed Try.func13 rfl (by kernel_rfl) (by kernel_rfl) hn rfl rfl h
/-- archivum/archivumref42.Place -/
theorem mk14 {args : List AV} {r : AV} (hn : Nat.ble args.length 102 = true) (h : ev Try.prog tt 102 [0, 1, 3, 4, 5, 6, 8, 11, 39, 65, 66, 67, 68, 69, 87, 91] (body Try.f14) ⟨idx 0 args, []⟩ (retQ tt [.tmp 4, .tmp 5] r)) : Fn Try.prog 14 args r :=
  fn_of [.tmp 4, .tmp 5] tabOK tabOne mixed Try.func14 rfl (by kernel_rfl) (by kernel_rfl) hn rfl rfl h
/-- archivum/request.Check -/
theorem mk15 {args : List AV} {r : AV} (hn : Nat.ble args.length 70 = true) (h : ev Try.prog tt 70 [0, 2, 3, 4, 7, 8, 9, 10, 11, 15, 19, 44, 56] (body Try.f15) ⟨idx 0 args, []⟩ (retQ tt [.tmp 2] r)) : Fn Try.prog 15 args r :=
  fn_of [.tmp 2] tabOK tabOne mixed Try.func15 rfl (by kernel_rfl) (by kernel_rfl) hn rfl rfl h
/-- archivum/archivumref42.Check -/
theorem mk16 {args : List AV} {r : AV} (hn : Nat.ble args.length 100 = true) (h : ev Try.prog tt 100 [0, 2, 3, 4, 6, 8, 11, 12, 13, 14, 15, 21, 45, 48, 49, 50, 51, 68, 72, 73, 74, 75, 97] (body Try.f16) ⟨idx 0 args, []⟩ (retQ tt [.tmp 2] r)) : Fn Try.prog 16 args r :=
  fn_of [.tmp 2] tabOK tabOne mixed Try.func16 rfl (by kernel_rfl) (by kernel_rfl) hn rfl rfl h
/-- archivum/archivumref42.Same -/
theorem mk17 {args : List AV} {r : AV} (hn : Nat.ble args.length 26 = true) (h : ev Try.prog tt 26 [0, 1, 4, 5, 10, 12, 13, 14, 24] (body Try.f17) ⟨idx 0 args, []⟩ (retQ tt [.tmp 4] r)) : Fn Try.prog 17 args r :=
  fn_of [.tmp 4] tabOK tabOne mixed Try.func17 rfl (by kernel_rfl) (by kernel_rfl) hn rfl rfl h
/-- archivum/request.Position -/
theorem mk18 {args : List AV} {r : AV} (hn : Nat.ble args.length 64 = true) (h : ev Try.prog tt 64 [0, 1, 4, 5, 6, 7, 8, 9, 12, 16, 19, 26, 27, 28, 29, 59] (body Try.f18) ⟨idx 0 args, []⟩ (retQ tt [.tmp 4, .tmp 5] r)) : Fn Try.prog 18 args r :=
  fn_of [.tmp 4, .tmp 5] tabOK tabOne mixed Try.func18 rfl (by kernel_rfl) (by kernel_rfl) hn rfl rfl h
/-- archivum/request.Next -/
theorem mk19 {args : List AV} {r : AV} (hn : Nat.ble args.length 22 = true) (h : ev Try.prog tt 22 [0, 1, 4, 5, 6, 16] (body Try.f19) ⟨idx 0 args, []⟩ (retQ tt [.tmp 4, .tmp 5] r)) : Fn Try.prog 19 args r :=
  fn_of [.tmp 4, .tmp 5] tabOK tabOne mixed Try.func19 rfl (by kernel_rfl) (by kernel_rfl) hn rfl rfl h
/-- archivum/request.Lend -/
theorem mk20 {args : List AV} {r : AV} (hn : Nat.ble args.length 15 = true) (h : ev Try.prog tt 15 [0, 1, 2, 6, 7] (body Try.f20) ⟨idx 0 args, []⟩ (retQ tt [.tmp 6, .tmp 7] r)) : Fn Try.prog 20 args r :=
  fn_of [.tmp 6, .tmp 7] tabOK tabOne mixed Try.func20 rfl (by kernel_rfl) (by kernel_rfl) hn rfl rfl h
/-- slices.ContainsFunc[[]archivum/api.Request,archivum/api.Request] -/
theorem mk21 {args : List AV} {r : AV} (hn : Nat.ble args.length 9 = true) (h : ev Try.prog tt 9 [0, 1, 4] (body Try.f21) ⟨idx 0 args, []⟩ (retQ tt [.tmp 4] r)) : Fn Try.prog 21 args r :=
  fn_of [.tmp 4] tabOK tabOne mixed Try.func21 rfl (by kernel_rfl) (by kernel_rfl) hn rfl rfl h
/-- archivum/archivumlaw42.RequestFair$1 -/
theorem mk22 {args : List AV} {r : AV} (hn : Nat.ble args.length 14 = true) (h : ev Try.prog tt 14 [0, 1, 2, 3] (body Try.f22) ⟨idx 0 args, []⟩ (retQ tt [.tmp 3] r)) : Fn Try.prog 22 args r :=
  fn_of [.tmp 3] tabOK tabOne mixed Try.func22 rfl (by kernel_rfl) (by kernel_rfl) hn rfl rfl h
/-- archivum/archivumref42.Lend -/
theorem mk23 {args : List AV} {r : AV} (hn : Nat.ble args.length 43 = true) (h : ev Try.prog tt 43 [0, 1, 2, 6, 7, 8, 9, 10, 11, 20, 38] (body Try.f23) ⟨idx 0 args, []⟩ (retQ tt [.tmp 6, .tmp 7] r)) : Fn Try.prog 23 args r :=
  fn_of [.tmp 6, .tmp 7] tabOK tabOne mixed Try.func23 rfl (by kernel_rfl) (by kernel_rfl) hn rfl rfl h
/-- archivum/request.Return -/
theorem mk24 {args : List AV} {r : AV} (hn : Nat.ble args.length 15 = true) (h : ev Try.prog tt 15 [0, 1, 2, 6, 7] (body Try.f24) ⟨idx 0 args, []⟩ (retQ tt [.tmp 6, .tmp 7] r)) : Fn Try.prog 24 args r :=
  fn_of [.tmp 6, .tmp 7] tabOK tabOne mixed Try.func24 rfl (by kernel_rfl) (by kernel_rfl) hn rfl rfl h
/-- archivum/archivumref42.Return -/
theorem mk25 {args : List AV} {r : AV} (hn : Nat.ble args.length 30 = true) (h : ev Try.prog tt 30 [0, 1, 2, 6, 7, 8, 9, 18, 25] (body Try.f25) ⟨idx 0 args, []⟩ (retQ tt [.tmp 6, .tmp 7] r)) : Fn Try.prog 25 args r :=
  fn_of [.tmp 6, .tmp 7] tabOK tabOne mixed Try.func25 rfl (by kernel_rfl) (by kernel_rfl) hn rfl rfl h
/-- archivum/request.Drop -/
theorem mk26 {args : List AV} {r : AV} (hn : Nat.ble args.length 21 = true) (h : ev Try.prog tt 21 [0, 1, 2, 3, 8, 9, 10, 12] (body Try.f26) ⟨idx 0 args, []⟩ (retQ tt [.tmp 8, .tmp 9] r)) : Fn Try.prog 26 args r :=
  fn_of [.tmp 8, .tmp 9] tabOK tabOne mixed Try.func26 rfl (by kernel_rfl) (by kernel_rfl) hn rfl rfl h
/-- archivum/archivumref42.Drop -/
theorem mk27 {args : List AV} {r : AV} (hn : Nat.ble args.length 37 = true) (h : ev Try.prog tt 37 [0, 1, 2, 3, 8, 9, 10, 11, 20, 27, 28] (body Try.f27) ⟨idx 0 args, []⟩ (retQ tt [.tmp 8, .tmp 9] r)) : Fn Try.prog 27 args r :=
  fn_of [.tmp 8, .tmp 9] tabOK tabOne mixed Try.func27 rfl (by kernel_rfl) (by kernel_rfl) hn rfl rfl h
/-- archivum/archivumlaw42.act -/
theorem mk28 {args : List AV} {r : AV} (hn : Nat.ble args.length 42 = true) (h : ev Try.prog tt 42 [0, 1, 3, 4, 5, 7, 8, 19] (body Try.f28) ⟨idx 0 args, []⟩ (retQ tt [.tmp 4, .tmp 5] r)) : Fn Try.prog 28 args r :=
  fn_of [.tmp 4, .tmp 5] tabOK tabOne mixed Try.func28 rfl (by kernel_rfl) (by kernel_rfl) hn rfl rfl h
/-- archivum/archivumref42.Next -/
theorem mk29 {args : List AV} {r : AV} (hn : Nat.ble args.length 46 = true) (h : ev Try.prog tt 46 [0, 1, 4, 5, 6, 8, 11, 12, 13, 14, 15, 26, 39] (body Try.f29) ⟨idx 0 args, []⟩ (retQ tt [.tmp 4, .tmp 5] r)) : Fn Try.prog 29 args r :=
  fn_of [.tmp 4, .tmp 5] tabOK tabOne mixed Try.func29 rfl (by kernel_rfl) (by kernel_rfl) hn rfl rfl h
/-- archivum/archivumref42.Position -/
theorem mk30 {args : List AV} {r : AV} (hn : Nat.ble args.length 58 = true) (h : ev Try.prog tt 58 [0, 1, 4, 5, 6, 7, 8, 9, 12, 17, 23, 24, 25, 26, 27, 53] (body Try.f30) ⟨idx 0 args, []⟩ (retQ tt [.tmp 4, .tmp 5] r)) : Fn Try.prog 30 args r :=
  fn_of [.tmp 4, .tmp 5] tabOK tabOne mixed Try.func30 rfl (by kernel_rfl) (by kernel_rfl) hn rfl rfl h
/-- slices.Equal[[]int,int] -/
theorem mk31 {args : List AV} {r : AV} (hn : Nat.ble args.length 26 = true) (h : ev Try.prog tt 26 [0, 1, 4, 5, 10, 12, 13, 14, 24] (body Try.f31) ⟨idx 0 args, []⟩ (retQ tt [.tmp 4] r)) : Fn Try.prog 31 args r :=
  fn_of [.tmp 4] tabOK tabOne mixed Try.func31 rfl (by kernel_rfl) (by kernel_rfl) hn rfl rfl h
/-- archivum/request.Open -/
theorem mk32 {args : List AV} {r : AV} (hn : Nat.ble args.length 32 = true) (h : ev Try.prog tt 32 [0, 1, 4, 5, 7, 10, 11, 12, 13, 14, 24] (body Try.f32) ⟨idx 0 args, []⟩ (retQ tt [.tmp 4] r)) : Fn Try.prog 32 args r :=
  fn_of [.tmp 4] tabOK tabOne mixed Try.func32 rfl (by kernel_rfl) (by kernel_rfl) hn rfl rfl h
/-- archivum/archivumref42.Open -/
theorem mk33 {args : List AV} {r : AV} (hn : Nat.ble args.length 32 = true) (h : ev Try.prog tt 32 [0, 1, 4, 5, 7, 10, 11, 12, 13, 14, 24] (body Try.f33) ⟨idx 0 args, []⟩ (retQ tt [.tmp 4] r)) : Fn Try.prog 33 args r :=
  fn_of [.tmp 4] tabOK tabOne mixed Try.func33 rfl (by kernel_rfl) (by kernel_rfl) hn rfl rfl h
/-- archivum/request.id -/
theorem mk34 {args : List AV} {r : AV} (hn : Nat.ble args.length 9 = true) (h : ev Try.prog tt 9 [0, 2] (body Try.f34) ⟨idx 0 args, []⟩ (retQ tt [.tmp 2] r)) : Fn Try.prog 34 args r :=
  fn_of [.tmp 2] tabOK tabOne mixed Try.func34 rfl (by kernel_rfl) (by kernel_rfl) hn rfl rfl h
/-- archivum/request.isDay -/
theorem mk35 {args : List AV} {r : AV} (hn : Nat.ble args.length 9 = true) (h : ev Try.prog tt 9 [0, 2] (body Try.f35) ⟨idx 0 args, []⟩ (retQ tt [.tmp 2] r)) : Fn Try.prog 35 args r :=
  fn_of [.tmp 2] tabOK tabOne mixed Try.func35 rfl (by kernel_rfl) (by kernel_rfl) hn rfl rfl h
/-- archivum/request.doubled -/
theorem mk36 {args : List AV} {r : AV} (hn : Nat.ble args.length 10 = true) (h : ev Try.prog tt 10 [0, 1, 2, 4, 5, 6] (body Try.f36) ⟨idx 0 args, []⟩ (retQ tt [.tmp 6] r)) : Fn Try.prog 36 args r :=
  fn_of [.tmp 6] tabOK tabOne mixed Try.func36 rfl (by kernel_rfl) (by kernel_rfl) hn rfl rfl h
/-- archivum/archivumref42.id -/
theorem mk37 {args : List AV} {r : AV} (hn : Nat.ble args.length 9 = true) (h : ev Try.prog tt 9 [0, 2] (body Try.f37) ⟨idx 0 args, []⟩ (retQ tt [.tmp 2] r)) : Fn Try.prog 37 args r :=
  fn_of [.tmp 2] tabOK tabOne mixed Try.func37 rfl (by kernel_rfl) (by kernel_rfl) hn rfl rfl h
/-- archivum/archivumref42.day -/
theorem mk38 {args : List AV} {r : AV} (hn : Nat.ble args.length 9 = true) (h : ev Try.prog tt 9 [0, 2] (body Try.f38) ⟨idx 0 args, []⟩ (retQ tt [.tmp 2] r)) : Fn Try.prog 38 args r :=
  fn_of [.tmp 2] tabOK tabOne mixed Try.func38 rfl (by kernel_rfl) (by kernel_rfl) hn rfl rfl h
/-- archivum/archivumref42.open -/
theorem mk39 {args : List AV} {r : AV} (hn : Nat.ble args.length 11 = true) (h : ev Try.prog tt 11 [0, 1, 2] (body Try.f39) ⟨idx 0 args, []⟩ (retQ tt [.tmp 2] r)) : Fn Try.prog 39 args r :=
  fn_of [.tmp 2] tabOK tabOne mixed Try.func39 rfl (by kernel_rfl) (by kernel_rfl) hn rfl rfl h
/-- archivum/request.formed -/
theorem mk40 {args : List AV} {r : AV} (hn : Nat.ble args.length 60 = true) (h : ev Try.prog tt 60 [0, 1, 2] (body Try.f40) ⟨idx 0 args, []⟩ (retQ tt [.tmp 2] r)) : Fn Try.prog 40 args r :=
  fn_of [.tmp 2] tabOK tabOne mixed Try.func40 rfl (by kernel_rfl) (by kernel_rfl) hn rfl rfl h
/-- archivum/request.lent -/
theorem mk41 {args : List AV} {r : AV} (hn : Nat.ble args.length 8 = true) (h : ev Try.prog tt 8 [0, 1, 3, 4] (body Try.f41) ⟨idx 0 args, []⟩ (retQ tt [.tmp 4] r)) : Fn Try.prog 41 args r :=
  fn_of [.tmp 4] tabOK tabOne mixed Try.func41 rfl (by kernel_rfl) (by kernel_rfl) hn rfl rfl h
/-- archivum/request.open -/
theorem mk42 {args : List AV} {r : AV} (hn : Nat.ble args.length 11 = true) (h : ev Try.prog tt 11 [0, 1, 2] (body Try.f42) ⟨idx 0 args, []⟩ (retQ tt [.tmp 2] r)) : Fn Try.prog 42 args r :=
  fn_of [.tmp 2] tabOK tabOne mixed Try.func42 rfl (by kernel_rfl) (by kernel_rfl) hn rfl rfl h
/-- archivum/archivumref42.form -/
theorem mk43 {args : List AV} {r : AV} (hn : Nat.ble args.length 60 = true) (h : ev Try.prog tt 60 [0, 1, 2] (body Try.f43) ⟨idx 0 args, []⟩ (retQ tt [.tmp 2] r)) : Fn Try.prog 43 args r :=
  fn_of [.tmp 2] tabOK tabOne mixed Try.func43 rfl (by kernel_rfl) (by kernel_rfl) hn rfl rfl h
/-- archivum/request.index -/
theorem mk44 {args : List AV} {r : AV} (hn : Nat.ble args.length 8 = true) (h : ev Try.prog tt 8 [0, 1, 3, 4] (body Try.f44) ⟨idx 0 args, []⟩ (retQ tt [.tmp 4] r)) : Fn Try.prog 44 args r :=
  fn_of [.tmp 4] tabOK tabOne mixed Try.func44 rfl (by kernel_rfl) (by kernel_rfl) hn rfl rfl h
/-- archivum/request.next -/
theorem mk45 {args : List AV} {r : AV} (hn : Nat.ble args.length 11 = true) (h : ev Try.prog tt 11 [0, 1, 3, 4, 7] (body Try.f45) ⟨idx 0 args, []⟩ (retQ tt [.tmp 4] r)) : Fn Try.prog 45 args r :=
  fn_of [.tmp 4] tabOK tabOne mixed Try.func45 rfl (by kernel_rfl) (by kernel_rfl) hn rfl rfl h
/-- archivum/request.Lend$1 -/
theorem mk46 {args : List AV} {r : AV} (hn : Nat.ble args.length 14 = true) (h : ev Try.prog tt 14 [0, 1, 4] (body Try.f46) ⟨idx 0 args, []⟩ (retQ tt [.tmp 4] r)) : Fn Try.prog 46 args r :=
  fn_of [.tmp 4] tabOK tabOne mixed Try.func46 rfl (by kernel_rfl) (by kernel_rfl) hn rfl rfl h
/-- (archivum/request.change).make -/
theorem mk47 {args : List AV} {r : AV} (hn : Nat.ble args.length 54 = true) (h : ev Try.prog tt 54 [0, 1, 2, 3, 4, 8, 9, 10, 11, 14, 18, 21, 33] (body Try.f47) ⟨idx 0 args, []⟩ (retQ tt [.tmp 8, .tmp 9] r)) : Fn Try.prog 47 args r :=
  fn_of [.tmp 8, .tmp 9] tabOK tabOne mixed Try.func47 rfl (by kernel_rfl) (by kernel_rfl) hn rfl rfl h
/-- slices.IndexFunc[[]archivum/api.Request,archivum/api.Request] -/
theorem mk48 {args : List AV} {r : AV} (hn : Nat.ble args.length 19 = true) (h : ev Try.prog tt 19 [0, 1, 4, 5, 7, 8, 9, 16] (body Try.f48) ⟨idx 0 args, []⟩ (retQ tt [.tmp 4] r)) : Fn Try.prog 48 args r :=
  fn_of [.tmp 4] tabOK tabOne mixed Try.func48 rfl (by kernel_rfl) (by kernel_rfl) hn rfl rfl h
/-- archivum/archivumref42.start -/
theorem mk49 {args : List AV} {r : AV} (hn : Nat.ble args.length 29 = true) (h : ev Try.prog tt 29 [0, 1, 2, 6, 7, 8, 11, 16, 27] (body Try.f49) ⟨idx 0 args, []⟩ (retQ tt [.tmp 6, .tmp 7] r)) : Fn Try.prog 49 args r :=
  fn_of [.tmp 6, .tmp 7] tabOK tabOne mixed Try.func49 rfl (by kernel_rfl) (by kernel_rfl) hn rfl rfl h
/-- archivum/archivumref42.with -/
theorem mk50 {args : List AV} {r : AV} (hn : Nat.ble args.length 24 = true) (h : ev Try.prog tt 24 [0, 1, 2, 3, 8, 9] (body Try.f50) ⟨idx 0 args, []⟩ (retQ tt [.tmp 8] r)) : Fn Try.prog 50 args r :=
  fn_of [.tmp 8] tabOK tabOne mixed Try.func50 rfl (by kernel_rfl) (by kernel_rfl) hn rfl rfl h
/-- archivum/request.Return$1 -/
theorem mk51 {args : List AV} {r : AV} (hn : Nat.ble args.length 11 = true) (h : ev Try.prog tt 11 [0, 1, 4] (body Try.f51) ⟨idx 0 args, []⟩ (retQ tt [.tmp 4] r)) : Fn Try.prog 51 args r :=
  fn_of [.tmp 4] tabOK tabOne mixed Try.func51 rfl (by kernel_rfl) (by kernel_rfl) hn rfl rfl h
/-- archivum/request.Drop$1 -/
theorem mk52 {args : List AV} {r : AV} (hn : Nat.ble args.length 11 = true) (h : ev Try.prog tt 11 [0, 1, 4] (body Try.f52) ⟨idx 0 args, []⟩ (retQ tt [.tmp 4] r)) : Fn Try.prog 52 args r :=
  fn_of [.tmp 4] tabOK tabOne mixed Try.func52 rfl (by kernel_rfl) (by kernel_rfl) hn rfl rfl h
/-- archivum/archivumref42.index -/
theorem mk53 {args : List AV} {r : AV} (hn : Nat.ble args.length 20 = true) (h : ev Try.prog tt 20 [0, 1, 4, 5, 6, 7, 8, 9, 10, 17] (body Try.f53) ⟨idx 0 args, []⟩ (retQ tt [.tmp 4] r)) : Fn Try.prog 53 args r :=
  fn_of [.tmp 4] tabOK tabOne mixed Try.func53 rfl (by kernel_rfl) (by kernel_rfl) hn rfl rfl h
/-- archivum/request.doubled$1 -/
theorem mk54 {args : List AV} {r : AV} (hn : Nat.ble args.length 19 = true) (h : ev Try.prog tt 19 [0, 1, 2, 3, 4] (body Try.f54) ⟨idx 0 args, []⟩ (retQ tt [.tmp 4] r)) : Fn Try.prog 54 args r :=
  fn_of [.tmp 4] tabOK tabOne mixed Try.func54 rfl (by kernel_rfl) (by kernel_rfl) hn rfl rfl h
/-- archivum/request.lent$1 -/
theorem mk55 {args : List AV} {r : AV} (hn : Nat.ble args.length 13 = true) (h : ev Try.prog tt 13 [0, 1, 2, 3] (body Try.f55) ⟨idx 0 args, []⟩ (retQ tt [.tmp 3] r)) : Fn Try.prog 55 args r :=
  fn_of [.tmp 3] tabOK tabOne mixed Try.func55 rfl (by kernel_rfl) (by kernel_rfl) hn rfl rfl h
/-- archivum/request.index$1 -/
theorem mk56 {args : List AV} {r : AV} (hn : Nat.ble args.length 8 = true) (h : ev Try.prog tt 8 [0, 1, 2, 3] (body Try.f56) ⟨idx 0 args, []⟩ (retQ tt [.tmp 3] r)) : Fn Try.prog 56 args r :=
  fn_of [.tmp 3] tabOK tabOne mixed Try.func56 rfl (by kernel_rfl) (by kernel_rfl) hn rfl rfl h
/-- archivum/request.next$1 -/
theorem mk57 {args : List AV} {r : AV} (hn : Nat.ble args.length 13 = true) (h : ev Try.prog tt 13 [0, 1, 2, 3] (body Try.f57) ⟨idx 0 args, []⟩ (retQ tt [.tmp 3] r)) : Fn Try.prog 57 args r :=
  fn_of [.tmp 3] tabOK tabOne mixed Try.func57 rfl (by kernel_rfl) (by kernel_rfl) hn rfl rfl h
end Go.Abs.L42
