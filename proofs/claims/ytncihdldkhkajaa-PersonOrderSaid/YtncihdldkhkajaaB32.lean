import Derived.Test.YtncihdldkhkajaaA3
import Derived.Laws.StructEq
import Derived.Test.YtncihdldkhkajaaProg
namespace Go.Abs.L32
open Go Go.Abs Go.Proofs
set_option linter.unusedVariables false
set_option maxRecDepth 20000
/-- the types that the code names -/
def tt : Tab := [(3, ⟨.int .i64, 1, 8, (Value.int IntKind.i64 0), []⟩),
  (4, ⟨.bool, 1, 1, (Value.bool false), []⟩),
  (5, ⟨.int .u8, 1, 1, (Value.int IntKind.u8 0), []⟩),
  (9, ⟨.str, 1, 16, (Value.string { data := #[] }), []⟩),
  (21, ⟨.int .i32, 1, 4, (Value.int IntKind.i32 0), []⟩),
  (22, ⟨.slice 35, 1, 24, (Value.slice none 0 0), []⟩),
  (23, ⟨.slice 3, 1, 24, (Value.slice none 0 0), []⟩),
  (24, ⟨.array 4 3, 4, 32, (Value.agg #[(Value.int IntKind.i64 0), (Value.int IntKind.i64 0), (Value.int IntKind.i64 0), (Value.int IntKind.i64 0)]), []⟩),
  (28, ⟨.struct [(0, 3), (1, 3)], 2, 16, (Value.agg #[(Value.int IntKind.i64 0), (Value.int IntKind.i64 0)]), []⟩),
  (29, ⟨.slice 64, 1, 24, (Value.slice none 0 0), []⟩),
  (30, ⟨.int .i64, 1, 8, (Value.int IntKind.i64 0), []⟩),
  (35, ⟨.struct [(0, 3), (1, 9), (2, 28), (4, 28)], 6, 56, (Value.agg #[(Value.int IntKind.i64 0), (Value.string { data := #[] }), (Value.int IntKind.i64 0), (Value.int IntKind.i64 0), (Value.int IntKind.i64 0), (Value.int IntKind.i64 0)]), [.i .i64, .s, .i .i64, .i .i64, .i .i64, .i .i64]⟩),
  (39, ⟨.array 4 28, 8, 64, (Value.agg #[(Value.int IntKind.i64 0), (Value.int IntKind.i64 0), (Value.int IntKind.i64 0), (Value.int IntKind.i64 0), (Value.int IntKind.i64 0), (Value.int IntKind.i64 0), (Value.int IntKind.i64 0), (Value.int IntKind.i64 0)]), []⟩),
  (44, ⟨.array 3 3, 3, 24, (Value.agg #[(Value.int IntKind.i64 0), (Value.int IntKind.i64 0), (Value.int IntKind.i64 0)]), []⟩),
  (53, ⟨.array 3 28, 6, 48, (Value.agg #[(Value.int IntKind.i64 0), (Value.int IntKind.i64 0), (Value.int IntKind.i64 0), (Value.int IntKind.i64 0), (Value.int IntKind.i64 0), (Value.int IntKind.i64 0)]), []⟩),
  (54, ⟨.array 2 3, 2, 16, (Value.agg #[(Value.int IntKind.i64 0), (Value.int IntKind.i64 0)]), []⟩),
  (58, ⟨.array 2 28, 4, 32, (Value.agg #[(Value.int IntKind.i64 0), (Value.int IntKind.i64 0), (Value.int IntKind.i64 0), (Value.int IntKind.i64 0)]), []⟩),
  (64, ⟨.struct [(0, 3), (1, 3), (2, 3), (3, 3)], 4, 32, (Value.agg #[(Value.int IntKind.i64 0), (Value.int IntKind.i64 0), (Value.int IntKind.i64 0), (Value.int IntKind.i64 0)]), [.i .i64, .i .i64, .i .i64, .i .i64]⟩),
  (76, ⟨.other, 1, 8, Value.nilFunc, []⟩),
  (84, ⟨.array 12 3, 12, 96, (Value.agg #[(Value.int IntKind.i64 0), (Value.int IntKind.i64 0), (Value.int IntKind.i64 0), (Value.int IntKind.i64 0), (Value.int IntKind.i64 0), (Value.int IntKind.i64 0), (Value.int IntKind.i64 0), (Value.int IntKind.i64 0), (Value.int IntKind.i64 0), (Value.int IntKind.i64 0), (Value.int IntKind.i64 0), (Value.int IntKind.i64 0)]), []⟩),
  (87, ⟨.other, 1, 8, Value.nilFunc, []⟩)]
theorem tabOne : TabOne tt = true := by kernel_rfl
theorem eqSpec35 : EqSpec Try.prog 35 [.i .i64, .s, .i .i64, .i .i64, .i .i64, .i .i64] := by
  refine ⟨by kernel_rfl, fun w us vs hu0 hv0 => ?_⟩
  obtain ⟨a0, us0, rfl, hu1⟩ := fits_i hu0
  obtain ⟨a1, us1, rfl, hu2⟩ := fits_s hu1
  obtain ⟨a2, us2, rfl, hu3⟩ := fits_i hu2
  obtain ⟨a3, us3, rfl, hu4⟩ := fits_i hu3
  obtain ⟨a4, us4, rfl, hu5⟩ := fits_i hu4
  obtain ⟨a5, us5, rfl, hu6⟩ := fits_i hu5
  cases fits_nil hu6
  obtain ⟨b0, vs0, rfl, hv1⟩ := fits_i hv0
  obtain ⟨b1, vs1, rfl, hv2⟩ := fits_s hv1
  obtain ⟨b2, vs2, rfl, hv3⟩ := fits_i hv2
  obtain ⟨b3, vs3, rfl, hv4⟩ := fits_i hv3
  obtain ⟨b4, vs4, rfl, hv5⟩ := fits_i hv4
  obtain ⟨b5, vs5, rfl, hv6⟩ := fits_i hv5
  cases fits_nil hv6
  have u3 := Try.underlying3
  have a3x := Try.isAgg3
  have z3 := Try.sizeOf3
  have u9 := Try.underlying9
  have a9x := Try.isAgg9
  have z9 := Try.sizeOf9
  have u28 := Try.underlying28
  have a28x := Try.isAgg28
  have z28 := Try.sizeOf28
  have hS35 : Try.prog.underlying 35 = some (.struct (Try.prog.fieldsOf 35)) := by kernel_rfl
  have hp35 : Try.prog.stoodInHeld 35 = false := by kernel_rfl
  have hS28 : Try.prog.underlying 28 = some (.struct (Try.prog.fieldsOf 28)) := by kernel_rfl
  have hp28 : Try.prog.stoodInHeld 28 = false := by kernel_rfl
  rw [show (10000 : Nat) = 9999 + 1 from rfl, run_equalIn_agg w 9999 35 _ _ hS35 hp35]
  simp only [Program.fieldsOf, Try.underlying35, List.map, AV.toV]
  go_simp
  clear hu0 hv0 hu1 hv1 hu2 hv2 hu3 hv3 hu4 hv4 hu5 hv5 hu6 hv6
  repeat' split
  all_goals simp_all [eqL, eqC]
theorem eqSpec64 : EqSpec Try.prog 64 [.i .i64, .i .i64, .i .i64, .i .i64] := by
  refine ⟨by kernel_rfl, fun w us vs hu0 hv0 => ?_⟩
  obtain ⟨a0, us0, rfl, hu1⟩ := fits_i hu0
  obtain ⟨a1, us1, rfl, hu2⟩ := fits_i hu1
  obtain ⟨a2, us2, rfl, hu3⟩ := fits_i hu2
  obtain ⟨a3, us3, rfl, hu4⟩ := fits_i hu3
  cases fits_nil hu4
  obtain ⟨b0, vs0, rfl, hv1⟩ := fits_i hv0
  obtain ⟨b1, vs1, rfl, hv2⟩ := fits_i hv1
  obtain ⟨b2, vs2, rfl, hv3⟩ := fits_i hv2
  obtain ⟨b3, vs3, rfl, hv4⟩ := fits_i hv3
  cases fits_nil hv4
  have u3 := Try.underlying3
  have a3x := Try.isAgg3
  have z3 := Try.sizeOf3
  have hS64 : Try.prog.underlying 64 = some (.struct (Try.prog.fieldsOf 64)) := by kernel_rfl
  have hp64 : Try.prog.stoodInHeld 64 = false := by kernel_rfl
  rw [show (10000 : Nat) = 9999 + 1 from rfl, run_equalIn_agg w 9999 64 _ _ hS64 hp64]
  simp only [Program.fieldsOf, Try.underlying64, List.map, AV.toV]
  go_simp
  clear hu0 hv0 hu1 hv1 hu2 hv2 hu3 hv3 hu4 hv4
  repeat' split
  all_goals simp_all [eqL, eqC]
theorem tabOK : TabOK Try.prog tt := ⟨⟨by kernel_rfl, by kernel_rfl, fun h => absurd rfl h⟩,
  ⟨by kernel_rfl, by kernel_rfl, fun h => absurd rfl h⟩,
  ⟨by kernel_rfl, by kernel_rfl, fun h => absurd rfl h⟩,
  ⟨by kernel_rfl, by kernel_rfl, fun h => absurd rfl h⟩,
  ⟨by kernel_rfl, by kernel_rfl, fun h => absurd rfl h⟩,
  ⟨by kernel_rfl, by kernel_rfl, fun h => absurd rfl h⟩,
  ⟨by kernel_rfl, by kernel_rfl, fun h => absurd rfl h⟩,
  ⟨by kernel_rfl, by kernel_rfl, fun h => absurd rfl h⟩,
  ⟨by kernel_rfl, by kernel_rfl, fun h => absurd rfl h⟩,
  ⟨by kernel_rfl, by kernel_rfl, fun h => absurd rfl h⟩,
  ⟨by kernel_rfl, by kernel_rfl, fun h => absurd rfl h⟩,
  ⟨by kernel_rfl, by kernel_rfl, fun _ => eqSpec35⟩,
  ⟨by kernel_rfl, by kernel_rfl, fun h => absurd rfl h⟩,
  ⟨by kernel_rfl, by kernel_rfl, fun h => absurd rfl h⟩,
  ⟨by kernel_rfl, by kernel_rfl, fun h => absurd rfl h⟩,
  ⟨by kernel_rfl, by kernel_rfl, fun h => absurd rfl h⟩,
  ⟨by kernel_rfl, by kernel_rfl, fun h => absurd rfl h⟩,
  ⟨by kernel_rfl, by kernel_rfl, fun _ => eqSpec64⟩,
  ⟨by kernel_rfl, by kernel_rfl, fun h => absurd rfl h⟩,
  ⟨by kernel_rfl, by kernel_rfl, fun h => absurd rfl h⟩,
  ⟨by kernel_rfl, by kernel_rfl, fun h => absurd rfl h⟩, trivial⟩
theorem mixed : Try.prog.follows .mixedOrders = true := by kernel_rfl
def body (f : Func) : Code := match f.body with | some c => c | none => .skip
/-- archivum/archivumlaw32.PersonGrounds -/
theorem mk3 {args : List AV} {r : AV} (hn : Nat.ble args.length 59 = true) (h : ev Try.prog tt 59 [0, 1, 2, 5, 6, 7, 8, 9, 10, 11, 13, 21] (body Try.f3) ⟨idx 0 args, []⟩ (retQ tt [.tmp 6] r)) : Fn Try.prog 3 args r :=
  fn_of [.tmp 6] tabOK tabOne mixed Try.func3 rfl (by kernel_rfl) (by kernel_rfl) hn rfl rfl h
/-- archivum/archivumlaw32.PersonOrder -/
theorem mk4 {args : List AV} {r : AV} (hn : Nat.ble args.length 76 = true) (h : ev Try.prog tt 76 [0, 1, 2, 4, 6, 7, 8, 9, 10, 11, 12, 13, 14, 16, 19, 47] (body Try.f4) ⟨idx 0 args, []⟩ (retQ tt [.tmp 6] r)) : Fn Try.prog 4 args r :=
  fn_of [.tmp 6] tabOK tabOne mixed Try.func4 rfl (by kernel_rfl) (by kernel_rfl) hn rfl rfl h
/-- archivum/archivumlaw32.PersonSafe -/
theorem mk5 {args : List AV} {r : AV} (hn : Nat.ble args.length 103 = true) (h : ev Try.prog tt 103 [0, 1, 2, 3, 4, 5, 6, 7, 8, 9, 10, 11, 12, 13, 14, 15, 17, 38, 75, 87] (body Try.f5) ⟨idx 0 args, []⟩ (retQ tt [.tmp 6] r)) : Fn Try.prog 5 args r :=
  fn_of [.tmp 6] tabOK tabOne mixed Try.func5 rfl (by kernel_rfl) (by kernel_rfl) hn rfl rfl h
/-- archivum/archivumlaw32.PersonChecks -/
theorem mk6 {args : List AV} {r : AV} (hn : Nat.ble args.length 48 = true) (h : ev Try.prog tt 48 [0, 1, 4, 5, 6, 7, 8, 10, 18] (body Try.f6) ⟨idx 0 args, []⟩ (retQ tt [.tmp 4] r)) : Fn Try.prog 6 args r :=
  fn_of [.tmp 4] tabOK tabOne mixed Try.func6 rfl (by kernel_rfl) (by kernel_rfl) hn rfl rfl h
/-- archivum/archivumlaw32.PersonOpens -/
theorem mk7 {args : List AV} {r : AV} (hn : Nat.ble args.length 110 = true) (h : ev Try.prog tt 110 [0, 1, 2, 4, 5, 6, 7, 8, 9, 10, 11, 12, 13, 14, 15, 16, 17, 18, 19, 20, 22, 25, 42] (body Try.f7) ⟨idx 0 args, []⟩ (retQ tt [.tmp 6] r)) : Fn Try.prog 7 args r :=
  fn_of [.tmp 6] tabOK tabOne mixed Try.func7 rfl (by kernel_rfl) (by kernel_rfl) hn rfl rfl h
/-- archivum/archivumlaw32.PersonDays -/
theorem mk8 {args : List AV} {r : AV} (hn : Nat.ble args.length 69 = true) (h : ev Try.prog tt 69 [0, 1, 2, 3, 4, 5, 6, 7, 8, 9, 10, 11, 12, 13, 14, 16, 20] (body Try.f8) ⟨idx 0 args, []⟩ (retQ tt [.tmp 6] r)) : Fn Try.prog 8 args r :=
  fn_of [.tmp 6] tabOK tabOne mixed Try.func8 rfl (by kernel_rfl) (by kernel_rfl) hn rfl rfl h
/-- archivum/archivumlaw32.PersonLearns -/
theorem mk9 {args : List AV} {r : AV} (hn : Nat.ble args.length 103 = true) (h : ev Try.prog tt 103 [0, 1, 2, 4, 5, 6, 7, 8, 9, 10, 11, 12, 13, 14, 15, 16, 18, 21, 53, 56] (body Try.f9) ⟨idx 0 args, []⟩ (retQ tt [.tmp 6] r)) : Fn Try.prog 9 args r :=
  fn_of [.tmp 6] tabOK tabOne mixed Try.func9 rfl (by kernel_rfl) (by kernel_rfl) hn rfl rfl h
/-- archivum/archivumlaw32.PersonLives -/
theorem mk10 {args : List AV} {r : AV} (hn : Nat.ble args.length 90 = true) (h : ev Try.prog tt 90 [0, 1, 2, 3, 4, 5, 6, 7, 8, 9, 10, 12, 16, 36, 41, 55] (body Try.f10) ⟨idx 0 args, []⟩ (retQ tt [.tmp 4] r)) : Fn Try.prog 10 args r :=
  fn_of [.tmp 4] tabOK tabOne mixed Try.func10 rfl (by kernel_rfl) (by kernel_rfl) hn rfl rfl h
/-- archivum/archivumlaw32.awake -/
theorem mk11 {args : List AV} {r : AV} (hn : Nat.ble args.length 55 = true) (h : ev Try.prog tt 55 [0, 1, 2, 3, 4, 5, 6, 7, 8] (body Try.f11) ⟨idx 0 args, []⟩ (retQ tt [.tmp 0] r)) : Fn Try.prog 11 args r :=
  fn_of [.tmp 0] tabOK tabOne mixed Try.func11 rfl (by kernel_rfl) (by kernel_rfl) hn rfl rfl h
/-- archivum/archivumref32.Few -/
theorem mk12 {args : List AV} {r : AV} (hn : Nat.ble args.length 19 = true) (h : ev Try.prog tt 19 [0, 2, 4, 5, 6, 7, 8, 14] (body Try.f12) ⟨idx 0 args, []⟩ (retQ tt [.tmp 2] r)) : Fn Try.prog 12 args r :=
  fn_of [.tmp 2] tabOK tabOne mixed Try.func12 rfl (by kernel_rfl) (by kernel_rfl) hn rfl rfl h
/-- archivum/person.Grounds -/
theorem mk13 {args : List AV} {r : AV} (hn : Nat.ble args.length 91 = true) (h : ev Try.prog tt 91 [0, 1, 2, 3, 4, 7, 10, 11, 12, 13, 15, 16, 17, 18, 27, 43, 44, 45, 60, 62, 63, 64, 65, 72, 82] (body Try.f13) ⟨idx 0 args, []⟩ (retQ tt [.tmp 10, .tmp 11] r)) : Fn Try.prog 13 args r :=
  fn_of [.tmp 10, .tmp 11] tabOK tabOne mixed Try.func13 rfl (by kernel_rfl) (by kernel_rfl) hn rfl rfl h
/-- slices.Clone[[]archivum/api.Person,archivum/api.Person] -/
theorem mk14 {args : List AV} {r : AV} (hn : Nat.ble args.length 8 = true) (h : ev Try.prog tt 8 [0, 2, 4] (body Try.f14) ⟨idx 0 args, []⟩ (retQ tt [.tmp 2] r)) : Fn Try.prog 14 args r :=
  fn_of [.tmp 2] tabOK tabOne mixed Try.func14 rfl (by kernel_rfl) (by kernel_rfl) hn rfl rfl h
/-- slices.Clone[[]int,int] -/
theorem mk15 {args : List AV} {r : AV} (hn : Nat.ble args.length 8 = true) (h : ev Try.prog tt 8 [0, 2, 4] (body Try.f15) ⟨idx 0 args, []⟩ (retQ tt [.tmp 2] r)) : Fn Try.prog 15 args r :=
  fn_of [.tmp 2] tabOK tabOne mixed Try.func15 rfl (by kernel_rfl) (by kernel_rfl) hn rfl rfl h
/-- archivum/archivumref32.Grounds -/
theorem mk16 {args : List AV} {r : AV} (hn : Nat.ble args.length 94 = true) (h : ev Try.prog tt 94 [0, 1, 2, 3, 4, 7, 10, 11, 12, 13, 15, 16, 17, 18, 27, 41, 43, 44, 45, 60, 62, 63, 64, 65, 75, 85] (body Try.f16) ⟨idx 0 args, []⟩ (retQ tt [.tmp 10, .tmp 11] r)) : Fn Try.prog 16 args r :=
  fn_of [.tmp 10, .tmp 11] tabOK tabOne mixed Try.func16 rfl (by kernel_rfl) (by kernel_rfl) hn rfl rfl h
/-- archivum/archivumref32.SameGrounds -/
theorem mk17 {args : List AV} {r : AV} (hn : Nat.ble args.length 26 = true) (h : ev Try.prog tt 26 [0, 1, 4, 5, 10, 12, 13, 14, 24] (body Try.f17) ⟨idx 0 args, []⟩ (retQ tt [.tmp 4] r)) : Fn Try.prog 17 args r :=
  fn_of [.tmp 4] tabOK tabOne mixed Try.func17 rfl (by kernel_rfl) (by kernel_rfl) hn rfl rfl h
/-- archivum/person.Learn -/
theorem mk18 {args : List AV} {r : AV} (hn : Nat.ble args.length 57 = true) (h : ev Try.prog tt 57 [0, 1, 2, 3, 6, 7, 8, 9, 10, 11, 12, 13, 26, 31, 43, 51] (body Try.f18) ⟨idx 0 args, []⟩ (retQ tt [.tmp 8, .tmp 9] r)) : Fn Try.prog 18 args r :=
  fn_of [.tmp 8, .tmp 9] tabOK tabOne mixed Try.func18 rfl (by kernel_rfl) (by kernel_rfl) hn rfl rfl h
/-- archivum/archivumref32.Same -/
theorem mk19 {args : List AV} {r : AV} (hn : Nat.ble args.length 26 = true) (h : ev Try.prog tt 26 [0, 1, 4, 5, 10, 12, 13, 14, 24] (body Try.f19) ⟨idx 0 args, []⟩ (retQ tt [.tmp 4] r)) : Fn Try.prog 19 args r :=
  fn_of [.tmp 4] tabOK tabOne mixed Try.func19 rfl (by kernel_rfl) (by kernel_rfl) hn rfl rfl h
/-- archivum/person.Until -/
theorem mk20 {args : List AV} {r : AV} (hn : Nat.ble args.length 28 = true) (h : ev Try.prog tt 28 [0, 1, 2, 3, 4, 6, 7, 8, 17] (body Try.f20) ⟨idx 0 args, []⟩ (retQ tt [.tmp 6, .tmp 7] r)) : Fn Try.prog 20 args r :=
  fn_of [.tmp 6, .tmp 7] tabOK tabOne mixed Try.func20 rfl (by kernel_rfl) (by kernel_rfl) hn rfl rfl h
/-- archivum/day.Years -/
theorem mk21 {args : List AV} {r : AV} (hn : Nat.ble args.length 47 = true) (h : ev Try.prog tt 47 [0, 1, 4, 5, 6, 7, 8, 9, 10, 27, 32, 45] (body Try.f21) ⟨idx 0 args, []⟩ (retQ tt [.tmp 4, .tmp 5] r)) : Fn Try.prog 21 args r :=
  fn_of [.tmp 4, .tmp 5] tabOK tabOne mixed Try.func21 rfl (by kernel_rfl) (by kernel_rfl) hn rfl rfl h
/-- archivum/person.Find -/
theorem mk22 {args : List AV} {r : AV} (hn : Nat.ble args.length 22 = true) (h : ev Try.prog tt 22 [0, 1, 4, 5, 6, 16] (body Try.f22) ⟨idx 0 args, []⟩ (retQ tt [.cell 4 35, .tmp 5] r)) : Fn Try.prog 22 args r :=
  fn_of [.cell 4 35, .tmp 5] tabOK tabOne mixed Try.func22 rfl (by kernel_rfl) (by kernel_rfl) hn rfl rfl h
/-- archivum/archivumref32.Find -/
theorem mk23 {args : List AV} {r : AV} (hn : Nat.ble args.length 25 = true) (h : ev Try.prog tt 25 [0, 1, 4, 5, 7, 10, 12, 13, 14, 15, 21] (body Try.f23) ⟨idx 0 args, []⟩ (retQ tt [.cell 4 35, .tmp 5] r)) : Fn Try.prog 23 args r :=
  fn_of [.cell 4 35, .tmp 5] tabOK tabOne mixed Try.func23 rfl (by kernel_rfl) (by kernel_rfl) hn rfl rfl h
/-- archivum/person.Check -/
theorem mk24 {args : List AV} {r : AV} (hn : Nat.ble args.length 35 = true) (h : ev Try.prog tt 35 [0, 2, 3, 4, 5, 8, 9, 10, 11, 12, 19, 33] (body Try.f24) ⟨idx 0 args, []⟩ (retQ tt [.tmp 2] r)) : Fn Try.prog 24 args r :=
  fn_of [.tmp 2] tabOK tabOne mixed Try.func24 rfl (by kernel_rfl) (by kernel_rfl) hn rfl rfl h
/-- archivum/archivumref32.Check -/
theorem mk25 {args : List AV} {r : AV} (hn : Nat.ble args.length 35 = true) (h : ev Try.prog tt 35 [0, 2, 3, 4, 5, 8, 9, 10, 11, 12, 19, 33] (body Try.f25) ⟨idx 0 args, []⟩ (retQ tt [.tmp 2] r)) : Fn Try.prog 25 args r :=
  fn_of [.tmp 2] tabOK tabOne mixed Try.func25 rfl (by kernel_rfl) (by kernel_rfl) hn rfl rfl h
/-- archivum/archivumref32.Until -/
theorem mk26 {args : List AV} {r : AV} (hn : Nat.ble args.length 44 = true) (h : ev Try.prog tt 44 [0, 1, 2, 3, 4, 6, 7, 8, 17, 23] (body Try.f26) ⟨idx 0 args, []⟩ (retQ tt [.tmp 6, .tmp 7] r)) : Fn Try.prog 26 args r :=
  fn_of [.tmp 6, .tmp 7] tabOK tabOne mixed Try.func26 rfl (by kernel_rfl) (by kernel_rfl) hn rfl rfl h
/-- archivum/person.Lives -/
theorem mk27 {args : List AV} {r : AV} (hn : Nat.ble args.length 43 = true) (h : ev Try.prog tt 43 [0, 1, 2, 4, 5, 6, 10, 17, 30] (body Try.f27) ⟨idx 0 args, []⟩ (retQ tt [.tmp 4, .tmp 5] r)) : Fn Try.prog 27 args r :=
  fn_of [.tmp 4, .tmp 5] tabOK tabOne mixed Try.func27 rfl (by kernel_rfl) (by kernel_rfl) hn rfl rfl h
/-- archivum/archivumref32.Lives -/
theorem mk28 {args : List AV} {r : AV} (hn : Nat.ble args.length 39 = true) (h : ev Try.prog tt 39 [0, 1, 2, 4, 5, 8, 14, 26, 38] (body Try.f28) ⟨idx 0 args, []⟩ (retQ tt [.tmp 4, .tmp 5] r)) : Fn Try.prog 28 args r :=
  fn_of [.tmp 4, .tmp 5] tabOK tabOne mixed Try.func28 rfl (by kernel_rfl) (by kernel_rfl) hn rfl rfl h
/-- archivum/archivumref32.Learn -/
theorem mk29 {args : List AV} {r : AV} (hn : Nat.ble args.length 58 = true) (h : ev Try.prog tt 58 [0, 1, 2, 3, 6, 7, 8, 9, 10, 11, 12, 13, 14, 27, 31, 32, 33, 34, 41, 50] (body Try.f29) ⟨idx 0 args, []⟩ (retQ tt [.tmp 8, .tmp 9] r)) : Fn Try.prog 29 args r :=
  fn_of [.tmp 8, .tmp 9] tabOK tabOne mixed Try.func29 rfl (by kernel_rfl) (by kernel_rfl) hn rfl rfl h
/-- archivum/person.Join -/
theorem mk30 {args : List AV} {r : AV} (hn : Nat.ble args.length 37 = true) (h : ev Try.prog tt 37 [0, 1, 2, 3, 4, 5, 6, 7, 15, 21, 34] (body Try.f30) ⟨idx 0 args, []⟩ (retQ tt [.cell 4 35, .tmp 5] r)) : Fn Try.prog 30 args r :=
  fn_of [.cell 4 35, .tmp 5] tabOK tabOne mixed Try.func30 rfl (by kernel_rfl) (by kernel_rfl) hn rfl rfl h
/-- archivum/archivumref32.Join -/
theorem mk31 {args : List AV} {r : AV} (hn : Nat.ble args.length 30 = true) (h : ev Try.prog tt 30 [0, 1, 2, 3, 4, 5, 13, 19] (body Try.f31) ⟨idx 0 args, []⟩ (retQ tt [.cell 4 35, .tmp 5] r)) : Fn Try.prog 31 args r :=
  fn_of [.cell 4 35, .tmp 5] tabOK tabOne mixed Try.func31 rfl (by kernel_rfl) (by kernel_rfl) hn rfl rfl h
/-- archivum/dating.Check -/
theorem mk32 {args : List AV} {r : AV} (hn : Nat.ble args.length 18 = true) (h : ev Try.prog tt 18 [0, 1, 2, 17] (body Try.f32) ⟨idx 0 args, []⟩ (retQ tt [.tmp 2] r)) : Fn Try.prog 32 args r :=
  fn_of [.tmp 2] tabOK tabOne mixed Try.func32 rfl (by kernel_rfl) (by kernel_rfl) hn rfl rfl h
/-- archivum/person.index -/
theorem mk33 {args : List AV} {r : AV} (hn : Nat.ble args.length 8 = true) (h : ev Try.prog tt 8 [0, 1, 3, 4] (body Try.f33) ⟨idx 0 args, []⟩ (retQ tt [.tmp 4] r)) : Fn Try.prog 33 args r :=
  fn_of [.tmp 4] tabOK tabOne mixed Try.func33 rfl (by kernel_rfl) (by kernel_rfl) hn rfl rfl h
/-- archivum/person.until -/
theorem mk34 {args : List AV} {r : AV} (hn : Nat.ble args.length 26 = true) (h : ev Try.prog tt 26 [0, 1, 2, 3, 4, 6] (body Try.f34) ⟨idx 0 args, []⟩ (retQ tt [.tmp 6] r)) : Fn Try.prog 34 args r :=
  fn_of [.tmp 6] tabOK tabOne mixed Try.func34 rfl (by kernel_rfl) (by kernel_rfl) hn rfl rfl h
/-- archivum/archivumref03.Check -/
theorem mk35 {args : List AV} {r : AV} (hn : Nat.ble args.length 6 = true) (h : ev Try.prog tt 6 [0, 1, 2, 5] (body Try.f35) ⟨idx 0 args, []⟩ (retQ tt [.tmp 2] r)) : Fn Try.prog 35 args r :=
  fn_of [.tmp 2] tabOK tabOne mixed Try.func35 rfl (by kernel_rfl) (by kernel_rfl) hn rfl rfl h
/-- archivum/person.learned -/
theorem mk36 {args : List AV} {r : AV} (hn : Nat.ble args.length 36 = true) (h : ev Try.prog tt 36 [0, 1, 2, 3, 4, 5, 6, 7, 8, 9] (body Try.f36) ⟨idx 0 args, []⟩ (retQ tt [.cell 6 35, .tmp 7] r)) : Fn Try.prog 36 args r :=
  fn_of [.cell 6 35, .tmp 7] tabOK tabOne mixed Try.func36 rfl (by kernel_rfl) (by kernel_rfl) hn rfl rfl h
/-- archivum/person.fault -/
theorem mk37 {args : List AV} {r : AV} (hn : Nat.ble args.length 36 = true) (h : ev Try.prog tt 36 [0, 1, 2, 3, 12, 17, 28] (body Try.f37) ⟨idx 0 args, []⟩ (retQ tt [.tmp 2] r)) : Fn Try.prog 37 args r :=
  fn_of [.tmp 2] tabOK tabOne mixed Try.func37 rfl (by kernel_rfl) (by kernel_rfl) hn rfl rfl h
/-- archivum/day.Date -/
theorem mk38 {args : List AV} {r : AV} (hn : Nat.ble args.length 44 = true) (h : ev Try.prog tt 44 [0, 2, 3, 4, 5, 8, 21, 32] (body Try.f38) ⟨idx 0 args, []⟩ (retQ tt [.tmp 2, .tmp 3, .tmp 4, .tmp 5] r)) : Fn Try.prog 38 args r :=
  fn_of [.tmp 2, .tmp 3, .tmp 4, .tmp 5] tabOK tabOne mixed Try.func38 rfl (by kernel_rfl) (by kernel_rfl) hn rfl rfl h
/-- archivum/day.Of -/
theorem mk39 {args : List AV} {r : AV} (hn : Nat.ble args.length 39 = true) (h : ev Try.prog tt 39 [0, 1, 2, 6, 7, 8, 9, 10, 20, 28, 37] (body Try.f39) ⟨idx 0 args, []⟩ (retQ tt [.tmp 6, .tmp 7] r)) : Fn Try.prog 39 args r :=
  fn_of [.tmp 6, .tmp 7] tabOK tabOne mixed Try.func39 rfl (by kernel_rfl) (by kernel_rfl) hn rfl rfl h
/-- archivum/day.Length -/
theorem mk40 {args : List AV} {r : AV} (hn : Nat.ble args.length 29 = true) (h : ev Try.prog tt 29 [0, 1, 4, 18, 24] (body Try.f40) ⟨idx 0 args, []⟩ (retQ tt [.tmp 4] r)) : Fn Try.prog 40 args r :=
  fn_of [.tmp 4] tabOK tabOne mixed Try.func40 rfl (by kernel_rfl) (by kernel_rfl) hn rfl rfl h
/-- archivum/archivumref32.form -/
theorem mk41 {args : List AV} {r : AV} (hn : Nat.ble args.length 32 = true) (h : ev Try.prog tt 32 [0, 1, 2, 10, 14, 24, 31] (body Try.f41) ⟨idx 0 args, []⟩ (retQ tt [.tmp 2] r)) : Fn Try.prog 41 args r :=
  fn_of [.tmp 2] tabOK tabOne mixed Try.func41 rfl (by kernel_rfl) (by kernel_rfl) hn rfl rfl h
/-- archivum/archivumref02.Years -/
theorem mk42 {args : List AV} {r : AV} (hn : Nat.ble args.length 54 = true) (h : ev Try.prog tt 54 [0, 1, 4, 5, 6, 7, 8, 10, 11, 22, 43, 52] (body Try.f42) ⟨idx 0 args, []⟩ (retQ tt [.tmp 4, .tmp 5] r)) : Fn Try.prog 42 args r :=
  fn_of [.tmp 4, .tmp 5] tabOK tabOne mixed Try.func42 rfl (by kernel_rfl) (by kernel_rfl) hn rfl rfl h
/-- archivum/archivumref32.aged -/
theorem mk43 {args : List AV} {r : AV} (hn : Nat.ble args.length 19 = true) (h : ev Try.prog tt 19 [0, 1, 4, 5] (body Try.f43) ⟨idx 0 args, []⟩ (retQ tt [.tmp 4] r)) : Fn Try.prog 43 args r :=
  fn_of [.tmp 4] tabOK tabOne mixed Try.func43 rfl (by kernel_rfl) (by kernel_rfl) hn rfl rfl h
/-- archivum/archivumref32.learned -/
theorem mk44 {args : List AV} {r : AV} (hn : Nat.ble args.length 43 = true) (h : ev Try.prog tt 43 [0, 1, 2, 3, 4, 5, 6, 7, 8, 9, 10, 11, 40] (body Try.f44) ⟨idx 0 args, []⟩ (retQ tt [.cell 6 35, .tmp 7] r)) : Fn Try.prog 44 args r :=
  fn_of [.cell 6 35, .tmp 7] tabOK tabOne mixed Try.func44 rfl (by kernel_rfl) (by kernel_rfl) hn rfl rfl h
/-- slices.IndexFunc[[]archivum/api.Person,archivum/api.Person] -/
theorem mk45 {args : List AV} {r : AV} (hn : Nat.ble args.length 19 = true) (h : ev Try.prog tt 19 [0, 1, 4, 5, 7, 8, 9, 16] (body Try.f45) ⟨idx 0 args, []⟩ (retQ tt [.tmp 4] r)) : Fn Try.prog 45 args r :=
  fn_of [.tmp 4] tabOK tabOne mixed Try.func45 rfl (by kernel_rfl) (by kernel_rfl) hn rfl rfl h
/-- archivum/person.index$1 -/
theorem mk46 {args : List AV} {r : AV} (hn : Nat.ble args.length 8 = true) (h : ev Try.prog tt 8 [0, 1, 2, 3] (body Try.f46) ⟨idx 0 args, []⟩ (retQ tt [.tmp 3] r)) : Fn Try.prog 46 args r :=
  fn_of [.tmp 3] tabOK tabOne mixed Try.func46 rfl (by kernel_rfl) (by kernel_rfl) hn rfl rfl h
/-- archivum/person.later -/
theorem mk47 {args : List AV} {r : AV} (hn : Nat.ble args.length 21 = true) (h : ev Try.prog tt 21 [0, 1, 4, 6, 7, 8, 9, 10] (body Try.f47) ⟨idx 0 args, []⟩ (retQ tt [.tmp 4] r)) : Fn Try.prog 47 args r :=
  fn_of [.tmp 4] tabOK tabOne mixed Try.func47 rfl (by kernel_rfl) (by kernel_rfl) hn rfl rfl h
/-- archivum/archivumref03.Good -/
theorem mk48 {args : List AV} {r : AV} (hn : Nat.ble args.length 18 = true) (h : ev Try.prog tt 18 [0, 1, 2] (body Try.f48) ⟨idx 0 args, []⟩ (retQ tt [.tmp 2] r)) : Fn Try.prog 48 args r :=
  fn_of [.tmp 2] tabOK tabOne mixed Try.func48 rfl (by kernel_rfl) (by kernel_rfl) hn rfl rfl h
/-- archivum/dating.Meet -/
theorem mk49 {args : List AV} {r : AV} (hn : Nat.ble args.length 31 = true) (h : ev Try.prog tt 31 [0, 1, 2, 3, 4, 5, 6, 28] (body Try.f49) ⟨idx 0 args, []⟩ (retQ tt [.cell 4 28, .tmp 5] r)) : Fn Try.prog 49 args r :=
  fn_of [.cell 4 28, .tmp 5] tabOK tabOne mixed Try.func49 rfl (by kernel_rfl) (by kernel_rfl) hn rfl rfl h
/-- archivum/person.isName -/
theorem mk50 {args : List AV} {r : AV} (hn : Nat.ble args.length 36 = true) (h : ev Try.prog tt 36 [0, 2, 3] (body Try.f50) ⟨idx 0 args, []⟩ (retQ tt [.tmp 2] r)) : Fn Try.prog 50 args r :=
  fn_of [.tmp 2] tabOK tabOne mixed Try.func50 rfl (by kernel_rfl) (by kernel_rfl) hn rfl rfl h
/-- archivum/day.is -/
theorem mk51 {args : List AV} {r : AV} (hn : Nat.ble args.length 9 = true) (h : ev Try.prog tt 9 [0, 2] (body Try.f51) ⟨idx 0 args, []⟩ (retQ tt [.tmp 2] r)) : Fn Try.prog 51 args r :=
  fn_of [.tmp 2] tabOK tabOne mixed Try.func51 rfl (by kernel_rfl) (by kernel_rfl) hn rfl rfl h
/-- archivum/day.begin -/
theorem mk52 {args : List AV} {r : AV} (hn : Nat.ble args.length 20 = true) (h : ev Try.prog tt 20 [0, 2, 3] (body Try.f52) ⟨idx 0 args, []⟩ (retQ tt [.tmp 2] r)) : Fn Try.prog 52 args r :=
  fn_of [.tmp 2] tabOK tabOne mixed Try.func52 rfl (by kernel_rfl) (by kernel_rfl) hn rfl rfl h
/-- archivum/day.leap -/
theorem mk53 {args : List AV} {r : AV} (hn : Nat.ble args.length 16 = true) (h : ev Try.prog tt 16 [0, 2] (body Try.f53) ⟨idx 0 args, []⟩ (retQ tt [.tmp 2] r)) : Fn Try.prog 53 args r :=
  fn_of [.tmp 2] tabOK tabOne mixed Try.func53 rfl (by kernel_rfl) (by kernel_rfl) hn rfl rfl h
/-- archivum/day.lengths -/
theorem mk54 {args : List AV} {r : AV} (hn : Nat.ble args.length 2 = true) (h : ev Try.prog tt 2 [0] (body Try.f54) ⟨idx 0 args, []⟩ (retQ tt [.cell 0 84] r)) : Fn Try.prog 54 args r :=
  fn_of [.cell 0 84] tabOK tabOne mixed Try.func54 rfl (by kernel_rfl) (by kernel_rfl) hn rfl rfl h
/-- archivum/archivumref32.Named -/
theorem mk55 {args : List AV} {r : AV} (hn : Nat.ble args.length 58 = true) (h : ev Try.prog tt 58 [0, 2, 3, 24, 28, 57] (body Try.f55) ⟨idx 0 args, []⟩ (retQ tt [.tmp 2] r)) : Fn Try.prog 55 args r :=
  fn_of [.tmp 2] tabOK tabOne mixed Try.func55 rfl (by kernel_rfl) (by kernel_rfl) hn rfl rfl h
/-- archivum/archivumref02.Good -/
theorem mk56 {args : List AV} {r : AV} (hn : Nat.ble args.length 9 = true) (h : ev Try.prog tt 9 [0, 2] (body Try.f56) ⟨idx 0 args, []⟩ (retQ tt [.tmp 2] r)) : Fn Try.prog 56 args r :=
  fn_of [.tmp 2] tabOK tabOne mixed Try.func56 rfl (by kernel_rfl) (by kernel_rfl) hn rfl rfl h
/-- archivum/archivumref02.Date -/
theorem mk57 {args : List AV} {r : AV} (hn : Nat.ble args.length 41 = true) (h : ev Try.prog tt 41 [0, 2, 3, 4, 5, 6, 7, 10, 18, 29] (body Try.f57) ⟨idx 0 args, []⟩ (retQ tt [.tmp 2, .tmp 3, .tmp 4, .tmp 5] r)) : Fn Try.prog 57 args r :=
  fn_of [.tmp 2, .tmp 3, .tmp 4, .tmp 5] tabOK tabOne mixed Try.func57 rfl (by kernel_rfl) (by kernel_rfl) hn rfl rfl h
/-- archivum/archivumref02.leap -/
theorem mk58 {args : List AV} {r : AV} (hn : Nat.ble args.length 16 = true) (h : ev Try.prog tt 16 [0, 2] (body Try.f58) ⟨idx 0 args, []⟩ (retQ tt [.tmp 2] r)) : Fn Try.prog 58 args r :=
  fn_of [.tmp 2] tabOK tabOne mixed Try.func58 rfl (by kernel_rfl) (by kernel_rfl) hn rfl rfl h
/-- archivum/archivumref02.Of -/
theorem mk59 {args : List AV} {r : AV} (hn : Nat.ble args.length 37 = true) (h : ev Try.prog tt 37 [0, 1, 2, 6, 7, 8, 9, 18, 26, 35] (body Try.f59) ⟨idx 0 args, []⟩ (retQ tt [.tmp 6, .tmp 7] r)) : Fn Try.prog 59 args r :=
  fn_of [.tmp 6, .tmp 7] tabOK tabOne mixed Try.func59 rfl (by kernel_rfl) (by kernel_rfl) hn rfl rfl h
/-- archivum/archivumref32.both -/
theorem mk60 {args : List AV} {r : AV} (hn : Nat.ble args.length 24 = true) (h : ev Try.prog tt 24 [0, 1, 2, 3, 4, 5, 6] (body Try.f60) ⟨idx 0 args, []⟩ (retQ tt [.cell 4 28, .tmp 5] r)) : Fn Try.prog 60 args r :=
  fn_of [.cell 4 28, .tmp 5] tabOK tabOne mixed Try.func60 rfl (by kernel_rfl) (by kernel_rfl) hn rfl rfl h
/-- archivum/dating.both -/
theorem mk61 {args : List AV} {r : AV} (hn : Nat.ble args.length 13 = true) (h : ev Try.prog tt 13 [0, 1, 2, 3, 4] (body Try.f61) ⟨idx 0 args, []⟩ (retQ tt [.tmp 4] r)) : Fn Try.prog 61 args r :=
  fn_of [.tmp 4] tabOK tabOne mixed Try.func61 rfl (by kernel_rfl) (by kernel_rfl) hn rfl rfl h
/-- archivum/person.isName$1 -/
theorem mk62 {args : List AV} {r : AV} (hn : Nat.ble args.length 9 = true) (h : ev Try.prog tt 9 [0, 2] (body Try.f62) ⟨idx 0 args, []⟩ (retQ tt [.tmp 2] r)) : Fn Try.prog 62 args r :=
  fn_of [.tmp 2] tabOK tabOne mixed Try.func62 rfl (by kernel_rfl) (by kernel_rfl) hn rfl rfl h
/-- archivum/archivumref02.before -/
theorem mk65 {args : List AV} {r : AV} (hn : Nat.ble args.length 25 = true) (h : ev Try.prog tt 25 [0, 2, 3, 7] (body Try.f65) ⟨idx 0 args, []⟩ (retQ tt [.tmp 2] r)) : Fn Try.prog 65 args r :=
  fn_of [.tmp 2] tabOK tabOne mixed Try.func65 rfl (by kernel_rfl) (by kernel_rfl) hn rfl rfl h
/-- archivum/archivumref02.Length -/
theorem mk66 {args : List AV} {r : AV} (hn : Nat.ble args.length 29 = true) (h : ev Try.prog tt 29 [0, 1, 4, 18, 24] (body Try.f66) ⟨idx 0 args, []⟩ (retQ tt [.tmp 4] r)) : Fn Try.prog 66 args r :=
  fn_of [.tmp 4] tabOK tabOne mixed Try.func66 rfl (by kernel_rfl) (by kernel_rfl) hn rfl rfl h
end Go.Abs.L32
