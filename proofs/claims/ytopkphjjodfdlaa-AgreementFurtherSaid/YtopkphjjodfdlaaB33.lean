import Derived.Test.YtopkphjjodfdlaaA3
import Derived.Laws.StructEq
import Derived.Test.YtopkphjjodfdlaaProg
namespace Go.Abs.L33
open Go Go.Abs Go.Proofs
set_option linter.unusedVariables false
set_option maxRecDepth 20000
/-- the types that the code names -/
def tt : Tab := [(3, ⟨.int .i64, 1, 8, (Value.int IntKind.i64 0), []⟩),
  (4, ⟨.bool, 1, 1, (Value.bool false), []⟩),
  (22, ⟨.slice 29, 1, 24, (Value.slice none 0 0), []⟩),
  (23, ⟨.array 3 3, 3, 24, (Value.agg #[(Value.int IntKind.i64 0), (Value.int IntKind.i64 0), (Value.int IntKind.i64 0)]), []⟩),
  (27, ⟨.struct [(0, 3), (1, 3)], 2, 16, (Value.agg #[(Value.int IntKind.i64 0), (Value.int IntKind.i64 0)]), []⟩),
  (29, ⟨.struct [(0, 3), (1, 3), (2, 3), (3, 4), (4, 27)], 6, 48, (Value.agg #[(Value.int IntKind.i64 0), (Value.int IntKind.i64 0), (Value.int IntKind.i64 0), (Value.bool false), (Value.int IntKind.i64 0), (Value.int IntKind.i64 0)]), [.i .i64, .i .i64, .i .i64, .b, .i .i64, .i .i64]⟩),
  (31, ⟨.int .i64, 1, 8, (Value.int IntKind.i64 0), []⟩),
  (39, ⟨.slice 52, 1, 24, (Value.slice none 0 0), []⟩),
  (42, ⟨.array 2 3, 2, 16, (Value.agg #[(Value.int IntKind.i64 0), (Value.int IntKind.i64 0)]), []⟩),
  (47, ⟨.array 4 3, 4, 32, (Value.agg #[(Value.int IntKind.i64 0), (Value.int IntKind.i64 0), (Value.int IntKind.i64 0), (Value.int IntKind.i64 0)]), []⟩),
  (49, ⟨.other, 1, 8, Value.nilFunc, []⟩),
  (52, ⟨.struct [(0, 3), (1, 3), (2, 3), (3, 3)], 4, 32, (Value.agg #[(Value.int IntKind.i64 0), (Value.int IntKind.i64 0), (Value.int IntKind.i64 0), (Value.int IntKind.i64 0)]), [.i .i64, .i .i64, .i .i64, .i .i64]⟩),
  (53, ⟨.other, 1, 8, Value.nilFunc, []⟩),
  (59, ⟨.slice 29, 1, 24, (Value.slice none 0 0), []⟩)]
theorem tabOne : TabOne tt = true := by kernel_rfl
theorem eqSpec29 : EqSpec Try.prog 29 [.i .i64, .i .i64, .i .i64, .b, .i .i64, .i .i64] := by
  refine ⟨by kernel_rfl, fun w us vs hu0 hv0 => ?_⟩
  obtain ⟨a0, us0, rfl, hu1⟩ := fits_i hu0
  obtain ⟨a1, us1, rfl, hu2⟩ := fits_i hu1
  obtain ⟨a2, us2, rfl, hu3⟩ := fits_i hu2
  obtain ⟨a3, us3, rfl, hu4⟩ := fits_b hu3
  obtain ⟨a4, us4, rfl, hu5⟩ := fits_i hu4
  obtain ⟨a5, us5, rfl, hu6⟩ := fits_i hu5
  cases fits_nil hu6
  obtain ⟨b0, vs0, rfl, hv1⟩ := fits_i hv0
  obtain ⟨b1, vs1, rfl, hv2⟩ := fits_i hv1
  obtain ⟨b2, vs2, rfl, hv3⟩ := fits_i hv2
  obtain ⟨b3, vs3, rfl, hv4⟩ := fits_b hv3
  obtain ⟨b4, vs4, rfl, hv5⟩ := fits_i hv4
  obtain ⟨b5, vs5, rfl, hv6⟩ := fits_i hv5
  cases fits_nil hv6
  have u3 := Try.underlying3
  have a3x := Try.isAgg3
  have z3 := Try.sizeOf3
  have u4 := Try.underlying4
  have a4x := Try.isAgg4
  have z4 := Try.sizeOf4
  have u27 := Try.underlying27
  have a27x := Try.isAgg27
  have z27 := Try.sizeOf27
  have hS29 : Try.prog.underlying 29 = some (.struct (Try.prog.fieldsOf 29)) := by kernel_rfl
  have hp29 : Try.prog.stoodInHeld 29 = false := by kernel_rfl
  have hS27 : Try.prog.underlying 27 = some (.struct (Try.prog.fieldsOf 27)) := by kernel_rfl
  have hp27 : Try.prog.stoodInHeld 27 = false := by kernel_rfl
  rw [show (10000 : Nat) = 9999 + 1 from rfl, run_equalIn_agg w 9999 29 _ _ hS29 hp29]
  simp only [Program.fieldsOf, Try.underlying29, List.map, AV.toV]
  go_simp
  clear hu0 hv0 hu1 hv1 hu2 hv2 hu3 hv3 hu4 hv4 hu5 hv5 hu6 hv6
  repeat' split
  all_goals simp_all [eqL, eqC]
theorem eqSpec52 : EqSpec Try.prog 52 [.i .i64, .i .i64, .i .i64, .i .i64] := by
  refine ⟨by kernel_rfl, fun w us vs hu0 hv0 => ?_⟩
  obtain ⟨a0, us0, rfl, hu1⟩ := fits_i hu0
  obtain ⟨a1, us1, rfl, hu2⟩ := fits_i hu1
  obtain ⟨a2, us2, rfl, hu3⟩ := fits_i hu2
  obtain ⟨a3, us3, rfl, hu4⟩ := fits_i hu3
  cases fits_nil hu4
  obtain ⟨b0, vs0, rfl, hv1⟩ := fits_i hv0
  obtain ⟨b1, vs1, rfl, hv2⟩ := fits_i hv1
  obtain ⟨b2, vs2, rfl, hv3⟩ := fits_i hv2
  obtain ⟨b3, vs3, rfl, hv4⟩ := fits_i hv3
  cases fits_nil hv4
  have u3 := Try.underlying3
  have a3x := Try.isAgg3
  have z3 := Try.sizeOf3
  have hS52 : Try.prog.underlying 52 = some (.struct (Try.prog.fieldsOf 52)) := by kernel_rfl
  have hp52 : Try.prog.stoodInHeld 52 = false := by kernel_rfl
  rw [show (10000 : Nat) = 9999 + 1 from rfl, run_equalIn_agg w 9999 52 _ _ hS52 hp52]
  simp only [Program.fieldsOf, Try.underlying52, List.map, AV.toV]
  go_simp
  clear hu0 hv0 hu1 hv1 hu2 hv2 hu3 hv3 hu4 hv4
  repeat' split
  all_goals simp_all [eqL, eqC]
theorem tabOK : TabOK Try.prog tt := ⟨⟨by kernel_rfl, by kernel_rfl, fun h => absurd rfl h⟩,
  ⟨by kernel_rfl, by kernel_rfl, fun h => absurd rfl h⟩,
  ⟨by kernel_rfl, by kernel_rfl, fun h => absurd rfl h⟩,
  ⟨by kernel_rfl, by kernel_rfl, fun h => absurd rfl h⟩,
  ⟨by kernel_rfl, by kernel_rfl, fun h => absurd rfl h⟩,
  ⟨by kernel_rfl, by kernel_rfl, fun _ => eqSpec29⟩,
  ⟨by kernel_rfl, by kernel_rfl, fun h => absurd rfl h⟩,
  ⟨by kernel_rfl, by kernel_rfl, fun h => absurd rfl h⟩,
  ⟨by kernel_rfl, by kernel_rfl, fun h => absurd rfl h⟩,
  ⟨by kernel_rfl, by kernel_rfl, fun h => absurd rfl h⟩,
  ⟨by kernel_rfl, by kernel_rfl, fun h => absurd rfl h⟩,
  ⟨by kernel_rfl, by kernel_rfl, fun _ => eqSpec52⟩,
  ⟨by kernel_rfl, by kernel_rfl, fun h => absurd rfl h⟩,
  ⟨by kernel_rfl, by kernel_rfl, fun h => absurd rfl h⟩, trivial⟩
theorem mixed : Try.prog.follows .mixedOrders = true := by kernel_rfl
def body (f : Func) : Code := match f.body with | some c => c | none => .skip
/-- archivum/archivumlaw33.AgreementChecks -/
theorem mk3 {args : List AV} {r : AV} (hn : Nat.ble args.length 59 = true) (h : ev Try.prog tt 59 [0, 1, 3, 4, 6, 8, 16, 21, 22, 23, 24, 39] (body Try.f3) ⟨idx 0 args, []⟩ (retQ tt [.tmp 4] r)) : Fn Try.prog 3 args r :=
  fn_of [.tmp 4] tabOK tabOne mixed Try.func3 rfl (by kernel_rfl) (by kernel_rfl) hn rfl rfl h
/-- archivum/archivumlaw33.AgreementGrounds -/
theorem mk4 {args : List AV} {r : AV} (hn : Nat.ble args.length 51 = true) (h : ev Try.prog tt 51 [0, 1, 2, 6, 7, 8, 9, 10, 12, 15] (body Try.f4) ⟨idx 0 args, []⟩ (retQ tt [.tmp 6] r)) : Fn Try.prog 4 args r :=
  fn_of [.tmp 6] tabOK tabOne mixed Try.func4 rfl (by kernel_rfl) (by kernel_rfl) hn rfl rfl h
/-- archivum/archivumlaw33.AgreementAmends -/
theorem mk5 {args : List AV} {r : AV} (hn : Nat.ble args.length 50 = true) (h : ev Try.prog tt 50 [0, 1, 2, 4, 5, 6, 7, 8, 9, 10, 12, 20] (body Try.f5) ⟨idx 0 args, []⟩ (retQ tt [.tmp 6] r)) : Fn Try.prog 5 args r :=
  fn_of [.tmp 6] tabOK tabOne mixed Try.func5 rfl (by kernel_rfl) (by kernel_rfl) hn rfl rfl h
/-- archivum/archivumlaw33.AgreementOpens -/
theorem mk6 {args : List AV} {r : AV} (hn : Nat.ble args.length 84 = true) (h : ev Try.prog tt 84 [0, 1, 3, 4, 5, 6, 7, 8, 9, 10, 12, 19, 33, 38, 50, 53] (body Try.f6) ⟨idx 0 args, []⟩ (retQ tt [.tmp 4] r)) : Fn Try.prog 6 args r :=
  fn_of [.tmp 4] tabOK tabOne mixed Try.func6 rfl (by kernel_rfl) (by kernel_rfl) hn rfl rfl h
/-- archivum/archivumlaw33.AgreementApart -/
theorem mk7 {args : List AV} {r : AV} (hn : Nat.ble args.length 119 = true) (h : ev Try.prog tt 119 [0, 1, 2, 4, 5, 6, 7, 8, 9, 10, 11, 12, 13, 14, 15, 16, 18, 32, 43, 72, 84] (body Try.f7) ⟨idx 0 args, []⟩ (retQ tt [.tmp 6] r)) : Fn Try.prog 7 args r :=
  fn_of [.tmp 6] tabOK tabOne mixed Try.func7 rfl (by kernel_rfl) (by kernel_rfl) hn rfl rfl h
/-- archivum/archivumlaw33.AgreementNone -/
theorem mk8 {args : List AV} {r : AV} (hn : Nat.ble args.length 63 = true) (h : ev Try.prog tt 63 [0, 1, 2, 4, 6, 7, 8, 9, 11, 30, 38] (body Try.f8) ⟨idx 0 args, []⟩ (retQ tt [.tmp 6] r)) : Fn Try.prog 8 args r :=
  fn_of [.tmp 6] tabOK tabOne mixed Try.func8 rfl (by kernel_rfl) (by kernel_rfl) hn rfl rfl h
/-- archivum/archivumlaw33.AgreementFurther -/
theorem mk9 {args : List AV} {r : AV} (hn : Nat.ble args.length 87 = true) (h : ev Try.prog tt 87 [0, 1, 2, 6, 7, 8, 9, 10, 12, 14, 28, 35, 36, 37, 74, 75, 76, 77, 78, 84] (body Try.f9) ⟨idx 0 args, []⟩ (retQ tt [.tmp 6] r)) : Fn Try.prog 9 args r :=
  fn_of [.tmp 6] tabOK tabOne mixed Try.func9 rfl (by kernel_rfl) (by kernel_rfl) hn rfl rfl h
/-- archivum/archivumlaw33.awake -/
theorem mk10 {args : List AV} {r : AV} (hn : Nat.ble args.length 54 = true) (h : ev Try.prog tt 54 [0, 1, 2, 3, 4, 5, 6, 7, 8] (body Try.f10) ⟨idx 0 args, []⟩ (retQ tt [.tmp 0] r)) : Fn Try.prog 10 args r :=
  fn_of [.tmp 0] tabOK tabOne mixed Try.func10 rfl (by kernel_rfl) (by kernel_rfl) hn rfl rfl h
/-- archivum/archivumref33.Few -/
theorem mk11 {args : List AV} {r : AV} (hn : Nat.ble args.length 6 = true) (h : ev Try.prog tt 6 [0, 2] (body Try.f11) ⟨idx 0 args, []⟩ (retQ tt [.tmp 2] r)) : Fn Try.prog 11 args r :=
  fn_of [.tmp 2] tabOK tabOne mixed Try.func11 rfl (by kernel_rfl) (by kernel_rfl) hn rfl rfl h
/-- archivum/agreement.Closes -/
theorem mk12 {args : List AV} {r : AV} (hn : Nat.ble args.length 35 = true) (h : ev Try.prog tt 35 [0, 1, 2, 3, 6] (body Try.f12) ⟨idx 0 args, []⟩ (retQ tt [.tmp 6] r)) : Fn Try.prog 12 args r :=
  fn_of [.tmp 6] tabOK tabOne mixed Try.func12 rfl (by kernel_rfl) (by kernel_rfl) hn rfl rfl h
/-- archivum/archivumref33.Closes -/
theorem mk13 {args : List AV} {r : AV} (hn : Nat.ble args.length 35 = true) (h : ev Try.prog tt 35 [0, 1, 2, 3, 6] (body Try.f13) ⟨idx 0 args, []⟩ (retQ tt [.tmp 6] r)) : Fn Try.prog 13 args r :=
  fn_of [.tmp 6] tabOK tabOne mixed Try.func13 rfl (by kernel_rfl) (by kernel_rfl) hn rfl rfl h
/-- archivum/agreement.Check -/
theorem mk14 {args : List AV} {r : AV} (hn : Nat.ble args.length 34 = true) (h : ev Try.prog tt 34 [0, 2, 3, 4, 7, 8, 9, 10, 11, 15, 19] (body Try.f14) ⟨idx 0 args, []⟩ (retQ tt [.tmp 2] r)) : Fn Try.prog 14 args r :=
  fn_of [.tmp 2] tabOK tabOne mixed Try.func14 rfl (by kernel_rfl) (by kernel_rfl) hn rfl rfl h
/-- slices.Clone[[]archivum/api.Agreement,archivum/api.Agreement] -/
theorem mk15 {args : List AV} {r : AV} (hn : Nat.ble args.length 8 = true) (h : ev Try.prog tt 8 [0, 2, 4] (body Try.f15) ⟨idx 0 args, []⟩ (retQ tt [.tmp 2] r)) : Fn Try.prog 15 args r :=
  fn_of [.tmp 2] tabOK tabOne mixed Try.func15 rfl (by kernel_rfl) (by kernel_rfl) hn rfl rfl h
/-- archivum/archivumref33.Check -/
theorem mk16 {args : List AV} {r : AV} (hn : Nat.ble args.length 32 = true) (h : ev Try.prog tt 32 [0, 2, 3, 4, 7, 8, 9, 10, 11, 17, 30] (body Try.f16) ⟨idx 0 args, []⟩ (retQ tt [.tmp 2] r)) : Fn Try.prog 16 args r :=
  fn_of [.tmp 2] tabOK tabOne mixed Try.func16 rfl (by kernel_rfl) (by kernel_rfl) hn rfl rfl h
/-- archivum/agreement.Strict -/
theorem mk17 {args : List AV} {r : AV} (hn : Nat.ble args.length 13 = true) (h : ev Try.prog tt 13 [0, 1, 3, 4] (body Try.f17) ⟨idx 0 args, []⟩ (retQ tt [.tmp 4] r)) : Fn Try.prog 17 args r :=
  fn_of [.tmp 4] tabOK tabOne mixed Try.func17 rfl (by kernel_rfl) (by kernel_rfl) hn rfl rfl h
/-- archivum/archivumref33.Strict -/
theorem mk18 {args : List AV} {r : AV} (hn : Nat.ble args.length 23 = true) (h : ev Try.prog tt 23 [0, 1, 4, 6, 9, 10, 11, 12, 13, 19] (body Try.f18) ⟨idx 0 args, []⟩ (retQ tt [.tmp 4] r)) : Fn Try.prog 18 args r :=
  fn_of [.tmp 4] tabOK tabOne mixed Try.func18 rfl (by kernel_rfl) (by kernel_rfl) hn rfl rfl h
/-- archivum/agreement.Opens -/
theorem mk19 {args : List AV} {r : AV} (hn : Nat.ble args.length 35 = true) (h : ev Try.prog tt 35 [0, 1, 2, 6, 7, 8, 9, 13, 33] (body Try.f19) ⟨idx 0 args, []⟩ (retQ tt [.tmp 6, .tmp 7] r)) : Fn Try.prog 19 args r :=
  fn_of [.tmp 6, .tmp 7] tabOK tabOne mixed Try.func19 rfl (by kernel_rfl) (by kernel_rfl) hn rfl rfl h
/-- archivum/archivumref33.Opens -/
theorem mk20 {args : List AV} {r : AV} (hn : Nat.ble args.length 40 = true) (h : ev Try.prog tt 40 [0, 1, 2, 6, 7, 8, 11, 25, 27, 34] (body Try.f20) ⟨idx 0 args, []⟩ (retQ tt [.tmp 6, .tmp 7] r)) : Fn Try.prog 20 args r :=
  fn_of [.tmp 6, .tmp 7] tabOK tabOne mixed Try.func20 rfl (by kernel_rfl) (by kernel_rfl) hn rfl rfl h
/-- archivum/archivumref32.SameGrounds -/
theorem mk21 {args : List AV} {r : AV} (hn : Nat.ble args.length 26 = true) (h : ev Try.prog tt 26 [0, 1, 4, 5, 10, 12, 13, 14, 24] (body Try.f21) ⟨idx 0 args, []⟩ (retQ tt [.tmp 4] r)) : Fn Try.prog 21 args r :=
  fn_of [.tmp 4] tabOK tabOne mixed Try.func21 rfl (by kernel_rfl) (by kernel_rfl) hn rfl rfl h
/-- archivum/agreement.Grounds -/
theorem mk22 {args : List AV} {r : AV} (hn : Nat.ble args.length 32 = true) (h : ev Try.prog tt 32 [0, 1, 2, 6, 7, 8, 10, 13, 14, 15, 16, 17, 23] (body Try.f22) ⟨idx 0 args, []⟩ (retQ tt [.tmp 6] r)) : Fn Try.prog 22 args r :=
  fn_of [.tmp 6] tabOK tabOne mixed Try.func22 rfl (by kernel_rfl) (by kernel_rfl) hn rfl rfl h
/-- archivum/archivumref33.Grounds -/
theorem mk23 {args : List AV} {r : AV} (hn : Nat.ble args.length 37 = true) (h : ev Try.prog tt 37 [0, 1, 2, 6, 7, 9, 12, 13, 14, 15, 16, 22] (body Try.f23) ⟨idx 0 args, []⟩ (retQ tt [.tmp 6] r)) : Fn Try.prog 23 args r :=
  fn_of [.tmp 6] tabOK tabOne mixed Try.func23 rfl (by kernel_rfl) (by kernel_rfl) hn rfl rfl h
/-- archivum/agreement.Amend -/
theorem mk24 {args : List AV} {r : AV} (hn : Nat.ble args.length 98 = true) (h : ev Try.prog tt 98 [0, 1, 2, 3, 5, 7, 8, 9, 10, 11, 12, 15, 20, 25, 58, 69] (body Try.f24) ⟨idx 0 args, []⟩ (retQ tt [.tmp 8, .tmp 9] r)) : Fn Try.prog 24 args r :=
  fn_of [.tmp 8, .tmp 9] tabOK tabOne mixed Try.func24 rfl (by kernel_rfl) (by kernel_rfl) hn rfl rfl h
/-- archivum/archivumref33.Amend -/
theorem mk25 {args : List AV} {r : AV} (hn : Nat.ble args.length 99 = true) (h : ev Try.prog tt 99 [0, 1, 2, 3, 7, 8, 9, 10, 11, 12, 15, 19, 20, 21, 22, 29, 61, 71, 74] (body Try.f25) ⟨idx 0 args, []⟩ (retQ tt [.tmp 8, .tmp 9] r)) : Fn Try.prog 25 args r :=
  fn_of [.tmp 8, .tmp 9] tabOK tabOne mixed Try.func25 rfl (by kernel_rfl) (by kernel_rfl) hn rfl rfl h
/-- archivum/archivumref33.Same -/
theorem mk26 {args : List AV} {r : AV} (hn : Nat.ble args.length 26 = true) (h : ev Try.prog tt 26 [0, 1, 4, 5, 10, 12, 13, 14, 24] (body Try.f26) ⟨idx 0 args, []⟩ (retQ tt [.tmp 4] r)) : Fn Try.prog 26 args r :=
  fn_of [.tmp 4] tabOK tabOne mixed Try.func26 rfl (by kernel_rfl) (by kernel_rfl) hn rfl rfl h
/-- slices.IndexFunc[[]archivum/api.Agreement,archivum/api.Agreement] -/
theorem mk27 {args : List AV} {r : AV} (hn : Nat.ble args.length 19 = true) (h : ev Try.prog tt 19 [0, 1, 4, 5, 7, 8, 9, 16] (body Try.f27) ⟨idx 0 args, []⟩ (retQ tt [.tmp 4] r)) : Fn Try.prog 27 args r :=
  fn_of [.tmp 4] tabOK tabOne mixed Try.func27 rfl (by kernel_rfl) (by kernel_rfl) hn rfl rfl h
/-- archivum/archivumlaw33.AgreementApart$1 -/
theorem mk28 {args : List AV} {r : AV} (hn : Nat.ble args.length 8 = true) (h : ev Try.prog tt 8 [0, 1, 2, 3] (body Try.f28) ⟨idx 0 args, []⟩ (retQ tt [.tmp 3] r)) : Fn Try.prog 28 args r :=
  fn_of [.tmp 3] tabOK tabOne mixed Try.func28 rfl (by kernel_rfl) (by kernel_rfl) hn rfl rfl h
/-- slices.ContainsFunc[[]archivum/api.Ground,archivum/api.Ground] -/
theorem mk29 {args : List AV} {r : AV} (hn : Nat.ble args.length 9 = true) (h : ev Try.prog tt 9 [0, 1, 4] (body Try.f29) ⟨idx 0 args, []⟩ (retQ tt [.tmp 4] r)) : Fn Try.prog 29 args r :=
  fn_of [.tmp 4] tabOK tabOne mixed Try.func29 rfl (by kernel_rfl) (by kernel_rfl) hn rfl rfl h
/-- archivum/archivumlaw33.AgreementApart$2 -/
theorem mk30 {args : List AV} {r : AV} (hn : Nat.ble args.length 9 = true) (h : ev Try.prog tt 9 [0, 1, 2, 3] (body Try.f30) ⟨idx 0 args, []⟩ (retQ tt [.tmp 3] r)) : Fn Try.prog 30 args r :=
  fn_of [.tmp 3] tabOK tabOne mixed Try.func30 rfl (by kernel_rfl) (by kernel_rfl) hn rfl rfl h
/-- slices.DeleteFunc[[]archivum/api.Agreement,archivum/api.Agreement] -/
theorem mk31 {args : List AV} {r : AV} (hn : Nat.ble args.length 42 = true) (h : ev Try.prog tt 42 [0, 1, 4, 5, 6, 7, 12, 19, 29] (body Try.f31) ⟨idx 0 args, []⟩ (retQ tt [.tmp 4] r)) : Fn Try.prog 31 args r :=
  fn_of [.tmp 4] tabOK tabOne mixed Try.func31 rfl (by kernel_rfl) (by kernel_rfl) hn rfl rfl h
/-- archivum/archivumlaw33.AgreementNone$1 -/
theorem mk32 {args : List AV} {r : AV} (hn : Nat.ble args.length 8 = true) (h : ev Try.prog tt 8 [0, 1, 2, 3] (body Try.f32) ⟨idx 0 args, []⟩ (retQ tt [.tmp 3] r)) : Fn Try.prog 32 args r :=
  fn_of [.tmp 3] tabOK tabOne mixed Try.func32 rfl (by kernel_rfl) (by kernel_rfl) hn rfl rfl h
/-- slices.Delete[[]archivum/api.Agreement,archivum/api.Agreement] -/
theorem mk33 {args : List AV} {r : AV} (hn : Nat.ble args.length 33 = true) (h : ev Try.prog tt 33 [0, 1, 2, 6, 7, 16] (body Try.f33) ⟨idx 0 args, []⟩ (retQ tt [.tmp 6] r)) : Fn Try.prog 33 args r :=
  fn_of [.tmp 6] tabOK tabOne mixed Try.func33 rfl (by kernel_rfl) (by kernel_rfl) hn rfl rfl h
/-- slices.Contains[[]archivum/api.Ground,archivum/api.Ground] -/
theorem mk34 {args : List AV} {r : AV} (hn : Nat.ble args.length 9 = true) (h : ev Try.prog tt 9 [0, 1, 3, 4] (body Try.f34) ⟨idx 0 args, []⟩ (retQ tt [.tmp 4] r)) : Fn Try.prog 34 args r :=
  fn_of [.tmp 4] tabOK tabOne mixed Try.func34 rfl (by kernel_rfl) (by kernel_rfl) hn rfl rfl h
/-- archivum/agreement.formed -/
theorem mk35 {args : List AV} {r : AV} (hn : Nat.ble args.length 52 = true) (h : ev Try.prog tt 52 [0, 1, 2] (body Try.f35) ⟨idx 0 args, []⟩ (retQ tt [.tmp 2] r)) : Fn Try.prog 35 args r :=
  fn_of [.tmp 2] tabOK tabOne mixed Try.func35 rfl (by kernel_rfl) (by kernel_rfl) hn rfl rfl h
/-- archivum/archivumref33.Form -/
theorem mk36 {args : List AV} {r : AV} (hn : Nat.ble args.length 36 = true) (h : ev Try.prog tt 36 [0, 1, 2] (body Try.f36) ⟨idx 0 args, []⟩ (retQ tt [.tmp 2] r)) : Fn Try.prog 36 args r :=
  fn_of [.tmp 2] tabOK tabOne mixed Try.func36 rfl (by kernel_rfl) (by kernel_rfl) hn rfl rfl h
/-- slices.ContainsFunc[[]archivum/api.Agreement,archivum/api.Agreement] -/
theorem mk37 {args : List AV} {r : AV} (hn : Nat.ble args.length 9 = true) (h : ev Try.prog tt 9 [0, 1, 4] (body Try.f37) ⟨idx 0 args, []⟩ (retQ tt [.tmp 4] r)) : Fn Try.prog 37 args r :=
  fn_of [.tmp 4] tabOK tabOne mixed Try.func37 rfl (by kernel_rfl) (by kernel_rfl) hn rfl rfl h
/-- archivum/agreement.Strict$1 -/
theorem mk38 {args : List AV} {r : AV} (hn : Nat.ble args.length 12 = true) (h : ev Try.prog tt 12 [0, 1, 2, 3] (body Try.f38) ⟨idx 0 args, []⟩ (retQ tt [.tmp 3] r)) : Fn Try.prog 38 args r :=
  fn_of [.tmp 3] tabOK tabOne mixed Try.func38 rfl (by kernel_rfl) (by kernel_rfl) hn rfl rfl h
/-- (archivum/agreement.agreements).opens -/
theorem mk39 {args : List AV} {r : AV} (hn : Nat.ble args.length 24 = true) (h : ev Try.prog tt 24 [0, 1, 2, 6, 7, 8, 16] (body Try.f39) ⟨idx 0 args, []⟩ (retQ tt [.tmp 6] r)) : Fn Try.prog 39 args r :=
  fn_of [.tmp 6] tabOK tabOne mixed Try.func39 rfl (by kernel_rfl) (by kernel_rfl) hn rfl rfl h
/-- archivum/agreement.Grounds$1 -/
theorem mk40 {args : List AV} {r : AV} (hn : Nat.ble args.length 8 = true) (h : ev Try.prog tt 8 [0, 1, 2] (body Try.f40) ⟨idx 0 args, []⟩ (retQ tt [.cell 2 52] r)) : Fn Try.prog 40 args r :=
  fn_of [.cell 2 52] tabOK tabOne mixed Try.func40 rfl (by kernel_rfl) (by kernel_rfl) hn rfl rfl h
/-- archivum/agreement.ends -/
theorem mk41 {args : List AV} {r : AV} (hn : Nat.ble args.length 9 = true) (h : ev Try.prog tt 9 [0, 1, 2] (body Try.f41) ⟨idx 0 args, []⟩ (retQ tt [.tmp 2] r)) : Fn Try.prog 41 args r :=
  fn_of [.tmp 2] tabOK tabOne mixed Try.func41 rfl (by kernel_rfl) (by kernel_rfl) hn rfl rfl h
/-- archivum/agreement.Amend$1 -/
theorem mk42 {args : List AV} {r : AV} (hn : Nat.ble args.length 8 = true) (h : ev Try.prog tt 8 [0, 1, 2, 3] (body Try.f42) ⟨idx 0 args, []⟩ (retQ tt [.tmp 3] r)) : Fn Try.prog 42 args r :=
  fn_of [.tmp 3] tabOK tabOne mixed Try.func42 rfl (by kernel_rfl) (by kernel_rfl) hn rfl rfl h
/-- slices.IndexFunc[[]archivum/api.Ground,archivum/api.Ground] -/
theorem mk43 {args : List AV} {r : AV} (hn : Nat.ble args.length 19 = true) (h : ev Try.prog tt 19 [0, 1, 4, 5, 7, 8, 9, 16] (body Try.f43) ⟨idx 0 args, []⟩ (retQ tt [.tmp 4] r)) : Fn Try.prog 43 args r :=
  fn_of [.tmp 4] tabOK tabOne mixed Try.func43 rfl (by kernel_rfl) (by kernel_rfl) hn rfl rfl h
/-- slices.Index[[]archivum/api.Ground,archivum/api.Ground] -/
theorem mk44 {args : List AV} {r : AV} (hn : Nat.ble args.length 19 = true) (h : ev Try.prog tt 19 [0, 1, 3, 4, 5, 7, 8, 9, 16] (body Try.f44) ⟨idx 0 args, []⟩ (retQ tt [.tmp 4] r)) : Fn Try.prog 44 args r :=
  fn_of [.tmp 4] tabOK tabOne mixed Try.func44 rfl (by kernel_rfl) (by kernel_rfl) hn rfl rfl h
/-- archivum/archivumref31.Spanned -/
theorem mk45 {args : List AV} {r : AV} (hn : Nat.ble args.length 18 = true) (h : ev Try.prog tt 18 [0, 1, 2] (body Try.f45) ⟨idx 0 args, []⟩ (retQ tt [.tmp 2] r)) : Fn Try.prog 45 args r :=
  fn_of [.tmp 2] tabOK tabOne mixed Try.func45 rfl (by kernel_rfl) (by kernel_rfl) hn rfl rfl h
/-- (archivum/agreement.agreements).step -/
theorem mk46 {args : List AV} {r : AV} (hn : Nat.ble args.length 27 = true) (h : ev Try.prog tt 27 [0, 1, 2, 6, 7, 9, 11, 12, 13, 14, 20] (body Try.f46) ⟨idx 0 args, []⟩ (retQ tt [.tmp 6] r)) : Fn Try.prog 46 args r :=
  fn_of [.tmp 6] tabOK tabOne mixed Try.func46 rfl (by kernel_rfl) (by kernel_rfl) hn rfl rfl h
end Go.Abs.L33
