import Derived.Laws.StructEq
import Derived.Test.YteihenhffdckiaaGreatDoorProg
import Derived.Test.YteihenhffdckiaaGreatDoorFrza
namespace Go.Abs.Ltop
open Go Go.Abs Go.Proofs
set_option linter.unusedVariables false
set_option maxRecDepth 20000
/-- the types that the code names -/
def tt : Tab := [(3, ⟨.int .i64, 1, 8, (Value.int IntKind.i64 0), []⟩),
  (4, ⟨.bool, 1, 1, (Value.bool false), []⟩),
  (5, ⟨.int .u8, 1, 1, (Value.int IntKind.u8 0), []⟩),
  (9, ⟨.str, 1, 16, (Value.string { data := #[] }), []⟩),
  (21, ⟨.int .i32, 1, 4, (Value.int IntKind.i32 0), []⟩),
  (22, ⟨.slice 48, 1, 24, (Value.slice none 0 0), []⟩),
  (23, ⟨.slice 56, 1, 24, (Value.slice none 0 0), []⟩),
  (24, ⟨.slice 3, 1, 24, (Value.slice none 0 0), []⟩),
  (25, ⟨.array 3 24, 3, 72, (Value.agg #[(Value.slice none 0 0), (Value.slice none 0 0), (Value.slice none 0 0)]), []⟩),
  (28, ⟨.slice 103, 1, 24, (Value.slice none 0 0), []⟩),
  (29, ⟨.slice 150, 1, 24, (Value.slice none 0 0), []⟩),
  (30, ⟨.slice 153, 1, 24, (Value.slice none 0 0), []⟩),
  (31, ⟨.slice 156, 1, 24, (Value.slice none 0 0), []⟩),
  (32, ⟨.slice 159, 1, 24, (Value.slice none 0 0), []⟩),
  (34, ⟨.struct [(0, 28), (1, 29), (2, 30), (3, 3), (4, 31), (5, 32)], 6, 128, (Value.agg #[(Value.slice none 0 0), (Value.slice none 0 0), (Value.slice none 0 0), (Value.int IntKind.i64 0), (Value.slice none 0 0), (Value.slice none 0 0)]), []⟩),
  (35, ⟨.slice 165, 1, 24, (Value.slice none 0 0), []⟩),
  (36, ⟨.slice 168, 1, 24, (Value.slice none 0 0), []⟩),
  (37, ⟨.slice 171, 1, 24, (Value.slice none 0 0), []⟩),
  (38, ⟨.slice 105, 1, 24, (Value.slice none 0 0), []⟩),
  (39, ⟨.slice 175, 1, 24, (Value.slice none 0 0), []⟩),
  (40, ⟨.slice 178, 1, 24, (Value.slice none 0 0), []⟩),
  (42, ⟨.struct [(0, 34), (6, 23), (7, 22), (8, 35), (9, 36), (10, 3), (11, 37), (12, 38), (13, 39), (14, 40), (15, 3)], 16, 336, (Value.agg #[(Value.slice none 0 0), (Value.slice none 0 0), (Value.slice none 0 0), (Value.int IntKind.i64 0), (Value.slice none 0 0), (Value.slice none 0 0), (Value.slice none 0 0), (Value.slice none 0 0), (Value.slice none 0 0), (Value.slice none 0 0), (Value.int IntKind.i64 0), (Value.slice none 0 0), (Value.slice none 0 0), (Value.slice none 0 0), (Value.slice none 0 0), (Value.int IntKind.i64 0)]), []⟩),
  (43, ⟨.int .i64, 1, 8, (Value.int IntKind.i64 0), []⟩),
  (48, ⟨.struct [(0, 3), (1, 3), (2, 3), (3, 3)], 4, 32, (Value.agg #[(Value.int IntKind.i64 0), (Value.int IntKind.i64 0), (Value.int IntKind.i64 0), (Value.int IntKind.i64 0)]), []⟩),
  (50, ⟨.slice 62, 1, 24, (Value.slice none 0 0), []⟩),
  (54, ⟨.slice 162, 1, 24, (Value.slice none 0 0), []⟩),
  (56, ⟨.struct [(0, 3), (1, 3), (2, 3), (3, 3), (4, 54)], 5, 56, (Value.agg #[(Value.int IntKind.i64 0), (Value.int IntKind.i64 0), (Value.int IntKind.i64 0), (Value.int IntKind.i64 0), (Value.slice none 0 0)]), []⟩),
  (58, ⟨.slice 9, 1, 24, (Value.slice none 0 0), []⟩),
  (60, ⟨.struct [(0, 3), (1, 3), (2, 3), (3, 24), (4, 58)], 5, 72, (Value.agg #[(Value.int IntKind.i64 0), (Value.int IntKind.i64 0), (Value.int IntKind.i64 0), (Value.slice none 0 0), (Value.slice none 0 0)]), []⟩),
  (62, ⟨.struct [(0, 3), (1, 3), (2, 3)], 3, 24, (Value.agg #[(Value.int IntKind.i64 0), (Value.int IntKind.i64 0), (Value.int IntKind.i64 0)]), []⟩),
  (69, ⟨.struct [(0, 3), (1, 3), (2, 3)], 3, 24, (Value.agg #[(Value.int IntKind.i64 0), (Value.int IntKind.i64 0), (Value.int IntKind.i64 0)]), []⟩),
  (70, ⟨.slice 69, 1, 24, (Value.slice none 0 0), []⟩),
  (71, ⟨.slice 60, 1, 24, (Value.slice none 0 0), []⟩),
  (74, ⟨.struct [(0, 3), (1, 3)], 2, 16, (Value.agg #[(Value.int IntKind.i64 0), (Value.int IntKind.i64 0)]), [.i .i64, .i .i64]⟩),
  (77, ⟨.slice 193, 1, 24, (Value.slice none 0 0), []⟩),
  (79, ⟨.struct [(0, 3), (1, 3), (2, 3), (3, 4), (4, 77)], 5, 56, (Value.agg #[(Value.int IntKind.i64 0), (Value.int IntKind.i64 0), (Value.int IntKind.i64 0), (Value.bool false), (Value.slice none 0 0)]), []⟩),
  (89, ⟨.struct [(0, 22), (1, 23)], 2, 48, (Value.agg #[(Value.slice none 0 0), (Value.slice none 0 0)]), []⟩),
  (91, ⟨.struct [(0, 24), (1, 50)], 2, 48, (Value.agg #[(Value.slice none 0 0), (Value.slice none 0 0)]), []⟩),
  (93, ⟨.map 9 91, 1, 8, (Value.map none), []⟩),
  (99, ⟨.other, 1, 8, (Value.pointer none), []⟩),
  (101, ⟨.struct [(0, 3), (1, 3)], 2, 16, (Value.agg #[(Value.int IntKind.i64 0), (Value.int IntKind.i64 0)]), []⟩),
  (103, ⟨.struct [(0, 3), (1, 101), (3, 3), (4, 24)], 5, 56, (Value.agg #[(Value.int IntKind.i64 0), (Value.int IntKind.i64 0), (Value.int IntKind.i64 0), (Value.int IntKind.i64 0), (Value.slice none 0 0)]), []⟩),
  (105, ⟨.struct [(0, 3), (1, 3), (2, 3), (3, 3), (4, 3), (5, 3), (6, 24), (7, 24)], 8, 96, (Value.agg #[(Value.int IntKind.i64 0), (Value.int IntKind.i64 0), (Value.int IntKind.i64 0), (Value.int IntKind.i64 0), (Value.int IntKind.i64 0), (Value.int IntKind.i64 0), (Value.slice none 0 0), (Value.slice none 0 0)]), []⟩),
  (108, ⟨.other, 1, 8, Value.nilFunc, []⟩),
  (109, ⟨.map 3 74, 1, 8, (Value.map none), []⟩),
  (111, ⟨.struct [(0, 109), (1, 3)], 2, 16, (Value.agg #[(Value.map none), (Value.int IntKind.i64 0)]), []⟩),
  (112, ⟨.other, 1, 8, (Value.pointer none), []⟩),
  (118, ⟨.slice 120, 1, 24, (Value.slice none 0 0), []⟩),
  (120, ⟨.struct [(0, 3), (1, 24)], 2, 32, (Value.agg #[(Value.int IntKind.i64 0), (Value.slice none 0 0)]), []⟩),
  (125, ⟨.slice 24, 1, 24, (Value.slice none 0 0), []⟩),
  (130, ⟨.slice 5, 1, 24, (Value.slice none 0 0), []⟩),
  (133, ⟨.other, 1, 8, Value.nilFunc, []⟩),
  (135, ⟨.other, 1, 8, Value.nilFunc, []⟩),
  (137, ⟨.struct [(0, 3), (1, 3), (2, 4), (3, 3), (4, 135)], 5, 40, (Value.agg #[(Value.int IntKind.i64 0), (Value.int IntKind.i64 0), (Value.bool false), (Value.int IntKind.i64 0), Value.nilFunc]), []⟩),
  (140, ⟨.other, 1, 8, (Value.pointer none), []⟩),
  (142, ⟨.struct [(0, 42), (16, 70), (17, 60)], 22, 432, (Value.agg #[(Value.slice none 0 0), (Value.slice none 0 0), (Value.slice none 0 0), (Value.int IntKind.i64 0), (Value.slice none 0 0), (Value.slice none 0 0), (Value.slice none 0 0), (Value.slice none 0 0), (Value.slice none 0 0), (Value.slice none 0 0), (Value.int IntKind.i64 0), (Value.slice none 0 0), (Value.slice none 0 0), (Value.slice none 0 0), (Value.slice none 0 0), (Value.int IntKind.i64 0), (Value.slice none 0 0), (Value.int IntKind.i64 0), (Value.int IntKind.i64 0), (Value.int IntKind.i64 0), (Value.slice none 0 0), (Value.slice none 0 0)]), []⟩),
  (148, ⟨.struct [(0, 3), (1, 3)], 2, 16, (Value.agg #[(Value.int IntKind.i64 0), (Value.int IntKind.i64 0)]), []⟩),
  (150, ⟨.struct [(0, 3), (1, 3), (2, 3), (3, 4), (4, 148)], 6, 48, (Value.agg #[(Value.int IntKind.i64 0), (Value.int IntKind.i64 0), (Value.int IntKind.i64 0), (Value.bool false), (Value.int IntKind.i64 0), (Value.int IntKind.i64 0)]), []⟩),
  (153, ⟨.struct [(0, 3), (1, 9), (2, 101), (4, 101)], 6, 56, (Value.agg #[(Value.int IntKind.i64 0), (Value.string { data := #[] }), (Value.int IntKind.i64 0), (Value.int IntKind.i64 0), (Value.int IntKind.i64 0), (Value.int IntKind.i64 0)]), [.i .i64, .s, .i .i64, .i .i64, .i .i64, .i .i64]⟩),
  (156, ⟨.struct [(0, 3), (1, 3), (2, 3), (3, 4), (4, 148)], 6, 48, (Value.agg #[(Value.int IntKind.i64 0), (Value.int IntKind.i64 0), (Value.int IntKind.i64 0), (Value.bool false), (Value.int IntKind.i64 0), (Value.int IntKind.i64 0)]), []⟩),
  (159, ⟨.struct [(0, 3), (1, 3), (2, 3), (3, 3), (4, 148)], 6, 48, (Value.agg #[(Value.int IntKind.i64 0), (Value.int IntKind.i64 0), (Value.int IntKind.i64 0), (Value.int IntKind.i64 0), (Value.int IntKind.i64 0), (Value.int IntKind.i64 0)]), []⟩),
  (162, ⟨.struct [(0, 3), (1, 3)], 2, 16, (Value.agg #[(Value.int IntKind.i64 0), (Value.int IntKind.i64 0)]), []⟩),
  (165, ⟨.struct [(0, 3), (1, 3), (2, 74), (4, 74)], 6, 48, (Value.agg #[(Value.int IntKind.i64 0), (Value.int IntKind.i64 0), (Value.int IntKind.i64 0), (Value.int IntKind.i64 0), (Value.int IntKind.i64 0), (Value.int IntKind.i64 0)]), []⟩),
  (168, ⟨.struct [(0, 3), (1, 3), (2, 3), (3, 3), (4, 3), (5, 3), (6, 3)], 7, 56, (Value.agg #[(Value.int IntKind.i64 0), (Value.int IntKind.i64 0), (Value.int IntKind.i64 0), (Value.int IntKind.i64 0), (Value.int IntKind.i64 0), (Value.int IntKind.i64 0), (Value.int IntKind.i64 0)]), []⟩),
  (171, ⟨.struct [(0, 3), (1, 3), (2, 148)], 4, 32, (Value.agg #[(Value.int IntKind.i64 0), (Value.int IntKind.i64 0), (Value.int IntKind.i64 0), (Value.int IntKind.i64 0)]), []⟩),
  (175, ⟨.struct [(0, 3), (1, 3)], 2, 16, (Value.agg #[(Value.int IntKind.i64 0), (Value.int IntKind.i64 0)]), []⟩),
  (178, ⟨.struct [(0, 3), (1, 3), (2, 3)], 3, 24, (Value.agg #[(Value.int IntKind.i64 0), (Value.int IntKind.i64 0), (Value.int IntKind.i64 0)]), []⟩),
  (183, ⟨.other, 1, 8, Value.nilFunc, []⟩),
  (186, ⟨.slice 189, 1, 24, (Value.slice none 0 0), []⟩),
  (189, ⟨.struct [(0, 3), (1, 3), (2, 3), (3, 3)], 4, 32, (Value.agg #[(Value.int IntKind.i64 0), (Value.int IntKind.i64 0), (Value.int IntKind.i64 0), (Value.int IntKind.i64 0)]), []⟩),
  (193, ⟨.struct [(0, 189), (4, 3)], 5, 40, (Value.agg #[(Value.int IntKind.i64 0), (Value.int IntKind.i64 0), (Value.int IntKind.i64 0), (Value.int IntKind.i64 0), (Value.int IntKind.i64 0)]), []⟩),
  (199, ⟨.other, 1, 8, Value.nilFunc, []⟩),
  (201, ⟨.other, 1, 8, Value.nilFunc, []⟩),
  (204, ⟨.slice 43, 1, 24, (Value.slice none 0 0), []⟩),
  (206, ⟨.other, 1, 8, Value.nilFunc, []⟩),
  (208, ⟨.other, 1, 8, Value.nilFunc, []⟩),
  (209, ⟨.map 3 3, 1, 8, (Value.map none), []⟩),
  (212, ⟨.other, 1, 8, Value.nilFunc, []⟩),
  (213, ⟨.map 3 137, 1, 8, (Value.map none), []⟩),
  (216, ⟨.int .u64, 1, 8, (Value.int IntKind.u64 0), []⟩),
  (221, ⟨.slice 226, 1, 24, (Value.slice none 0 0), []⟩),
  (223, ⟨.other, 1, 8, Value.nilFunc, []⟩),
  (224, ⟨.other, 1, 8, Value.nilFunc, []⟩),
  (226, ⟨.struct [(0, 223), (1, 224)], 2, 16, (Value.agg #[Value.nilFunc, Value.nilFunc]), []⟩),
  (229, ⟨.other, 1, 8, Value.nilFunc, []⟩),
  (231, ⟨.other, 1, 8, Value.nilFunc, []⟩),
  (232, ⟨.map 3 4, 1, 8, (Value.map none), []⟩),
  (234, ⟨.other, 1, 8, Value.nilFunc, []⟩),
  (235, ⟨.other, 1, 8, Value.nilFunc, []⟩),
  (242, ⟨.other, 1, 8, Value.nilFunc, []⟩),
  (245, ⟨.other, 1, 8, Value.nilFunc, []⟩),
  (250, ⟨.other, 1, 8, Value.nilFunc, []⟩),
  (264, ⟨.other, 1, 8, Value.nilFunc, []⟩),
  (267, ⟨.other, 1, 8, Value.nilFunc, []⟩),
  (273, ⟨.other, 1, 8, Value.nilFunc, []⟩),
  (277, ⟨.other, 1, 8, Value.nilFunc, []⟩),
  (280, ⟨.other, 1, 8, (Value.pointer none), []⟩),
  (286, ⟨.other, 1, 8, (Value.pointer none), []⟩),
  (290, ⟨.other, 1, 8, (Value.pointer none), []⟩),
  (294, ⟨.other, 1, 8, (Value.pointer none), []⟩),
  (297, ⟨.other, 1, 8, Value.nilFunc, []⟩),
  (301, ⟨.other, 1, 8, (Value.pointer none), []⟩),
  (309, ⟨.other, 1, 8, (Value.pointer none), []⟩),
  (316, ⟨.other, 1, 8, (Value.pointer none), []⟩),
  (319, ⟨.other, 1, 8, Value.nilFunc, []⟩),
  (326, ⟨.other, 1, 8, (Value.pointer none), []⟩),
  (330, ⟨.other, 1, 8, (Value.pointer none), []⟩),
  (331, ⟨.other, 1, 8, (Value.pointer none), []⟩),
  (339, ⟨.other, 1, 8, (Value.pointer none), []⟩),
  (344, ⟨.other, 1, 8, Value.nilFunc, []⟩),
  (349, ⟨.slice 148, 1, 24, (Value.slice none 0 0), []⟩),
  (356, ⟨.slice 156, 1, 24, (Value.slice none 0 0), []⟩),
  (383, ⟨.other, 1, 8, (Value.pointer none), []⟩),
  (387, ⟨.struct [(0, 3), (1, 235)], 2, 16, (Value.agg #[(Value.int IntKind.i64 0), Value.nilFunc]), []⟩),
  (390, ⟨.other, 1, 8, Value.nilFunc, []⟩),
  (392, ⟨.other, 1, 8, Value.nilFunc, []⟩),
  (398, ⟨.other, 1, 8, Value.nilFunc, []⟩),
  (402, ⟨.int .u64, 1, 8, (Value.int IntKind.u64 0), []⟩),
  (410, ⟨.int .i64, 1, 8, (Value.int IntKind.i64 0), []⟩),
  (417, ⟨.int .u32, 1, 4, (Value.int IntKind.u32 0), []⟩),
  (435, ⟨.other, 1, 8, Value.nilFunc, []⟩),
  (452, ⟨.int .u64, 1, 8, (Value.int IntKind.u64 0), []⟩),
  (456, ⟨.other, 1, 8, (Value.pointer none), []⟩),
  (465, ⟨.array 12 3, 12, 96, (Value.agg #[(Value.int IntKind.i64 0), (Value.int IntKind.i64 0), (Value.int IntKind.i64 0), (Value.int IntKind.i64 0), (Value.int IntKind.i64 0), (Value.int IntKind.i64 0), (Value.int IntKind.i64 0), (Value.int IntKind.i64 0), (Value.int IntKind.i64 0), (Value.int IntKind.i64 0), (Value.int IntKind.i64 0), (Value.int IntKind.i64 0)]), []⟩),
  (481, ⟨.other, 1, 8, (Value.pointer none), []⟩)]
theorem tabOne : TabOne tt = true := by kernel_rfl
theorem eqSpec74 : EqSpec Tryz.prog 74 [.i .i64, .i .i64] := by
  refine ⟨by kernel_rfl, fun w us vs hu0 hv0 => ?_⟩
  obtain ⟨a0, us0, rfl, hu1⟩ := fits_i hu0
  obtain ⟨a1, us1, rfl, hu2⟩ := fits_i hu1
  cases fits_nil hu2
  obtain ⟨b0, vs0, rfl, hv1⟩ := fits_i hv0
  obtain ⟨b1, vs1, rfl, hv2⟩ := fits_i hv1
  cases fits_nil hv2
  have u3 := Tryz.underlying3
  have a3x := Tryz.isAgg3
  have z3 := Tryz.sizeOf3
  have hS74 : Tryz.prog.underlying 74 = some (.struct (Tryz.prog.fieldsOf 74)) := by kernel_rfl
  have hp74 : Tryz.prog.stoodInHeld 74 = false := by kernel_rfl
  rw [show (10000 : Nat) = 9999 + 1 from rfl, run_equalIn_agg w 9999 74 _ _ hS74 hp74]
  simp only [Program.fieldsOf, Tryz.underlying74, List.map, AV.toV]
  go_simp
  clear hu0 hv0 hu1 hv1 hu2 hv2
  repeat' split
  all_goals simp_all [eqL, eqC]
theorem eqSpec153 : EqSpec Tryz.prog 153 [.i .i64, .s, .i .i64, .i .i64, .i .i64, .i .i64] := by
  refine ⟨by kernel_rfl, fun w us vs hu0 hv0 => ?_⟩
  obtain ⟨a0, us0, rfl, hu1⟩ := fits_i hu0
  obtain ⟨a1, us1, rfl, hu2⟩ := fits_s hu1
  obtain ⟨a2, us2, rfl, hu3⟩ := fits_i hu2
  obtain ⟨a3, us3, rfl, hu4⟩ := fits_i hu3
  obtain ⟨a4, us4, rfl, hu5⟩ := fits_i hu4
  obtain ⟨a5, us5, rfl, hu6⟩ := fits_i hu5
  cases fits_nil hu6
  obtain ⟨b0, vs0, rfl, hv1⟩ := fits_i hv0
  obtain ⟨b1, vs1, rfl, hv2⟩ := fits_s hv1
  obtain ⟨b2, vs2, rfl, hv3⟩ := fits_i hv2
  obtain ⟨b3, vs3, rfl, hv4⟩ := fits_i hv3
  obtain ⟨b4, vs4, rfl, hv5⟩ := fits_i hv4
  obtain ⟨b5, vs5, rfl, hv6⟩ := fits_i hv5
  cases fits_nil hv6
  have u3 := Tryz.underlying3
  have a3x := Tryz.isAgg3
  have z3 := Tryz.sizeOf3
  have u9 := Tryz.underlying9
  have a9x := Tryz.isAgg9
  have z9 := Tryz.sizeOf9
  have u101 := Tryz.underlying101
  have a101x := Tryz.isAgg101
  have z101 := Tryz.sizeOf101
  have hS153 : Tryz.prog.underlying 153 = some (.struct (Tryz.prog.fieldsOf 153)) := by kernel_rfl
  have hp153 : Tryz.prog.stoodInHeld 153 = false := by kernel_rfl
  have hS101 : Tryz.prog.underlying 101 = some (.struct (Tryz.prog.fieldsOf 101)) := by kernel_rfl
  have hp101 : Tryz.prog.stoodInHeld 101 = false := by kernel_rfl
  rw [show (10000 : Nat) = 9999 + 1 from rfl, run_equalIn_agg w 9999 153 _ _ hS153 hp153]
  simp only [Program.fieldsOf, Tryz.underlying153, List.map, AV.toV]
  go_simp
  clear hu0 hv0 hu1 hv1 hu2 hv2 hu3 hv3 hu4 hv4 hu5 hv5 hu6 hv6
  repeat' split
  all_goals simp_all [eqL, eqC]
theorem tabOK : TabOK Tryz.prog tt := ⟨⟨by kernel_rfl, by kernel_rfl, fun h => absurd rfl h⟩,
  ⟨by kernel_rfl, by kernel_rfl, fun h => absurd rfl h⟩,
  ⟨by kernel_rfl, by kernel_rfl, fun h => absurd rfl h⟩,
  ⟨by kernel_rfl, by kernel_rfl, fun h => absurd rfl h⟩,
  ⟨by kernel_rfl, by kernel_rfl, fun h => absurd rfl h⟩,
  ⟨by kernel_rfl, by kernel_rfl, fun h => absurd rfl h⟩,
  ⟨by kernel_rfl, by kernel_rfl, fun h => absurd rfl h⟩,
  ⟨by kernel_rfl, by kernel_rfl, fun h => absurd rfl h⟩,
  ⟨by kernel_rfl, by kernel_rfl, fun h => absurd rfl h⟩,
  ⟨by kernel_rfl, by kernel_rfl, fun h => absurd rfl h⟩,
  ⟨by kernel_rfl, by kernel_rfl, fun h => absurd rfl h⟩,
  ⟨by kernel_rfl, by kernel_rfl, fun h => absurd rfl h⟩,
  ⟨by kernel_rfl, by kernel_rfl, fun h => absurd rfl h⟩,
  ⟨by kernel_rfl, by kernel_rfl, fun h => absurd rfl h⟩,
  ⟨by kernel_rfl, by kernel_rfl, fun h => absurd rfl h⟩,
  ⟨by kernel_rfl, by kernel_rfl, fun h => absurd rfl h⟩,
  ⟨by kernel_rfl, by kernel_rfl, fun h => absurd rfl h⟩,
  ⟨by kernel_rfl, by kernel_rfl, fun h => absurd rfl h⟩,
  ⟨by kernel_rfl, by kernel_rfl, fun h => absurd rfl h⟩,
  ⟨by kernel_rfl, by kernel_rfl, fun h => absurd rfl h⟩,
  ⟨by kernel_rfl, by kernel_rfl, fun h => absurd rfl h⟩,
  ⟨by kernel_rfl, by kernel_rfl, fun h => absurd rfl h⟩,
  ⟨by kernel_rfl, by kernel_rfl, fun h => absurd rfl h⟩,
  ⟨by kernel_rfl, by kernel_rfl, fun h => absurd rfl h⟩,
  ⟨by kernel_rfl, by kernel_rfl, fun h => absurd rfl h⟩,
  ⟨by kernel_rfl, by kernel_rfl, fun h => absurd rfl h⟩,
  ⟨by kernel_rfl, by kernel_rfl, fun h => absurd rfl h⟩,
  ⟨by kernel_rfl, by kernel_rfl, fun h => absurd rfl h⟩,
  ⟨by kernel_rfl, by kernel_rfl, fun h => absurd rfl h⟩,
  ⟨by kernel_rfl, by kernel_rfl, fun h => absurd rfl h⟩,
  ⟨by kernel_rfl, by kernel_rfl, fun h => absurd rfl h⟩,
  ⟨by kernel_rfl, by kernel_rfl, fun h => absurd rfl h⟩,
  ⟨by kernel_rfl, by kernel_rfl, fun h => absurd rfl h⟩,
  ⟨by kernel_rfl, by kernel_rfl, fun _ => eqSpec74⟩,
  ⟨by kernel_rfl, by kernel_rfl, fun h => absurd rfl h⟩,
  ⟨by kernel_rfl, by kernel_rfl, fun h => absurd rfl h⟩,
  ⟨by kernel_rfl, by kernel_rfl, fun h => absurd rfl h⟩,
  ⟨by kernel_rfl, by kernel_rfl, fun h => absurd rfl h⟩,
  ⟨by kernel_rfl, by kernel_rfl, fun h => absurd rfl h⟩,
  ⟨by kernel_rfl, by kernel_rfl, fun h => absurd rfl h⟩,
  ⟨by kernel_rfl, by kernel_rfl, fun h => absurd rfl h⟩,
  ⟨by kernel_rfl, by kernel_rfl, fun h => absurd rfl h⟩,
  ⟨by kernel_rfl, by kernel_rfl, fun h => absurd rfl h⟩,
  ⟨by kernel_rfl, by kernel_rfl, fun h => absurd rfl h⟩,
  ⟨by kernel_rfl, by kernel_rfl, fun h => absurd rfl h⟩,
  ⟨by kernel_rfl, by kernel_rfl, fun h => absurd rfl h⟩,
  ⟨by kernel_rfl, by kernel_rfl, fun h => absurd rfl h⟩,
  ⟨by kernel_rfl, by kernel_rfl, fun h => absurd rfl h⟩,
  ⟨by kernel_rfl, by kernel_rfl, fun h => absurd rfl h⟩,
  ⟨by kernel_rfl, by kernel_rfl, fun h => absurd rfl h⟩,
  ⟨by kernel_rfl, by kernel_rfl, fun h => absurd rfl h⟩,
  ⟨by kernel_rfl, by kernel_rfl, fun h => absurd rfl h⟩,
  ⟨by kernel_rfl, by kernel_rfl, fun h => absurd rfl h⟩,
  ⟨by kernel_rfl, by kernel_rfl, fun h => absurd rfl h⟩,
  ⟨by kernel_rfl, by kernel_rfl, fun h => absurd rfl h⟩,
  ⟨by kernel_rfl, by kernel_rfl, fun h => absurd rfl h⟩,
  ⟨by kernel_rfl, by kernel_rfl, fun h => absurd rfl h⟩,
  ⟨by kernel_rfl, by kernel_rfl, fun h => absurd rfl h⟩,
  ⟨by kernel_rfl, by kernel_rfl, fun _ => eqSpec153⟩,
  ⟨by kernel_rfl, by kernel_rfl, fun h => absurd rfl h⟩,
  ⟨by kernel_rfl, by kernel_rfl, fun h => absurd rfl h⟩,
  ⟨by kernel_rfl, by kernel_rfl, fun h => absurd rfl h⟩,
  ⟨by kernel_rfl, by kernel_rfl, fun h => absurd rfl h⟩,
  ⟨by kernel_rfl, by kernel_rfl, fun h => absurd rfl h⟩,
  ⟨by kernel_rfl, by kernel_rfl, fun h => absurd rfl h⟩,
  ⟨by kernel_rfl, by kernel_rfl, fun h => absurd rfl h⟩,
  ⟨by kernel_rfl, by kernel_rfl, fun h => absurd rfl h⟩,
  ⟨by kernel_rfl, by kernel_rfl, fun h => absurd rfl h⟩,
  ⟨by kernel_rfl, by kernel_rfl, fun h => absurd rfl h⟩,
  ⟨by kernel_rfl, by kernel_rfl, fun h => absurd rfl h⟩,
  ⟨by kernel_rfl, by kernel_rfl, fun h => absurd rfl h⟩,
  ⟨by kernel_rfl, by kernel_rfl, fun h => absurd rfl h⟩,
  ⟨by kernel_rfl, by kernel_rfl, fun h => absurd rfl h⟩,
  ⟨by kernel_rfl, by kernel_rfl, fun h => absurd rfl h⟩,
  ⟨by kernel_rfl, by kernel_rfl, fun h => absurd rfl h⟩,
  ⟨by kernel_rfl, by kernel_rfl, fun h => absurd rfl h⟩,
  ⟨by kernel_rfl, by kernel_rfl, fun h => absurd rfl h⟩,
  ⟨by kernel_rfl, by kernel_rfl, fun h => absurd rfl h⟩,
  ⟨by kernel_rfl, by kernel_rfl, fun h => absurd rfl h⟩,
  ⟨by kernel_rfl, by kernel_rfl, fun h => absurd rfl h⟩,
  ⟨by kernel_rfl, by kernel_rfl, fun h => absurd rfl h⟩,
  ⟨by kernel_rfl, by kernel_rfl, fun h => absurd rfl h⟩,
  ⟨by kernel_rfl, by kernel_rfl, fun h => absurd rfl h⟩,
  ⟨by kernel_rfl, by kernel_rfl, fun h => absurd rfl h⟩,
  ⟨by kernel_rfl, by kernel_rfl, fun h => absurd rfl h⟩,
  ⟨by kernel_rfl, by kernel_rfl, fun h => absurd rfl h⟩,
  ⟨by kernel_rfl, by kernel_rfl, fun h => absurd rfl h⟩,
  ⟨by kernel_rfl, by kernel_rfl, fun h => absurd rfl h⟩,
  ⟨by kernel_rfl, by kernel_rfl, fun h => absurd rfl h⟩,
  ⟨by kernel_rfl, by kernel_rfl, fun h => absurd rfl h⟩,
  ⟨by kernel_rfl, by kernel_rfl, fun h => absurd rfl h⟩,
  ⟨by kernel_rfl, by kernel_rfl, fun h => absurd rfl h⟩,
  ⟨by kernel_rfl, by kernel_rfl, fun h => absurd rfl h⟩,
  ⟨by kernel_rfl, by kernel_rfl, fun h => absurd rfl h⟩,
  ⟨by kernel_rfl, by kernel_rfl, fun h => absurd rfl h⟩,
  ⟨by kernel_rfl, by kernel_rfl, fun h => absurd rfl h⟩,
  ⟨by kernel_rfl, by kernel_rfl, fun h => absurd rfl h⟩,
  ⟨by kernel_rfl, by kernel_rfl, fun h => absurd rfl h⟩,
  ⟨by kernel_rfl, by kernel_rfl, fun h => absurd rfl h⟩,
  ⟨by kernel_rfl, by kernel_rfl, fun h => absurd rfl h⟩,
  ⟨by kernel_rfl, by kernel_rfl, fun h => absurd rfl h⟩,
  ⟨by kernel_rfl, by kernel_rfl, fun h => absurd rfl h⟩,
  ⟨by kernel_rfl, by kernel_rfl, fun h => absurd rfl h⟩,
  ⟨by kernel_rfl, by kernel_rfl, fun h => absurd rfl h⟩,
  ⟨by kernel_rfl, by kernel_rfl, fun h => absurd rfl h⟩,
  ⟨by kernel_rfl, by kernel_rfl, fun h => absurd rfl h⟩,
  ⟨by kernel_rfl, by kernel_rfl, fun h => absurd rfl h⟩,
  ⟨by kernel_rfl, by kernel_rfl, fun h => absurd rfl h⟩,
  ⟨by kernel_rfl, by kernel_rfl, fun h => absurd rfl h⟩,
  ⟨by kernel_rfl, by kernel_rfl, fun h => absurd rfl h⟩,
  ⟨by kernel_rfl, by kernel_rfl, fun h => absurd rfl h⟩,
  ⟨by kernel_rfl, by kernel_rfl, fun h => absurd rfl h⟩,
  ⟨by kernel_rfl, by kernel_rfl, fun h => absurd rfl h⟩,
  ⟨by kernel_rfl, by kernel_rfl, fun h => absurd rfl h⟩,
  ⟨by kernel_rfl, by kernel_rfl, fun h => absurd rfl h⟩,
  ⟨by kernel_rfl, by kernel_rfl, fun h => absurd rfl h⟩,
  ⟨by kernel_rfl, by kernel_rfl, fun h => absurd rfl h⟩,
  ⟨by kernel_rfl, by kernel_rfl, fun h => absurd rfl h⟩,
  ⟨by kernel_rfl, by kernel_rfl, fun h => absurd rfl h⟩,
  ⟨by kernel_rfl, by kernel_rfl, fun h => absurd rfl h⟩,
  ⟨by kernel_rfl, by kernel_rfl, fun h => absurd rfl h⟩,
  ⟨by kernel_rfl, by kernel_rfl, fun h => absurd rfl h⟩,
  ⟨by kernel_rfl, by kernel_rfl, fun h => absurd rfl h⟩,
  ⟨by kernel_rfl, by kernel_rfl, fun h => absurd rfl h⟩,
  ⟨by kernel_rfl, by kernel_rfl, fun h => absurd rfl h⟩, trivial⟩
theorem mixed : Tryz.prog.follows .mixedOrders = true := by kernel_rfl
def body (f : Func) : Code := match f.body with | some c => c | none => .skip
/-- slices.Clone[[]archivum/api.Shelf,archivum/api.Shelf] -/
theorem mk7 {args : List AV} {r : AV} (hn : Nat.ble args.length 8 = true) (h : ev Tryz.prog tt 8 [0, 2, 4] (body Tryz.f7) ⟨idx 0 args, []⟩ (retQ tt [.tmp 2] r)) : Fn Tryz.prog 7 args r :=
  fn_of [.tmp 2] tabOK tabOne mixed Tryz.func7 rfl (by kernel_rfl) (by kernel_rfl) hn rfl rfl h
/-- archivum/relocate.Plan -/
theorem mk9 {args : List AV} {r : AV} (hn : Nat.ble args.length 46 = true) (h : ev Tryz.prog tt 46 [0, 1, 2, 3, 8, 9, 10, 11, 12, 13, 14, 20, 27, 43] (body Tryz.f9) ⟨idx 0 args, []⟩ (retQ tt [.tmp 8, .tmp 9] r)) : Fn Tryz.prog 9 args r :=
  fn_of [.tmp 8, .tmp 9] tabOK tabOne mixed Tryz.func9 rfl (by kernel_rfl) (by kernel_rfl) hn rfl rfl h
/-- slices.Clone[[]int,int] -/
theorem mk10 {args : List AV} {r : AV} (hn : Nat.ble args.length 8 = true) (h : ev Tryz.prog tt 8 [0, 2, 4] (body Tryz.f10) ⟨idx 0 args, []⟩ (retQ tt [.tmp 2] r)) : Fn Tryz.prog 10 args r :=
  fn_of [.tmp 2] tabOK tabOne mixed Tryz.func10 rfl (by kernel_rfl) (by kernel_rfl) hn rfl rfl h
/-- archivum/policy.Decide -/
theorem mk17 {args : List AV} {r : AV} (hn : Nat.ble args.length 29 = true) (h : ev Tryz.prog tt 29 [0, 1, 2, 3, 4, 6, 10, 11, 12, 20] (body Tryz.f17) ⟨idx 0 args, []⟩ (retQ tt [.cell 10 79, .tmp 11] r)) : Fn Tryz.prog 17 args r :=
  fn_of [.cell 10 79, .tmp 11] tabOK tabOne mixed Tryz.func17 rfl (by kernel_rfl) (by kernel_rfl) hn rfl rfl h
/-- archivum/pack.Least -/
theorem mk18 {args : List AV} {r : AV} (hn : Nat.ble args.length 24 = true) (h : ev Tryz.prog tt 24 [0, 1, 4, 5, 6, 7, 15] (body Tryz.f18) ⟨idx 0 args, []⟩ (retQ tt [.tmp 4, .tmp 5] r)) : Fn Tryz.prog 18 args r :=
  fn_of [.tmp 4, .tmp 5] tabOK tabOne mixed Tryz.func18 rfl (by kernel_rfl) (by kernel_rfl) hn rfl rfl h
/-- archivum/service.in -/
theorem mk21 {args : List AV} {r : AV} (hn : Nat.ble args.length 15 = true) (h : ev Tryz.prog tt 15 [0, 1, 2, 6] (body Tryz.f21) ⟨idx 0 args, []⟩ (retQ tt [.tmp 6] r)) : Fn Tryz.prog 21 args r :=
  fn_of [.tmp 6] tabOK tabOne mixed Tryz.func21 rfl (by kernel_rfl) (by kernel_rfl) hn rfl rfl h
/-- slices.Clone[[]archivum/api.Box,archivum/api.Box] -/
theorem mk22 {args : List AV} {r : AV} (hn : Nat.ble args.length 8 = true) (h : ev Tryz.prog tt 8 [0, 2, 4] (body Tryz.f22) ⟨idx 0 args, []⟩ (retQ tt [.tmp 2] r)) : Fn Tryz.prog 22 args r :=
  fn_of [.tmp 2] tabOK tabOne mixed Tryz.func22 rfl (by kernel_rfl) (by kernel_rfl) hn rfl rfl h
/-- archivum/relocate.Possible -/
theorem mk23 {args : List AV} {r : AV} (hn : Nat.ble args.length 21 = true) (h : ev Tryz.prog tt 21 [0, 1, 2, 6, 7, 8, 16] (body Tryz.f23) ⟨idx 0 args, []⟩ (retQ tt [.tmp 6] r)) : Fn Tryz.prog 23 args r :=
  fn_of [.tmp 6] tabOK tabOne mixed Tryz.func23 rfl (by kernel_rfl) (by kernel_rfl) hn rfl rfl h
/-- archivum/service.right -/
theorem mk26 {args : List AV} {r : AV} (hn : Nat.ble args.length 17 = true) (h : ev Tryz.prog tt 17 [0, 1, 2] (body Tryz.f26) ⟨idx 0 args, []⟩ (retQ tt [.tmp 2] r)) : Fn Tryz.prog 26 args r :=
  fn_of [.tmp 2] tabOK tabOne mixed Tryz.func26 rfl (by kernel_rfl) (by kernel_rfl) hn rfl rfl h
/-- archivum/custody.id -/
theorem mk34 {args : List AV} {r : AV} (hn : Nat.ble args.length 9 = true) (h : ev Tryz.prog tt 9 [0, 2] (body Tryz.f34) ⟨idx 0 args, []⟩ (retQ tt [.tmp 2] r)) : Fn Tryz.prog 34 args r :=
  fn_of [.tmp 2] tabOK tabOne mixed Tryz.func34 rfl (by kernel_rfl) (by kernel_rfl) hn rfl rfl h
/-- archivum/custody.isDay -/
theorem mk35 {args : List AV} {r : AV} (hn : Nat.ble args.length 9 = true) (h : ev Tryz.prog tt 9 [0, 2] (body Tryz.f35) ⟨idx 0 args, []⟩ (retQ tt [.tmp 2] r)) : Fn Tryz.prog 35 args r :=
  fn_of [.tmp 2] tabOK tabOne mixed Tryz.func35 rfl (by kernel_rfl) (by kernel_rfl) hn rfl rfl h
/-- archivum/policy.asked -/
theorem mk37 {args : List AV} {r : AV} (hn : Nat.ble args.length 37 = true) (h : ev Tryz.prog tt 37 [0, 1, 2, 3, 4, 6, 10, 11, 20, 32] (body Tryz.f37) ⟨idx 0 args, []⟩ (retQ tt [.tmp 10] r)) : Fn Tryz.prog 37 args r :=
  fn_of [.tmp 10] tabOK tabOne mixed Tryz.func37 rfl (by kernel_rfl) (by kernel_rfl) hn rfl rfl h
/-- archivum/policy.decide -/
theorem mk38 {args : List AV} {r : AV} (hn : Nat.ble args.length 76 = true) (h : ev Tryz.prog tt 76 [0, 1, 2, 3, 4, 6, 10, 11, 12, 14, 15, 16, 28, 29, 30, 31, 58] (body Tryz.f38) ⟨idx 0 args, []⟩ (retQ tt [.cell 10 79] r)) : Fn Tryz.prog 38 args r :=
  fn_of [.cell 10 79] tabOK tabOne mixed Tryz.func38 rfl (by kernel_rfl) (by kernel_rfl) hn rfl rfl h
/-- archivum/pack.Table -/
theorem mk39 {args : List AV} {r : AV} (hn : Nat.ble args.length 16 = true) (h : ev Tryz.prog tt 16 [0, 1, 4, 5, 6, 11] (body Tryz.f39) ⟨idx 0 args, []⟩ (retQ tt [.tmp 4, .tmp 5] r)) : Fn Tryz.prog 39 args r :=
  fn_of [.tmp 4, .tmp 5] tabOK tabOne mixed Tryz.func39 rfl (by kernel_rfl) (by kernel_rfl) hn rfl rfl h
/-- archivum/relocate.open -/
theorem mk41 {args : List AV} {r : AV} (hn : Nat.ble args.length 31 = true) (h : ev Tryz.prog tt 31 [0, 1, 4, 5, 6, 14, 17, 18, 19, 25] (body Tryz.f41) ⟨idx 0 args, []⟩ (retQ tt [.cell 4 89, .tmp 5] r)) : Fn Tryz.prog 41 args r :=
  fn_of [.cell 4 89, .tmp 5] tabOK tabOne mixed Tryz.func41 rfl (by kernel_rfl) (by kernel_rfl) hn rfl rfl h
/-- (archivum/relocate.house).check -/
theorem mk42 {args : List AV} {r : AV} (hn : Nat.ble args.length 81 = true) (h : ev Tryz.prog tt 81 [0, 1, 2, 4, 6, 7, 8, 9, 10, 16, 17, 18, 19, 20, 26, 32, 33, 34, 35, 79] (body Tryz.f42) ⟨idx 0 args, []⟩ (retQ tt [.tmp 4] r)) : Fn Tryz.prog 42 args r :=
  fn_of [.tmp 4] tabOK tabOne mixed Tryz.func42 rfl (by kernel_rfl) (by kernel_rfl) hn rfl rfl h
/-- archivum/relocate.carried -/
theorem mk44 {args : List AV} {r : AV} (hn : Nat.ble args.length 15 = true) (h : ev Tryz.prog tt 15 [0, 1, 2, 6, 7] (body Tryz.f44) ⟨idx 0 args, []⟩ (retQ tt [.tmp 6] r)) : Fn Tryz.prog 44 args r :=
  fn_of [.tmp 6] tabOK tabOne mixed Tryz.func44 rfl (by kernel_rfl) (by kernel_rfl) hn rfl rfl h
/-- (archivum/relocate.house).index -/
theorem mk45 {args : List AV} {r : AV} (hn : Nat.ble args.length 9 = true) (h : ev Tryz.prog tt 9 [0, 1, 2, 3, 4] (body Tryz.f45) ⟨idx 0 args, []⟩ (retQ tt [.tmp 4] r)) : Fn Tryz.prog 45 args r :=
  fn_of [.tmp 4] tabOK tabOne mixed Tryz.func45 rfl (by kernel_rfl) (by kernel_rfl) hn rfl rfl h
/-- slices.Clone[[]archivum/api.Carry,archivum/api.Carry] -/
theorem mk46 {args : List AV} {r : AV} (hn : Nat.ble args.length 8 = true) (h : ev Tryz.prog tt 8 [0, 2, 4] (body Tryz.f46) ⟨idx 0 args, []⟩ (retQ tt [.tmp 2] r)) : Fn Tryz.prog 46 args r :=
  fn_of [.tmp 2] tabOK tabOne mixed Tryz.func46 rfl (by kernel_rfl) (by kernel_rfl) hn rfl rfl h
/-- (archivum/relocate.house).shelf -/
theorem mk47 {args : List AV} {r : AV} (hn : Nat.ble args.length 9 = true) (h : ev Tryz.prog tt 9 [0, 1, 2, 3, 4] (body Tryz.f47) ⟨idx 0 args, []⟩ (retQ tt [.tmp 4] r)) : Fn Tryz.prog 47 args r :=
  fn_of [.tmp 4] tabOK tabOne mixed Tryz.func47 rfl (by kernel_rfl) (by kernel_rfl) hn rfl rfl h
/-- archivum/service.parts -/
theorem mk48 {args : List AV} {r : AV} (hn : Nat.ble args.length 167 = true) (h : ev Tryz.prog tt 167 [0, 1, 2, 4, 5, 6, 7, 8, 9, 10, 31, 32, 33, 34, 38, 41, 42, 43, 44, 66, 69, 70, 71, 72, 101, 104, 105, 106, 107, 144] (body Tryz.f48) ⟨idx 0 args, []⟩ (retQ tt [.tmp 2] r)) : Fn Tryz.prog 48 args r :=
  fn_of [.tmp 2] tabOK tabOne mixed Tryz.func48 rfl (by kernel_rfl) (by kernel_rfl) hn rfl rfl h
/-- archivum/policy.id -/
theorem mk52 {args : List AV} {r : AV} (hn : Nat.ble args.length 9 = true) (h : ev Tryz.prog tt 9 [0, 2] (body Tryz.f52) ⟨idx 0 args, []⟩ (retQ tt [.tmp 2] r)) : Fn Tryz.prog 52 args r :=
  fn_of [.tmp 2] tabOK tabOne mixed Tryz.func52 rfl (by kernel_rfl) (by kernel_rfl) hn rfl rfl h
/-- archivum/policy.find -/
theorem mk53 {args : List AV} {r : AV} (hn : Nat.ble args.length 8 = true) (h : ev Tryz.prog tt 8 [0, 1, 3, 4] (body Tryz.f53) ⟨idx 0 args, []⟩ (retQ tt [.tmp 4] r)) : Fn Tryz.prog 53 args r :=
  fn_of [.tmp 4] tabOK tabOne mixed Tryz.func53 rfl (by kernel_rfl) (by kernel_rfl) hn rfl rfl h
/-- archivum/service.formed -/
theorem mk55 {args : List AV} {r : AV} (hn : Nat.ble args.length 58 = true) (h : ev Tryz.prog tt 58 [0, 1, 2, 3, 4, 5, 6, 43] (body Tryz.f55) ⟨idx 0 args, []⟩ (retQ tt [.cell 2 137, .tmp 3] r)) : Fn Tryz.prog 55 args r :=
  fn_of [.cell 2 137, .tmp 3] tabOK tabOne mixed Tryz.func55 rfl (by kernel_rfl) (by kernel_rfl) hn rfl rfl h
/-- archivum/service.boxIndex -/
theorem mk56 {args : List AV} {r : AV} (hn : Nat.ble args.length 9 = true) (h : ev Tryz.prog tt 9 [0, 1, 2, 3, 4] (body Tryz.f56) ⟨idx 0 args, []⟩ (retQ tt [.tmp 4] r)) : Fn Tryz.prog 56 args r :=
  fn_of [.tmp 4] tabOK tabOne mixed Tryz.func56 rfl (by kernel_rfl) (by kernel_rfl) hn rfl rfl h
/-- archivum/service.place -/
theorem mk57 {args : List AV} {r : AV} (hn : Nat.ble args.length 15 = true) (h : ev Tryz.prog tt 15 [0, 1, 2, 4, 5] (body Tryz.f57) ⟨idx 0 args, []⟩ (retQ tt [.cell 4 74] r)) : Fn Tryz.prog 57 args r :=
  fn_of [.cell 4 74] tabOK tabOne mixed Tryz.func57 rfl (by kernel_rfl) (by kernel_rfl) hn rfl rfl h
/-- slices.Clone[[]archivum/api.Subject,archivum/api.Subject] -/
theorem mk58 {args : List AV} {r : AV} (hn : Nat.ble args.length 8 = true) (h : ev Tryz.prog tt 8 [0, 2, 4] (body Tryz.f58) ⟨idx 0 args, []⟩ (retQ tt [.tmp 2] r)) : Fn Tryz.prog 58 args r :=
  fn_of [.tmp 2] tabOK tabOne mixed Tryz.func58 rfl (by kernel_rfl) (by kernel_rfl) hn rfl rfl h
/-- slices.Clone[[]archivum/api.ClosureRule,archivum/api.ClosureRule] -/
theorem mk59 {args : List AV} {r : AV} (hn : Nat.ble args.length 8 = true) (h : ev Tryz.prog tt 8 [0, 2, 4] (body Tryz.f59) ⟨idx 0 args, []⟩ (retQ tt [.tmp 2] r)) : Fn Tryz.prog 59 args r :=
  fn_of [.tmp 2] tabOK tabOne mixed Tryz.func59 rfl (by kernel_rfl) (by kernel_rfl) hn rfl rfl h
/-- slices.Clone[[]archivum/api.Person,archivum/api.Person] -/
theorem mk60 {args : List AV} {r : AV} (hn : Nat.ble args.length 8 = true) (h : ev Tryz.prog tt 8 [0, 2, 4] (body Tryz.f60) ⟨idx 0 args, []⟩ (retQ tt [.tmp 2] r)) : Fn Tryz.prog 60 args r :=
  fn_of [.tmp 2] tabOK tabOne mixed Tryz.func60 rfl (by kernel_rfl) (by kernel_rfl) hn rfl rfl h
/-- slices.Clone[[]archivum/api.Agreement,archivum/api.Agreement] -/
theorem mk61 {args : List AV} {r : AV} (hn : Nat.ble args.length 8 = true) (h : ev Tryz.prog tt 8 [0, 2, 4] (body Tryz.f61) ⟨idx 0 args, []⟩ (retQ tt [.tmp 2] r)) : Fn Tryz.prog 61 args r :=
  fn_of [.tmp 2] tabOK tabOne mixed Tryz.func61 rfl (by kernel_rfl) (by kernel_rfl) hn rfl rfl h
/-- slices.Clone[[]archivum/api.Permit,archivum/api.Permit] -/
theorem mk62 {args : List AV} {r : AV} (hn : Nat.ble args.length 8 = true) (h : ev Tryz.prog tt 8 [0, 2, 4] (body Tryz.f62) ⟨idx 0 args, []⟩ (retQ tt [.tmp 2] r)) : Fn Tryz.prog 62 args r :=
  fn_of [.tmp 2] tabOK tabOne mixed Tryz.func62 rfl (by kernel_rfl) (by kernel_rfl) hn rfl rfl h
/-- slices.Clone[[]archivum/api.Content,archivum/api.Content] -/
theorem mk63 {args : List AV} {r : AV} (hn : Nat.ble args.length 8 = true) (h : ev Tryz.prog tt 8 [0, 2, 4] (body Tryz.f63) ⟨idx 0 args, []⟩ (retQ tt [.tmp 2] r)) : Fn Tryz.prog 63 args r :=
  fn_of [.tmp 2] tabOK tabOne mixed Tryz.func63 rfl (by kernel_rfl) (by kernel_rfl) hn rfl rfl h
/-- slices.Clone[[]archivum/api.Move,archivum/api.Move] -/
theorem mk64 {args : List AV} {r : AV} (hn : Nat.ble args.length 8 = true) (h : ev Tryz.prog tt 8 [0, 2, 4] (body Tryz.f64) ⟨idx 0 args, []⟩ (retQ tt [.tmp 2] r)) : Fn Tryz.prog 64 args r :=
  fn_of [.tmp 2] tabOK tabOne mixed Tryz.func64 rfl (by kernel_rfl) (by kernel_rfl) hn rfl rfl h
/-- slices.Clone[[]archivum/api.Request,archivum/api.Request] -/
theorem mk65 {args : List AV} {r : AV} (hn : Nat.ble args.length 8 = true) (h : ev Tryz.prog tt 8 [0, 2, 4] (body Tryz.f65) ⟨idx 0 args, []⟩ (retQ tt [.tmp 2] r)) : Fn Tryz.prog 65 args r :=
  fn_of [.tmp 2] tabOK tabOne mixed Tryz.func65 rfl (by kernel_rfl) (by kernel_rfl) hn rfl rfl h
/-- slices.Clone[[]archivum/api.Booking,archivum/api.Booking] -/
theorem mk66 {args : List AV} {r : AV} (hn : Nat.ble args.length 8 = true) (h : ev Tryz.prog tt 8 [0, 2, 4] (body Tryz.f66) ⟨idx 0 args, []⟩ (retQ tt [.tmp 2] r)) : Fn Tryz.prog 66 args r :=
  fn_of [.tmp 2] tabOK tabOne mixed Tryz.func66 rfl (by kernel_rfl) (by kernel_rfl) hn rfl rfl h
/-- slices.Clone[[]archivum/api.Batch,archivum/api.Batch] -/
theorem mk67 {args : List AV} {r : AV} (hn : Nat.ble args.length 8 = true) (h : ev Tryz.prog tt 8 [0, 2, 4] (body Tryz.f67) ⟨idx 0 args, []⟩ (retQ tt [.tmp 2] r)) : Fn Tryz.prog 67 args r :=
  fn_of [.tmp 2] tabOK tabOne mixed Tryz.func67 rfl (by kernel_rfl) (by kernel_rfl) hn rfl rfl h
/-- slices.Clone[[]archivum/api.Link,archivum/api.Link] -/
theorem mk68 {args : List AV} {r : AV} (hn : Nat.ble args.length 8 = true) (h : ev Tryz.prog tt 8 [0, 2, 4] (body Tryz.f68) ⟨idx 0 args, []⟩ (retQ tt [.tmp 2] r)) : Fn Tryz.prog 68 args r :=
  fn_of [.tmp 2] tabOK tabOne mixed Tryz.func68 rfl (by kernel_rfl) (by kernel_rfl) hn rfl rfl h
/-- slices.Clone[[]archivum/api.Shown,archivum/api.Shown] -/
theorem mk69 {args : List AV} {r : AV} (hn : Nat.ble args.length 8 = true) (h : ev Tryz.prog tt 8 [0, 2, 4] (body Tryz.f69) ⟨idx 0 args, []⟩ (retQ tt [.tmp 2] r)) : Fn Tryz.prog 69 args r :=
  fn_of [.tmp 2] tabOK tabOne mixed Tryz.func69 rfl (by kernel_rfl) (by kernel_rfl) hn rfl rfl h
/-- slices.BinarySearchFunc[[]archivum/api.Move,archivum/api.Move,int] -/
theorem mk71 {args : List AV} {r : AV} (hn : Nat.ble args.length 49 = true) (h : ev Tryz.prog tt 49 [0, 1, 2, 6, 7, 8, 9, 10, 11, 17, 31] (body Tryz.f71) ⟨idx 0 args, []⟩ (retQ tt [.tmp 6, .tmp 7] r)) : Fn Tryz.prog 71 args r :=
  fn_of [.tmp 6, .tmp 7] tabOK tabOne mixed Tryz.func71 rfl (by kernel_rfl) (by kernel_rfl) hn rfl rfl h
/-- archivum/custody.on$1 -/
theorem mk72 {args : List AV} {r : AV} (hn : Nat.ble args.length 9 = true) (h : ev Tryz.prog tt 9 [0, 1, 2, 4, 8] (body Tryz.f72) ⟨idx 0 args, []⟩ (retQ tt [.tmp 4] r)) : Fn Tryz.prog 72 args r :=
  fn_of [.tmp 4] tabOK tabOne mixed Tryz.func72 rfl (by kernel_rfl) (by kernel_rfl) hn rfl rfl h
/-- archivum/policy.Check -/
theorem mk73 {args : List AV} {r : AV} (hn : Nat.ble args.length 37 = true) (h : ev Tryz.prog tt 37 [0, 1, 2, 4, 17, 18, 19, 20, 24, 34] (body Tryz.f73) ⟨idx 0 args, []⟩ (retQ tt [.tmp 2] r)) : Fn Tryz.prog 73 args r :=
  fn_of [.tmp 2] tabOK tabOne mixed Tryz.func73 rfl (by kernel_rfl) (by kernel_rfl) hn rfl rfl h
/-- archivum/pack.few -/
theorem mk78 {args : List AV} {r : AV} (hn : Nat.ble args.length 14 = true) (h : ev Tryz.prog tt 14 [0, 1, 4, 5, 10] (body Tryz.f78) ⟨idx 0 args, []⟩ (retQ tt [.tmp 4] r)) : Fn Tryz.prog 78 args r :=
  fn_of [.tmp 4] tabOK tabOne mixed Tryz.func78 rfl (by kernel_rfl) (by kernel_rfl) hn rfl rfl h
/-- archivum/pack.table -/
theorem mk79 {args : List AV} {r : AV} (hn : Nat.ble args.length 81 = true) (h : ev Tryz.prog tt 81 [0, 1, 4, 5, 6, 7, 8, 9, 10, 11, 17, 18, 19, 22, 27, 28, 29, 30, 38, 63] (body Tryz.f79) ⟨idx 0 args, []⟩ (retQ tt [.tmp 4] r)) : Fn Tryz.prog 79 args r :=
  fn_of [.tmp 4] tabOK tabOne mixed Tryz.func79 rfl (by kernel_rfl) (by kernel_rfl) hn rfl rfl h
/-- archivum/shelf.Shelves -/
theorem mk80 {args : List AV} {r : AV} (hn : Nat.ble args.length 53 = true) (h : ev Tryz.prog tt 53 [0, 2, 3, 4, 7, 8, 9, 10, 11, 15, 38] (body Tryz.f80) ⟨idx 0 args, []⟩ (retQ tt [.tmp 2] r)) : Fn Tryz.prog 80 args r :=
  fn_of [.tmp 2] tabOK tabOne mixed Tryz.func80 rfl (by kernel_rfl) (by kernel_rfl) hn rfl rfl h
/-- archivum/box.Check -/
theorem mk81 {args : List AV} {r : AV} (hn : Nat.ble args.length 54 = true) (h : ev Tryz.prog tt 54 [0, 2, 3, 4, 5, 6, 8, 11, 13, 14, 15, 16, 23, 37, 39, 40, 41, 42, 48] (body Tryz.f81) ⟨idx 0 args, []⟩ (retQ tt [.tmp 2] r)) : Fn Tryz.prog 81 args r :=
  fn_of [.tmp 2] tabOK tabOne mixed Tryz.func81 rfl (by kernel_rfl) (by kernel_rfl) hn rfl rfl h
/-- slices.IndexFunc[[]archivum/api.Box,archivum/api.Box] -/
theorem mk82 {args : List AV} {r : AV} (hn : Nat.ble args.length 19 = true) (h : ev Tryz.prog tt 19 [0, 1, 4, 5, 7, 8, 9, 16] (body Tryz.f82) ⟨idx 0 args, []⟩ (retQ tt [.tmp 4] r)) : Fn Tryz.prog 82 args r :=
  fn_of [.tmp 4] tabOK tabOne mixed Tryz.func82 rfl (by kernel_rfl) (by kernel_rfl) hn rfl rfl h
/-- (archivum/relocate.house).index$1 -/
theorem mk83 {args : List AV} {r : AV} (hn : Nat.ble args.length 8 = true) (h : ev Tryz.prog tt 8 [0, 1, 2, 3] (body Tryz.f83) ⟨idx 0 args, []⟩ (retQ tt [.tmp 3] r)) : Fn Tryz.prog 83 args r :=
  fn_of [.tmp 3] tabOK tabOne mixed Tryz.func83 rfl (by kernel_rfl) (by kernel_rfl) hn rfl rfl h
/-- slices.IndexFunc[[]archivum/api.Shelf,archivum/api.Shelf] -/
theorem mk84 {args : List AV} {r : AV} (hn : Nat.ble args.length 19 = true) (h : ev Tryz.prog tt 19 [0, 1, 4, 5, 7, 8, 9, 16] (body Tryz.f84) ⟨idx 0 args, []⟩ (retQ tt [.tmp 4] r)) : Fn Tryz.prog 84 args r :=
  fn_of [.tmp 4] tabOK tabOne mixed Tryz.func84 rfl (by kernel_rfl) (by kernel_rfl) hn rfl rfl h
/-- (archivum/relocate.house).shelf$1 -/
theorem mk85 {args : List AV} {r : AV} (hn : Nat.ble args.length 8 = true) (h : ev Tryz.prog tt 8 [0, 1, 2, 3] (body Tryz.f85) ⟨idx 0 args, []⟩ (retQ tt [.tmp 3] r)) : Fn Tryz.prog 85 args r :=
  fn_of [.tmp 3] tabOK tabOne mixed Tryz.func85 rfl (by kernel_rfl) (by kernel_rfl) hn rfl rfl h
/-- archivum/request.Check -/
theorem mk86 {args : List AV} {r : AV} (hn : Nat.ble args.length 70 = true) (h : ev Tryz.prog tt 70 [0, 2, 3, 4, 7, 8, 9, 10, 11, 15, 19, 44, 56] (body Tryz.f86) ⟨idx 0 args, []⟩ (retQ tt [.tmp 2] r)) : Fn Tryz.prog 86 args r :=
  fn_of [.tmp 2] tabOK tabOne mixed Tryz.func86 rfl (by kernel_rfl) (by kernel_rfl) hn rfl rfl h
/-- archivum/reading.Check -/
theorem mk87 {args : List AV} {r : AV} (hn : Nat.ble args.length 36 = true) (h : ev Tryz.prog tt 36 [0, 1, 4, 5, 6, 7, 8, 15, 19, 20, 21, 22, 33] (body Tryz.f87) ⟨idx 0 args, []⟩ (retQ tt [.tmp 4] r)) : Fn Tryz.prog 87 args r :=
  fn_of [.tmp 4] tabOK tabOne mixed Tryz.func87 rfl (by kernel_rfl) (by kernel_rfl) hn rfl rfl h
/-- archivum/service.moves$1 -/
theorem mk90 {args : List AV} {r : AV} (hn : Nat.ble args.length 14 = true) (h : ev Tryz.prog tt 14 [0, 1, 2, 3] (body Tryz.f90) ⟨idx 0 args, []⟩ (retQ tt [.tmp 3] r)) : Fn Tryz.prog 90 args r :=
  fn_of [.tmp 3] tabOK tabOne mixed Tryz.func90 rfl (by kernel_rfl) (by kernel_rfl) hn rfl rfl h
/-- archivum/service.shelfIndex -/
theorem mk91 {args : List AV} {r : AV} (hn : Nat.ble args.length 9 = true) (h : ev Tryz.prog tt 9 [0, 1, 2, 3, 4] (body Tryz.f91) ⟨idx 0 args, []⟩ (retQ tt [.tmp 4] r)) : Fn Tryz.prog 91 args r :=
  fn_of [.tmp 4] tabOK tabOne mixed Tryz.func91 rfl (by kernel_rfl) (by kernel_rfl) hn rfl rfl h
/-- slices.ContainsFunc[[]archivum/api.Move,archivum/api.Move] -/
theorem mk92 {args : List AV} {r : AV} (hn : Nat.ble args.length 9 = true) (h : ev Tryz.prog tt 9 [0, 1, 4] (body Tryz.f92) ⟨idx 0 args, []⟩ (retQ tt [.tmp 4] r)) : Fn Tryz.prog 92 args r :=
  fn_of [.tmp 4] tabOK tabOne mixed Tryz.func92 rfl (by kernel_rfl) (by kernel_rfl) hn rfl rfl h
/-- archivum/service.moves$2 -/
theorem mk93 {args : List AV} {r : AV} (hn : Nat.ble args.length 31 = true) (h : ev Tryz.prog tt 31 [0, 1, 2, 3, 4] (body Tryz.f93) ⟨idx 0 args, []⟩ (retQ tt [.tmp 4] r)) : Fn Tryz.prog 93 args r :=
  fn_of [.tmp 4] tabOK tabOne mixed Tryz.func93 rfl (by kernel_rfl) (by kernel_rfl) hn rfl rfl h
/-- slices.ContainsFunc[[]archivum/api.Box,archivum/api.Box] -/
theorem mk94 {args : List AV} {r : AV} (hn : Nat.ble args.length 9 = true) (h : ev Tryz.prog tt 9 [0, 1, 4] (body Tryz.f94) ⟨idx 0 args, []⟩ (retQ tt [.tmp 4] r)) : Fn Tryz.prog 94 args r :=
  fn_of [.tmp 4] tabOK tabOne mixed Tryz.func94 rfl (by kernel_rfl) (by kernel_rfl) hn rfl rfl h
/-- archivum/service.lent$1 -/
theorem mk95 {args : List AV} {r : AV} (hn : Nat.ble args.length 22 = true) (h : ev Tryz.prog tt 22 [0, 1, 2, 3, 4, 5] (body Tryz.f95) ⟨idx 0 args, []⟩ (retQ tt [.tmp 4] r)) : Fn Tryz.prog 95 args r :=
  fn_of [.tmp 4] tabOK tabOne mixed Tryz.func95 rfl (by kernel_rfl) (by kernel_rfl) hn rfl rfl h
/-- slices.IndexFunc[[]archivum/api.Row,archivum/api.Row] -/
theorem mk96 {args : List AV} {r : AV} (hn : Nat.ble args.length 19 = true) (h : ev Tryz.prog tt 19 [0, 1, 4, 5, 7, 8, 9, 16] (body Tryz.f96) ⟨idx 0 args, []⟩ (retQ tt [.tmp 4] r)) : Fn Tryz.prog 96 args r :=
  fn_of [.tmp 4] tabOK tabOne mixed Tryz.func96 rfl (by kernel_rfl) (by kernel_rfl) hn rfl rfl h
/-- archivum/policy.find$1 -/
theorem mk97 {args : List AV} {r : AV} (hn : Nat.ble args.length 8 = true) (h : ev Tryz.prog tt 8 [0, 1, 2, 3] (body Tryz.f97) ⟨idx 0 args, []⟩ (retQ tt [.tmp 3] r)) : Fn Tryz.prog 97 args r :=
  fn_of [.tmp 3] tabOK tabOne mixed Tryz.func97 rfl (by kernel_rfl) (by kernel_rfl) hn rfl rfl h
/-- archivum/service.boxIndex$1 -/
theorem mk100 {args : List AV} {r : AV} (hn : Nat.ble args.length 8 = true) (h : ev Tryz.prog tt 8 [0, 1, 2, 3] (body Tryz.f100) ⟨idx 0 args, []⟩ (retQ tt [.tmp 3] r)) : Fn Tryz.prog 100 args r :=
  fn_of [.tmp 3] tabOK tabOne mixed Tryz.func100 rfl (by kernel_rfl) (by kernel_rfl) hn rfl rfl h
/-- archivum/closure.Check -/
theorem mk102 {args : List AV} {r : AV} (hn : Nat.ble args.length 40 = true) (h : ev Tryz.prog tt 40 [0, 2, 3, 4, 7, 8, 9, 10, 11, 15, 19, 33] (body Tryz.f102) ⟨idx 0 args, []⟩ (retQ tt [.tmp 2] r)) : Fn Tryz.prog 102 args r :=
  fn_of [.tmp 2] tabOK tabOne mixed Tryz.func102 rfl (by kernel_rfl) (by kernel_rfl) hn rfl rfl h
/-- archivum/person.Check -/
theorem mk103 {args : List AV} {r : AV} (hn : Nat.ble args.length 35 = true) (h : ev Tryz.prog tt 35 [0, 2, 3, 4, 5, 8, 9, 10, 11, 12, 19, 33] (body Tryz.f103) ⟨idx 0 args, []⟩ (retQ tt [.tmp 2] r)) : Fn Tryz.prog 103 args r :=
  fn_of [.tmp 2] tabOK tabOne mixed Tryz.func103 rfl (by kernel_rfl) (by kernel_rfl) hn rfl rfl h
/-- archivum/agreement.Check -/
theorem mk104 {args : List AV} {r : AV} (hn : Nat.ble args.length 34 = true) (h : ev Tryz.prog tt 34 [0, 2, 3, 4, 7, 8, 9, 10, 11, 15, 19] (body Tryz.f104) ⟨idx 0 args, []⟩ (retQ tt [.tmp 2] r)) : Fn Tryz.prog 104 args r :=
  fn_of [.tmp 2] tabOK tabOne mixed Tryz.func104 rfl (by kernel_rfl) (by kernel_rfl) hn rfl rfl h
/-- archivum/permit.Check -/
theorem mk105 {args : List AV} {r : AV} (hn : Nat.ble args.length 34 = true) (h : ev Tryz.prog tt 34 [0, 2, 3, 4, 7, 8, 9, 10, 11, 15, 19] (body Tryz.f105) ⟨idx 0 args, []⟩ (retQ tt [.tmp 2] r)) : Fn Tryz.prog 105 args r :=
  fn_of [.tmp 2] tabOK tabOne mixed Tryz.func105 rfl (by kernel_rfl) (by kernel_rfl) hn rfl rfl h
/-- archivum/policy.subjects -/
theorem mk106 {args : List AV} {r : AV} (hn : Nat.ble args.length 74 = true) (h : ev Tryz.prog tt 74 [0, 1, 2, 3, 4, 6, 10, 12, 13, 14, 15, 19, 34, 39, 61, 62, 63, 64, 71] (body Tryz.f106) ⟨idx 0 args, []⟩ (retQ tt [.tmp 2] r)) : Fn Tryz.prog 106 args r :=
  fn_of [.tmp 2] tabOK tabOne mixed Tryz.func106 rfl (by kernel_rfl) (by kernel_rfl) hn rfl rfl h
/-- archivum/policy.sources -/
theorem mk107 {args : List AV} {r : AV} (hn : Nat.ble args.length 5 = true) (h : ev Tryz.prog tt 5 [0] (body Tryz.f107) ⟨idx 0 args, []⟩ (retQ tt [.tmp 0] r)) : Fn Tryz.prog 107 args r :=
  fn_of [.tmp 0] tabOK tabOne mixed Tryz.func107 rfl (by kernel_rfl) (by kernel_rfl) hn rfl rfl h
/-- archivum/pack.Check -/
theorem mk113 {args : List AV} {r : AV} (hn : Nat.ble args.length 20 = true) (h : ev Tryz.prog tt 20 [0, 1, 3, 4, 5, 12, 16] (body Tryz.f113) ⟨idx 0 args, []⟩ (retQ tt [.tmp 4] r)) : Fn Tryz.prog 113 args r :=
  fn_of [.tmp 4] tabOK tabOne mixed Tryz.func113 rfl (by kernel_rfl) (by kernel_rfl) hn rfl rfl h
/-- archivum/shelf.in -/
theorem mk114 {args : List AV} {r : AV} (hn : Nat.ble args.length 15 = true) (h : ev Tryz.prog tt 15 [0, 1, 2, 6] (body Tryz.f114) ⟨idx 0 args, []⟩ (retQ tt [.tmp 6] r)) : Fn Tryz.prog 114 args r :=
  fn_of [.tmp 6] tabOK tabOne mixed Tryz.func114 rfl (by kernel_rfl) (by kernel_rfl) hn rfl rfl h
/-- archivum/box.fault -/
theorem mk115 {args : List AV} {r : AV} (hn : Nat.ble args.length 45 = true) (h : ev Tryz.prog tt 45 [0, 1, 2, 3, 33, 38] (body Tryz.f115) ⟨idx 0 args, []⟩ (retQ tt [.tmp 2] r)) : Fn Tryz.prog 115 args r :=
  fn_of [.tmp 2] tabOK tabOne mixed Tryz.func115 rfl (by kernel_rfl) (by kernel_rfl) hn rfl rfl h
/-- archivum/request.formed -/
theorem mk116 {args : List AV} {r : AV} (hn : Nat.ble args.length 60 = true) (h : ev Tryz.prog tt 60 [0, 1, 2] (body Tryz.f116) ⟨idx 0 args, []⟩ (retQ tt [.tmp 2] r)) : Fn Tryz.prog 116 args r :=
  fn_of [.tmp 2] tabOK tabOne mixed Tryz.func116 rfl (by kernel_rfl) (by kernel_rfl) hn rfl rfl h
/-- archivum/request.lent -/
theorem mk117 {args : List AV} {r : AV} (hn : Nat.ble args.length 8 = true) (h : ev Tryz.prog tt 8 [0, 1, 3, 4] (body Tryz.f117) ⟨idx 0 args, []⟩ (retQ tt [.tmp 4] r)) : Fn Tryz.prog 117 args r :=
  fn_of [.tmp 4] tabOK tabOne mixed Tryz.func117 rfl (by kernel_rfl) (by kernel_rfl) hn rfl rfl h
/-- archivum/request.open -/
theorem mk118 {args : List AV} {r : AV} (hn : Nat.ble args.length 11 = true) (h : ev Tryz.prog tt 11 [0, 1, 2] (body Tryz.f118) ⟨idx 0 args, []⟩ (retQ tt [.tmp 2] r)) : Fn Tryz.prog 118 args r :=
  fn_of [.tmp 2] tabOK tabOne mixed Tryz.func118 rfl (by kernel_rfl) (by kernel_rfl) hn rfl rfl h
/-- archivum/request.doubled -/
theorem mk119 {args : List AV} {r : AV} (hn : Nat.ble args.length 10 = true) (h : ev Tryz.prog tt 10 [0, 1, 2, 4, 5, 6] (body Tryz.f119) ⟨idx 0 args, []⟩ (retQ tt [.tmp 6] r)) : Fn Tryz.prog 119 args r :=
  fn_of [.tmp 6] tabOK tabOne mixed Tryz.func119 rfl (by kernel_rfl) (by kernel_rfl) hn rfl rfl h
/-- archivum/reading.fault -/
theorem mk120 {args : List AV} {r : AV} (hn : Nat.ble args.length 53 = true) (h : ev Tryz.prog tt 53 [0, 1, 2, 5, 6, 7, 24, 40, 47] (body Tryz.f120) ⟨idx 0 args, []⟩ (retQ tt [.tmp 6] r)) : Fn Tryz.prog 120 args r :=
  fn_of [.tmp 6] tabOK tabOne mixed Tryz.func120 rfl (by kernel_rfl) (by kernel_rfl) hn rfl rfl h
/-- slices.ContainsFunc[[]int,int] -/
theorem mk123 {args : List AV} {r : AV} (hn : Nat.ble args.length 9 = true) (h : ev Tryz.prog tt 9 [0, 1, 4] (body Tryz.f123) ⟨idx 0 args, []⟩ (retQ tt [.tmp 4] r)) : Fn Tryz.prog 123 args r :=
  fn_of [.tmp 4] tabOK tabOne mixed Tryz.func123 rfl (by kernel_rfl) (by kernel_rfl) hn rfl rfl h
/-- archivum/service.shelfIndex$1 -/
theorem mk129 {args : List AV} {r : AV} (hn : Nat.ble args.length 8 = true) (h : ev Tryz.prog tt 8 [0, 1, 2, 3] (body Tryz.f129) ⟨idx 0 args, []⟩ (retQ tt [.tmp 3] r)) : Fn Tryz.prog 129 args r :=
  fn_of [.tmp 3] tabOK tabOne mixed Tryz.func129 rfl (by kernel_rfl) (by kernel_rfl) hn rfl rfl h
/-- slices.IndexFunc[[]archivum/api.Move,archivum/api.Move] -/
theorem mk130 {args : List AV} {r : AV} (hn : Nat.ble args.length 19 = true) (h : ev Tryz.prog tt 19 [0, 1, 4, 5, 7, 8, 9, 16] (body Tryz.f130) ⟨idx 0 args, []⟩ (retQ tt [.tmp 4] r)) : Fn Tryz.prog 130 args r :=
  fn_of [.tmp 4] tabOK tabOne mixed Tryz.func130 rfl (by kernel_rfl) (by kernel_rfl) hn rfl rfl h
/-- archivum/custody.isPlace -/
theorem mk151 {args : List AV} {r : AV} (hn : Nat.ble args.length 18 = true) (h : ev Tryz.prog tt 18 [0, 1, 2, 4, 5, 12] (body Tryz.f151) ⟨idx 0 args, []⟩ (retQ tt [.tmp 2] r)) : Fn Tryz.prog 151 args r :=
  fn_of [.tmp 2] tabOK tabOne mixed Tryz.func151 rfl (by kernel_rfl) (by kernel_rfl) hn rfl rfl h
/-- archivum/dating.Check -/
theorem mk158 {args : List AV} {r : AV} (hn : Nat.ble args.length 18 = true) (h : ev Tryz.prog tt 18 [0, 1, 2, 17] (body Tryz.f158) ⟨idx 0 args, []⟩ (retQ tt [.tmp 2] r)) : Fn Tryz.prog 158 args r :=
  fn_of [.tmp 2] tabOK tabOne mixed Tryz.func158 rfl (by kernel_rfl) (by kernel_rfl) hn rfl rfl h
/-- archivum/policy.sources$1 -/
theorem mk162 {args : List AV} {r : AV} (hn : Nat.ble args.length 37 = true) (h : ev Tryz.prog tt 37 [0, 1, 2, 3, 4, 6, 7, 9, 10, 34] (body Tryz.f162) ⟨idx 0 args, []⟩ (retQ tt [.tmp 6] r)) : Fn Tryz.prog 162 args r :=
  fn_of [.tmp 6] tabOK tabOne mixed Tryz.func162 rfl (by kernel_rfl) (by kernel_rfl) hn rfl rfl h
/-- archivum/policy.subject -/
theorem mk163 {args : List AV} {r : AV} (hn : Nat.ble args.length 19 = true) (h : ev Tryz.prog tt 19 [0, 1, 2, 3, 4, 5, 6, 12] (body Tryz.f163) ⟨idx 0 args, []⟩ (retQ tt [.cell 4 103, .tmp 5] r)) : Fn Tryz.prog 163 args r :=
  fn_of [.cell 4 103, .tmp 5] tabOK tabOne mixed Tryz.func163 rfl (by kernel_rfl) (by kernel_rfl) hn rfl rfl h
/-- archivum/closure.Closed -/
theorem mk164 {args : List AV} {r : AV} (hn : Nat.ble args.length 40 = true) (h : ev Tryz.prog tt 40 [0, 1, 2, 3, 6, 8, 9, 10, 11, 32] (body Tryz.f164) ⟨idx 0 args, []⟩ (retQ tt [.cell 8 189, .tmp 9] r)) : Fn Tryz.prog 164 args r :=
  fn_of [.cell 8 189, .tmp 9] tabOK tabOne mixed Tryz.func164 rfl (by kernel_rfl) (by kernel_rfl) hn rfl rfl h
/-- archivum/policy.sources$3 -/
theorem mk167 {args : List AV} {r : AV} (hn : Nat.ble args.length 32 = true) (h : ev Tryz.prog tt 32 [0, 1, 2, 3, 4, 6, 7, 9] (body Tryz.f167) ⟨idx 0 args, []⟩ (retQ tt [.tmp 6] r)) : Fn Tryz.prog 167 args r :=
  fn_of [.tmp 6] tabOK tabOne mixed Tryz.func167 rfl (by kernel_rfl) (by kernel_rfl) hn rfl rfl h
/-- archivum/person.Grounds -/
theorem mk168 {args : List AV} {r : AV} (hn : Nat.ble args.length 91 = true) (h : ev Tryz.prog tt 91 [0, 1, 2, 3, 4, 7, 10, 11, 12, 13, 15, 16, 17, 18, 27, 43, 44, 45, 60, 62, 63, 64, 65, 72, 82] (body Tryz.f168) ⟨idx 0 args, []⟩ (retQ tt [.tmp 10, .tmp 11] r)) : Fn Tryz.prog 168 args r :=
  fn_of [.tmp 10, .tmp 11] tabOK tabOne mixed Tryz.func168 rfl (by kernel_rfl) (by kernel_rfl) hn rfl rfl h
/-- archivum/policy.sources$5 -/
theorem mk170 {args : List AV} {r : AV} (hn : Nat.ble args.length 16 = true) (h : ev Tryz.prog tt 16 [0, 1, 2, 3, 4, 6, 9] (body Tryz.f170) ⟨idx 0 args, []⟩ (retQ tt [.tmp 6] r)) : Fn Tryz.prog 170 args r :=
  fn_of [.tmp 6] tabOK tabOne mixed Tryz.func170 rfl (by kernel_rfl) (by kernel_rfl) hn rfl rfl h
/-- archivum/pack.Check$1 -/
theorem mk177 {args : List AV} {r : AV} (hn : Nat.ble args.length 11 = true) (h : ev Tryz.prog tt 11 [0, 1, 3] (body Tryz.f177) ⟨idx 0 args, []⟩ (retQ tt [.tmp 3] r)) : Fn Tryz.prog 177 args r :=
  fn_of [.tmp 3] tabOK tabOne mixed Tryz.func177 rfl (by kernel_rfl) (by kernel_rfl) hn rfl rfl h
/-- archivum/box.in -/
theorem mk178 {args : List AV} {r : AV} (hn : Nat.ble args.length 15 = true) (h : ev Tryz.prog tt 15 [0, 1, 2, 6] (body Tryz.f178) ⟨idx 0 args, []⟩ (retQ tt [.tmp 6] r)) : Fn Tryz.prog 178 args r :=
  fn_of [.tmp 6] tabOK tabOne mixed Tryz.func178 rfl (by kernel_rfl) (by kernel_rfl) hn rfl rfl h
/-- slices.ContainsFunc[[]archivum/api.Content,archivum/api.Content] -/
theorem mk179 {args : List AV} {r : AV} (hn : Nat.ble args.length 9 = true) (h : ev Tryz.prog tt 9 [0, 1, 4] (body Tryz.f179) ⟨idx 0 args, []⟩ (retQ tt [.tmp 4] r)) : Fn Tryz.prog 179 args r :=
  fn_of [.tmp 4] tabOK tabOne mixed Tryz.func179 rfl (by kernel_rfl) (by kernel_rfl) hn rfl rfl h
/-- archivum/box.fault$1 -/
theorem mk180 {args : List AV} {r : AV} (hn : Nat.ble args.length 6 = true) (h : ev Tryz.prog tt 6 [0, 1, 2] (body Tryz.f180) ⟨idx 0 args, []⟩ (retQ tt [.tmp 2] r)) : Fn Tryz.prog 180 args r :=
  fn_of [.tmp 2] tabOK tabOne mixed Tryz.func180 rfl (by kernel_rfl) (by kernel_rfl) hn rfl rfl h
/-- archivum/box.isContent -/
theorem mk181 {args : List AV} {r : AV} (hn : Nat.ble args.length 11 = true) (h : ev Tryz.prog tt 11 [0, 1, 2] (body Tryz.f181) ⟨idx 0 args, []⟩ (retQ tt [.tmp 2] r)) : Fn Tryz.prog 181 args r :=
  fn_of [.tmp 2] tabOK tabOne mixed Tryz.func181 rfl (by kernel_rfl) (by kernel_rfl) hn rfl rfl h
/-- archivum/box.thick -/
theorem mk182 {args : List AV} {r : AV} (hn : Nat.ble args.length 18 = true) (h : ev Tryz.prog tt 18 [0, 2, 3, 5, 6, 7, 8, 9] (body Tryz.f182) ⟨idx 0 args, []⟩ (retQ tt [.tmp 2] r)) : Fn Tryz.prog 182 args r :=
  fn_of [.tmp 2] tabOK tabOne mixed Tryz.func182 rfl (by kernel_rfl) (by kernel_rfl) hn rfl rfl h
/-- archivum/request.id -/
theorem mk183 {args : List AV} {r : AV} (hn : Nat.ble args.length 9 = true) (h : ev Tryz.prog tt 9 [0, 2] (body Tryz.f183) ⟨idx 0 args, []⟩ (retQ tt [.tmp 2] r)) : Fn Tryz.prog 183 args r :=
  fn_of [.tmp 2] tabOK tabOne mixed Tryz.func183 rfl (by kernel_rfl) (by kernel_rfl) hn rfl rfl h
/-- archivum/request.isDay -/
theorem mk184 {args : List AV} {r : AV} (hn : Nat.ble args.length 9 = true) (h : ev Tryz.prog tt 9 [0, 2] (body Tryz.f184) ⟨idx 0 args, []⟩ (retQ tt [.tmp 2] r)) : Fn Tryz.prog 184 args r :=
  fn_of [.tmp 2] tabOK tabOne mixed Tryz.func184 rfl (by kernel_rfl) (by kernel_rfl) hn rfl rfl h
/-- slices.ContainsFunc[[]archivum/api.Request,archivum/api.Request] -/
theorem mk185 {args : List AV} {r : AV} (hn : Nat.ble args.length 9 = true) (h : ev Tryz.prog tt 9 [0, 1, 4] (body Tryz.f185) ⟨idx 0 args, []⟩ (retQ tt [.tmp 4] r)) : Fn Tryz.prog 185 args r :=
  fn_of [.tmp 4] tabOK tabOne mixed Tryz.func185 rfl (by kernel_rfl) (by kernel_rfl) hn rfl rfl h
/-- archivum/request.lent$1 -/
theorem mk186 {args : List AV} {r : AV} (hn : Nat.ble args.length 13 = true) (h : ev Tryz.prog tt 13 [0, 1, 2, 3] (body Tryz.f186) ⟨idx 0 args, []⟩ (retQ tt [.tmp 3] r)) : Fn Tryz.prog 186 args r :=
  fn_of [.tmp 3] tabOK tabOne mixed Tryz.func186 rfl (by kernel_rfl) (by kernel_rfl) hn rfl rfl h
/-- archivum/request.doubled$1 -/
theorem mk187 {args : List AV} {r : AV} (hn : Nat.ble args.length 19 = true) (h : ev Tryz.prog tt 19 [0, 1, 2, 3, 4] (body Tryz.f187) ⟨idx 0 args, []⟩ (retQ tt [.tmp 4] r)) : Fn Tryz.prog 187 args r :=
  fn_of [.tmp 4] tabOK tabOne mixed Tryz.func187 rfl (by kernel_rfl) (by kernel_rfl) hn rfl rfl h
/-- archivum/reading.id -/
theorem mk188 {args : List AV} {r : AV} (hn : Nat.ble args.length 9 = true) (h : ev Tryz.prog tt 9 [0, 2] (body Tryz.f188) ⟨idx 0 args, []⟩ (retQ tt [.tmp 2] r)) : Fn Tryz.prog 188 args r :=
  fn_of [.tmp 2] tabOK tabOne mixed Tryz.func188 rfl (by kernel_rfl) (by kernel_rfl) hn rfl rfl h
/-- archivum/reading.isSpan -/
theorem mk189 {args : List AV} {r : AV} (hn : Nat.ble args.length 18 = true) (h : ev Tryz.prog tt 18 [0, 1, 2] (body Tryz.f189) ⟨idx 0 args, []⟩ (retQ tt [.tmp 2] r)) : Fn Tryz.prog 189 args r :=
  fn_of [.tmp 2] tabOK tabOne mixed Tryz.func189 rfl (by kernel_rfl) (by kernel_rfl) hn rfl rfl h
/-- archivum/reading.busy -/
theorem mk190 {args : List AV} {r : AV} (hn : Nat.ble args.length 10 = true) (h : ev Tryz.prog tt 10 [0, 1, 2, 4, 5, 6] (body Tryz.f190) ⟨idx 0 args, []⟩ (retQ tt [.tmp 6] r)) : Fn Tryz.prog 190 args r :=
  fn_of [.tmp 6] tabOK tabOne mixed Tryz.func190 rfl (by kernel_rfl) (by kernel_rfl) hn rfl rfl h
/-- archivum/reading.full -/
theorem mk191 {args : List AV} {r : AV} (hn : Nat.ble args.length 12 = true) (h : ev Tryz.prog tt 12 [0, 1, 2, 3, 4, 5, 6] (body Tryz.f191) ⟨idx 0 args, []⟩ (retQ tt [.tmp 6] r)) : Fn Tryz.prog 191 args r :=
  fn_of [.tmp 6] tabOK tabOne mixed Tryz.func191 rfl (by kernel_rfl) (by kernel_rfl) hn rfl rfl h
/-- slices.IndexFunc[[]int,int] -/
theorem mk192 {args : List AV} {r : AV} (hn : Nat.ble args.length 19 = true) (h : ev Tryz.prog tt 19 [0, 1, 4, 5, 7, 8, 9, 16] (body Tryz.f192) ⟨idx 0 args, []⟩ (retQ tt [.tmp 4] r)) : Fn Tryz.prog 192 args r :=
  fn_of [.tmp 4] tabOK tabOne mixed Tryz.func192 rfl (by kernel_rfl) (by kernel_rfl) hn rfl rfl h
/-- slices.Sort[[]int,int] -/
theorem mk203 {args : List AV} {r : AV} (hn : Nat.ble args.length 11 = true) (h : ev Tryz.prog tt 11 [0, 2] (body Tryz.f203) ⟨idx 0 args, []⟩ (retQ tt [] r)) : Fn Tryz.prog 203 args r :=
  fn_of [] tabOK tabOne mixed Tryz.func203 rfl (by kernel_rfl) (by kernel_rfl) hn rfl rfl h
/-- (*archivum/service.desk).early -/
theorem mk204 {args : List AV} {r : AV} (hn : Nat.ble args.length 12 = true) (h : ev Tryz.prog tt 12 [0, 1, 4] (body Tryz.f204) ⟨idx 0 args, []⟩ (retQ tt [.tmp 4] r)) : Fn Tryz.prog 204 args r :=
  fn_of [.tmp 4] tabOK tabOne mixed Tryz.func204 rfl (by kernel_rfl) (by kernel_rfl) hn rfl rfl h
/-- (*archivum/service.desk).away -/
theorem mk219 {args : List AV} {r : AV} (hn : Nat.ble args.length 13 = true) (h : ev Tryz.prog tt 13 [0, 1, 4] (body Tryz.f219) ⟨idx 0 args, []⟩ (retQ tt [.tmp 4] r)) : Fn Tryz.prog 219 args r :=
  fn_of [.tmp 4] tabOK tabOne mixed Tryz.func219 rfl (by kernel_rfl) (by kernel_rfl) hn rfl rfl h
/-- archivum/box.Put -/
theorem mk220 {args : List AV} {r : AV} (hn : Nat.ble args.length 79 = true) (h : ev Tryz.prog tt 79 [0, 1, 2, 3, 7, 8, 9, 10, 11, 13, 14, 17, 22, 34, 46, 49, 54] (body Tryz.f220) ⟨idx 0 args, []⟩ (retQ tt [.tmp 8, .tmp 9] r)) : Fn Tryz.prog 220 args r :=
  fn_of [.tmp 8, .tmp 9] tabOK tabOne mixed Tryz.func220 rfl (by kernel_rfl) (by kernel_rfl) hn rfl rfl h
/-- archivum/box.Where -/
theorem mk221 {args : List AV} {r : AV} (hn : Nat.ble args.length 28 = true) (h : ev Tryz.prog tt 28 [0, 1, 4, 5, 6, 7, 8, 21] (body Tryz.f221) ⟨idx 0 args, []⟩ (retQ tt [.tmp 4, .tmp 5, .tmp 6] r)) : Fn Tryz.prog 221 args r :=
  fn_of [.tmp 4, .tmp 5, .tmp 6] tabOK tabOne mixed Tryz.func221 rfl (by kernel_rfl) (by kernel_rfl) hn rfl rfl h
/-- (*archivum/service.desk).holds -/
theorem mk224 {args : List AV} {r : AV} (hn : Nat.ble args.length 54 = true) (h : ev Tryz.prog tt 54 [0, 1, 2, 4, 5, 6, 7, 9, 14, 21, 22, 23, 24, 44, 53] (body Tryz.f224) ⟨idx 0 args, []⟩ (retQ tt [.tmp 6] r)) : Fn Tryz.prog 224 args r :=
  fn_of [.tmp 6] tabOK tabOne mixed Tryz.func224 rfl (by kernel_rfl) (by kernel_rfl) hn rfl rfl h
/-- (*archivum/service.desk).access -/
theorem mk226 {args : List AV} {r : AV} (hn : Nat.ble args.length 35 = true) (h : ev Tryz.prog tt 35 [0, 1, 2, 6, 7, 8] (body Tryz.f226) ⟨idx 0 args, []⟩ (retQ tt [.tmp 6] r)) : Fn Tryz.prog 226 args r :=
  fn_of [.tmp 6] tabOK tabOne mixed Tryz.func226 rfl (by kernel_rfl) (by kernel_rfl) hn rfl rfl h
/-- archivum/request.Place -/
theorem mk227 {args : List AV} {r : AV} (hn : Nat.ble args.length 86 = true) (h : ev Tryz.prog tt 86 [0, 1, 3, 4, 5, 6, 9, 13, 42, 67, 74] (body Tryz.f227) ⟨idx 0 args, []⟩ (retQ tt [.tmp 4, .tmp 5] r)) : Fn Tryz.prog 227 args r :=
  fn_of [.tmp 4, .tmp 5] tabOK tabOne mixed Tryz.func227 rfl (by kernel_rfl) (by kernel_rfl) hn rfl rfl h
/-- (*archivum/service.desk).find -/
theorem mk229 {args : List AV} {r : AV} (hn : Nat.ble args.length 25 = true) (h : ev Tryz.prog tt 25 [0, 1, 3, 4, 5, 6, 15] (body Tryz.f229) ⟨idx 0 args, []⟩ (retQ tt [.cell 4 168, .tmp 5] r)) : Fn Tryz.prog 229 args r :=
  fn_of [.cell 4 168, .tmp 5] tabOK tabOne mixed Tryz.func229 rfl (by kernel_rfl) (by kernel_rfl) hn rfl rfl h
/-- (*archivum/service.desk).lend$1 -/
theorem mk230 {args : List AV} {r : AV} (hn : Nat.ble args.length 24 = true) (h : ev Tryz.prog tt 24 [0, 1, 2, 3, 4] (body Tryz.f230) ⟨idx 0 args, []⟩ (retQ tt [.tmp 4] r)) : Fn Tryz.prog 230 args r :=
  fn_of [.tmp 4] tabOK tabOne mixed Tryz.func230 rfl (by kernel_rfl) (by kernel_rfl) hn rfl rfl h
/-- (*archivum/service.desk).lend$2 -/
theorem mk231 {args : List AV} {r : AV} (hn : Nat.ble args.length 12 = true) (h : ev Tryz.prog tt 12 [0, 1, 2, 3, 4] (body Tryz.f231) ⟨idx 0 args, []⟩ (retQ tt [.tmp 4] r)) : Fn Tryz.prog 231 args r :=
  fn_of [.tmp 4] tabOK tabOne mixed Tryz.func231 rfl (by kernel_rfl) (by kernel_rfl) hn rfl rfl h
/-- slices.ContainsFunc[[]archivum/api.Booking,archivum/api.Booking] -/
theorem mk232 {args : List AV} {r : AV} (hn : Nat.ble args.length 9 = true) (h : ev Tryz.prog tt 9 [0, 1, 4] (body Tryz.f232) ⟨idx 0 args, []⟩ (retQ tt [.tmp 4] r)) : Fn Tryz.prog 232 args r :=
  fn_of [.tmp 4] tabOK tabOne mixed Tryz.func232 rfl (by kernel_rfl) (by kernel_rfl) hn rfl rfl h
/-- archivum/request.Lend -/
theorem mk233 {args : List AV} {r : AV} (hn : Nat.ble args.length 15 = true) (h : ev Tryz.prog tt 15 [0, 1, 2, 6, 7] (body Tryz.f233) ⟨idx 0 args, []⟩ (retQ tt [.tmp 6, .tmp 7] r)) : Fn Tryz.prog 233 args r :=
  fn_of [.tmp 6, .tmp 7] tabOK tabOne mixed Tryz.func233 rfl (by kernel_rfl) (by kernel_rfl) hn rfl rfl h
/-- archivum/reading.Admit -/
theorem mk236 {args : List AV} {r : AV} (hn : Nat.ble args.length 28 = true) (h : ev Tryz.prog tt 28 [0, 1, 2, 5, 6, 7, 8, 12, 15, 21] (body Tryz.f236) ⟨idx 0 args, []⟩ (retQ tt [.tmp 6, .tmp 7] r)) : Fn Tryz.prog 236 args r :=
  fn_of [.tmp 6, .tmp 7] tabOK tabOne mixed Tryz.func236 rfl (by kernel_rfl) (by kernel_rfl) hn rfl rfl h
/-- slices.IndexFunc[[]archivum/api.ClosureRule,archivum/api.ClosureRule] -/
theorem mk247 {args : List AV} {r : AV} (hn : Nat.ble args.length 19 = true) (h : ev Tryz.prog tt 19 [0, 1, 4, 5, 7, 8, 9, 16] (body Tryz.f247) ⟨idx 0 args, []⟩ (retQ tt [.tmp 4] r)) : Fn Tryz.prog 247 args r :=
  fn_of [.tmp 4] tabOK tabOne mixed Tryz.func247 rfl (by kernel_rfl) (by kernel_rfl) hn rfl rfl h
/-- slices.IndexFunc[[]archivum/api.Subject,archivum/api.Subject] -/
theorem mk251 {args : List AV} {r : AV} (hn : Nat.ble args.length 19 = true) (h : ev Tryz.prog tt 19 [0, 1, 4, 5, 7, 8, 9, 16] (body Tryz.f251) ⟨idx 0 args, []⟩ (retQ tt [.tmp 4] r)) : Fn Tryz.prog 251 args r :=
  fn_of [.tmp 4] tabOK tabOne mixed Tryz.func251 rfl (by kernel_rfl) (by kernel_rfl) hn rfl rfl h
/-- archivum/closure.InForce -/
theorem mk253 {args : List AV} {r : AV} (hn : Nat.ble args.length 24 = true) (h : ev Tryz.prog tt 24 [0, 1, 2, 4, 5, 6, 7, 8, 18] (body Tryz.f253) ⟨idx 0 args, []⟩ (retQ tt [.cell 6 150, .tmp 7] r)) : Fn Tryz.prog 253 args r :=
  fn_of [.cell 6 150, .tmp 7] tabOK tabOne mixed Tryz.func253 rfl (by kernel_rfl) (by kernel_rfl) hn rfl rfl h
/-- slices.IndexFunc[[]archivum/api.Content,archivum/api.Content] -/
theorem mk263 {args : List AV} {r : AV} (hn : Nat.ble args.length 19 = true) (h : ev Tryz.prog tt 19 [0, 1, 4, 5, 7, 8, 9, 16] (body Tryz.f263) ⟨idx 0 args, []⟩ (retQ tt [.tmp 4] r)) : Fn Tryz.prog 263 args r :=
  fn_of [.tmp 4] tabOK tabOne mixed Tryz.func263 rfl (by kernel_rfl) (by kernel_rfl) hn rfl rfl h
/-- slices.IndexFunc[[]archivum/api.Request,archivum/api.Request] -/
theorem mk264 {args : List AV} {r : AV} (hn : Nat.ble args.length 19 = true) (h : ev Tryz.prog tt 19 [0, 1, 4, 5, 7, 8, 9, 16] (body Tryz.f264) ⟨idx 0 args, []⟩ (retQ tt [.tmp 4] r)) : Fn Tryz.prog 264 args r :=
  fn_of [.tmp 4] tabOK tabOne mixed Tryz.func264 rfl (by kernel_rfl) (by kernel_rfl) hn rfl rfl h
/-- archivum/reading.starts -/
theorem mk267 {args : List AV} {r : AV} (hn : Nat.ble args.length 47 = true) (h : ev Tryz.prog tt 47 [0, 1, 3, 4, 5, 7, 11, 12, 13, 14, 35] (body Tryz.f267) ⟨idx 0 args, []⟩ (retQ tt [.tmp 4] r)) : Fn Tryz.prog 267 args r :=
  fn_of [.tmp 4] tabOK tabOne mixed Tryz.func267 rfl (by kernel_rfl) (by kernel_rfl) hn rfl rfl h
/-- archivum/reading.full$1 -/
theorem mk268 {args : List AV} {r : AV} (hn : Nat.ble args.length 10 = true) (h : ev Tryz.prog tt 10 [0, 1, 2, 4] (body Tryz.f268) ⟨idx 0 args, []⟩ (retQ tt [.tmp 4] r)) : Fn Tryz.prog 268 args r :=
  fn_of [.tmp 4] tabOK tabOne mixed Tryz.func268 rfl (by kernel_rfl) (by kernel_rfl) hn rfl rfl h
/-- archivum/reading.Load -/
theorem mk269 {args : List AV} {r : AV} (hn : Nat.ble args.length 35 = true) (h : ev Tryz.prog tt 35 [0, 1, 4, 5, 7, 8, 9, 10, 11, 30] (body Tryz.f269) ⟨idx 0 args, []⟩ (retQ tt [.tmp 4] r)) : Fn Tryz.prog 269 args r :=
  fn_of [.tmp 4] tabOK tabOne mixed Tryz.func269 rfl (by kernel_rfl) (by kernel_rfl) hn rfl rfl h
/-- math/bits.Len -/
theorem mk276 {args : List AV} {r : AV} (hn : Nat.ble args.length 8 = true) (h : ev Tryz.prog tt 8 [0, 2] (body Tryz.f276) ⟨idx 0 args, []⟩ (retQ tt [.tmp 2] r)) : Fn Tryz.prog 276 args r :=
  fn_of [.tmp 2] tabOK tabOne mixed Tryz.func276 rfl (by kernel_rfl) (by kernel_rfl) hn rfl rfl h
/-- slices.pdqsortOrdered[int] -/
theorem mk279 {args : List AV} {r : AV} (hn : Nat.ble args.length 134 = true) (h : ev Tryz.prog tt 134 [0, 1, 2, 3, 8, 9, 10, 11, 12, 13, 14, 15, 16, 17, 18, 23, 29, 35, 50, 68, 72, 87, 113] (body Tryz.f279) ⟨idx 0 args, []⟩ (retQ tt [] r)) : Fn Tryz.prog 279 args r :=
  fn_of [] tabOK tabOne mixed Tryz.func279 rfl (by kernel_rfl) (by kernel_rfl) hn rfl rfl h
/-- archivum/box.index -/
theorem mk286 {args : List AV} {r : AV} (hn : Nat.ble args.length 8 = true) (h : ev Tryz.prog tt 8 [0, 1, 3, 4] (body Tryz.f286) ⟨idx 0 args, []⟩ (retQ tt [.tmp 4] r)) : Fn Tryz.prog 286 args r :=
  fn_of [.tmp 4] tabOK tabOne mixed Tryz.func286 rfl (by kernel_rfl) (by kernel_rfl) hn rfl rfl h
/-- archivum/box.where -/
theorem mk287 {args : List AV} {r : AV} (hn : Nat.ble args.length 25 = true) (h : ev Tryz.prog tt 25 [0, 1, 3, 4, 5, 6, 7, 8, 9, 10, 11, 12, 21] (body Tryz.f287) ⟨idx 0 args, []⟩ (retQ tt [.tmp 4, .tmp 5] r)) : Fn Tryz.prog 287 args r :=
  fn_of [.tmp 4, .tmp 5] tabOK tabOne mixed Tryz.func287 rfl (by kernel_rfl) (by kernel_rfl) hn rfl rfl h
/-- archivum/box.clone -/
theorem mk288 {args : List AV} {r : AV} (hn : Nat.ble args.length 24 = true) (h : ev Tryz.prog tt 24 [0, 2, 3, 4, 8, 9, 10] (body Tryz.f288) ⟨idx 0 args, []⟩ (retQ tt [.tmp 2] r)) : Fn Tryz.prog 288 args r :=
  fn_of [.tmp 2] tabOK tabOne mixed Tryz.func288 rfl (by kernel_rfl) (by kernel_rfl) hn rfl rfl h
/-- archivum/box.inserted[archivum/api.Content] -/
theorem mk289 {args : List AV} {r : AV} (hn : Nat.ble args.length 13 = true) (h : ev Tryz.prog tt 13 [0, 1, 2, 5, 6] (body Tryz.f289) ⟨idx 0 args, []⟩ (retQ tt [.tmp 6] r)) : Fn Tryz.prog 289 args r :=
  fn_of [.tmp 6] tabOK tabOne mixed Tryz.func289 rfl (by kernel_rfl) (by kernel_rfl) hn rfl rfl h
/-- (*archivum/service.desk).find$1 -/
theorem mk293 {args : List AV} {r : AV} (hn : Nat.ble args.length 8 = true) (h : ev Tryz.prog tt 8 [0, 1, 2, 3] (body Tryz.f293) ⟨idx 0 args, []⟩ (retQ tt [.tmp 3] r)) : Fn Tryz.prog 293 args r :=
  fn_of [.tmp 3] tabOK tabOne mixed Tryz.func293 rfl (by kernel_rfl) (by kernel_rfl) hn rfl rfl h
/-- slices.IndexFunc[[]archivum/api.Booking,archivum/api.Booking] -/
theorem mk294 {args : List AV} {r : AV} (hn : Nat.ble args.length 19 = true) (h : ev Tryz.prog tt 19 [0, 1, 4, 5, 7, 8, 9, 16] (body Tryz.f294) ⟨idx 0 args, []⟩ (retQ tt [.tmp 4] r)) : Fn Tryz.prog 294 args r :=
  fn_of [.tmp 4] tabOK tabOne mixed Tryz.func294 rfl (by kernel_rfl) (by kernel_rfl) hn rfl rfl h
/-- archivum/request.Lend$1 -/
theorem mk295 {args : List AV} {r : AV} (hn : Nat.ble args.length 14 = true) (h : ev Tryz.prog tt 14 [0, 1, 4] (body Tryz.f295) ⟨idx 0 args, []⟩ (retQ tt [.tmp 4] r)) : Fn Tryz.prog 295 args r :=
  fn_of [.tmp 4] tabOK tabOne mixed Tryz.func295 rfl (by kernel_rfl) (by kernel_rfl) hn rfl rfl h
/-- archivum/request.next -/
theorem mk296 {args : List AV} {r : AV} (hn : Nat.ble args.length 11 = true) (h : ev Tryz.prog tt 11 [0, 1, 3, 4, 7] (body Tryz.f296) ⟨idx 0 args, []⟩ (retQ tt [.tmp 4] r)) : Fn Tryz.prog 296 args r :=
  fn_of [.tmp 4] tabOK tabOne mixed Tryz.func296 rfl (by kernel_rfl) (by kernel_rfl) hn rfl rfl h
/-- (archivum/request.change).make -/
theorem mk297 {args : List AV} {r : AV} (hn : Nat.ble args.length 54 = true) (h : ev Tryz.prog tt 54 [0, 1, 2, 3, 4, 8, 9, 10, 11, 14, 18, 21, 33] (body Tryz.f297) ⟨idx 0 args, []⟩ (retQ tt [.tmp 8, .tmp 9] r)) : Fn Tryz.prog 297 args r :=
  fn_of [.tmp 8, .tmp 9] tabOK tabOne mixed Tryz.func297 rfl (by kernel_rfl) (by kernel_rfl) hn rfl rfl h
/-- slices.Compact[[]int,int] -/
theorem mk317 {args : List AV} {r : AV} (hn : Nat.ble args.length 61 = true) (h : ev Tryz.prog tt 61 [0, 2, 3, 4, 5, 8, 13, 25, 32, 44] (body Tryz.f317) ⟨idx 0 args, []⟩ (retQ tt [.tmp 2] r)) : Fn Tryz.prog 317 args r :=
  fn_of [.tmp 2] tabOK tabOne mixed Tryz.func317 rfl (by kernel_rfl) (by kernel_rfl) hn rfl rfl h
/-- math/bits.Len64 -/
theorem mk330 {args : List AV} {r : AV} (hn : Nat.ble args.length 25 = true) (h : ev Tryz.prog tt 25 [0, 2, 4, 8, 14] (body Tryz.f330) ⟨idx 0 args, []⟩ (retQ tt [.tmp 2] r)) : Fn Tryz.prog 330 args r :=
  fn_of [.tmp 2] tabOK tabOne mixed Tryz.func330 rfl (by kernel_rfl) (by kernel_rfl) hn rfl rfl h
/-- slices.insertionSortOrdered[int] -/
theorem mk331 {args : List AV} {r : AV} (hn : Nat.ble args.length 49 = true) (h : ev Tryz.prog tt 49 [0, 1, 2, 6, 7, 12, 30] (body Tryz.f331) ⟨idx 0 args, []⟩ (retQ tt [] r)) : Fn Tryz.prog 331 args r :=
  fn_of [] tabOK tabOne mixed Tryz.func331 rfl (by kernel_rfl) (by kernel_rfl) hn rfl rfl h
/-- archivum/box.index$1 -/
theorem mk342 {args : List AV} {r : AV} (hn : Nat.ble args.length 8 = true) (h : ev Tryz.prog tt 8 [0, 1, 2, 3] (body Tryz.f342) ⟨idx 0 args, []⟩ (retQ tt [.tmp 3] r)) : Fn Tryz.prog 342 args r :=
  fn_of [.tmp 3] tabOK tabOne mixed Tryz.func342 rfl (by kernel_rfl) (by kernel_rfl) hn rfl rfl h
/-- archivum/box.where$1 -/
theorem mk343 {args : List AV} {r : AV} (hn : Nat.ble args.length 8 = true) (h : ev Tryz.prog tt 8 [0, 1, 2, 3] (body Tryz.f343) ⟨idx 0 args, []⟩ (retQ tt [.tmp 3] r)) : Fn Tryz.prog 343 args r :=
  fn_of [.tmp 3] tabOK tabOne mixed Tryz.func343 rfl (by kernel_rfl) (by kernel_rfl) hn rfl rfl h
/-- archivum/request.next$1 -/
theorem mk346 {args : List AV} {r : AV} (hn : Nat.ble args.length 13 = true) (h : ev Tryz.prog tt 13 [0, 1, 2, 3] (body Tryz.f346) ⟨idx 0 args, []⟩ (retQ tt [.tmp 3] r)) : Fn Tryz.prog 346 args r :=
  fn_of [.tmp 3] tabOK tabOne mixed Tryz.func346 rfl (by kernel_rfl) (by kernel_rfl) hn rfl rfl h
/-- archivum/request.index -/
theorem mk347 {args : List AV} {r : AV} (hn : Nat.ble args.length 8 = true) (h : ev Tryz.prog tt 8 [0, 1, 3, 4] (body Tryz.f347) ⟨idx 0 args, []⟩ (retQ tt [.tmp 4] r)) : Fn Tryz.prog 347 args r :=
  fn_of [.tmp 4] tabOK tabOne mixed Tryz.func347 rfl (by kernel_rfl) (by kernel_rfl) hn rfl rfl h
/-- archivum/request.index$1 -/
theorem mk383 {args : List AV} {r : AV} (hn : Nat.ble args.length 8 = true) (h : ev Tryz.prog tt 8 [0, 1, 2, 3] (body Tryz.f383) ⟨idx 0 args, []⟩ (retQ tt [.tmp 3] r)) : Fn Tryz.prog 383 args r :=
  fn_of [.tmp 3] tabOK tabOne mixed Tryz.func383 rfl (by kernel_rfl) (by kernel_rfl) hn rfl rfl h
theorem mkG3 (gs : List (Nat × List Nat)) (wk : List Nat) {args : List AV} {r : AV} (hn : Nat.ble args.length 225 = true) (h : evG Tryz.prog tt 225 [0, 1, 2, 5, 6, 7, 8, 9, 10, 11, 12, 13, 14, 16, 17, 18, 19, 20, 21, 47, 58, 96, 99, 100, 101, 102, 120, 123, 124, 125, 126, 127, 142, 163, 219, 224] gs wk [] (body Tryz.f3) ⟨idx 0 args, []⟩ (retQW tt [.tmp 6] r)) : Fn Tryz.prog 3 args r :=
  fn_evG [.tmp 6] tabOK tabOne mixed Tryz.func3 rfl (by kernel_rfl) (by kernel_rfl) hn rfl rfl h
theorem mkG4 (gs : List (Nat × List Nat)) (wk : List Nat) {args : List AV} {r : AV} (hn : Nat.ble args.length 90 = true) (h : evG Tryz.prog tt 90 [0, 1, 2, 3, 4, 5, 6, 7, 8, 9, 10, 11, 12] gs wk [] (body Tryz.f4) ⟨idx 0 args, []⟩ (retQW tt [.tmp 0] r)) : Fn Tryz.prog 4 args r :=
  fn_evG [.tmp 0] tabOK tabOne mixed Tryz.func4 rfl (by kernel_rfl) (by kernel_rfl) hn rfl rfl h
theorem mkG5 (gs : List (Nat × List Nat)) (wk : List Nat) {args : List AV} {r : AV} (hn : Nat.ble args.length 19 = true) (h : evG Tryz.prog tt 19 [0, 1, 4, 5, 9] gs wk [] (body Tryz.f5) ⟨idx 0 args, []⟩ (retQW tt [.tmp 4] r)) : Fn Tryz.prog 5 args r :=
  fn_evG [.tmp 4] tabOK tabOne mixed Tryz.func5 rfl (by kernel_rfl) (by kernel_rfl) hn rfl rfl h
theorem mkG6 (gs : List (Nat × List Nat)) (wk : List Nat) {args : List AV} {r : AV} (hn : Nat.ble args.length 19 = true) (h : evG Tryz.prog tt 19 [0, 1, 4, 5, 13] gs wk [] (body Tryz.f6) ⟨idx 0 args, []⟩ (retQW tt [.cell 4 42, .tmp 5] r)) : Fn Tryz.prog 6 args r :=
  fn_evG [.cell 4 42, .tmp 5] tabOK tabOne mixed Tryz.func6 rfl (by kernel_rfl) (by kernel_rfl) hn rfl rfl h
theorem mkG8 (gs : List (Nat × List Nat)) (wk : List Nat) {args : List AV} {r : AV} (hn : Nat.ble args.length 17 = true) (h : evG Tryz.prog tt 17 [0, 2, 3, 7, 8, 9] gs wk [] (body Tryz.f8) ⟨idx 0 args, []⟩ (retQW tt [.tmp 2] r)) : Fn Tryz.prog 8 args r :=
  fn_evG [.tmp 2] tabOK tabOne mixed Tryz.func8 rfl (by kernel_rfl) (by kernel_rfl) hn rfl rfl h
theorem mkG11 (gs : List (Nat × List Nat)) (wk : List Nat) {args : List AV} {r : AV} (hn : Nat.ble args.length 23 = true) (h : evG Tryz.prog tt 23 [0, 1, 2, 3, 5, 6, 7, 15] gs wk [] (body Tryz.f11) ⟨idx 0 args, []⟩ (retQW tt [.cell 6 42, .tmp 7] r)) : Fn Tryz.prog 11 args r :=
  fn_evG [.cell 6 42, .tmp 7] tabOK tabOne mixed Tryz.func11 rfl (by kernel_rfl) (by kernel_rfl) hn rfl rfl h
theorem mkG12 (gs : List (Nat × List Nat)) (wk : List Nat) {args : List AV} {r : AV} (hn : Nat.ble args.length 44 = true) (h : evG Tryz.prog tt 44 [0, 1, 2, 3, 6, 7, 8, 9, 10, 11, 12, 13, 14, 42] gs wk [] (body Tryz.f12) ⟨idx 0 args, []⟩ (retQW tt [.tmp 6] r)) : Fn Tryz.prog 12 args r :=
  fn_evG [.tmp 6] tabOK tabOne mixed Tryz.func12 rfl (by kernel_rfl) (by kernel_rfl) hn rfl rfl h
theorem mkG13 (gs : List (Nat × List Nat)) (wk : List Nat) {args : List AV} {r : AV} (hn : Nat.ble args.length 135 = true) (h : evG Tryz.prog tt 135 [0, 1, 2, 3, 4, 5, 20, 21, 22, 109, 110, 111] gs wk [] (body Tryz.f13) ⟨idx 0 args, []⟩ (retQW tt [.cell 2 42] r)) : Fn Tryz.prog 13 args r :=
  fn_evG [.cell 2 42] tabOK tabOne mixed Tryz.func13 rfl (by kernel_rfl) (by kernel_rfl) hn rfl rfl h
theorem mkG14 (gs : List (Nat × List Nat)) (wk : List Nat) {args : List AV} {r : AV} (hn : Nat.ble args.length 47 = true) (h : evG Tryz.prog tt 47 [0, 1, 2, 3, 6, 7, 8, 9, 10, 11, 12, 13, 21, 25, 26, 27, 28, 40] gs wk [] (body Tryz.f14) ⟨idx 0 args, []⟩ (retQW tt [.cell 6 42, .tmp 7, .tmp 8] r)) : Fn Tryz.prog 14 args r :=
  fn_evG [.cell 6 42, .tmp 7, .tmp 8] tabOK tabOne mixed Tryz.func14 rfl (by kernel_rfl) (by kernel_rfl) hn rfl rfl h
theorem mkG16 (gs : List (Nat × List Nat)) (wk : List Nat) {args : List AV} {r : AV} (hn : Nat.ble args.length 31 = true) (h : evG Tryz.prog tt 31 [0, 1, 2, 6, 7, 8, 13] gs wk [] (body Tryz.f16) ⟨idx 0 args, []⟩ (retQW tt [.cell 6 74, .tmp 7] r)) : Fn Tryz.prog 16 args r :=
  fn_evG [.cell 6 74, .tmp 7] tabOK tabOne mixed Tryz.func16 rfl (by kernel_rfl) (by kernel_rfl) hn rfl rfl h
theorem mkG19 (gs : List (Nat × List Nat)) (wk : List Nat) {args : List AV} {r : AV} (hn : Nat.ble args.length 32 = true) (h : evG Tryz.prog tt 32 [0, 1, 2, 6, 8, 9, 10, 11, 12, 18] gs wk [] (body Tryz.f19) ⟨idx 0 args, []⟩ (retQW tt [.tmp 6] r)) : Fn Tryz.prog 19 args r :=
  fn_evG [.tmp 6] tabOK tabOne mixed Tryz.func19 rfl (by kernel_rfl) (by kernel_rfl) hn rfl rfl h
theorem mkG20 (gs : List (Nat × List Nat)) (wk : List Nat) {args : List AV} {r : AV} (hn : Nat.ble args.length 17 = true) (h : evG Tryz.prog tt 17 [0, 1, 4, 5, 7, 8, 9] gs wk [] (body Tryz.f20) ⟨idx 0 args, []⟩ (retQW tt [.tmp 4] r)) : Fn Tryz.prog 20 args r :=
  fn_evG [.tmp 4] tabOK tabOne mixed Tryz.func20 rfl (by kernel_rfl) (by kernel_rfl) hn rfl rfl h
theorem mkG22 (gs : List (Nat × List Nat)) (wk : List Nat) {args : List AV} {r : AV} (hn : Nat.ble args.length 8 = true) (h : evG Tryz.prog tt 8 [0, 2, 4] gs wk [] (body Tryz.f22) ⟨idx 0 args, []⟩ (retQW tt [.tmp 2] r)) : Fn Tryz.prog 22 args r :=
  fn_evG [.tmp 2] tabOK tabOne mixed Tryz.func22 rfl (by kernel_rfl) (by kernel_rfl) hn rfl rfl h
theorem mkG24 (gs : List (Nat × List Nat)) (wk : List Nat) {args : List AV} {r : AV} (hn : Nat.ble args.length 79 = true) (h : evG Tryz.prog tt 79 [0, 1, 2, 4, 5, 6, 7, 9, 10, 12, 24, 37, 38, 39, 40, 60] gs wk [] (body Tryz.f24) ⟨idx 0 args, []⟩ (retQW tt [.tmp 4] r)) : Fn Tryz.prog 24 args r :=
  fn_evG [.tmp 4] tabOK tabOne mixed Tryz.func24 rfl (by kernel_rfl) (by kernel_rfl) hn rfl rfl h
theorem mkG25 (gs : List (Nat × List Nat)) (wk : List Nat) {args : List AV} {r : AV} (hn : Nat.ble args.length 24 = true) (h : evG Tryz.prog tt 24 [0, 1, 2, 4, 5, 7, 8, 9, 10, 11] gs wk [] (body Tryz.f25) ⟨idx 0 args, []⟩ (retQW tt [.tmp 4] r)) : Fn Tryz.prog 25 args r :=
  fn_evG [.tmp 4] tabOK tabOne mixed Tryz.func25 rfl (by kernel_rfl) (by kernel_rfl) hn rfl rfl h
theorem mkG27 (gs : List (Nat × List Nat)) (wk : List Nat) {args : List AV} {r : AV} (hn : Nat.ble args.length 95 = true) (h : evG Tryz.prog tt 95 [0, 1, 2, 3, 4, 6, 8, 12, 13, 14, 15, 16, 20, 45, 60, 61, 62, 63, 75, 77, 78, 79, 80] gs wk [] (body Tryz.f27) ⟨idx 0 args, []⟩ (retQW tt [.cell 2 43] r)) : Fn Tryz.prog 27 args r :=
  fn_evG [.cell 2 43] tabOK tabOne mixed Tryz.func27 rfl (by kernel_rfl) (by kernel_rfl) hn rfl rfl h
theorem mkG28 (gs : List (Nat × List Nat)) (wk : List Nat) {args : List AV} {r : AV} (hn : Nat.ble args.length 57 = true) (h : evG Tryz.prog tt 57 [0, 1, 2, 3, 5, 6, 7, 8, 9, 10, 11, 17, 21, 28, 44] gs wk [] (body Tryz.f28) ⟨idx 0 args, []⟩ (retQW tt [.cell 6 42, .tmp 7] r)) : Fn Tryz.prog 28 args r :=
  fn_evG [.cell 6 42, .tmp 7] tabOK tabOne mixed Tryz.func28 rfl (by kernel_rfl) (by kernel_rfl) hn rfl rfl h
theorem mkG29 (gs : List (Nat × List Nat)) (wk : List Nat) {args : List AV} {r : AV} (hn : Nat.ble args.length 20 = true) (h : evG Tryz.prog tt 20 [0, 1, 2, 4, 5, 6, 11] gs wk [] (body Tryz.f29) ⟨idx 0 args, []⟩ (retQW tt [.cell 4 74, .tmp 5] r)) : Fn Tryz.prog 29 args r :=
  fn_evG [.cell 4 74, .tmp 5] tabOK tabOne mixed Tryz.func29 rfl (by kernel_rfl) (by kernel_rfl) hn rfl rfl h
theorem mkG30 (gs : List (Nat × List Nat)) (wk : List Nat) {args : List AV} {r : AV} (hn : Nat.ble args.length 26 = true) (h : evG Tryz.prog tt 26 [0, 2, 3, 4, 9, 10, 11] gs wk [] (body Tryz.f30) ⟨idx 0 args, []⟩ (retQW tt [.tmp 2] r)) : Fn Tryz.prog 30 args r :=
  fn_evG [.tmp 2] tabOK tabOne mixed Tryz.func30 rfl (by kernel_rfl) (by kernel_rfl) hn rfl rfl h
theorem mkG32 (gs : List (Nat × List Nat)) (wk : List Nat) {args : List AV} {r : AV} (hn : Nat.ble args.length 156 = true) (h : evG Tryz.prog tt 156 [0, 1, 2, 3, 4, 5, 6, 52, 53, 54, 79, 80, 81, 126, 127, 128] gs wk [] (body Tryz.f32) ⟨idx 0 args, []⟩ (retQW tt [.cell 2 42] r)) : Fn Tryz.prog 32 args r :=
  fn_evG [.cell 2 42] tabOK tabOne mixed Tryz.func32 rfl (by kernel_rfl) (by kernel_rfl) hn rfl rfl h
theorem mkG33 (gs : List (Nat × List Nat)) (wk : List Nat) {args : List AV} {r : AV} (hn : Nat.ble args.length 11 = true) (h : evG Tryz.prog tt 11 [0, 2, 4] gs wk [] (body Tryz.f33) ⟨idx 0 args, []⟩ (retQW tt [.tmp 2] r)) : Fn Tryz.prog 33 args r :=
  fn_evG [.tmp 2] tabOK tabOne mixed Tryz.func33 rfl (by kernel_rfl) (by kernel_rfl) hn rfl rfl h
theorem mkN36 (gs : List (Nat × List Nat)) (wk : List Nat) {args : List AV} {O O1 : List (Nat × OBlk)} {pins : List Nat} {r : AV} (hn : Nat.ble args.length 23 = true) (hp : ∀ b, memN b pins = true → Nat.ble 2 (b % 16) = true ∧ (olk O b).isSome = true) (h : evG Tryz.prog tt 23 [0, 1, 4, 5, 7] gs wk pins (body Tryz.f36) ⟨idx 0 args, O⟩ (retQGW tt pins [.tmp 4] r O1)) : FnG Tryz.prog 36 args O pins O1 r :=
  fnG_evG [.tmp 4] tabOK tabOne mixed Tryz.func36 rfl (by kernel_rfl) (by kernel_rfl) hn rfl rfl hp h
theorem mkG40 (gs : List (Nat × List Nat)) (wk : List Nat) {args : List AV} {r : AV} (hn : Nat.ble args.length 19 = true) (h : evG Tryz.prog tt 19 [0, 2, 4, 5, 6, 7, 8, 14] gs wk [] (body Tryz.f40) ⟨idx 0 args, []⟩ (retQW tt [.tmp 2] r)) : Fn Tryz.prog 40 args r :=
  fn_evG [.tmp 2] tabOK tabOne mixed Tryz.func40 rfl (by kernel_rfl) (by kernel_rfl) hn rfl rfl h
theorem mkG43 (gs : List (Nat × List Nat)) (wk : List Nat) {args : List AV} {r : AV} (hn : Nat.ble args.length 57 = true) (h : evG Tryz.prog tt 57 [0, 1, 2, 4, 5, 6, 7, 9, 11, 12, 13, 14, 19, 20, 21, 22, 41] gs wk [] (body Tryz.f43) ⟨idx 0 args, []⟩ (retQW tt [.tmp 4] r)) : Fn Tryz.prog 43 args r :=
  fn_evG [.tmp 4] tabOK tabOne mixed Tryz.func43 rfl (by kernel_rfl) (by kernel_rfl) hn rfl rfl h
theorem mkG49 (gs : List (Nat × List Nat)) (wk : List Nat) {args : List AV} {r : AV} (hn : Nat.ble args.length 10 = true) (h : evG Tryz.prog tt 10 [0, 1, 2, 3] gs wk [] (body Tryz.f49) ⟨idx 0 args, []⟩ (retQW tt [.tmp 2] r)) : Fn Tryz.prog 49 args r :=
  fn_evG [.tmp 2] tabOK tabOne mixed Tryz.func49 rfl (by kernel_rfl) (by kernel_rfl) hn rfl rfl h
theorem mkG50 (gs : List (Nat × List Nat)) (wk : List Nat) {args : List AV} {r : AV} (hn : Nat.ble args.length 53 = true) (h : evG Tryz.prog tt 53 [0, 1, 2, 3, 5, 6, 7, 10, 11, 12, 13, 22, 51] gs wk [] (body Tryz.f50) ⟨idx 0 args, []⟩ (retQW tt [.tmp 2] r)) : Fn Tryz.prog 50 args r :=
  fn_evG [.tmp 2] tabOK tabOne mixed Tryz.func50 rfl (by kernel_rfl) (by kernel_rfl) hn rfl rfl h
theorem mkG51 (gs : List (Nat × List Nat)) (wk : List Nat) {args : List AV} {r : AV} (hn : Nat.ble args.length 48 = true) (h : evG Tryz.prog tt 48 [0, 1, 2, 3, 5, 6, 7, 10, 11, 12, 13, 20, 23, 31, 33, 42] gs wk [] (body Tryz.f51) ⟨idx 0 args, []⟩ (retQW tt [.tmp 2] r)) : Fn Tryz.prog 51 args r :=
  fn_evG [.tmp 2] tabOK tabOne mixed Tryz.func51 rfl (by kernel_rfl) (by kernel_rfl) hn rfl rfl h
theorem mkG54 (gs : List (Nat × List Nat)) (wk : List Nat) {args : List AV} {r : AV} (hn : Nat.ble args.length 6 = true) (h : evG Tryz.prog tt 6 [0, 1, 2, 3, 4] gs wk [] (body Tryz.f54) ⟨idx 0 args, []⟩ (retQW tt [.tmp 4] r)) : Fn Tryz.prog 54 args r :=
  fn_evG [.tmp 4] tabOK tabOne mixed Tryz.func54 rfl (by kernel_rfl) (by kernel_rfl) hn rfl rfl h
theorem mkG58 (gs : List (Nat × List Nat)) (wk : List Nat) {args : List AV} {r : AV} (hn : Nat.ble args.length 8 = true) (h : evG Tryz.prog tt 8 [0, 2, 4] gs wk [] (body Tryz.f58) ⟨idx 0 args, []⟩ (retQW tt [.tmp 2] r)) : Fn Tryz.prog 58 args r :=
  fn_evG [.tmp 2] tabOK tabOne mixed Tryz.func58 rfl (by kernel_rfl) (by kernel_rfl) hn rfl rfl h
theorem mkG67 (gs : List (Nat × List Nat)) (wk : List Nat) {args : List AV} {r : AV} (hn : Nat.ble args.length 8 = true) (h : evG Tryz.prog tt 8 [0, 2, 4] gs wk [] (body Tryz.f67) ⟨idx 0 args, []⟩ (retQW tt [.tmp 2] r)) : Fn Tryz.prog 67 args r :=
  fn_evG [.tmp 2] tabOK tabOne mixed Tryz.func67 rfl (by kernel_rfl) (by kernel_rfl) hn rfl rfl h
theorem mkN70 (gs : List (Nat × List Nat)) (wk : List Nat) {args : List AV} {O O1 : List (Nat × OBlk)} {pins : List Nat} {r : AV} (hn : Nat.ble args.length 30 = true) (hp : ∀ b, memN b pins = true → Nat.ble 2 (b % 16) = true ∧ (olk O b).isSome = true) (h : evG Tryz.prog tt 30 [0, 2, 3, 4, 6, 7, 13, 15, 16, 17, 18, 25] gs wk pins (body Tryz.f70) ⟨idx 0 args, O⟩ (retQGW tt pins [.tmp 2, .tmp 3] r O1)) : FnG Tryz.prog 70 args O pins O1 r :=
  fnG_evG [.tmp 2, .tmp 3] tabOK tabOne mixed Tryz.func70 rfl (by kernel_rfl) (by kernel_rfl) hn rfl rfl hp h
theorem mkN139 (gs : List (Nat × List Nat)) (wk : List Nat) {args : List AV} {O O1 : List (Nat × OBlk)} {pins : List Nat} {r : AV} (hn : Nat.ble args.length 38 = true) (hp : ∀ b, memN b pins = true → Nat.ble 2 (b % 16) = true ∧ (olk O b).isSome = true) (h : evG Tryz.prog tt 38 [0, 2, 3, 4] gs wk pins (body Tryz.f139) ⟨idx 0 args, O⟩ (retQGW tt pins [.tmp 2] r O1)) : FnG Tryz.prog 139 args O pins O1 r :=
  fnG_evG [.tmp 2] tabOK tabOne mixed Tryz.func139 rfl (by kernel_rfl) (by kernel_rfl) hn rfl rfl hp h
theorem mkN140 (gs : List (Nat × List Nat)) (wk : List Nat) {args : List AV} {O O1 : List (Nat × OBlk)} {pins : List Nat} {r : AV} (hn : Nat.ble args.length 45 = true) (hp : ∀ b, memN b pins = true → Nat.ble 2 (b % 16) = true ∧ (olk O b).isSome = true) (h : evG Tryz.prog tt 45 [0, 2, 3, 4, 5, 15] gs wk pins (body Tryz.f140) ⟨idx 0 args, O⟩ (retQGW tt pins [.tmp 2] r O1)) : FnG Tryz.prog 140 args O pins O1 r :=
  fnG_evG [.tmp 2] tabOK tabOne mixed Tryz.func140 rfl (by kernel_rfl) (by kernel_rfl) hn rfl rfl hp h
theorem mkN142 (gs : List (Nat × List Nat)) (wk : List Nat) {args : List AV} {O O1 : List (Nat × OBlk)} {pins : List Nat} {r : AV} (hn : Nat.ble args.length 38 = true) (hp : ∀ b, memN b pins = true → Nat.ble 2 (b % 16) = true ∧ (olk O b).isSome = true) (h : evG Tryz.prog tt 38 [0, 2, 3, 4] gs wk pins (body Tryz.f142) ⟨idx 0 args, O⟩ (retQGW tt pins [.tmp 2] r O1)) : FnG Tryz.prog 142 args O pins O1 r :=
  fnG_evG [.tmp 2] tabOK tabOne mixed Tryz.func142 rfl (by kernel_rfl) (by kernel_rfl) hn rfl rfl hp h
theorem mkN143 (gs : List (Nat × List Nat)) (wk : List Nat) {args : List AV} {O O1 : List (Nat × OBlk)} {pins : List Nat} {r : AV} (hn : Nat.ble args.length 88 = true) (hp : ∀ b, memN b pins = true → Nat.ble 2 (b % 16) = true ∧ (olk O b).isSome = true) (h : evG Tryz.prog tt 88 [0, 2, 3, 4, 5, 6, 7, 35, 47, 60, 80] gs wk pins (body Tryz.f143) ⟨idx 0 args, O⟩ (retQGW tt pins [.tmp 2] r O1)) : FnG Tryz.prog 143 args O pins O1 r :=
  fnG_evG [.tmp 2] tabOK tabOne mixed Tryz.func143 rfl (by kernel_rfl) (by kernel_rfl) hn rfl rfl hp h
theorem mkN144 (gs : List (Nat × List Nat)) (wk : List Nat) {args : List AV} {O O1 : List (Nat × OBlk)} {pins : List Nat} {r : AV} (hn : Nat.ble args.length 72 = true) (hp : ∀ b, memN b pins = true → Nat.ble 2 (b % 16) = true ∧ (olk O b).isSome = true) (h : evG Tryz.prog tt 72 [0, 2, 3, 4, 6, 7, 8, 27, 30] gs wk pins (body Tryz.f144) ⟨idx 0 args, O⟩ (retQGW tt pins [.tmp 2] r O1)) : FnG Tryz.prog 144 args O pins O1 r :=
  fnG_evG [.tmp 2] tabOK tabOne mixed Tryz.func144 rfl (by kernel_rfl) (by kernel_rfl) hn rfl rfl hp h
theorem mkN145 (gs : List (Nat × List Nat)) (wk : List Nat) {args : List AV} {O O1 : List (Nat × OBlk)} {pins : List Nat} {r : AV} (hn : Nat.ble args.length 139 = true) (hp : ∀ b, memN b pins = true → Nat.ble 2 (b % 16) = true ∧ (olk O b).isSome = true) (h : evG Tryz.prog tt 139 [0, 1, 2, 3, 4, 5, 6, 7, 8, 9, 10, 11, 13, 27, 36, 52, 56, 65, 88, 98, 109, 115, 116, 117, 118] gs wk pins (body Tryz.f145) ⟨idx 0 args, O⟩ (retQGW tt pins [.tmp 2] r O1)) : FnG Tryz.prog 145 args O pins O1 r :=
  fnG_evG [.tmp 2] tabOK tabOne mixed Tryz.func145 rfl (by kernel_rfl) (by kernel_rfl) hn rfl rfl hp h
theorem mkN147 (gs : List (Nat × List Nat)) (wk : List Nat) {args : List AV} {O O1 : List (Nat × OBlk)} {pins : List Nat} {r : AV} (hn : Nat.ble args.length 51 = true) (hp : ∀ b, memN b pins = true → Nat.ble 2 (b % 16) = true ∧ (olk O b).isSome = true) (h : evG Tryz.prog tt 51 [0, 2, 3, 4, 5, 15] gs wk pins (body Tryz.f147) ⟨idx 0 args, O⟩ (retQGW tt pins [.tmp 2] r O1)) : FnG Tryz.prog 147 args O pins O1 r :=
  fnG_evG [.tmp 2] tabOK tabOne mixed Tryz.func147 rfl (by kernel_rfl) (by kernel_rfl) hn rfl rfl hp h
theorem mkN218 (gs : List (Nat × List Nat)) (wk : List Nat) {args : List AV} {O O1 : List (Nat × OBlk)} {pins : List Nat} {r : AV} (hn : Nat.ble args.length 13 = true) (hp : ∀ b, memN b pins = true → Nat.ble 2 (b % 16) = true ∧ (olk O b).isSome = true) (h : evG Tryz.prog tt 13 [0, 1, 2, 6, 8] gs wk pins (body Tryz.f218) ⟨idx 0 args, O⟩ (retQGW tt pins [.tmp 6] r O1)) : FnG Tryz.prog 218 args O pins O1 r :=
  fnG_evG [.tmp 6] tabOK tabOne mixed Tryz.func218 rfl (by kernel_rfl) (by kernel_rfl) hn rfl rfl hp h
theorem mkN223 (gs : List (Nat × List Nat)) (wk : List Nat) {args : List AV} {O O1 : List (Nat × OBlk)} {pins : List Nat} {r : AV} (hn : Nat.ble args.length 13 = true) (hp : ∀ b, memN b pins = true → Nat.ble 2 (b % 16) = true ∧ (olk O b).isSome = true) (h : evG Tryz.prog tt 13 [0, 1, 2, 6, 8] gs wk pins (body Tryz.f223) ⟨idx 0 args, O⟩ (retQGW tt pins [.tmp 6] r O1)) : FnG Tryz.prog 223 args O pins O1 r :=
  fnG_evG [.tmp 6] tabOK tabOne mixed Tryz.func223 rfl (by kernel_rfl) (by kernel_rfl) hn rfl rfl hp h
theorem mkN225 (gs : List (Nat × List Nat)) (wk : List Nat) {args : List AV} {O O1 : List (Nat × OBlk)} {pins : List Nat} {r : AV} (hn : Nat.ble args.length 39 = true) (hp : ∀ b, memN b pins = true → Nat.ble 2 (b % 16) = true ∧ (olk O b).isSome = true) (h : evG Tryz.prog tt 39 [0, 1, 2, 5, 6, 7, 8] gs wk pins (body Tryz.f225) ⟨idx 0 args, O⟩ (retQGW tt pins [.tmp 6] r O1)) : FnG Tryz.prog 225 args O pins O1 r :=
  fnG_evG [.tmp 6] tabOK tabOne mixed Tryz.func225 rfl (by kernel_rfl) (by kernel_rfl) hn rfl rfl hp h
theorem mkN228 (gs : List (Nat × List Nat)) (wk : List Nat) {args : List AV} {O O1 : List (Nat × OBlk)} {pins : List Nat} {r : AV} (hn : Nat.ble args.length 13 = true) (hp : ∀ b, memN b pins = true → Nat.ble 2 (b % 16) = true ∧ (olk O b).isSome = true) (h : evG Tryz.prog tt 13 [0, 1, 2, 6, 8] gs wk pins (body Tryz.f228) ⟨idx 0 args, O⟩ (retQGW tt pins [.tmp 6] r O1)) : FnG Tryz.prog 228 args O pins O1 r :=
  fnG_evG [.tmp 6] tabOK tabOne mixed Tryz.func228 rfl (by kernel_rfl) (by kernel_rfl) hn rfl rfl hp h
theorem mkN237 (gs : List (Nat × List Nat)) (wk : List Nat) {args : List AV} {O O1 : List (Nat × OBlk)} {pins : List Nat} {r : AV} (hn : Nat.ble args.length 13 = true) (hp : ∀ b, memN b pins = true → Nat.ble 2 (b % 16) = true ∧ (olk O b).isSome = true) (h : evG Tryz.prog tt 13 [0, 1, 2, 6, 8] gs wk pins (body Tryz.f237) ⟨idx 0 args, O⟩ (retQGW tt pins [.tmp 6] r O1)) : FnG Tryz.prog 237 args O pins O1 r :=
  fnG_evG [.tmp 6] tabOK tabOne mixed Tryz.func237 rfl (by kernel_rfl) (by kernel_rfl) hn rfl rfl hp h
theorem mkG291 (gs : List (Nat × List Nat)) (wk : List Nat) {args : List AV} {r : AV} (hn : Nat.ble args.length 32 = true) (h : evG Tryz.prog tt 32 [0, 1, 3, 4, 5, 6, 7, 8, 14, 17, 25] gs wk [] (body Tryz.f291) ⟨idx 0 args, []⟩ (retQW tt [.tmp 4, .tmp 5] r)) : Fn Tryz.prog 291 args r :=
  fn_evG [.tmp 4, .tmp 5] tabOK tabOne mixed Tryz.func291 rfl (by kernel_rfl) (by kernel_rfl) hn rfl rfl h
theorem mkN292 (gs : List (Nat × List Nat)) (wk : List Nat) {args : List AV} {O O1 : List (Nat × OBlk)} {pins : List Nat} {r : AV} (hn : Nat.ble args.length 13 = true) (hp : ∀ b, memN b pins = true → Nat.ble 2 (b % 16) = true ∧ (olk O b).isSome = true) (h : evG Tryz.prog tt 13 [0, 1, 2, 6, 8] gs wk pins (body Tryz.f292) ⟨idx 0 args, O⟩ (retQGW tt pins [.tmp 6] r O1)) : FnG Tryz.prog 292 args O pins O1 r :=
  fnG_evG [.tmp 6] tabOK tabOne mixed Tryz.func292 rfl (by kernel_rfl) (by kernel_rfl) hn rfl rfl hp h
theorem mkG344 (gs : List (Nat × List Nat)) (wk : List Nat) {args : List AV} {r : AV} (hn : Nat.ble args.length 95 = true) (h : evG Tryz.prog tt 95 [0, 1, 2, 6, 7, 8, 9, 16, 22, 31, 68] gs wk [] (body Tryz.f344) ⟨idx 0 args, []⟩ (retQW tt [.tmp 6] r)) : Fn Tryz.prog 344 args r :=
  fn_evG [.tmp 6] tabOK tabOne mixed Tryz.func344 rfl (by kernel_rfl) (by kernel_rfl) hn rfl rfl h
end Go.Abs.Ltop
