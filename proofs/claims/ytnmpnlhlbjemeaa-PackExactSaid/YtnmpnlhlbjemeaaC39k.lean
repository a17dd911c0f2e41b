import Derived.Test.YtnmpnlhlbjemeaaC39j
namespace Go.Abs.L39
open Go Go.Abs Go.Proofs
set_option linter.unusedVariables false
set_option maxRecDepth 20000
/-- what put finds from a piece on -/
def putE (room : Int) (least : Nat) : List Int → Nat → List (List Int) → List Int → Option (List (List Int) × List Int)
  | [], _, T, S => some (T, S)
  | n :: r, i, T, S =>
    match (List.range T.length).findSome? (fun k => if S.getD k 0 + n > room then none else putE room least r (i + 1) (T.set k (T.getD k [] ++ [(i : Int)])) (S.set k (S.getD k 0 + n))) with
    | some x => some x
    | none => if T.length = least then none else putE room least r (i + 1) (T ++ [[(i : Int)]]) (S ++ [n])
def PostP (l : List Int) (room least : Int) (res : Option (List (List Int) × List Int)) (T : List (List Int)) (S : List Int) : World → KM → List (Nat × OBlk) → AV → Prop := fun w K O r =>
  r = .bool res.isSome ∧ ∃ us gs, O = OP l room least (res.getD (T, S)).1.length ⟨22, 1, .pure, lits us⟩ (((res.getD (T, S)).2 ++ gs).map enc) ++ fam 3 1 (TT (res.getD (T, S)).1) ∧ LitF w K 1 us (TT (res.getD (T, S)).1)
abbrev args33 (l : List Int) (room least : Int) (i : Int) : List AV := [I i, .rptr [A l] 0, .ovar 2 0, .ovar 4 0, .rptr [I room] 0, .ovar 6 0, .rptr [I least] 0]
/-- the contract of put -/
def PutC (l : List Int) (room : Int) (least : Nat) (r : List Int) (i : Nat) (T : List (List Int)) (S : List Int) : Prop :=
  ∀ us gs, FnT Try.prog 33 (args33 l room least i) (OP l room least T.length ⟨22, 1, .pure, lits us⟩ ((S ++ gs).map enc) ++ fam 3 1 (TT T)) [2, 4, 6] (fun w K => LitF w K 1 us (TT T)) (PostP l room least (putE room least r i T S) T S)
def r8 (c : Code) : Code := match loop33 c with | .seq _ (.seq _ (.seq _ (.seq (.seq c _) _))) => c | c => c
def r15 (c : Code) : Code := match tail33 c with | .seq _ (.seq _ (.seq (.seq c _) _)) => c | c => c
theorem P8 {E : Env} (hN : E.N = 113) (hp : ∀ b, memN b [2, 4, 6] = false → E.pin b = none) {l : List Int} {room : Int} {least : Nat} {i k m : Nat} {r : List Int} {T : List (List Int)} {S : List Int} {a : Act} {w : World} {Q : Exit → Act → World → Prop}
    (hs : St E l room least (H33 l room least i m k) T S a w) (hi : i ≤ 1000) (hc : PutC l room least r (i + 1) T S)
    (hQ : ∀ a' w', St E l room least (H33 l room least i m k ++ [(55, .bool (putE room least r (i + 1) T S).isSome)]) ((putE room least r (i + 1) T S).getD (T, S)).1 ((putE room least r (i + 1) T S).getD (T, S)).2 a' w' → Q .normal a' w') : (r8 (body Try.f33)).wp Try.prog Q a w := by
  obtain ⟨K, us, gs, hs, hlf⟩ := hs
  refine wp_region ?_
  change wpOps _ _ _ (List.range' 0 3 ++ [3]) _ _
  refine wp_evOpsN (dm := []) tabOK tabOne hN hs fam_ok (fam_apart rfl) ⟨⟨[], []⟩, [], []⟩ 0 3 rfl (Kk := fun c' => c' = _) ⟨((i + 1 : Nat) : Int), wrapTo (by omega) (by omega) (by omega), rfl⟩ ?_
  rintro c1 K1 a1 w1 rfl hs1 hl1
  rw [wpOps_cons]
  refine wpOp_callT rfl rfl (wanted_no' rfl) hs1 (hc us gs) (hlf.left hl1) rfl rfl (noOptL_get rfl) (inPF_lk rfl) hp (by rw [hN]; rfl) ?_
  rintro K2 O2 res v w2 ⟨rfl, us2, gs2, rfl, hl2⟩ _ hs2
  have hs3 := SRK.onlyT hs2 (fam_apart rfl) [0, 1, 2, 3, 4, 5, 6, 8, 9, 15, 16, 55] [2, 1808, 4, 1824, 6]
  exact hQ _ w2 ⟨K2, us2, gs2, hs3, hl2⟩
end Go.Abs.L39
