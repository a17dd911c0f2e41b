import Derived.Test.YtnmpnlhlbjemeaaC39e
import Derived.Test.YtnmpnlhlbjemeaaN3
namespace Go.Abs.L39
open Go Go.Abs Go.Proofs
set_option linter.unusedVariables false
set_option maxRecDepth 20000
abbrev ks33 : List Nat := [0, 1, 2, 3, 4, 5, 6, 8, 9, 13, 15, 16, 17, 29, 55, 86, 102]
abbrev clo (l : List Int) (room least : Int) : AV := .func 33 [.rptr [A l] 0, .ovar 2 0, .ovar 4 0, .rptr [I room] 0, .ovar 6 0, .rptr [I least] 0]
abbrev F33 (l : List Int) (room least : Int) (i : Nat) : List (Nat × AV) := [(0, I i), (1, .rptr [A l] 0), (2, .ovar 2 0), (3, .ovar 4 0), (4, .rptr [I room] 0), (5, .ovar 6 0), (6, .rptr [I least] 0)]
abbrev H33 (l : List Int) (room least : Int) (i m k : Nat) : List (Nat × AV) := F33 l room least i ++ [(8, .bool false), (9, I k), (15, I m), (16, I k)]
/-- the blocks of put -/
abbrev OP (l : List Int) (room least : Int) (m : Nat) (outer : OBlk) (SV : List (List AV)) : List (Nat × OBlk) :=
  [(2, ⟨25, 1, .any, [[.osl 1808 1 m]]⟩), (1808, outer), (4, ⟨22, 1, .any, [[.osl 1824 1 m]]⟩), (1824, ⟨3, 1, .pure, SV⟩), (6, ⟨46, 1, .any, [[clo l room least]]⟩)]
def loop33 : Code → Code
  | .seq _ (.seq _ (.seq (.seq _ (.block _ (.loop (.seq _ (.seq _ (.seq (.block _ c) _)))))) _)) => c
  | c => c
def r7 (c : Code) : Code := match loop33 c with | .seq _ (.seq _ (.seq c _)) => c | c => c
theorem ev7 (l : List Int) (room least : Int) (i m k n : Nat) (inner R SV : List (List AV)) (s z : Int) (hn : n = inner.length) (hk : k < m) (hm : m ≤ 100) (hni : n ≤ 1000) (hz : l[i]? = some z) (hl : l.length ≤ 1000) (hRk : R[k]? = some [.osl 1840 1 n]) (hRh : ∀ b, hasRow b R = (1840 == b)) (hS : SV[k]? = some [I s])
    (hs0 : -1000000 ≤ s ∧ s ≤ 1000000) (hz0 : -1000000 ≤ z ∧ z ≤ 1000000) :
    ev Try.prog tt 113 ks33 (r7 (body Try.f33)) ⟨H33 l room least i m k, (1840, ⟨3, 1, .pure, inner⟩) :: OP l room least m ⟨22, 1, .any, R⟩ SV⟩
      fun e c => e = .normal ∧ c = ⟨H33 l room least i m k, OP l room least m ⟨22, 1, .any, R.set k [.osl 640 1 (n + 1)]⟩ (SV.set k [I (s + z)]) ++ [(624, ⟨3, 1, .pure, [enc i]⟩), (640, ⟨3, 1, .pure, inner.take n ++ [enc i]⟩)]⟩ := by
  have hil := (List.getElem?_eq_some_iff.1 hz).1
  refine ⟨⟨by omega, by omega⟩, _, by exact hRk, ?_⟩
  conv => whnf
  refine mtrue ?_ ?_
  · refine chk3 (freshD_new rfl (freshO_pure rfl (freshO_any rfl rfl (freshO_any rfl (hRh _) rfl))) rfl) ?_ rfl
    refine drOK_new ?_ (nwOK_one rfl (freshO_pure rfl (freshO_any rfl rfl (freshO_any rfl (hRh _) rfl))) rfl rfl)
    refine sep_ord rfl ?_
    refine sep_ind (indep_one rfl rfl (reach_pure (reach_any rfl (reach_any (hRh _) rfl))) rfl) ?_
    refine sep_ind (indep_one rfl rfl (reach_pure (reach_any rfl (reach_any (hRh _) rfl))) rfl) ?_
    exact rfl
  refine ⟨⟨by show (n + 1) * 8 ≤ _; omega, by omega⟩, ?_⟩
  conv => whnf
  refine mtrue ?_ ?_
  · refine chk3 (freshD_new rfl (freshO_pure rfl (freshO_any rfl rfl (freshO_any rfl (hRh _) rfl))) rfl) ?_ rfl
    refine drOK_new rfl (nwOK_one rfl (freshO_pure rfl (freshO_any rfl rfl (freshO_any rfl (hRh _) rfl))) rfl rfl)
  refine ⟨⟨by omega, by omega⟩, [I s], by exact hS, ⟨by omega, by omega⟩, enc z, by exact get_map hz, s + z, wrap64 (by omega) (by omega), ⟨by omega, by omega⟩, [.osl 1840 1 n], by exact hRk, ?_⟩
  refine ⟨⟨by omega, by omega⟩, [I s], by exact hS, ?_⟩
  exact ⟨rfl, rfl⟩
end Go.Abs.L39
