import Derived.Test.YtnmpnlhlbjemeaaC39g
namespace Go.Abs.L39
open Go Go.Abs Go.Proofs
set_option linter.unusedVariables false
set_option maxRecDepth 20000
theorem wrapTo {x y : Int} (h : x = y) (h1 : -9223372036854775808 ≤ x) (h2 : x ≤ 9223372036854775807) : IntKind.i64.wrap x = y := by rw [wrap64 h1 h2]; exact h
def r10 (c : Code) : Code := match loop33 c with | .seq _ (.seq _ (.seq _ (.seq _ c))) => c | c => c
theorem ev10 (l : List Int) (room least : Int) (i m k n : Nat) (inner R SV : List (List AV)) (s z : Int) (hn : n + 1 ≤ inner.length) (hk : k < m) (hm : m ≤ 100) (hni : n ≤ 1000) (hz : l[i]? = some z) (hl : l.length ≤ 1000) (hRk : R[k]? = some [.osl 1840 1 (n + 1)]) (hS : SV[k]? = some [I s])
    (hs0 : -1000000 ≤ s ∧ s ≤ 1000000) (hz0 : -1000000 ≤ z ∧ z ≤ 1000000) :
    ev Try.prog tt 113 ks33 (r10 (body Try.f33)) ⟨H33 l room least i m k, (1840, ⟨3, 1, .pure, inner⟩) :: OP l room least m ⟨22, 1, .any, R⟩ SV⟩
      fun e c => e = .normal ∧ c = ⟨H33 l room least i m k, (1840, ⟨3, 1, .pure, inner⟩) :: OP l room least m ⟨22, 1, .any, R.set k [.osl 1840 1 n]⟩ (SV.set k [I (s - z)])⟩ := by
  have hil := (List.getElem?_eq_some_iff.1 hz).1
  refine ⟨⟨by omega, by omega⟩, [.osl 1840 1 (n + 1)], by exact hRk, ⟨by omega, by omega⟩, [.osl 1840 1 (n + 1)], by exact hRk, (n : Int), wrapTo (by omega) (by omega) (by omega), ⟨by omega, by omega⟩, ?_⟩
  refine ⟨⟨by omega, by omega⟩, [I s], by exact hS, ⟨by omega, by omega⟩, enc z, by exact get_map hz, s - z, wrap64 (by omega) (by omega), ⟨by omega, by omega⟩, [.osl 1840 1 (n + 1)], by exact hRk, ?_⟩
  refine ⟨⟨by omega, by omega⟩, [I s], by exact hS, ?_⟩
  exact ⟨rfl, rfl⟩
def tail33 : Code → Code
  | .seq _ (.seq _ (.seq _ c)) => c
  | c => c
def r14 (c : Code) : Code := match tail33 c with | .seq _ (.seq c _) => c | c => c
def r17 (c : Code) : Code := match tail33 c with | .seq _ (.seq _ (.seq _ (.seq c _))) => c | c => c
abbrev J33 (l : List Int) (room least : Int) (i : Nat) : List (Nat × AV) := F33 l room least i ++ [(8, .bool false)]
theorem ev17 (l : List Int) (room least : Int) (i m : Nat) (outer : List (List AV)) (SV : List (List AV)) (hm : m ≤ 100) :
    ev Try.prog tt 113 ks33 (r17 (body Try.f33)) ⟨J33 l room least i, OP l room least (m + 1) ⟨22, 1, .pure, outer⟩ SV⟩
      fun e c => e = .normal ∧ c = ⟨J33 l room least i, OP l room least m ⟨22, 1, .pure, outer⟩ SV⟩ := by
  refine ⟨(m : Int), wrapTo (by omega) (by omega) (by omega), ⟨by omega, by omega⟩, (m : Int), wrapTo (by omega) (by omega) (by omega), ⟨by omega, by omega⟩, ?_⟩
  exact ⟨rfl, rfl⟩
theorem evP14 (l : List Int) (room least : Int) (i m : Nat) (R SV : List (List AV)) (z : Int) (hm : m ≤ 100) (hz : l[i]? = some z) (hl : l.length ≤ 1000) (hRh : ∀ b, hasRow b R = false) :
    ev Try.prog tt 113 ks33 (r14 (body Try.f33)) ⟨J33 l room least i, OP l room least m ⟨22, 1, .any, R⟩ SV⟩
      fun e c => e = .normal ∧ c = ⟨J33 l room least i, [(2, ⟨25, 1, .any, [[.osl 1456 1 (m + 1)]]⟩), (4, ⟨22, 1, .any, [[.osl 1568 1 (m + 1)]]⟩), (6, ⟨46, 1, .any, [[clo l room least]]⟩), (1424, ⟨3, 1, .pure, [enc i]⟩), (1440, ⟨22, 1, .any, [[.osl 1424 1 1]]⟩), (1456, ⟨22, 1, .any, R.take m ++ [[.osl 1424 1 1]]⟩), (1552, ⟨3, 1, .pure, [enc z]⟩), (1568, ⟨3, 1, .pure, SV.take m ++ [enc z]⟩)]⟩ := by
  have hil := (List.getElem?_eq_some_iff.1 hz).1
  have hR' : ∀ b, Nat.beq 1424 b = false → hasRow b (R.take m ++ [[.osl 1424 1 1]]) = false := by
    intro b hb
    rw [hasRow_app, hasRow_take (hRh b) m]
    simp only [hasRow, AV.hasL, AV.has, Bool.or_false, Bool.false_or]
    have := beq_false hb
    simpa using this
  conv => whnf
  refine mtrue ?_ ?_
  · refine chk3 (freshD_new rfl (freshO_any rfl rfl (freshO_any rfl (hRh _) rfl)) rfl) ?_ rfl
    exact drOK_new rfl (nwOK_one rfl (freshO_any rfl rfl (freshO_any rfl (hRh _) rfl)) rfl rfl)
  conv => whnf
  refine mtrue ?_ ?_
  · refine chk3 (freshD_new rfl (freshO_any rfl rfl (freshO_any rfl (hRh _) rfl)) rfl) ?_ rfl
    exact drOK_new rfl (nwOK_one rfl (freshO_any rfl rfl (freshO_any rfl (hRh _) rfl)) rfl rfl)
  refine ⟨⟨by show (m + 1) * 24 ≤ _; omega, by omega⟩, ?_⟩
  conv => whnf
  refine mtrue ?_ ?_
  · refine chk3 (freshD_new rfl (freshO_any rfl rfl (freshO_any rfl (hRh _) rfl)) rfl) ?_ rfl
    exact drOK_new rfl (nwOK_one rfl (freshO_any rfl rfl (freshO_any rfl (hRh _) rfl)) rfl rfl)
  refine ⟨⟨by omega, by omega⟩, enc z, by exact get_map hz, ?_⟩
  conv => whnf
  refine mtrue ?_ ?_
  · refine chk3 (freshD_new rfl ?_ rfl) ?_ rfl
    · exact freshO_any rfl rfl (freshO_any rfl rfl (freshO_pure rfl (freshO_any rfl rfl (freshO_pure rfl (freshO_any rfl rfl (freshO_any rfl (hR' _ rfl) rfl))))))
    · refine drOK_new ?_ (nwOK_one rfl (freshO_any rfl rfl (freshO_any rfl (hRh _) rfl)) rfl ?_)
      · refine sep_ord rfl (sep_ord rfl (sep_ord rfl (sep_ord rfl (sep_ind rfl (sep_ind (indep_gen rfl (clean_one (reachB_of rfl (reach_any rfl (reach_any (hRh _) rfl))) (outB_of rfl (outD_any rfl (hR' _ rfl) rfl) rfl))) ?_)))))
        exact rfl
      · exact noOut_cons rfl (noOut_cons rfl (noOut_cons rfl (noOut_cons rfl (noOut_cons rfl (noOut_cons (outB_of rfl (outD_any rfl (hR' _ rfl) rfl) rfl) rfl)))))
  refine ⟨⟨by show (m + 1) * 8 ≤ _; omega, by omega⟩, ?_⟩
  conv => whnf
  refine mtrue ?_ ?_
  · refine chk3 (freshD_new rfl ?_ rfl) ?_ rfl
    · exact freshO_any rfl rfl (freshO_any rfl rfl (freshO_pure rfl (freshO_any rfl rfl (freshO_pure rfl (freshO_any rfl rfl (freshO_any rfl (hR' _ rfl) rfl))))))
    · refine drOK_new rfl (nwOK_one rfl (freshO_any rfl rfl (freshO_any rfl (hRh _) rfl)) rfl ?_)
      exact noOut_cons rfl (noOut_cons rfl (noOut_cons rfl (noOut_cons rfl (noOut_cons rfl (noOut_cons rfl (noOut_cons (outB_of rfl (outD_any rfl (hR' _ rfl) rfl) rfl) rfl))))))
  exact ⟨rfl, rfl⟩
end Go.Abs.L39
