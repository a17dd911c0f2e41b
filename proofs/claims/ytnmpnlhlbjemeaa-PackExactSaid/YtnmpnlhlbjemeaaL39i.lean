import Derived.Test.YtnmpnlhlbjemeaaC39z
import Derived.Test.YtnmpnlhlbjemeaaL39g
namespace Go.Abs.L39
open Go Go.Abs Go.Proofs
set_option linter.unusedVariables false
set_option maxRecDepth 20000
theorem set_same {α : Type} {l : List α} {i : Nat} {a : α} (h : l[i]? = some a) : l.set i a = l := by
  obtain ⟨h1, h2⟩ := List.getElem?_eq_some_iff.1 h
  rw [← h2]; simp
theorem c29 (T : List (List Int)) (hT : T.length ≤ 10000) (hTb : ∀ b ∈ T, b.length ≤ 10000) : Fn Try.prog 29 [AA T] (fAA T) := by
  refine mk29 rfl ⟨_, c40 T hT, false, ?_⟩
  refine ⟨fun q c => ∃ i : Nat, i ≤ T.length ∧ q = T.length - i ∧ c = ⟨[(0, .osl 80 1 T.length), (7, I T.length), (8, I i)], [(80, ⟨22, 1, .flat, T.map encT⟩)]⟩, ⟨_, _, Wk.keep [0, 7, 8] [80], 0, by omega, rfl, rfl⟩, ?_⟩
  rintro q c ⟨i, hi, rfl, rfl⟩
  refine ⟨fun h => ?_, fun h => ?_⟩
  · simp at h
    obtain ⟨t, ht, hd, _⟩ := drop_cons h
    have hr : (T.map encT)[((i : Nat) : Int).toNat]? = some (encT t) := get_map ht
    have htl := hTb t (List.mem_of_getElem? ht)
    refine ⟨⟨by omega, by omega⟩, encT t, hr, _, c13 t htl, true, ⟨by omega, by omega⟩, encT t, hr, _, wrap64 (by omega) (by omega), ?_⟩
    refine ⟨_, _, Wk.keep [0, 7, 8] [80], by omega, i + 1, by omega, rfl, ?_⟩
    show Cfg.mk _ [(80, (⟨22, 1, .flat, (T.map encT).set ((i : Nat) : Int).toNat (encT t)⟩ : OBlk))] = _
    rw [set_same hr]; rfl
  · simp at h
    have : i = T.length := by omega
    subst this
    exact ⟨rfl, _, rfl, rfl, by rw [List.length_map], .inr ⟨rfl, rfl⟩⟩
end Go.Abs.L39
