import Derived.Test.YtnmpnlhlbjemeaaC39m
namespace Go.Abs
open Go.RowKit
set_option linter.unusedVariables false
/-- a variable that is written no more, behind its pointer -/
theorem SRK.rptr_of {E : Env} {K : KM} {c : Cfg} {a : Act} {w : World} (hs : SRK E K c a w) {b e sz off : Nat} {row : List AV} {v : Value} {X : Nat → Prop} (hb : olk c.O b = some ⟨e, sz, .any, [row]⟩) (hrow : AV.idlessL row = true) (hv : VR w X K (.ovar b off) v) {X' : Nat → Prop}
    (hX : ∀ g, g < w.heap.size → X' g → XX E K c.O g) (hn : ∀ g, blkOf K b = some g → ¬ X' g) : VR w X' K0 (.rptr row off) v := by
  obtain ⟨g, hg, rfl⟩ := VR.ovar_inv hv
  rcases hs.own b _ hb with ⟨h1, h2⟩ | ⟨g', h1, cur, hc, hu⟩
  · cases h2
  rw [blkOf_of h1] at hg; injection hg with hg; subst hg
  have hflat : ([row] : List (List AV)).flatten = row := by simp
  have hget : ∀ j, j < row.length → ∃ x, cur[j]? = some x ∧ x.oneCell' = true := by
    intro j hj
    obtain ⟨x, hx, h3, _⟩ := hu j row[j] (by rw [hflat]; simp [hj])
    exact ⟨x, hx, h3⟩
  have hlen : row.length ≤ cur.size := by
    rcases Nat.eq_zero_or_pos row.length with h | h
    · omega
    · obtain ⟨x, hx, _⟩ := hget (row.length - 1) (by omega)
      have := (Array.getElem?_eq_some_iff.1 hx).1
      omega
  have hcs : ∀ j, (cur.toList.take row.length)[j]? = if j < row.length then cur[j]? else none := by
    intro j
    rw [List.getElem?_take]
    split
    · simp
    · rfl
  have hvp := VR.rptr (w := w) (X := X') (K := K0) (xs := row) (off := off) (g := g') (o := 0) (cs := cur.toList.take row.length) (by simp; omega) (fun x hx => by
    obtain ⟨j, hj⟩ := List.getElem?_of_mem hx
    rw [hcs] at hj
    split at hj
    · rename_i hlt
      obtain ⟨y, hy, h3⟩ := hget j hlt
      rw [hy] at hj; injection hj with hj; subst hj; exact h3
    · cases hj) (Array.getElem?_eq_some_iff.1 hc).1 (hn g' (blkOf_of h1)) (fun j x hj => by
    rw [hcs] at hj
    split at hj
    · rw [Nat.zero_add]
      show World.cell? w ⟨g', j, none⟩ = some x
      simp only [World.cell?, hc]
      exact hj
    · cases hj) (fun j u x hu' hj => by
    rw [hcs] at hj
    split at hj
    · obtain ⟨y, hy, _, h4⟩ := hu j u (by rw [hflat]; exact hu')
      rw [hy] at hj; injection hj with hj; subst hj
      exact (idless_sound h4 (idlessL_get hrow hu') K0).sub hX
    · cases hj)
  rw [Nat.zero_add] at hvp
  exact hvp
/-- the nil slice in a slot, as a reading -/
theorem SRK.nil_rsl {E : Env} {K : KM} {fr : List (Nat × AV)} {O : List (Nat × OBlk)} {a : Act} {w : World} (hs : SRK E K ⟨fr, O⟩ a w) {s sz : Nat} (h : lk fr s = .nilsl) : SRK E K ⟨(s, .rsl sz 0 []) :: fr, O⟩ a w := by
  refine ⟨hs.size, hs.defers, hs.ext, fun t => ?_, hs.rows, hs.own, hs.inj, hs.mine, hs.pin⟩
  show FV w _ K _ (lk ((s, _) :: fr) t) _
  rw [lk_cons]
  split
  · rename_i e; subst e
    have hv := hs.fr s
    rw [show lk (Cfg.fr ⟨fr, O⟩) s = .nilsl from h] at hv
    rw [VR.nilsl_inv hv]
    exact VR.rsl (cs := []) (by simp) (by simp) (Nat.le_refl _) (fun _ => rfl) (by simp) (by simp) (by simp) (by simp)
  · exact hs.fr t
end Go.Abs
