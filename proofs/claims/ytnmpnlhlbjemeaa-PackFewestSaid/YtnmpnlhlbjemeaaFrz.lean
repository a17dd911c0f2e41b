import Derived.Test.YtnmpnlhlbjemeaaMp
namespace Go.Abs
open Go.RowKit
set_option linter.unusedVariables false
/-! ### a block of one's own is written no more -/
theorem SRK.freeze {E : Env} {K : KM} {c : Cfg} {a : Act} {w : World} (hs : SRK E K c a w) {b n : Nat} {blk : OBlk} {v : Value} (hb : olk c.O b = some blk) (hkd : blk.kd = .pure) (hv : VR w (XX E K c.O) K (.osl b blk.sz n) v) :
    VR w (XX E K (delO b c.O)) K0 (.rsl blk.sz n (blk.rows.take n)) v := by
  have hsrc : srcRows (olk c.O) blk.sz (.osl b blk.sz n) = some (n, blk.rows.take n, blk.kd) := by
    simp only [srcRows, hb]
    rw [show Nat.beq blk.sz blk.sz = true from Nat.beq_refl _]
  obtain ⟨hl, hu, A, cp, news, e0, hnl, hcell, hone, hvn⟩ := src_sound hs hsrc hv
  have hcs : news.length = (blk.rows.take n).flatten.length := by rw [hnl, flat_len hu, ← hl]
  have hvn' : ∀ (j : Nat) u x, (blk.rows.take n).flatten[j]? = some u → news[j]? = some x → VR w (XX E K (delO b c.O)) K0 u x := by
    intro j u x hj hx
    have := hvn j u x hj hx
    rw [hkd] at this
    exact this.sub fun _ _ _ => trivial
  rcases VR.osl_inv hv with ⟨hK, hz, e1⟩ | ⟨g, cap, cur, e', mm, hK, hnm, e1, hc, hnc, hm, hcur⟩
  · subst hz e1
    exact .rsl (cs := []) (by simp) (by simp) (Nat.le_refl _) (fun _ => rfl) (by simp) (by simp) (by simp) (by simp)
  · rw [e1] at e0
    injection e0 with e2 e3 e4
    subst e1
    refine .rsl hl hu hnc (fun h => by cases h) hcs hone (fun hne => ?_) hvn'
    have hpos : 0 < n := by
      rcases Nat.eq_zero_or_pos n with h | h
      · subst h; simp at hne
      · exact h
    obtain ⟨g', o', e5, hc'⟩ := hcell hpos
    rw [← e2] at e5
    injection e5 with e5; injection e5 with e5 e6; subst e5 e6
    refine ⟨g, 0, rfl, (Array.getElem?_eq_some_iff.1 hc).1, ?_, hc'⟩
    rintro (⟨i, hi, hk⟩ | ⟨hx1, hx2⟩)
    · have hne : b ≠ i := by
        rintro rfl
        rw [olk_delO, if_pos rfl] at hi; cases hi
      rw [olk_delO, if_neg hne] at hi
      exact hne (hs.inj b i g (by simp [hb]) hi (blkOf_of hK) hk)
    · rcases hs.mine b g (by simp [hb]) (blkOf_of hK) with h | h
      · exact E.hxf g hx1 h
      · omega
theorem SRK.del {E : Env} {K : KM} {c : Cfg} {a : Act} {w : World} (hs : SRK E K c a w) (b : Nat) : SRK E K ⟨c.fr, delO b c.O⟩ a w :=
  hs.weak (fun t => .inl rfl) fun i x hi => by
    simp only [olk_delO] at hi
    split at hi
    · cases hi
    · exact hi
theorem Wk.freeze {c : Cfg} (t b n : Nat) (blk : OBlk) (ht : lk c.fr t = .osl b blk.sz n) (hb : olk c.O b = some blk) (hk : blk.kd = .pure) : Wk c ⟨(t, .rsl blk.sz n (blk.rows.take n)) :: c.fr, delO b c.O⟩ := by
  rintro E a w ⟨K, h⟩
  have h' := h.del b
  refine ⟨K, h'.size, h'.defers, h'.ext, fun s => ?_, h'.rows, h'.own, h'.inj, h'.mine, h'.pin⟩
  show FV w _ K _ (lk ((t, _) :: c.fr) s) _
  rw [lk_cons]
  split
  · rename_i e
    subst e
    have hv := h.fr t
    rw [ht] at hv
    exact (h.freeze hb hk hv).any K
  · exact h'.fr s
theorem Wk.freezeKeep {c : Cfg} (t b n : Nat) (blk : OBlk) (ks ids : List Nat) (ht : lk c.fr t = .osl b blk.sz n) (hb : olk c.O b = some blk) (hk : blk.kd = .pure) : Wk c (Cfg.only ⟨(t, .rsl blk.sz n (blk.rows.take n)) :: c.fr, delO b c.O⟩ ks ids) :=
  (Wk.freeze t b n blk ht hb hk).trans (Wk.keep ks ids)
end Go.Abs
