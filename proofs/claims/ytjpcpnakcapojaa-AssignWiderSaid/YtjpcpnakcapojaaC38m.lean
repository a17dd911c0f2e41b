import Derived.Test.YtjpcpnakcapojaaC38l
namespace Go.Abs
open Go.RowKit
set_option linter.unusedVariables false
/-- a variable that is written no more, behind its pointer -/
theorem SRK.rptr_of {E : Env} {K : KM} {c : Cfg} {a : Act} {w : World} (hs : SRK E K c a w) {b e sz off : Nat} {row : List AV} {v : Value} {X : Nat → Prop} (hb : olk c.O b = some ⟨e, sz, .any, [row]⟩) (hrow : AV.idlessL row = true) (hv : VR w X K (.ovar b off) v) {X' : Nat → Prop}
    (hX : ∀ g, g < w.heap.size → X' g → XX E K c.O g) (hn : ∀ g, blkOf K b = some g → ¬ X' g) : VR w X' K0 (.rptr row off) v := by
  obtain ⟨g, hg, rfl⟩ := VR.ovar_inv hv
  rcases hs.own b _ hb with ⟨h1, h2⟩ | ⟨g', h1, cur, hc, hu⟩
  · cases h2
  rw [blkOf_of h1] at hg; injection hg with hg; subst hg
  have hflat : ([row] : List (List AV)).flatten = row := by simp
  have hget : ∀ j, j < row.length → ∃ x, cur[j]? = some x ∧ x.oneCell' = true := by
    intro j hj
    obtain ⟨x, hx, h3, _⟩ := hu j row[j] (by rw [hflat]; simp [hj])
    exact ⟨x, hx, h3⟩
  have hlen : row.length ≤ cur.size := by
    rcases Nat.eq_zero_or_pos row.length with h | h
    · omega
    · obtain ⟨x, hx, _⟩ := hget (row.length - 1) (by omega)
      have := (Array.getElem?_eq_some_iff.1 hx).1
      omega
  have hcs : ∀ j, (cur.toList.take row.length)[j]? = if j < row.length then cur[j]? else none := by
    intro j
    rw [List.getElem?_take]
    split
    · simp
    · rfl
  have hvp := VR.rptr (w := w) (X := X') (K := K0) (xs := row) (off := off) (g := g') (o := 0) (cs := cur.toList.take row.length) (by simp; omega) (fun x hx => by
    obtain ⟨j, hj⟩ := List.getElem?_of_mem hx
    rw [hcs] at hj
    split at hj
    · rename_i hlt
      obtain ⟨y, hy, h3⟩ := hget j hlt
      rw [hy] at hj; injection hj with hj; subst hj; exact h3
    · cases hj) (Array.getElem?_eq_some_iff.1 hc).1 (hn g' (blkOf_of h1)) (fun j x hj => by
    rw [hcs] at hj
    split at hj
    · rw [Nat.zero_add]
      show World.cell? w ⟨g', j, none⟩ = some x
      simp only [World.cell?, hc]
      exact hj
    · cases hj) (fun j u x hu' hj => by
    rw [hcs] at hj
    split at hj
    · obtain ⟨y, hy, _, h4⟩ := hu j u (by rw [hflat]; exact hu')
      rw [hy] at hj; injection hj with hj; subst hj
      exact (idless_sound h4 (idlessL_get hrow hu') K0).sub hX
    · cases hj)
  rw [Nat.zero_add] at hvp
  exact hvp
end Go.Abs
namespace Go.Abs.L38
open Go Go.Abs Go.Proofs Go.Abs.Hung
set_option linter.unusedVariables false
set_option maxRecDepth 20000
abbrev O13 (T : List (List Int)) (P : List AV) (F : List Int) : List (Nat × OBlk) := [(16, ⟨22, 1, .any, [[AA T]]⟩), (80, ⟨47, 4, .any, [P]⟩), (112, ⟨25, 1, .any, [[.osl 384 1 F.length]]⟩), (384, ⟨3, 1, .pure, F.map enc⟩), (128, ⟨51, 1, .any, [[.func 32 [.ovar 16 0, .ovar 112 0, .ovar 80 0, .ovar 128 0]]]⟩)]
/-- the captured variables, as fix knows them -/
theorem toOV {E : Env} (hp : ∀ b, E.pin b = none) {T : List (List Int)} {x y z : List Int} {best : Int} {F : List Int} {K : KM} {a : Act} {w : World} (hF : 1 ≤ F.length)
    (hs : SRK E K ⟨[(5, .ovar 80 0), (7, .ovar 112 0), (8, .ovar 128 0)], O13 T (plan4 x y z best) F⟩ a w) :
    ∃ K', SRK E K' ⟨[(5, .rptr (plan4 x y z best) 0), (7, .ovar 2 0), (8, .ovar 6 0)], OV T (plan4 x y z best) F⟩ a w := by
  have one : ∀ {b e : Nat} {u : AV}, olk (O13 T (plan4 x y z best) F) b = some ⟨e, 1, .any, [[u]]⟩ → ∃ g cur v, K b = some (some g, 1) ∧ w.heap[g]? = some (.cells cur e (0, 0)) ∧ cur[0]? = some v ∧ v.oneCell' = true ∧ VR w (XX E K (O13 T (plan4 x y z best) F)) K u v := by
    intro b e u hb
    rcases hs.own b _ hb with ⟨_, h2⟩ | ⟨g, h1, cur, hc, hu⟩
    · cases h2
    · obtain ⟨v, hx, h3, h4⟩ := hu 0 u (by simp)
      exact ⟨g, cur, v, h1, hc, hx, h3, h4⟩
  obtain ⟨g1, cur1, x1, k1, c1, y1, o1, v1⟩ := one (b := 112) rfl
  obtain ⟨g3, cur3, x3, k3, c3, y3, o3, v3⟩ := one (b := 128) rfl
  obtain ⟨g2, cur2, k2, c2, u2⟩ : ∃ g cur, K 384 = some (some g, F.length) ∧ w.heap[g]? = some (.cells cur 3 (0, 0)) ∧ BlkR w (XX E K (O13 T (plan4 x y z best) F)) K g ⟨3, 1, .pure, F.map enc⟩ := by
    rcases hs.own 384 ⟨3, 1, .pure, F.map enc⟩ rfl with ⟨_, h2⟩ | ⟨g, h1, h2⟩
    · have := congrArg List.length h2
      rw [show ((⟨3, 1, .pure, F.map enc⟩ : OBlk).rows) = F.map enc from rfl, List.length_map, List.length_nil] at this
      omega
    · obtain ⟨cur, hc, hu⟩ := h2
      exact ⟨g, cur, by rw [h1]; simp, hc, cur, hc, hu⟩
  let K' : KM := fun b => if b = 2 then some (some g1, 1) else if b = 1808 then some (some g2, F.length) else if b = 6 then some (some g3, 1) else none
  have e2 : K' 2 = some (some g1, 1) := by simp [K']
  have e8 : K' 1808 = some (some g2, F.length) := by simp [K']
  have e6 : K' 6 = some (some g3, 1) := by simp [K']
  have hdom : ∀ {b v}, olk (OV T (plan4 x y z best) F) b = some v → b = 2 ∨ b = 1808 ∨ b = 6 := by
    intro b v h
    simp only [olk_cons] at h
    repeat' split at h
    · omega
    · omega
    · omega
    · simp [olk] at h
  have hlive : ∀ b g, (olk (OV T (plan4 x y z best) F) b).isSome = true → blkOf K' b = some g → (b = 2 ∧ g = g1) ∨ (b = 1808 ∧ g = g2) ∨ (b = 6 ∧ g = g3) := by
    intro b g hb hk
    obtain ⟨v, hx⟩ := Option.isSome_iff_exists.1 hb
    rcases hdom hx with rfl | rfl | rfl
    · rw [blkOf_of e2] at hk; injection hk with hk; exact .inl ⟨rfl, hk.symm⟩
    · rw [blkOf_of e8] at hk; injection hk with hk; exact .inr (.inl ⟨rfl, hk.symm⟩)
    · rw [blkOf_of e6] at hk; injection hk with hk; exact .inr (.inr ⟨rfl, hk.symm⟩)
  have hX : ∀ g, XX E K' (OV T (plan4 x y z best) F) g → XX E K (O13 T (plan4 x y z best) F) g := by
    rintro g (⟨b, hb, hk⟩ | h)
    · rcases hlive b g hb hk with ⟨_, rfl⟩ | ⟨_, rfl⟩ | ⟨_, rfl⟩
      · exact .inl ⟨112, rfl, blkOf_of k1⟩
      · exact .inl ⟨384, rfl, blkOf_of k2⟩
      · exact .inl ⟨128, rfl, blkOf_of k3⟩
    · exact .inr h
  have hnot : ∀ {b : Nat} {g : Nat}, (olk (O13 T (plan4 x y z best) F) b).isSome = true → blkOf K b = some g → b ≠ 112 → b ≠ 384 → b ≠ 128 → ¬ XX E K' (OV T (plan4 x y z best) F) g := by
    rintro b g hb hk n1 n2 n3 (⟨b', hb', hk'⟩ | ⟨h1, h2⟩)
    · rcases hlive b' g hb' hk' with ⟨_, rfl⟩ | ⟨_, rfl⟩ | ⟨_, rfl⟩
      · exact n1 (hs.inj b 112 _ hb rfl hk (blkOf_of k1))
      · exact n2 (hs.inj b 384 _ hb rfl hk (blkOf_of k2))
      · exact n3 (hs.inj b 128 _ hb rfl hk (blkOf_of k3))
    · rcases hs.mine b g hb hk with h | h
      · exact E.hxf g h1 h
      · omega
  have rd : ∀ {b : Nat} {row : List AV} {e sz : Nat} {v : Value}, olk (O13 T (plan4 x y z best) F) b = some ⟨e, sz, .any, [row]⟩ → AV.idlessL row = true → b ≠ 112 → b ≠ 384 → b ≠ 128 → VR w (XX E K (O13 T (plan4 x y z best) F)) K (.ovar b 0) v → VR w (XX E K' (OV T (plan4 x y z best) F)) K' (.rptr row 0) v := by
    intro b row e sz v hb hrow n1 n2 n3 hv
    exact (hs.rptr_of (c := ⟨_, O13 T (plan4 x y z best) F⟩) hb hrow hv (fun g _ => hX g) fun g hg => hnot (by rw [hb]; rfl) hg n1 n2 n3).any K'
  have hclo : VR w (XX E K' (OV T (plan4 x y z best) F)) K' (clo32 T (plan4 x y z best)) x3 := by
    obtain ⟨vs, rfl, hlen, hvs⟩ := VR.func_inv v3
    refine .func hlen fun j u v hu hx => ?_
    have ov : ∀ {b b' g : Nat}, K b = some (some g, 1) → K' b' = some (some g, 1) → VR w (XX E K (O13 T (plan4 x y z best) F)) K (.ovar b 0) v → VR w (XX E K' (OV T (plan4 x y z best) F)) K' (.ovar b' 0) v := by
      intro b b' g hk hk' hv
      obtain ⟨g', h1, rfl⟩ := VR.ovar_inv hv
      rw [blkOf_of hk] at h1; injection h1 with h1; subst h1
      exact .ovar (blkOf_of hk')
    match j with
    | 0 => simp at hu; subst hu; exact rd (b := 16) rfl rfl (by decide) (by decide) (by decide) (hvs 0 _ v rfl hx)
    | 1 => simp at hu; subst hu; exact ov k1 e2 (hvs 1 _ v rfl hx)
    | 2 => simp at hu; subst hu; exact rd (b := 80) rfl rfl (by decide) (by decide) (by decide) (hvs 2 _ v rfl hx)
    | 3 => simp at hu; subst hu; exact ov k3 e6 (hvs 3 _ v rfl hx)
    | j + 4 => simp at hu
  have cells1 : ∀ {cur : Array Value} {v : Value} {u : AV}, cur[0]? = some v → v.oneCell' = true → VR w (XX E K' (OV T (plan4 x y z best) F)) K' u v →
      ∀ (j : Nat) u', ([[u]] : List (List AV)).flatten[j]? = some u' → ∃ c, cur[j]? = some c ∧ c.oneCell' = true ∧ VR w (XX E K' (OV T (plan4 x y z best) F)) K' u' c := by
    intro cur v u hx h1 hv j u' hj
    cases j with
    | zero => simp at hj; subst hj; exact ⟨v, hx, h1, hv⟩
    | succ j => simp at hj
  refine ⟨K', hs.size, hs.defers, hs.ext, fun t => ?_, fun b v hb => ?_, fun b v hb => ?_, fun b b' g h1 h2 q1 q2 => ?_, fun b g h1 q1 => ?_, fun b v hx => by rw [hp b] at hx; cases hx⟩
  · have h5 := hs.fr 5
    have h7 := hs.fr 7
    have h8 := hs.fr 8
    show FV w _ K' _ (lk [(5, .rptr (plan4 x y z best) 0), (7, .ovar 2 0), (8, .ovar 6 0)] t) _
    simp only [lk_cons]
    split
    · rename_i h; subst h
      exact rd (b := 80) rfl rfl (by decide) (by decide) (by decide) h5
    · split
      · rename_i h; subst h
        obtain ⟨g, q1, q2⟩ := VR.ovar_inv h7
        rw [blkOf_of k1] at q1; injection q1 with q1; subst q1
        rw [q2]; exact VR.ovar (blkOf_of e2)
      · split
        · rename_i h; subst h
          obtain ⟨g, q1, q2⟩ := VR.ovar_inv h8
          rw [blkOf_of k3] at q1; injection q1 with q1; subst q1
          rw [q2]; exact VR.ovar (blkOf_of e6)
        · exact VR.top
  · rcases hdom hb with rfl | rfl | rfl <;> injection hb with hb <;> subst hb
    · simp
    · intro row hr
      simp only [List.mem_map] at hr
      obtain ⟨q, _, rfl⟩ := hr; rfl
    · simp
  · rcases hdom hb with rfl | rfl | rfl <;> injection hb with hb <;> subst hb
    · refine .inr ⟨g1, e2, cur1, c1, cells1 y1 o1 ?_⟩
      rcases VR.osl_inv v1 with ⟨h1, hz, _⟩ | ⟨g, cap, cur, e', mm, hK, hnm, rfl, hc, hnc, hmx, hcur⟩
      · omega
      · rw [k2] at hK; injection hK with hK; injection hK with hK1 hK2; injection hK1 with hK1; subst hK1 hK2
        exact .osl e8 hnm hc hnc hmx hcur
    · refine .inr ⟨g2, by rw [e8]; simp, ?_⟩
      obtain ⟨cur, hc, hu⟩ := u2
      exact ⟨cur, hc, hu⟩
    · exact .inr ⟨g3, e6, cur3, c3, cells1 y3 o3 hclo⟩
  · have n12 : g1 ≠ g2 := by
      intro h; subst h
      have := hs.inj 112 384 g1 rfl rfl (blkOf_of k1) (blkOf_of k2)
      cases this
    have n13 : g1 ≠ g3 := by
      intro h; subst h
      have := hs.inj 112 128 g1 rfl rfl (blkOf_of k1) (blkOf_of k3)
      cases this
    have n23 : g2 ≠ g3 := by
      intro h; subst h
      have := hs.inj 384 128 g2 rfl rfl (blkOf_of k2) (blkOf_of k3)
      cases this
    rcases hlive b g h1 q1 with ⟨rfl, rfl⟩ | ⟨rfl, rfl⟩ | ⟨rfl, rfl⟩ <;> rcases hlive b' _ h2 q2 with ⟨rfl, h⟩ | ⟨rfl, h⟩ | ⟨rfl, h⟩ <;> first | rfl | exact absurd h n12 | exact absurd h n13 | exact absurd h n23 | exact absurd h.symm n12 | exact absurd h.symm n13 | exact absurd h.symm n23
  · rcases hlive b g h1 q1 with ⟨rfl, rfl⟩ | ⟨rfl, rfl⟩ | ⟨rfl, rfl⟩
    · exact hs.mine 112 _ rfl (blkOf_of k1)
    · exact hs.mine 384 _ rfl (blkOf_of k2)
    · exact hs.mine 128 _ rfl (blkOf_of k3)
end Go.Abs.L38
