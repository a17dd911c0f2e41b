import Derived.Test.YtnmpnlhlbjemeaaC39n
namespace Go.Abs.L39
open Go Go.Abs Go.Proofs
set_option linter.unusedVariables false
set_option maxRecDepth 20000
abbrev O18 (l : List Int) (room least : Int) : List (Nat × OBlk) := [(32, ⟨22, 1, .any, [[A l]]⟩), (48, ⟨3, 1, .any, [[I room]]⟩), (96, ⟨3, 1, .any, [[I least]]⟩), (128, ⟨25, 1, .any, [[.nilsl]]⟩), (144, ⟨22, 1, .any, [[.nilsl]]⟩), (160, ⟨46, 1, .any, [[.func 33 [.ovar 32 0, .ovar 128 0, .ovar 144 0, .ovar 48 0, .ovar 160 0, .ovar 96 0]]]⟩)]
/-- the captured variables, as put knows them -/
theorem toOP {E : Env} (hp : ∀ b, E.pin b = none) {l : List Int} {room least : Int} {K : KM} {a : Act} {w : World}
    (hs : SRK E K ⟨[(4, .nilsl), (5, I 0), (8, .ovar 128 0), (10, .ovar 160 0)], O18 l room least⟩ a w) :
    ∃ K', SRK E K' ⟨[(4, .nilsl), (5, I 0), (8, .ovar 2 0), (10, .ovar 6 0)], OP l room least 0 ⟨22, 1, .pure, lits []⟩ []⟩ a w := by
  have one : ∀ {b e : Nat} {u : AV}, olk (O18 l room least) b = some ⟨e, 1, .any, [[u]]⟩ → ∃ g cur x, K b = some (some g, 1) ∧ w.heap[g]? = some (.cells cur e (0, 0)) ∧ cur[0]? = some x ∧ x.oneCell' = true ∧ VR w (XX E K (O18 l room least)) K u x := by
    intro b e u hb
    rcases hs.own b _ hb with ⟨_, h2⟩ | ⟨g, h1, cur, hc, hu⟩
    · cases h2
    · obtain ⟨x, hx, h3, h4⟩ := hu 0 u (by simp)
      exact ⟨g, cur, x, h1, hc, hx, h3, h4⟩
  obtain ⟨g1, cur1, x1, k1, c1, y1, o1, v1⟩ := one (b := 128) rfl
  obtain ⟨g2, cur2, x2, k2, c2, y2, o2, v2⟩ := one (b := 144) rfl
  obtain ⟨g3, cur3, x3, k3, c3, y3, o3, v3⟩ := one (b := 160) rfl
  let K' : KM := fun b => if b = 2 then some (some g1, 1) else if b = 4 then some (some g2, 1) else if b = 6 then some (some g3, 1) else if b = 1808 then some (none, 0) else if b = 1824 then some (none, 0) else none
  have e2 : K' 2 = some (some g1, 1) := by simp [K']
  have e4 : K' 4 = some (some g2, 1) := by simp [K']
  have e6 : K' 6 = some (some g3, 1) := by simp [K']
  have e8 : K' 1808 = some (none, 0) := by simp [K']
  have e9 : K' 1824 = some (none, 0) := by simp [K']
  have hdom : ∀ {b x}, olk (OP l room least 0 ⟨22, 1, .pure, lits []⟩ []) b = some x → b = 2 ∨ b = 1808 ∨ b = 4 ∨ b = 1824 ∨ b = 6 := by
    intro b x h
    simp only [olk_cons] at h
    repeat' split at h
    · omega
    · omega
    · omega
    · omega
    · omega
    · simp [olk] at h
  have hlive : ∀ b g, (olk (OP l room least 0 ⟨22, 1, .pure, lits []⟩ []) b).isSome = true → blkOf K' b = some g → (b = 2 ∧ g = g1) ∨ (b = 4 ∧ g = g2) ∨ (b = 6 ∧ g = g3) := by
    intro b g hb hk
    obtain ⟨x, hx⟩ := Option.isSome_iff_exists.1 hb
    rcases hdom hx with rfl | rfl | rfl | rfl | rfl
    · rw [blkOf_of e2] at hk; injection hk with hk; exact .inl ⟨rfl, hk.symm⟩
    · simp [blkOf, e8] at hk
    · rw [blkOf_of e4] at hk; injection hk with hk; exact .inr (.inl ⟨rfl, hk.symm⟩)
    · simp [blkOf, e9] at hk
    · rw [blkOf_of e6] at hk; injection hk with hk; exact .inr (.inr ⟨rfl, hk.symm⟩)
  have hX : ∀ g, XX E K' (OP l room least 0 ⟨22, 1, .pure, lits []⟩ []) g → XX E K (O18 l room least) g := by
    rintro g (⟨b, hb, hk⟩ | h)
    · rcases hlive b g hb hk with ⟨_, rfl⟩ | ⟨_, rfl⟩ | ⟨_, rfl⟩
      · exact .inl ⟨128, rfl, blkOf_of k1⟩
      · exact .inl ⟨144, rfl, blkOf_of k2⟩
      · exact .inl ⟨160, rfl, blkOf_of k3⟩
    · exact .inr h
  have hnot : ∀ {b : Nat} {g : Nat}, (olk (O18 l room least) b).isSome = true → blkOf K b = some g → b ≠ 128 → b ≠ 144 → b ≠ 160 → ¬ XX E K' (OP l room least 0 ⟨22, 1, .pure, lits []⟩ []) g := by
    rintro b g hb hk n1 n2 n3 (⟨b', hb', hk'⟩ | ⟨h1, h2⟩)
    · rcases hlive b' g hb' hk' with ⟨_, rfl⟩ | ⟨_, rfl⟩ | ⟨_, rfl⟩
      · exact n1 (hs.inj b 128 _ hb rfl hk (blkOf_of k1))
      · exact n2 (hs.inj b 144 _ hb rfl hk (blkOf_of k2))
      · exact n3 (hs.inj b 160 _ hb rfl hk (blkOf_of k3))
    · rcases hs.mine b g hb hk with h | h
      · exact E.hxf g h1 h
      · omega
  have hclo : VR w (XX E K' (OP l room least 0 ⟨22, 1, .pure, lits []⟩ [])) K' (clo l room least) x3 := by
    obtain ⟨vs, rfl, hlen, hvs⟩ := VR.func_inv v3
    refine .func hlen fun j u x hu hx => ?_
    have rd : ∀ {b : Nat} {row : List AV} {e : Nat}, olk (O18 l room least) b = some ⟨e, 1, .any, [row]⟩ → AV.idlessL row = true → b ≠ 128 → b ≠ 144 → b ≠ 160 → VR w (XX E K (O18 l room least)) K (.ovar b 0) x → VR w (XX E K' (OP l room least 0 ⟨22, 1, .pure, lits []⟩ [])) K' (.rptr row 0) x := by
      intro b row e hb hrow n1 n2 n3 hv
      exact (hs.rptr_of (c := ⟨_, O18 l room least⟩) hb hrow hv (fun g _ => hX g) fun g hg => hnot (by rw [hb]; rfl) hg n1 n2 n3).any K'
    have ov : ∀ {b b' g : Nat}, K b = some (some g, 1) → K' b' = some (some g, 1) → VR w (XX E K (O18 l room least)) K (.ovar b 0) x → VR w (XX E K' (OP l room least 0 ⟨22, 1, .pure, lits []⟩ [])) K' (.ovar b' 0) x := by
      intro b b' g hk hk' hv
      obtain ⟨g', h1, rfl⟩ := VR.ovar_inv hv
      rw [blkOf_of hk] at h1; injection h1 with h1; subst h1
      exact .ovar (blkOf_of hk')
    match j with
    | 0 => simp at hu; subst hu; exact rd (b := 32) rfl rfl (by decide) (by decide) (by decide) (hvs 0 _ x rfl hx)
    | 1 => simp at hu; subst hu; exact ov k1 e2 (hvs 1 _ x rfl hx)
    | 2 => simp at hu; subst hu; exact ov k2 e4 (hvs 2 _ x rfl hx)
    | 3 => simp at hu; subst hu; exact rd (b := 48) rfl rfl (by decide) (by decide) (by decide) (hvs 3 _ x rfl hx)
    | 4 => simp at hu; subst hu; exact ov k3 e6 (hvs 4 _ x rfl hx)
    | 5 => simp at hu; subst hu; exact rd (b := 96) rfl rfl (by decide) (by decide) (by decide) (hvs 5 _ x rfl hx)
    | j + 6 => simp at hu
  have cells1 : ∀ {cur : Array Value} {x : Value} {u : AV}, cur[0]? = some x → x.oneCell' = true → VR w (XX E K' (OP l room least 0 ⟨22, 1, .pure, lits []⟩ [])) K' u x →
      ∀ (j : Nat) u', ([[u]] : List (List AV)).flatten[j]? = some u' → ∃ c, cur[j]? = some c ∧ c.oneCell' = true ∧ VR w (XX E K' (OP l room least 0 ⟨22, 1, .pure, lits []⟩ [])) K' u' c := by
    intro cur x u hx h1 hv j u' hj
    cases j with
    | zero => simp at hj; subst hj; exact ⟨x, hx, h1, hv⟩
    | succ j => simp at hj
  refine ⟨K', hs.size, hs.defers, hs.ext, fun t => ?_, fun b x hb => ?_, fun b x hb => ?_, fun b b' g h1 h2 q1 q2 => ?_, fun b g h1 q1 => ?_, fun b x hx => by rw [hp b] at hx; cases hx⟩
  · have h4 := hs.fr 4
    have h5 := hs.fr 5
    have h8 := hs.fr 8
    have h10 := hs.fr 10
    show FV w _ K' _ (lk [(4, .nilsl), (5, I 0), (8, .ovar 2 0), (10, .ovar 6 0)] t) _
    simp only [lk_cons]
    split
    · rename_i h; subst h; rw [VR.nilsl_inv h4]; exact VR.nilsl
    · split
      · rename_i h; subst h; rw [VR.int_inv h5]; exact VR.int
      · split
        · rename_i h; subst h
          obtain ⟨g, q1, q2⟩ := VR.ovar_inv h8
          rw [blkOf_of k1] at q1; injection q1 with q1; subst q1
          rw [q2]; exact VR.ovar (blkOf_of e2)
        · split
          · rename_i h; subst h
            obtain ⟨g, q1, q2⟩ := VR.ovar_inv h10
            rw [blkOf_of k3] at q1; injection q1 with q1; subst q1
            rw [q2]; exact VR.ovar (blkOf_of e6)
          · exact VR.top
  · rcases hdom hb with rfl | rfl | rfl | rfl | rfl <;> injection hb with hb <;> subst hb <;> simp [lits]
  · rcases hdom hb with rfl | rfl | rfl | rfl | rfl <;> injection hb with hb <;> subst hb
    · refine .inr ⟨g1, e2, cur1, c1, cells1 y1 o1 ?_⟩
      rw [VR.nilsl_inv v1]; exact .oslnil e8
    · exact .inl ⟨e8, rfl⟩
    · refine .inr ⟨g2, e4, cur2, c2, cells1 y2 o2 ?_⟩
      rw [VR.nilsl_inv v2]; exact .oslnil e9
    · exact .inl ⟨e9, rfl⟩
    · exact .inr ⟨g3, e6, cur3, c3, cells1 y3 o3 hclo⟩
  · have n12 : g1 ≠ g2 := by
      intro h; subst h
      have := hs.inj 128 144 g1 rfl rfl (blkOf_of k1) (blkOf_of k2)
      cases this
    have n13 : g1 ≠ g3 := by
      intro h; subst h
      have := hs.inj 128 160 g1 rfl rfl (blkOf_of k1) (blkOf_of k3)
      cases this
    have n23 : g2 ≠ g3 := by
      intro h; subst h
      have := hs.inj 144 160 g2 rfl rfl (blkOf_of k2) (blkOf_of k3)
      cases this
    rcases hlive b g h1 q1 with ⟨rfl, rfl⟩ | ⟨rfl, rfl⟩ | ⟨rfl, rfl⟩ <;> rcases hlive b' _ h2 q2 with ⟨rfl, h⟩ | ⟨rfl, h⟩ | ⟨rfl, h⟩ <;> first | rfl | exact absurd h n12 | exact absurd h n13 | exact absurd h n23 | exact absurd h.symm n12 | exact absurd h.symm n13 | exact absurd h.symm n23
  · rcases hlive b g h1 q1 with ⟨rfl, rfl⟩ | ⟨rfl, rfl⟩ | ⟨rfl, rfl⟩
    · exact hs.mine 128 _ rfl (blkOf_of k1)
    · exact hs.mine 144 _ rfl (blkOf_of k2)
    · exact hs.mine 160 _ rfl (blkOf_of k3)
end Go.Abs.L39
