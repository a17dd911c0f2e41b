import Derived.Test.YtnmpnlhlbjemeaaC2
namespace Go.Abs
open Go.RowKit
/-- an empty fresh slice, of whatever kind -/
theorem fn_fsl0 {P : Program} {f : FuncId} {us : List AV} {p q : Bool} {e sz : Nat} (h : Fn P f us (.fsl p e sz 0 [])) : Fn P f us (.fsl q e sz 0 []) := by
  refine ⟨h.1, fun X w vs hw hl ha => (h.2 X w vs hw hl ha).mono ?_⟩
  rintro en w' ⟨v, rfl, ⟨h1, h2, h3⟩, hb⟩
  refine ⟨_, rfl, ⟨h1, h2, ?_⟩, hb⟩
  rcases h3 with h3 | ⟨g, cap, cur, a1, a2, a3, a4, a5, a6, a7⟩
  · exact .inl h3
  · exact .inr ⟨g, cap, cur, a1, a2, a3, a4, a5, a6, fun j u hj => by simp at hj⟩
end Go.Abs
namespace Go.Abs.L39
open Go Go.Abs Go.Proofs
set_option linter.unusedVariables false
set_option maxRecDepth 20000
abbrev fAA (T : List (List Int)) : AV := .fsl false 22 1 T.length (T.map encT)
theorem c40n : Fn Try.prog 40 [.nilsl] (fAA []) := mk40 rfl ⟨fun _ => ⟨rfl, .inr ⟨_, _, _, rfl⟩⟩, fun h => by cases h⟩
theorem c40e : Fn Try.prog 40 [.esl] (fAA []) := fn_fsl0 (p := true) (mk40 rfl ⟨fun h => (by cases h), fun _ => ⟨by decide, rfl, _, rfl, rfl, rfl, .inl ⟨rfl, rfl⟩⟩⟩)
theorem c40 (T : List (List Int)) (hT : T.length ≤ 10000) : Fn Try.prog 40 [AA T] (fAA T) := by
  cases T with
  | nil => exact fn_empty c40n c40e
  | cons t T =>
    refine fn_ofW (N := 8) [.tmp 2] tabOK Try.func40 rfl (by kernel_rfl) rfl rfl rfl ?_
    intro E K a w hN hp hs
    have W8 : ∀ {K : KM} {fr : List (Nat × AV)} {V : List (Nat × OBlk)} {a : Act} {w : World} {code : Code} {Q : Ex → Cfg → Prop} {Q' : Exit → Act → World → Prop}, SRK E K ⟨fr, V⟩ a w → drawsOK code = true →
        ev Try.prog tt 8 [0, 2, 4, 7] code ⟨fr, V⟩ Q → (∀ e c' K' a' w', Q e c' → SRK E K' c' a' w' → Q' e.toExit a' w') → code.wp Try.prog Q' a w := by
      intro K fr V a w code Q Q' hs hd h hQ
      refine wp_ev (Tl := []) tabOK tabOne mixed hN TailOK.nil (Apart.nil _) hd h (by rw [List.append_nil]; exact hs) ?_
      intro e c' K' a' w' q h' _
      rw [List.append_nil] at h'
      exact hQ e c' K' a' w' q h'
    change (Code.seq _ _).wp _ _ _ _
    refine wp_seq (W8 hs rfl (Q := fun e c' => e = .normal ∧ c' = _) ⟨rfl, rfl⟩ ?_)
    rintro e c1 K1 a1 w1 ⟨rfl, rfl⟩ hs1
    change (Code.seq _ _).wp _ _ _ _
    refine wp_seq (W8 hs1 rfl (Q := fun e c' => e = .normal ∧ c' = _) ⟨by show (0 : Nat) < _; simp, fun h => (by cases h), fun _ => ⟨rfl, rfl⟩⟩ ?_)
    rintro e c1 K2 a2 w2 ⟨rfl, rfl⟩ hs2
    change (Code.seq _ _).wp _ _ _ _
    refine wp_seq (wp_region ?_)
    change wpOps _ _ _ (List.range' 0 1 ++ (List.range' 1 3 ++ [])) _ _
    refine wp_evOpsN (V := []) (Tl := []) (dm := []) tabOK tabOne hN hs2 TailOK.nil (Apart.nil _) ⟨⟨[], []⟩, [], []⟩ 0 1 rfl (Kk := fun c' => c' = _) rfl ?_
    rintro c1 K4 a4 w4 rfl hs4 _
    have hs5 := SRK.recastK (b := 80) (blk := ⟨22, 1, .flat, []⟩) (blk0 := ⟨22, 1, .pure, []⟩) hs4 rfl rfl rfl (fun g hB => by
      obtain ⟨cur, hc, _⟩ := hB
      exact ⟨cur, hc, fun j u hj => by simp at hj⟩)
    refine wp_evOpsN (V := [(80, ⟨22, 1, .flat, []⟩)]) (Tl := []) (dm := []) tabOK tabOne hN hs5 TailOK.nil (Apart.nil _) ⟨⟨[], []⟩, [], []⟩ 1 3 rfl (Kk := fun c' => c' = _) ⟨⟨?_, ?_⟩, rfl⟩ ?_
    · show (0 + (T.length + 1)) * 24 ≤ _
      simp at hT; omega
    · show 0 + (T.length + 1) ≤ _
      simp at hT; omega
    rintro c1 K6 a6 w6 rfl hs6 _
    change Code.ret.wp _ _ _ _
    refine wp_ret ⟨.inr rfl, K6, _, hs6, rfl, _, rfl, rfl, ?_, .inr ⟨rfl, ?_⟩⟩
    · show 0 + (T.length + 1) = _
      simp
    · show AV.fsl false 22 1 (T.length + 1) _ = AV.fsl false 22 1 (0 + (T.length + 1)) _
      rw [Nat.zero_add]; rfl
end Go.Abs.L39
