import Derived.Test.YtknbomaidhlnlaaL42g
namespace Go.Abs.L42
open Go Go.Abs Go.Proofs
set_option linter.unusedVariables false
set_option maxRecDepth 20000
/-- the map is filled: no box is found lent twice -/
theorem mapAll {m : List Req} {st : List St} (i : Nat) (hc : checkE m = 0) (hm : m.length ≤ 40) {Q : Ex → Cfg → Prop}
    (hQ : ∀ c', Wk c' (C7 m st i) → Q .normal c') : SemA Try.prog 77 (mapCode (body Try.f7)) (C7 m st i) Q := by
  rintro E hN Q' a w hQ' ⟨K, hs⟩
  have hQ'' : ∀ {K a w c'}, SRK E K c' a w → Wk c' (C7 m st i) → Q' .normal a w := fun h hw => hQ' _ _ _ _ (hQ _ hw) ⟨_, h⟩
  clear hQ hQ'
  change (Code.seq _ _).wp _ _ _ _
  refine wp_seq (wp_region ?_)
  change wpOps _ _ _ (0 :: (List.range' 1 1 ++ [])) _ _
  rw [wpOps_cons]
  refine wpOp_makeMap rfl rfl (wanted_no rfl) ?_
  have hmv := hs.move (Step.alloc (fun _ => False) w (.map #[] 0))
  have hs1 := hmv.put (dst := some 47) (u := .lit (.map (some w.heap.size))) (v := .map (some w.heap.size)) (by rw [hN]; rfl) (fun d _ => FV.of .lit)
  have hM : MI E w.heap.size (outF (m.take 0)) (w.alloc (.map #[] 0)) := ⟨⟨#[], 0, (Go.MapKept.heap_alloc w _).1, by
    have : outF (m.take 0) = fun _ => false := by funext k; simp [outF]
    rw [this]; exact MapB.empty⟩, .inr hs.ext.size⟩
  clear hmv hs
  generalize w.heap.size = g at hs1 hM
  refine WO7 hN hs1 ⟨⟨[], []⟩, [], []⟩ 1 1 rfl (dm := []) (Kk := fun c' => c' = _) rfl ?_
  rintro c1 K1 a1 w1 rfl hs2 hl2
  replace hM := hM.left hs1 hl2
  clear hs1 hl2
  change (Code.seq _ _).wp _ _ _ _
  refine wp_seq (W7 hN hs2 (Q := fun e c' => e = .normal ∧ c' = _) rfl ⟨rfl, rfl⟩ ?_)
  rintro e c1 K2 a2 w2 ⟨rfl, rfl⟩ hs3 hl3
  replace hM := hM.left hs2 hl3
  clear hs2 hl3
  change (Code.block _ _).wp _ _ _ _
  refine wp_block (wp_loop_ghost (fun n a w => ∃ K j, n = m.length - j ∧ j ≤ m.length ∧ SRK E K ⟨[(0, A m), (1, SS st), (4, .bool false), (9, .lit (.map (some g))), (28, SS st), (29, I st.length), (30, I i), (48, A m), (49, I m.length), (50, I j)], []⟩ a w ∧ MI E g (outF (m.take j)) w) m.length ⟨K2, 0, by omega, by omega, SRK.only hs3 [0, 1, 4, 9, 28, 29, 30, 48, 49, 50] [], hM⟩ ?_)
  clear hs3 hM
  rintro n a w ⟨K, j, rfl, hj, hs, hM⟩
  refine wp_seq (W7 hN hs (Q := fun e c' => e = .normal ∧ c' = _) rfl ⟨rfl, rfl⟩ ?_)
  rintro e c1 K2 a2 w2 ⟨rfl, rfl⟩ hs2 hl2
  replace hM := hM.left hs hl2
  clear hs hl2
  change (Code.seq _ _).wp _ _ _ _
  by_cases hlt : j < m.length
  · obtain ⟨r, hr, _, _⟩ := drop_cons hlt
    have hd : decide ((j : Int) < (m.length : Int)) = true := by simp; omega
    refine wp_seq (W7 hN hs2 (Q := fun e c' => e = .normal ∧ c' = _) rfl ⟨fun _ => ⟨rfl, rfl⟩, fun h => (by rw [show _ = true from hd] at h; cases h)⟩ ?_)
    rintro e c1 K3 a3 w3 ⟨rfl, rfl⟩ hs3 hl3
    replace hM := hM.left hs2 hl3
    clear hs2 hl3
    rw [show ((AV.bool (decide ((j : Int) < (m.length : Int)))) : AV) = .bool true by rw [hd]] at hs3
    change (Code.seq _ _).wp _ _ _ _
    refine wp_seq (wp_block ?_)
    refine mapRound hN i hc hm hr hs3 hM ?_
    intro K4 a4 w4 hs4 hM4
    clear hs3 hM
    change (Code.region _ _ _).wp _ _ _ _
    refine W7 hN hs4 (Q := fun e c' => e = .normal ∧ c' = _) rfl ⟨_, wrap64 (by omega) (by omega), rfl, rfl⟩ ?_
    rintro e c1 K5 a5 w5 ⟨rfl, rfl⟩ hs5 hl5
    exact ⟨m.length - (j + 1), by omega, K5, j + 1, rfl, by omega, SRK.only hs5 [0, 1, 4, 9, 28, 29, 30, 48, 49, 50] [], hM4.left hs4 hl5⟩
  · have hd : decide ((j : Int) < (m.length : Int)) = false := by simp; omega
    refine wp_seq (W7 hN hs2 (Q := fun e c' => e = .exit 2 ∧ c' = _) rfl ⟨fun h => (by rw [show _ = false from hd] at h; cases h), fun _ => ⟨rfl, rfl⟩⟩ ?_)
    rintro e c1 K3 a3 w3 ⟨rfl, rfl⟩ hs3 hl3
    refine hQ'' hs3 ?_
    exact Wk.keep [0, 1, 4, 28, 29, 30] []
end Go.Abs.L42
