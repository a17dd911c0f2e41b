import Derived.Test.YtknbomaidhlnlaaL42f
namespace Go.Abs.L42
open Go Go.Abs Go.Proofs
set_option linter.unusedVariables false
set_option maxRecDepth 20000
/-- the code behind the check of a step's list -/
def mapCode : Code → Code
  | .seq _ (.seq _ (.seq _ (.seq (.seq _ (.block _ (.loop (.seq _ (.seq _ (.seq (.block _ (.seq _ (.seq _ (.seq _ (.seq _ (.seq _ c)))))) _)))))) _))) => c
  | c => c
/-- one round over the list -/
def roundCode (c : Code) : Code :=
  match mapCode c with
  | .seq _ (.seq _ (.block _ (.loop (.seq _ (.seq _ (.seq (.block _ c) _)))))) => c
  | c => c
/-- one request of the list -/
theorem mapRound {E : Env} (hN : E.N = 77) {m : List Req} {st : List St} (i : Nat) (hc : checkE m = 0) (hm : m.length ≤ 40) {g j : Nat} {r : Req} (hj : m[j]? = some r)
    {K : KM} {a : Act} {w : World} {Q : Exit → Act → World → Prop}
    (hs : SRK E K ⟨[(0, A m), (1, SS st), (4, .bool false), (9, .lit (.map (some g))), (28, SS st), (29, I st.length), (30, I i), (48, A m), (49, I m.length), (50, I j), (51, .bool true)], []⟩ a w) (hM : MI E g (outF (m.take j)) w)
    (hQ : ∀ K' a' w', SRK E K' ⟨[(0, A m), (1, SS st), (4, .bool false), (9, .lit (.map (some g))), (28, SS st), (29, I st.length), (30, I i), (48, A m), (49, I m.length), (50, I j)], []⟩ a' w' → MI E g (outF (m.take (j + 1))) w' → Q .normal a' w') : (roundCode (body Try.f7)).wp Try.prog Q a w := by
  have hjl : j < m.length := (List.getElem?_eq_some_iff.1 hj).1
  have htk : m.take (j + 1) = m.take j ++ [r] := by rw [List.take_add_one, hj]; rfl
  -- the request is loaded
  refine wp_seq (W7 hN hs (Q := fun e c' => e = .normal ∧ c' = ⟨[(0, A m), (1, SS st), (4, .bool false), (9, .lit (.map (some g))), (11, .ovar 176 0), (28, SS st), (29, I st.length), (30, I i), (48, A m), (49, I m.length), (50, I j), (51, .bool true)], [(176, ⟨24, 7, .any, [encR r]⟩)]⟩) rfl ⟨⟨by omega, by omega⟩, encR r, get_map hj, rfl, rfl⟩ fun e c' K' a' w' hq hs' hl => ?_)
  obtain ⟨rfl, rfl⟩ := hq
  replace hM := hM.left hs hl
  clear hs hl
  change (Code.seq _ _).wp _ _ _ _
  refine wp_seq (wp_seq (wp_mono (Q := fun e a1 w1 => e = .normal ∧ ∃ K1, SRK E K1 ⟨[(0, A m), (1, SS st), (4, .bool false), (9, .lit (.map (some g))), (11, .ovar 176 0), (28, SS st), (29, I st.length), (30, I i), (48, A m), (49, I m.length), (50, I j), (62, .bool false)], [(176, ⟨24, 7, .any, [encR r]⟩)]⟩ a1 w1 ∧ MI E g (outF (m.take j)) w1) ?_ ?_))
  · by_cases hst : r.st = 2
    · have hno := outF_not hc hj hst
      obtain ⟨⟨es, cl, hg, hB⟩, hmine⟩ := hM
      refine wp_region ?_
      change wpOps _ _ _ (List.range' 0 7 ++ (7 :: (List.range' 8 1 ++ []))) _ _
      refine WO7 hN hs' ⟨⟨[], []⟩, [], []⟩ 0 7 rfl (dm := [(3, true)]) (Kk := fun c' => c' = _) ⟨by show ((r.st == 2) = true); simp [hst], rfl⟩ ?_
      rintro c1 K1 a1 w1 rfl hs1 hl1
      have hg1 : w1.heap[g]? = some (.map es cl) := by rw [hl1.block g (Array.getElem?_eq_some_iff.1 hg).1 (hs'.notLive hg)]; exact hg
      clear hl1 hs'
      have h57 : a1.tmps.getD 57 undef = .bool true := VR.bool_inv (hs1.fr 57)
      have h58 : a1.tmps.getD 58 undef = .map (some g) := VR.lit_inv (hs1.fr 58)
      have h60 : a1.tmps.getD 60 undef = ik r.bx := VR.int_inv (hs1.fr 60)
      rw [wpOps_cons]
      refine wpOp_lookup (v := .bool false) rfl rfl (wanted_of rfl rfl h57) ?_ ?_
      · have := run_lookup (P := Try.prog) u49 Try.underlying3 (z4 w1) hg1 hB r.bx
        rw [hno, ← h58, ← h60] at this
        exact this
      have hs2 := hs1.put (dst := some 61) (u := .bool false) (v := .bool false) (by rw [hN]; rfl) (fun d _ => FV.of .bool)
      refine WO7 hN hs2 ⟨⟨[], []⟩, [], []⟩ 8 1 rfl (dm := []) (Kk := fun c' => c' = _) rfl ?_
      rintro c2 K2 a2 w2 rfl hs3 hl3
      have hg3 : w2.heap[g]? = some (.map es cl) := by rw [hl3.block g (Array.getElem?_eq_some_iff.1 hg1).1 (hs2.notLive hg1)]; exact hg1
      exact ⟨rfl, _, SRK.only hs3 [0, 1, 4, 9, 11, 28, 29, 30, 48, 49, 50, 62] [176], ⟨es, cl, hg3, hB⟩, hmine⟩
    · refine W7 hN hs' (Q := fun e c' => e = .normal ∧ c' = _) rfl ⟨[(3, false)], by show ((r.st == 2) = false); simp [hst], rfl, rfl⟩ ?_
      rintro e c1 K1 a1 w1 ⟨rfl, rfl⟩ hs1 hl1
      exact ⟨rfl, _, SRK.only hs1 [0, 1, 4, 9, 11, 28, 29, 30, 48, 49, 50, 62] [176], hM.left hs' hl1⟩
  clear hs' hM
  rintro e a1 w1 ⟨rfl, K1, hs1, hM⟩
  change (Code.cond _ _ _).wp _ _ _ _
  refine W7 hN hs1 (Q := fun e c' => e = .normal ∧ c' = _) rfl ⟨fun h => (by cases h), fun _ => ⟨rfl, rfl⟩⟩ ?_
  rintro e c1 K2 a2 w2 ⟨rfl, rfl⟩ hs2 hl2
  replace hM := hM.left hs1 hl2
  clear hs1 hl2
  change (Code.region _ _ _).wp _ _ _ _
  obtain ⟨⟨es, cl, hg, hB⟩, hmine⟩ := hM
  refine wp_region ?_
  change wpOps _ _ _ (List.range' 0 6 ++ (6 :: (List.range' 7 5 ++ [12]))) _ _
  refine WO7 hN hs2 ⟨⟨[], []⟩, [], []⟩ 0 6 rfl (dm := []) (Kk := fun c' => c' = _) rfl ?_
  rintro c1 K1 a1 w1 rfl hs1 hl1
  have hg1 : w1.heap[g]? = some (.map es cl) := by rw [hl1.block g (Array.getElem?_eq_some_iff.1 hg).1 (hs2.notLive hg)]; exact hg
  clear hl1 hs2 hg
  have h66 : a1.tmps.getD 66 undef = .map (some g) := VR.lit_inv (hs1.fr 66)
  have h68 : a1.tmps.getD 68 undef = ik r.bx := VR.int_inv (hs1.fr 68)
  rw [wpOps_cons]
  refine wpOp_lookup (v := .bool (outF (m.take j) r.bx)) rfl rfl (wanted_no rfl) ?_ ?_
  · have := run_lookup (P := Try.prog) u49 Try.underlying3 (z4 w1) hg1 hB r.bx
    rw [← h66, ← h68] at this
    exact this
  have hs2 := hs1.put (dst := some 69) (u := .bool (outF (m.take j) r.bx)) (v := .bool (outF (m.take j) r.bx)) (by rw [hN]; rfl) (fun d _ => FV.of .bool)
  clear hs1
  refine WO7 hN hs2 ⟨⟨[], []⟩, [], []⟩ 7 5 rfl (dm := [(7, outF (m.take j) r.bx)]) (Kk := fun c' => olk c'.O = olk [(176, ⟨24, 7, .any, [encR r]⟩)] ∧ lk c'.fr 74 = .bool (outF (m.take j) r.bx || (r.st == 2)) ∧ (Cfg.only c' [0, 1, 4, 9, 28, 29, 30, 48, 49, 50, 63, 65] []) = ⟨[(0, A m), (1, SS st), (4, .bool false), (9, .lit (.map (some g))), (28, SS st), (29, I st.length), (30, I i), (48, A m), (49, I m.length), (50, I j), (63, .lit (.map (some g))), (65, I r.bx)], []⟩) ?_ ?_
  · cases outF (m.take j) r.bx with
    | true => exact ⟨rfl, rfl, rfl, rfl⟩
    | false => exact ⟨rfl, rfl, rfl, rfl⟩
  rintro c2 K2 a2 w2 ⟨_, h74, hon⟩ hs3 hl3
  have hg3 : w2.heap[g]? = some (.map es cl) := by rw [hl3.block g (Array.getElem?_eq_some_iff.1 hg1).1 (hs2.notLive hg1)]; exact hg1
  have h74' : a2.tmps.getD 74 undef = .bool (outF (m.take j) r.bx || (r.st == 2)) := VR.bool_inv (by have := hs3.fr 74; rw [h74] at this; exact this)
  have hs4 := SRK.only hs3 [0, 1, 4, 9, 28, 29, 30, 48, 49, 50, 63, 65] []
  rw [hon] at hs4
  clear hs3 hs2 hl3
  have h63 : a2.tmps.getD 63 undef = .map (some g) := VR.lit_inv (hs4.fr 63)
  have h65 : a2.tmps.getD 65 undef = ik r.bx := VR.int_inv (hs4.fr 65)
  obtain ⟨es', cl', hrun, hB'⟩ := run_mapUpdate (P := Try.prog) u49 Try.underlying3 hg3 hB r.bx (outF (m.take j) r.bx || (r.st == 2))
  rw [← h63, ← h65, ← h74'] at hrun
  rw [wpOps_cons]
  refine wpOp_mapUpdate rfl rfl (wanted_no rfl) hrun ?_
  have hs5 := (SRK.only hs4 [0, 1, 4, 9, 28, 29, 30, 48, 49, 50] []).setMap (es' := es') (cl' := cl') hg3 hmine
  refine hQ K2 _ _ hs5 ⟨⟨es', cl', (Go.MapKept.heap_set hg3).1, ?_⟩, hmine⟩
  rw [htk, outF_snoc]
  exact hB'
end Go.Abs.L42
