import Derived.Test.YtnmpnlhlbjemeaaC39b
namespace Go.Abs.L39
open Go Go.Abs Go.Proofs
set_option linter.unusedVariables false
set_option maxRecDepth 20000
/-- the packing in order -/
def ordE (room : Int) : List Int → Nat → List (List Int) → Int → List (List Int)
  | [], _, T, _ => T
  | n :: r, i, T, left =>
    let T' := if n > left then T ++ [[]] else T
    ordE room r (i + 1) (T'.set (T'.length - 1) (T'.getD (T'.length - 1) [] ++ [(i : Int)])) ((if n > left then room else left) - n)
theorem chk_ok {l : List Int} {room : Int} (h : chkE l room = 0) : 1 ≤ room ∧ room ≤ 10000 ∧ l.length ≤ 1024 ∧ ∀ n ∈ l, 1 ≤ n ∧ n ≤ room := by
  unfold chkE at h
  split at h
  · cases h
  · split at h
    · cases h
    · split at h
      · cases h
      · rename_i h1 h2 h3
        refine ⟨by omega, by omega, by omega, fun n hn => ?_⟩
        have h3 : l.any (badB room) = false := by simpa using h3
        rw [List.any_eq_false] at h3
        have := h3 n hn
        simp [badB] at this
        omega
/-- one round -/
def round12 (c : Code) : Code := loopCode12 c
theorem W12 {E : Env} (hN : E.N = 47) {K : KM} {fr : List (Nat × AV)} {V Tl : List (Nat × OBlk)} {a : Act} {w : World} {code : Code} {Q : Ex → Cfg → Prop} {Q' : Exit → Act → World → Prop} (hs : SRK E K ⟨fr, V ++ Tl⟩ a w) (htl : TailOK Tl) (hap : Apart V Tl) (hd : drawsOK code = true)
    (h : ev Try.prog tt 47 ks12 code ⟨fr, V⟩ Q) (hQ : ∀ e c' K' a' w', Q e c' → SRK E K' ⟨c'.fr, c'.O ++ Tl⟩ a' w' → Left K V w K' w' → Q' e.toExit a' w') : code.wp Try.prog Q' a w :=
  wp_ev tabOK tabOne mixed hN htl hap hd h hs hQ
abbrev G12 (l : List Int) (room : Int) (m : Nat) (left : Int) (i : Nat) : List (Nat × AV) := [(0, A l), (1, I room), (4, .nilsl), (5, I 0), (6, .osl 752 1 m), (7, I left), (14, A l), (15, I l.length), (16, I i)]
/-- a new box, if the piece does not fit -/
theorem wpNew12 {E : Env} (hN : E.N = 47) (hp : ∀ b, E.pin b = none) {l : List Int} {room left n : Int} {i : Nat} {T : List (List Int)} {us : List Value} {K : KM} {a : Act} {w : World} {Q : Exit → Act → World → Prop}
    (hs : SRK E K ⟨F12 l room T.length left i n i, [(752, ⟨22, 1, .pure, lits us⟩)] ++ fam 3 1 (TT T)⟩ a w) (hl : LitF w K 1 us (TT T)) (hus : us.length = T.length) (hmm : T.length ≤ 10000)
    (hQ : ∀ K' us' a' w', SRK E K' ⟨F12 l room (if n > left then T ++ [[]] else T).length (if n > left then room else left) i n i, [(752, ⟨22, 1, .pure, lits us'⟩)] ++ fam 3 1 (TT (if n > left then T ++ [[]] else T))⟩ a' w' → LitF w' K' 1 us' (TT (if n > left then T ++ [[]] else T)) → us'.length = (if n > left then T ++ [[]] else T).length → Q .normal a' w') :
    ∀ c, (match round12 (body Try.f12) with | .seq _ (.seq c _) => c | c => c) = c → c.wp Try.prog Q a w := by
  rintro _ rfl
  change (Code.seq _ _).wp _ _ _ _
  refine wp_seq (W12 hN hs fam_ok (fam_apart rfl) (Q := fun e c' => e = .normal ∧ c' = _) rfl ⟨rfl, rfl⟩ ?_)
  rintro e c1 K1 a1 w1 ⟨rfl, rfl⟩ hs1 hl1
  have hlf := hl.left hl1
  change (Code.cond _ _ _).wp _ _ _ _
  by_cases hnl : n > left
  · rw [if_pos hnl, if_pos hnl] at hQ
    refine W12 hN hs1 fam_ok (fam_apart rfl) (Q := fun e c' => e = .normal ∧ c' = _) rfl ⟨fun _ => ⟨⟨by show (T.length + 1) * 24 ≤ _; omega, by omega⟩, ⟨rfl, rfl⟩⟩, fun h => ?_⟩ ?_
    · simp at h; omega
    · rintro e c2 K2 a2 w2 ⟨rfl, rfl⟩ hs2 hl2
      have hlf2 := hlf.left hl2
      have hs3 := SRK.onlyT hs2 (fam_apart rfl) [0, 1, 4, 5, 6, 7, 8, 9, 14, 15, 16] [752]
      have htk : (lits us).take T.length = lits us := List.take_of_length_le (by rw [lits_len]; omega)
      have hs4 := SRK.lits (o := 752) (eo := 22) (rows := (lits us).take T.length ++ [[.nilsl]]) hs3 rfl (fun row hr => by
        rw [htk] at hr
        rcases List.mem_append.1 hr with h | h
        · exact lits_ok us row h
        · simp at h; subst h; rfl)
      rw [htk, List.map_append, lits_toLit] at hs4
      obtain ⟨K5, hs5, hl5, _⟩ := nest_nil (V := [(752, ⟨22, 1, .pure, lits (us ++ [nilS])⟩)]) hs4 (hlf2.app [nilS]) rfl (hp _) (noFF_lk _ rfl) (noFO_all rfl rfl _) (by simp [TT, hus])
      rw [show TT T ++ [[]] = TT (T ++ [[]]) by simp [TT]] at hs5 hl5
      exact hQ K5 _ a2 w2 (by rw [List.length_append]; exact hs5) hl5 (by simp [hus])
  · rw [if_neg hnl, if_neg hnl] at hQ
    refine W12 hN hs1 fam_ok (fam_apart rfl) (Q := fun e c' => e = .normal ∧ c' = _) rfl ⟨fun h => ?_, fun _ => ⟨rfl, rfl⟩⟩ ?_
    · simp at h; omega
    · rintro e c2 K2 a2 w2 ⟨rfl, rfl⟩ hs2 hl2
      exact hQ K2 us a2 w2 (SRK.onlyT hs2 (fam_apart rfl) [0, 1, 4, 5, 6, 7, 8, 9, 14, 15, 16] [752]) (hlf.left hl2) hus
end Go.Abs.L39
