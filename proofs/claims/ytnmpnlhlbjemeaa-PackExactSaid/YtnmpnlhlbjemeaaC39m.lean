import Derived.Test.YtnmpnlhlbjemeaaC39l
namespace Go.Abs.L39
open Go Go.Abs Go.Proofs
set_option linter.unusedVariables false
set_option maxRecDepth 20000
theorem range_drop {m k : Nat} (h : k < m) : (List.range m).drop k = k :: (List.range m).drop (k + 1) := by
  rw [List.drop_eq_getElem_cons (by simpa using h)]; simp
def r11 : Code → Code
  | .seq _ (.seq _ (.seq (.seq _ (.block _ (.loop (.seq _ (.seq _ (.seq _ c)))))) _)) => c
  | c => c
theorem P11 {E : Env} (hN : E.N = 113) {l : List Int} {room : Int} {least : Nat} {i k m : Nat} {T : List (List Int)} {S : List Int} {a : Act} {w : World} {Q : Exit → Act → World → Prop} (hk : k ≤ 10000) (hs : St E l room least (Hd l room least i m k) T S a w)
    (hQ : ∀ a' w', St E l room least (Hd l room least i m (k + 1)) T S a' w' → Q .normal a' w') : (r11 (body Try.f33)).wp Try.prog Q a w := by
  obtain ⟨K, us, gs, hs, hlf⟩ := hs
  refine W33 hN hs fam_ok (fam_apart rfl) (Q := fun e c' => e = .normal ∧ c' = _) rfl ⟨((k + 1 : Nat) : Int), wrapTo (by omega) (by omega) (by omega), rfl, rfl⟩ ?_
  rintro e c5 K5 a5 w5 ⟨rfl, rfl⟩ hs5 hl5
  have hs6 := SRK.onlyT hs5 (fam_apart rfl) [0, 1, 2, 3, 4, 5, 6, 8, 15, 16] [2, 1808, 4, 1824, 6]
  exact hQ a5 w5 ⟨K5, us, gs, hs6, hlf.left hl5⟩
theorem pins33 {O : List (Nat × OBlk)} (h2 : (olk O 2).isSome = true) (h4 : (olk O 4).isSome = true) (h6 : (olk O 6).isSome = true) {b : Nat} (hb : memN b [2, 4, 6] = true) : Nat.ble 2 (b % 16) = true ∧ (olk O b).isSome = true := by
  simp only [memN] at hb
  split at hb
  · rename_i h; have := beq_true h; subst this; exact ⟨rfl, h2⟩
  · split at hb
    · rename_i h; have := beq_true h; subst this; exact ⟨rfl, h4⟩
    · split at hb
      · rename_i h; have := beq_true h; subst this; exact ⟨rfl, h6⟩
      · cases hb
theorem put_all {l : List Int} {room : Int} {least : Nat} (hl : l.length ≤ 100) (hroom : room ≤ 10000) (hsz : ∀ n ∈ l, 1 ≤ n ∧ n ≤ room) (hleast : least ≤ 1000000) : ∀ (r : List Int) (i : Nat) (T : List (List Int)) (S : List Int), l.drop i = r → i ≤ l.length → Good i T S → PutC l room least r i T S := by
  intro r
  induction r with
  | nil =>
    intro i T S hr hi hg us gs
    have hie : i = l.length := by
      have := congrArg List.length hr
      rw [List.length_drop, List.length_nil] at this; omega
    refine fnT_of (N := 113) 8 Try.func33 rfl (by kernel_rfl) rfl rfl rfl (fun b hb => pins33 rfl rfl rfl hb) ?_
    intro E K a w hN hp hs hlf
    change (Code.seq _ _).wp _ _ _ _
    refine wp_seq (W33 hN hs fam_ok (fam_apart rfl) (Q := fun e c' => e = .normal ∧ c' = _) rfl ⟨rfl, rfl⟩ ?_)
    rintro e c1 K1 a1 w1 ⟨rfl, rfl⟩ hs1 hl1
    change (Code.seq _ _).wp _ _ _ _
    refine wp_seq (W33 hN hs1 fam_ok (fam_apart rfl) (Q := fun e c' => e = .ret ∧ c' = _) rfl ⟨fun _ => ⟨rfl, rfl⟩, fun h => ?_⟩ ?_)
    · simp at h; omega
    rintro e c2 K2 a2 w2 ⟨rfl, rfl⟩ hs2 hl2
    exact ⟨.inr rfl, K2, _, hs2, rfl, rfl, us, gs, rfl, (hlf.left hl1).left hl2⟩
  | cons n r ih =>
    intro i T S hr hi hg us gs
    have hil : i < l.length := by
      have := congrArg List.length hr
      rw [List.length_drop, List.length_cons] at this; omega
    obtain ⟨n', hn, hd, _⟩ := drop_cons hil
    rw [hr] at hd
    injection hd with hd1 hd2
    subst hd1
    have hn0 := hsz n (List.mem_of_getElem? hn)
    have hlen := hg.len
    have ih' : ∀ T' S', Good (i + 1) T' S' → PutC l room least r (i + 1) T' S' := fun T' S' h => ih (i + 1) T' S' hd2.symm (by omega) h
    refine fnT_of (N := 113) 8 Try.func33 rfl (by kernel_rfl) rfl rfl rfl (fun b hb => pins33 rfl rfl rfl hb) ?_
    intro E K a w hN hp hs hlf
    change (Code.seq _ _).wp _ _ _ _
    refine wp_seq (W33 hN hs fam_ok (fam_apart rfl) (Q := fun e c' => e = .normal ∧ c' = _) rfl ⟨rfl, rfl⟩ ?_)
    rintro e c1 K1 a1 w1 ⟨rfl, rfl⟩ hs1 hl1
    replace hlf := hlf.left hl1
    change (Code.seq _ _).wp _ _ _ _
    refine wp_seq (W33 hN hs1 fam_ok (fam_apart rfl) (Q := fun e c' => e = .normal ∧ c' = _) rfl ⟨fun h => ?_, fun _ => ⟨rfl, rfl⟩⟩ ?_)
    · simp at h; omega
    rintro e c2 K2 a2 w2 ⟨rfl, rfl⟩ hs2 hl2
    replace hlf := hlf.left hl2
    change (Code.seq _ _).wp _ _ _ _
    refine wp_seq (wp_seq (W33 hN hs2 fam_ok (fam_apart rfl) (Q := fun e c' => e = .normal ∧ c' = _) rfl ⟨rfl, rfl⟩ ?_))
    rintro e c3 K3 a3 w3 ⟨rfl, rfl⟩ hs3 hl3
    replace hlf := hlf.left hl3
    have hs4 := SRK.onlyT hs3 (fam_apart rfl) [0, 1, 2, 3, 4, 5, 6, 8, 15, 16] [2, 1808, 4, 1824, 6]
    have hst : St E l room least (Hd l room least i T.length 0) T S a3 w3 := ⟨K3, us, gs, hs4, hlf⟩
    clear hs hs1 hs2 hs3 hs4 hl1 hl2 hl3 hlf
    change (Code.block _ _).wp _ _ _ _
    refine wp_block (wp_loop_ghost (fun q a w => ∃ k, q = T.length - k ∧ k ≤ T.length ∧ St E l room least (Hd l room least i T.length k) T S a w ∧ ((List.range T.length).drop k).findSome? (tryE room least n r i T S) = (List.range T.length).findSome? (tryE room least n r i T S)) T.length
      ⟨0, by omega, by omega, hst, rfl⟩ ?_)
    clear hst
    rintro q a w ⟨k, rfl, hk, hs, hf⟩
    obtain ⟨K, us, gs, hs, hlf⟩ := hs
    refine wp_seq (W33 hN hs fam_ok (fam_apart rfl) (Q := fun e c' => e = .normal ∧ c' = _) rfl ⟨rfl, rfl⟩ ?_)
    rintro e c1 K1 a1 w1 ⟨rfl, rfl⟩ hs1 hl1
    replace hlf := hlf.left hl1
    clear hs hl1
    change (Code.seq _ _).wp _ _ _ _
    by_cases hlt : k < T.length
    · have hd : decide ((k : Int) < (T.length : Int)) = true := by simp; omega
      refine wp_seq (W33 hN hs1 fam_ok (fam_apart rfl) (Q := fun e c' => e = .normal ∧ c' = _) rfl ⟨fun _ => ⟨rfl, rfl⟩, fun h => (by rw [show _ = true from hd] at h; cases h)⟩ ?_)
      rintro e c2 K2 a2 w2 ⟨rfl, rfl⟩ hs2 hl2
      have hs3 := SRK.onlyT hs2 (fam_apart rfl) [0, 1, 2, 3, 4, 5, 6, 8, 15, 16] [2, 1808, 4, 1824, 6]
      rw [range_drop hlt, List.findSome?_cons] at hf
      change (Code.seq _ _).wp _ _ _ _
      refine wp_seq (wp_block ?_)
      have hgo : ∀ a' w', tryE room least n r i T S k = none → St E l room least (Hd l room least i T.length (k + 1)) T S a' w' → ∃ n', n' < T.length - k ∧ ∃ k, n' = T.length - k ∧ k ≤ T.length ∧ St E l room least (Hd l room least i T.length k) T S a' w' ∧ ((List.range T.length).drop k).findSome? (tryE room least n r i T S) = (List.range T.length).findSome? (tryE room least n r i T S) := by
        intro a' w' hno hst
        rw [hno] at hf
        exact ⟨T.length - (k + 1), by omega, k + 1, rfl, by omega, hst, hf⟩
      refine put_round hN hp hl hroom hn hn0 hg hlt ih' ⟨K2, us, gs, hs3, hlf.left hl2⟩ (fun x a' w' hx hst => ?_) (fun a' w' hno hst => ⟨?_, ?_⟩)
      · rw [hx] at hf
        obtain ⟨K, us, gs, hs, hlf⟩ := hst
        refine ⟨.inr rfl, K, _, hs, rfl, ?_, us, gs, ?_, ?_⟩
        · rw [putE_cons, ← hf]; rfl
        · rw [putE_cons, ← hf]; rfl
        · rw [putE_cons, ← hf]; exact hlf
      · exact P11 hN (by omega) hst fun a' w' h => hgo a' w' hno h
      · exact P11 hN (by omega) hst fun a' w' h => hgo a' w' hno h
    · have hkm : k = T.length := by omega
      subst hkm
      have hno : (List.range T.length).findSome? (tryE room least n r i T S) = none := by
        rw [← hf, List.drop_of_length_le (by simp)]; rfl
      have hd : decide ((T.length : Int) < (T.length : Int)) = false := by simp
      refine wp_seq (W33 hN hs1 fam_ok (fam_apart rfl) (Q := fun e c' => e = .exit 0 ∧ c' = _) rfl ⟨fun h => (by rw [show _ = false from hd] at h; cases h), fun _ => ⟨rfl, rfl⟩⟩ ?_)
      rintro e c2 K2 a2 w2 ⟨rfl, rfl⟩ hs2 hl2
      have hs3 := SRK.onlyT hs2 (fam_apart rfl) [0, 1, 2, 3, 4, 5, 6, 8] [2, 1808, 4, 1824, 6]
      replace hlf := hlf.left hl2
      change (Code.seq _ _).wp _ _ _ _
      by_cases hm : T.length = least
      · refine wp_seq (W33 hN hs3 fam_ok (fam_apart rfl) (Q := fun e c' => e = .ret ∧ c' = _) rfl ⟨fun _ => ⟨rfl, rfl⟩, fun h => ?_⟩ ?_)
        · simp at h; omega
        rintro e c4 K4 a4 w4 ⟨rfl, rfl⟩ hs4 hl4
        refine ⟨.inr rfl, K4, _, hs4, rfl, ?_, us, gs, ?_, ?_⟩
        · rw [putE_cons, hno, if_pos hm]; rfl
        · rw [putE_cons, hno, if_pos hm]; rfl
        · rw [putE_cons, hno, if_pos hm]; exact hlf.left hl4
      · refine wp_seq (W33 hN hs3 fam_ok (fam_apart rfl) (Q := fun e c' => e = .normal ∧ c' = _) rfl ⟨fun h => ?_, fun _ => ⟨rfl, rfl⟩⟩ ?_)
        · simp at h; omega
        rintro e c4 K4 a4 w4 ⟨rfl, rfl⟩ hs4 hl4
        have hs5 := SRK.onlyT hs4 (fam_apart rfl) [0, 1, 2, 3, 4, 5, 6, 8] [2, 1808, 4, 1824, 6]
        replace hlf := hlf.left hl4
        change (Code.seq _ _).wp _ _ _ _
        refine wp_seq (P14 hN hp ⟨K4, us, gs, hs5, hlf⟩ hg.same hn hl (by omega) ?_)
        intro a6 w6 hs6
        have hg' : Good (i + 1) (T ++ [[(i : Int)]]) (S ++ [n]) := hg.new _ (by omega)
        have hres : putE room least (n :: r) i T S = putE room least r (i + 1) (T ++ [[(i : Int)]]) (S ++ [n]) := by rw [putE_cons, hno, if_neg hm]
        change (Code.seq _ _).wp _ _ _ _
        refine wp_seq (wp_seq (P15 hN hp hs6 (by omega) (ih' _ _ hg') ?_))
        intro a7 w7 hs7
        rw [← hres] at hs7
        change (Code.cond _ _ _).wp _ _ _ _
        cases hx : putE room least (n :: r) i T S with
        | some x =>
          rw [hx] at hs7
          obtain ⟨K7, us7, gs7, hs7, hl7⟩ := hs7
          refine W33 hN hs7 fam_ok (fam_apart rfl) (Q := fun e c' => e = .ret ∧ c' = _) rfl ⟨fun _ => ⟨rfl, rfl⟩, fun h => (by cases h)⟩ ?_
          rintro e c8 K8 a8 w8 ⟨rfl, rfl⟩ hs8 hl8
          exact ⟨.inr rfl, K8, _, hs8, rfl, rfl, us7, gs7, rfl, hl7.left hl8⟩
        | none =>
          rw [hx] at hs7
          obtain ⟨K7, us7, gs7, hs7, hl7⟩ := hs7
          refine W33 hN hs7 fam_ok (fam_apart rfl) (Q := fun e c' => e = .normal ∧ c' = _) rfl ⟨fun h => (by cases h), fun _ => ⟨rfl, rfl⟩⟩ ?_
          rintro e c8 K8 a8 w8 ⟨rfl, rfl⟩ hs8 hl8
          have hs9 := SRK.onlyT hs8 (fam_apart rfl) [0, 1, 2, 3, 4, 5, 6, 8] [2, 1808, 4, 1824, 6]
          change (Code.seq _ _).wp _ _ _ _
          refine wp_seq (P17 (T := T) (S := S) (t := [n]) (b := [(i : Int)]) hN ⟨K8, us7, gs7, hs9, hl7.left hl8⟩ (by omega) ?_)
          intro a10 w10 hs10
          obtain ⟨K10, us10, gs10, hs10, hl10⟩ := hs10
          change (Code.seq _ _).wp _ _ _ _
          refine wp_seq (W33 hN hs10 fam_ok (fam_apart rfl) (Q := fun e c' => e = .normal ∧ c' = _) rfl ⟨rfl, rfl⟩ ?_)
          rintro e c11 K11 a11 w11 ⟨rfl, rfl⟩ hs11 hl11
          exact wp_ret ⟨.inr rfl, K11, _, hs11, rfl, rfl, us10, gs10, rfl, hl10.left hl11⟩
end Go.Abs.L39
