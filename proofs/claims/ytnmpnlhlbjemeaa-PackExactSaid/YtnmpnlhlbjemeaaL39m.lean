import Derived.Test.YtnmpnlhlbjemeaaL39g
import Derived.Test.YtnmpnlhlbjemeaaL39f
import Derived.Test.YtnmpnlhlbjemeaaL39i
namespace Go.Abs.L39
open Go Go.Abs Go.Proofs
set_option linter.unusedVariables false
set_option maxRecDepth 20000
/-! ### the reference's search -/
def tryS (room : Int) (rec' : List Int → List Int → Option (List Int)) (n : Int) (left of : List Int) (k : Nat) : Option (List Int) :=
  if k < left.length ∧ left.getD k 0 < n then none else rec' ((if k = left.length then left ++ [room] else left).set k ((if k = left.length then left ++ [room] else left).getD k 0 - n)) (of ++ [(k : Int)])
def srcE (room : Int) (most : Nat) : List Int → List Int → List Int → Option (List Int)
  | [], _, of => some of
  | n :: r, left, of => (List.range (min (left.length + 1) most)).findSome? (tryS room (srcE room most r) n left of)
structure Lf (of left : List Int) : Prop where
  len : left.length ≤ of.length
  bnd : ∀ v ∈ left, 0 ≤ v ∧ v ≤ 10000
theorem fn_weak {P : Program} {f : FuncId} {us us' : List AV} {r : AV} (h : Fn P f us r) (hl : us'.length = us.length) (hv : ∀ (w : World) (X : Nat → Prop) (j : Nat) (u' u : AV) (c : Value), us'[j]? = some u' → us[j]? = some u → VR w X K0 u' c → VR w X K0 u c) : Fn P f us' r := by
  refine ⟨h.1, fun X w vs hw hlen ha => h.2 X w vs hw (by omega) fun j u c hu hc => ?_⟩
  have hj : j < us'.length := by rw [hl]; exact (List.getElem?_eq_some_iff.1 hu).1
  have hu' : us'[j]? = some us'[j] := by simp [hj]
  exact hv w X j _ u c hu' hu (ha j _ c hu' hc)
abbrev ks34 : List Nat := [0, 1, 2, 3, 4, 10, 11, 12, 13, 14, 15, 16, 21, 36, 50, 57, 83]
theorem W34 {E : Env} (hN : E.N = 85) {K : KM} {fr : List (Nat × AV)} {V : List (Nat × OBlk)} {a : Act} {w : World} {code : Code} {Q : Ex → Cfg → Prop} {Q' : Exit → Act → World → Prop} (hs : SRK E K ⟨fr, V⟩ a w) (hd : drawsOK code = true)
    (h : ev Try.prog tt 85 ks34 code ⟨fr, V⟩ Q) (hQ : ∀ e c' K' a' w', Q e c' → SRK E K' c' a' w' → Q' e.toExit a' w') : code.wp Try.prog Q' a w := by
  refine wp_ev (Tl := []) tabOK tabOne mixed hN TailOK.nil (Apart.nil _) hd h (by rw [List.append_nil]; exact hs) ?_
  intro e c' K' a' w' q h' _
  rw [List.append_nil] at h'
  exact hQ e c' K' a' w' q h'
abbrev G34 (l : List Int) (room : Int) (most : Nat) (left of : List Int) (n : Int) (k : Nat) : List (Nat × AV) := [(0, A l), (1, I room), (2, I most), (3, A left), (4, A of), (12, I n), (13, I k)]
def loop34 : Code → Code
  | .seq _ (.seq _ (.seq _ (.seq (.seq _ (.block _ (.loop (.seq _ (.seq (.block _ c) _))))) _))) => c
  | c => c
/-- the piece into box k, and on -/
def mid34 : Code → Code
  | .seq _ c => c
  | c => c
def call34 : Code → Code
  | .seq _ (.seq _ (.seq _ (.seq _ c))) => c
  | c => c
/-- the call of a round, and what comes behind it -/
theorem wpCall34 {E : Env} (hN : E.N = 85) {l : List Int} {room : Int} {most : Nat} {left of : List Int} {n : Int} {k : Nat} {x : List Int} {res : Option (List Int)} {K : KM} {a : Act} {w : World} {Q : Exit → Act → World → Prop} (hof : of.length ≤ 1000)
    (hs : SRK E K ⟨[(0, A l), (1, I room), (2, I most), (3, A left), (4, A of), (12, I n), (13, I k), (14, .osl 816 1 x.length)], [(816, ⟨3, 1, .pure, x.map enc⟩)]⟩ a w)
    (hc : Fn Try.prog 34 [A l, I room, I most, A x, A (of ++ [(k : Int)])] (.tup [A (res.getD []), .bool res.isSome]))
    (hQ1 : ∀ K' o a' w', res = some o → SRK E K' ⟨[(10, A o), (11, .bool true)], []⟩ a' w' → Q .ret a' w') (hQ2 : ∀ K' a' w', res = none → SRK E K' ⟨G34 l room most left of n k, []⟩ a' w' → Q .normal a' w') : (call34 (loop34 (body Try.f34))).wp Try.prog Q a w := by
  change (Code.seq _ _).wp _ _ _ _
  refine wp_seq (wp_region ?_)
  change wpOps _ _ _ (List.range' 0 10 ++ (List.range' 10 6 ++ [])) _ _
  refine wp_evOpsN (V := [(816, ⟨3, 1, .pure, x.map enc⟩)]) (Tl := []) (dm := []) tabOK tabOne hN hs TailOK.nil (Apart.nil _) ⟨⟨[], []⟩, [], []⟩ 0 10 rfl (Kk := fun c' => c' = _) ⟨⟨by show (0 + of.length) * 8 ≤ _; omega, by omega⟩, scal of, ⟨by show (0 + of.length + 1) * 8 ≤ _; omega, by omega⟩, rfl⟩ ?_
  rintro c1 K1 a1 w1 rfl hs1 _
  have hs2 := SRK.only hs1 [0, 1, 2, 3, 4, 12, 13, 70, 71, 72, 73, 79] [816, 1184]
  have hs3 : SRK E K1 ⟨[(0, A l), (1, I room), (2, I most), (3, A left), (4, A of), (12, I n), (13, I k), (70, A l), (71, I room), (72, I most), (73, .osl 816 1 x.length), (79, .osl 1184 1 (0 + of.length + 1))], [(816, ⟨3, 1, .pure, x.map enc⟩), (1184, ⟨3, 1, .pure, (of.map enc).take (0 + of.length) ++ [[I k]]⟩)]⟩ a1 w1 := hs2
  obtain ⟨K2, hs4⟩ := (Wk.freezeKeep 73 816 x.length _ [0, 1, 2, 3, 4, 12, 13, 70, 71, 72, 73, 79] [1184] rfl rfl rfl) E a1 w1 ⟨K1, hs3⟩
  obtain ⟨K3, hs5⟩ := (Wk.freezeKeep 79 1184 (0 + of.length + 1) _ [0, 1, 2, 3, 4, 12, 13, 70, 71, 72, 73, 79] [] rfl rfl rfl) E a1 w1 ⟨K2, hs4⟩
  have e1 : AV.rsl 1 x.length ((x.map enc).take x.length) = A x := by rw [List.take_of_length_le (by simp)]
  have e2 : AV.rsl 1 (0 + of.length + 1) (((of.map enc).take (0 + of.length) ++ [[I k]]).take (0 + of.length + 1)) = A (of ++ [(k : Int)]) := by
    rw [Nat.zero_add]; exact A_app of k
  have hs6 : SRK E K3 ⟨[(0, A l), (1, I room), (2, I most), (3, A left), (4, A of), (12, I n), (13, I k), (70, A l), (71, I room), (72, I most), (73, A x), (79, A (of ++ [(k : Int)]))], []⟩ a1 w1 := by
    rw [← e1, ← e2]; exact hs5
  clear hs hs1 hs2 hs3 hs4 hs5
  refine wp_evOpsN (V := []) (Tl := []) (dm := []) tabOK tabOne hN hs6 TailOK.nil (Apart.nil _) ⟨⟨[], []⟩, [], []⟩ 10 6 rfl (Kk := fun c' => c' = _) ⟨_, hc, rfl⟩ ?_
  rintro c1 K4 a4 w4 rfl hs7 _
  have hs8 := SRK.only hs7 [0, 1, 2, 3, 4, 12, 13, 15, 16] []
  have hs9 : SRK E K4 ⟨[(0, A l), (1, I room), (2, I most), (3, A left), (4, A of), (12, I n), (13, I k), (15, A (res.getD [])), (16, .bool res.isSome)], []⟩ a4 w4 := hs8
  clear hs6 hs7 hs8
  cases res with
  | some o =>
    refine W34 hN hs9 (Q := fun e c' => e = .ret ∧ c' = _) rfl ⟨fun _ => ⟨rfl, rfl⟩, fun h => (by cases h)⟩ ?_
    rintro e c1 K5 a5 w5 ⟨rfl, rfl⟩ hs10
    exact hQ1 K5 o a5 w5 rfl (SRK.only hs10 [10, 11] [])
  | none =>
    refine W34 hN hs9 (Q := fun e c' => e = .normal ∧ c' = _) rfl ⟨fun h => (by cases h), fun _ => ⟨rfl, rfl⟩⟩ ?_
    rintro e c1 K5 a5 w5 ⟨rfl, rfl⟩ hs10
    exact hQ2 K5 a5 w5 rfl (SRK.only hs10 [0, 1, 2, 3, 4, 12, 13] [])
def r6 : Code → Code
  | .seq _ (.seq _ (.seq _ (.seq (.seq _ (.block _ (.loop (.seq _ (.seq _ c))))) _))) => c
  | c => c
theorem R6 {E : Env} (hN : E.N = 85) {l : List Int} {room : Int} {most : Nat} {left of : List Int} {n : Int} {k : Nat} {K : KM} {a : Act} {w : World} {Q : Exit → Act → World → Prop} (hk : k ≤ 1000) (hs : SRK E K ⟨G34 l room most left of n k, []⟩ a w)
    (hQ : ∀ K' a' w', SRK E K' ⟨G34 l room most left of n (k + 1), []⟩ a' w' → Q .normal a' w') : (r6 (body Try.f34)).wp Try.prog Q a w := by
  refine W34 hN hs (Q := fun e c' => e = .normal ∧ c' = _) rfl ⟨((k + 1 : Nat) : Int), wrapTo (by omega) (by omega) (by omega), rfl, rfl⟩ ?_
  rintro e c1 K2 a2 w2 ⟨rfl, rfl⟩ hs3
  exact hQ K2 a2 w2 (SRK.only hs3 [0, 1, 2, 3, 4, 12, 13] [])
theorem c34 {l : List Int} (hl : l.length ≤ 100) {room : Int} (hroom : room ≤ 10000) (hsz : ∀ n ∈ l, 1 ≤ n ∧ n ≤ room) {most : Nat} (hmost : most ≤ 1000000) : ∀ (r left of : List Int), l.drop of.length = r → of.length ≤ l.length → Lf of left →
    Fn Try.prog 34 [A l, I room, I most, A left, A of] (.tup [A ((srcE room most r left of).getD []), .bool (srcE room most r left of).isSome]) := by
  intro r
  induction r with
  | nil =>
    intro left of hr hi hlf
    have hie : of.length = l.length := by
      have := congrArg List.length hr
      rw [List.length_drop, List.length_nil] at this; omega
    refine mk34 rfl ⟨fun _ => ?_, fun h => ?_⟩
    · exact ⟨_, _, rfl, ⟨rfl, rfl⟩, rfl, rfl, trivial⟩
    · simp at h; omega
  | cons n r ih =>
    intro left of hr hi hlf
    have hil : of.length < l.length := by
      have := congrArg List.length hr
      rw [List.length_drop, List.length_cons] at this; omega
    obtain ⟨n', hn, hd, _⟩ := drop_cons hil
    rw [hr] at hd
    injection hd with hd1 hd2
    subst hd1
    have hn0 := hsz n (List.mem_of_getElem? hn)
    have hlen := hlf.len
    refine fn_ofW (N := 85) [.tmp 10, .tmp 11] tabOK Try.func34 rfl (by kernel_rfl) rfl rfl rfl ?_
    intro E K a w hN hp hs
    change (Code.seq _ _).wp _ _ _ _
    refine wp_seq (W34 hN hs (Q := fun e c' => e = .normal ∧ c' = _) rfl ⟨rfl, rfl⟩ ?_)
    rintro e c1 K1 a1 w1 ⟨rfl, rfl⟩ hs1
    change (Code.seq _ _).wp _ _ _ _
    refine wp_seq (W34 hN hs1 (Q := fun e c' => e = .normal ∧ c' = _) rfl ⟨fun h => (by simp at h; omega), fun _ => ⟨rfl, rfl⟩⟩ ?_)
    rintro e c1 K2 a2 w2 ⟨rfl, rfl⟩ hs2
    change (Code.seq _ _).wp _ _ _ _
    refine wp_seq (W34 hN hs2 (Q := fun e c' => e = .normal ∧ c' = _) rfl ⟨⟨by omega, by omega⟩, enc n, get_map hn, rfl, rfl⟩ ?_)
    rintro e c1 K3 a3 w3 ⟨rfl, rfl⟩ hs3
    change (Code.seq _ _).wp _ _ _ _
    refine wp_seq (wp_seq (W34 hN hs3 (Q := fun e c' => e = .normal ∧ c' = _) rfl ⟨rfl, rfl⟩ ?_))
    rintro e c1 K4 a4 w4 ⟨rfl, rfl⟩ hs4
    have hs5 : SRK E K4 ⟨G34 l room most left of n 0, []⟩ a4 w4 := SRK.only hs4 [0, 1, 2, 3, 4, 12, 13] []
    clear hs hs1 hs2 hs3 hs4
    change (Code.block _ _).wp _ _ _ _
    refine wp_block (wp_loop_ghost (fun q a w => ∃ K k, q = min (left.length + 1) most - k ∧ k ≤ min (left.length + 1) most ∧ SRK E K ⟨G34 l room most left of n k, []⟩ a w ∧ ((List.range (min (left.length + 1) most)).drop k).findSome? (tryS room (srcE room most r) n left of) = srcE room most (n :: r) left of) (min (left.length + 1) most)
      ⟨K4, 0, by omega, by omega, hs5, rfl⟩ ?_)
    clear hs5
    rintro q a w ⟨K, k, rfl, hk, hs, hf⟩
    have hlb : left.length ≤ 100 := by omega
    by_cases hlt : k < min (left.length + 1) most
    · have h1 : k ≤ left.length := by omega
      have h2 : k < most := by omega
      rw [range_drop hlt, List.findSome?_cons] at hf
      refine wp_seq (W34 hN hs (Q := fun e c' => e = .normal ∧ c' = _) rfl ⟨[(4, true)], by simp; omega, fun _ => ⟨rfl, rfl⟩, fun h => (by simp at h; omega)⟩ ?_)
      rintro e c1 K1 a1 w1 ⟨rfl, rfl⟩ hs1
      have hs2 : SRK E K1 ⟨G34 l room most left of n k, []⟩ a1 w1 := SRK.only hs1 [0, 1, 2, 3, 4, 12, 13] []
      clear hs hs1
      change (Code.seq _ _).wp _ _ _ _
      refine wp_seq (wp_block ?_)
      have hgo : ∀ (K' : KM) (a' : Act) (w' : World), tryS room (srcE room most r) n left of k = none → SRK E K' ⟨G34 l room most left of n (k + 1), []⟩ a' w' → ∃ n', n' < min (left.length + 1) most - k ∧ ∃ K k, n' = min (left.length + 1) most - k ∧ k ≤ min (left.length + 1) most ∧ SRK E K ⟨G34 l room most left of n k, []⟩ a' w' ∧ ((List.range (min (left.length + 1) most)).drop k).findSome? (tryS room (srcE room most r) n left of) = srcE room most (n :: r) left of := by
        intro K' a' w' hno hst
        rw [hno] at hf
        exact ⟨min (left.length + 1) most - (k + 1), by omega, K', k + 1, rfl, by omega, hst, hf⟩
      have hcall : ∀ {K : KM} {a : Act} {w : World} {Q : Exit → Act → World → Prop} (x : List Int), tryS room (srcE room most r) n left of k = srcE room most r x (of ++ [(k : Int)]) → Lf (of ++ [(k : Int)]) x →
          SRK E K ⟨[(0, A l), (1, I room), (2, I most), (3, A left), (4, A of), (12, I n), (13, I k), (14, .osl 816 1 x.length)], [(816, ⟨3, 1, .pure, x.map enc⟩)]⟩ a w →
          (∀ K' o a' w', tryS room (srcE room most r) n left of k = some o → SRK E K' ⟨[(10, A o), (11, .bool true)], []⟩ a' w' → Q .ret a' w') → (∀ K' a' w', tryS room (srcE room most r) n left of k = none → SRK E K' ⟨G34 l room most left of n k, []⟩ a' w' → Q .normal a' w') → (call34 (loop34 (body Try.f34))).wp Try.prog Q a w := by
        intro K a w Q x hx hxl hs hQ1 hQ2
        rw [hx] at hQ1 hQ2
        exact wpCall34 hN (by omega) hs (ih x (of ++ [(k : Int)]) (by rw [List.length_append]; exact hd2.symm) (by rw [List.length_append]; simp; omega) hxl) hQ1 hQ2
      by_cases hkl : k < left.length
      · obtain ⟨v, hv, _, _⟩ := drop_cons hkl
        have hvb := hlf.bnd v (List.mem_of_getElem? hv)
        have hvD : left.getD k 0 = v := by rw [List.getD_eq_getElem?_getD, hv]; rfl
        change (Code.seq _ _).wp _ _ _ _
        by_cases hvn : v < n
        · have hno : tryS room (srcE room most r) n left of k = none := by unfold tryS; rw [if_pos ⟨hkl, by rw [hvD]; exact hvn⟩]
          refine wp_seq (W34 hN hs2 (Q := fun e c' => e = .exit 1 ∧ c' = _) rfl ⟨[(4, true)], by simp; omega, ⟨by omega, by omega⟩, enc v, get_map hv, fun _ => ⟨rfl, rfl⟩, fun h => (by simp at h; omega)⟩ ?_)
          rintro e c1 K3 a3 w3 ⟨rfl, rfl⟩ hs3
          exact R6 hN (by omega) (SRK.only hs3 [0, 1, 2, 3, 4, 12, 13] []) fun K' a' w' h => hgo K' a' w' hno h
        · have htr : tryS room (srcE room most r) n left of k = srcE room most r (left.set k (v - n)) (of ++ [(k : Int)]) := by
            unfold tryS
            rw [if_neg (by rw [hvD]; exact fun h => hvn h.2), if_neg (show ¬ k = left.length by omega), hvD]
          refine wp_seq (W34 hN hs2 (Q := fun e c' => e = .normal ∧ c' = _) rfl ⟨[(4, true)], by simp; omega, ⟨by omega, by omega⟩, enc v, get_map hv, fun h => (by simp at h; omega), fun _ => ⟨rfl, rfl⟩⟩ ?_)
          rintro e c1 K3 a3 w3 ⟨rfl, rfl⟩ hs3
          change (Code.seq _ _).wp _ _ _ _
          refine wp_seq (W34 hN hs3 (Q := fun e c' => e = .normal ∧ c' = _) rfl ⟨⟨by show (0 + left.length) * 8 ≤ _; omega, by omega⟩, scal left, rfl, rfl⟩ ?_)
          rintro e c1 K4 a4 w4 ⟨rfl, rfl⟩ hs4
          change (Code.seq _ _).wp _ _ _ _
          refine wp_seq (W34 hN hs4 (Q := fun e c' => e = .normal ∧ c' = _) rfl ⟨fun h => (by simp at h; omega), fun _ => ⟨rfl, rfl⟩⟩ ?_)
          rintro e c1 K5 a5 w5 ⟨rfl, rfl⟩ hs5
          change (Code.seq _ _).wp _ _ _ _
          refine wp_seq (W34 hN hs5 (Q := fun e c' => e = .normal ∧ c' = _) rfl ⟨⟨by omega, by omega⟩, enc v, get_map hv, _, wrap64 (by omega) (by omega), ⟨by omega, by omega⟩, enc v, get_map hv, rfl, rfl⟩ ?_)
          rintro e c1 K6 a6 w6 ⟨rfl, rfl⟩ hs6
          have hs7 := SRK.only hs6 [0, 1, 2, 3, 4, 12, 13, 14] [816]
          have ex : (left.map enc).set ((k : Nat) : Int).toNat [I (v - n)] = (left.set k (v - n)).map enc := by rw [List.map_set]; rfl
          have hs8 : SRK E K6 ⟨[(0, A l), (1, I room), (2, I most), (3, A left), (4, A of), (12, I n), (13, I k), (14, .osl 816 1 (left.set k (v - n)).length)], [(816, ⟨3, 1, .pure, (left.set k (v - n)).map enc⟩)]⟩ a6 w6 := by
            rw [← ex, List.length_set, ← Nat.zero_add left.length]; exact hs7
          clear hs2 hs3 hs4 hs5 hs6 hs7
          refine hcall _ htr ⟨by simp; omega, fun u hu => ?_⟩ hs8 (fun K' o a' w' hres hs9 => ?_) (fun K' a' w' hno hs9 => R6 hN (by omega) hs9 fun K' a' w' h => hgo K' a' w' hno h)
          · rcases List.mem_or_eq_of_mem_set hu with hu | rfl
            · exact hlf.bnd u hu
            · omega
          · rw [hres] at hf
            rw [← hf]
            exact ⟨.inr rfl, K', _, hs9, _, _, rfl, ⟨rfl, rfl⟩, rfl, rfl, trivial⟩
      · have hke : k = left.length := by omega
        subst hke
        have hD : (left ++ [room]).getD left.length 0 = room := by
          rw [List.getD_eq_getElem?_getD, List.getElem?_append_right (Nat.le_refl _), Nat.sub_self]; rfl
        have htr : tryS room (srcE room most r) n left of left.length = srcE room most r (left ++ [room - n]) (of ++ [(left.length : Int)]) := by
          unfold tryS
          rw [if_neg (by omega), if_pos rfl, hD, List.set_append_right _ _ (Nat.le_refl _), Nat.sub_self]; rfl
        change (Code.seq _ _).wp _ _ _ _
        refine wp_seq (W34 hN hs2 (Q := fun e c' => e = .normal ∧ c' = _) rfl ⟨[(4, false)], by simp, fun h => (by cases h), fun _ => ⟨rfl, rfl⟩⟩ ?_)
        rintro e c1 K3 a3 w3 ⟨rfl, rfl⟩ hs3
        change (Code.seq _ _).wp _ _ _ _
        refine wp_seq (W34 hN hs3 (Q := fun e c' => e = .normal ∧ c' = _) rfl ⟨⟨by show (0 + left.length) * 8 ≤ _; omega, by omega⟩, scal left, rfl, rfl⟩ ?_)
        rintro e c1 K4 a4 w4 ⟨rfl, rfl⟩ hs4
        change (Code.seq _ _).wp _ _ _ _
        refine wp_seq (W34 hN hs4 (Q := fun e c' => e = .normal ∧ c' = _) rfl ⟨fun _ => ⟨⟨by show (0 + left.length + 1) * 8 ≤ _; omega, by omega⟩, rfl, rfl⟩, fun h => (by simp at h)⟩ ?_)
        rintro e c1 K5 a5 w5 ⟨rfl, rfl⟩ hs5
        have htk : (left.map enc).take (0 + left.length) ++ [[I room]] = (left ++ [room]).map enc := by
          rw [List.take_of_length_le (by simp)]; simp [enc]
        have hrow : ((left.map enc).take (0 + left.length) ++ [[I room]])[((left.length : Nat) : Int).toNat]? = some [I room] := by
          rw [List.take_of_length_le (by simp), Int.toNat_natCast, List.getElem?_append_right (by simp)]; simp
        change (Code.seq _ _).wp _ _ _ _
        refine wp_seq (W34 hN hs5 (Q := fun e c' => e = .normal ∧ c' = _) rfl ⟨⟨by omega, by omega⟩, [I room], hrow, _, wrap64 (by omega) (by omega), ⟨by omega, by omega⟩, [I room], hrow, rfl, rfl⟩ ?_)
        rintro e c1 K6 a6 w6 ⟨rfl, rfl⟩ hs6
        have hs7 := SRK.only hs6 [0, 1, 2, 3, 4, 12, 13, 14] [816]
        have ex : ((left.map enc).take (0 + left.length) ++ [[I room]]).set ((left.length : Nat) : Int).toNat [I (room - n)] = (left ++ [room - n]).map enc := by
          rw [List.take_of_length_le (by simp), Int.toNat_natCast, List.set_append_right _ _ (by simp)]; simp [enc]
        have hs8 : SRK E K6 ⟨[(0, A l), (1, I room), (2, I most), (3, A left), (4, A of), (12, I n), (13, I left.length), (14, .osl 816 1 (left ++ [room - n]).length)], [(816, ⟨3, 1, .pure, (left ++ [room - n]).map enc⟩)]⟩ a6 w6 := by
          rw [← ex, List.length_append, List.length_singleton, ← Nat.zero_add (left.length + 1), ← Nat.add_assoc]; exact hs7
        clear hs2 hs3 hs4 hs5 hs6 hs7
        refine hcall _ htr ⟨by simp; omega, fun u hu => ?_⟩ hs8 (fun K' o a' w' hres hs9 => ?_) (fun K' a' w' hno hs9 => R6 hN (by omega) hs9 fun K' a' w' h => hgo K' a' w' hno h)
        · rcases List.mem_append.1 hu with hu | hu
          · exact hlf.bnd u hu
          · simp at hu; omega
        · rw [hres] at hf
          rw [← hf]
          exact ⟨.inr rfl, K', _, hs9, _, _, rfl, ⟨rfl, rfl⟩, rfl, rfl, trivial⟩
    · have hkm : k = min (left.length + 1) most := by omega
      rw [hkm, List.drop_of_length_le (by simp)] at hf
      have hnone : srcE room most (n :: r) left of = none := hf.symm
      rw [hnone]
      have hex : ∃ (K1 : KM), True := ⟨K, trivial⟩
      have hout : ∀ {K : KM} {a : Act} {w : World}, SRK E K ⟨G34 l room most left of n k, []⟩ a w → (match body Try.f34 with | .seq _ (.seq _ (.seq _ (.seq _ c))) => c | c => c).wp Try.prog (EndW tt [.tmp 10, .tmp 11] (.tup [A ((none : Option (List Int)).getD []), .bool (none : Option (List Int)).isSome]) E) a w := by
        intro K a w hs
        change (Code.seq _ _).wp _ _ _ _
        refine wp_seq (W34 hN hs (Q := fun e c' => e = .normal ∧ c' = _) rfl ⟨rfl, rfl⟩ ?_)
        rintro e c1 K2 a2 w2 ⟨rfl, rfl⟩ hs3
        have hs4 := (SRK.only hs3 [10, 11] []).nil_rsl (s := 10) (sz := 1) rfl
        change Code.ret.wp _ _ _ _
        exact wp_ret ⟨.inr rfl, K2, _, hs4, _, _, rfl, ⟨rfl, rfl⟩, rfl, rfl, trivial⟩
      by_cases hkl : k ≤ left.length
      · refine wp_seq (W34 hN hs (Q := fun e c' => e = .exit 0 ∧ c' = _) rfl ⟨[(4, true)], by simp; omega, fun h => (by simp at h; omega), fun _ => ⟨rfl, rfl⟩⟩ ?_)
        rintro e c1 K1 a1 w1 ⟨rfl, rfl⟩ hs1
        exact hout (SRK.only hs1 [0, 1, 2, 3, 4, 12, 13] [])
      · refine wp_seq (W34 hN hs (Q := fun e c' => e = .exit 0 ∧ c' = _) rfl ⟨[(4, false)], by simp; omega, fun h => (by cases h), fun _ => ⟨rfl, rfl⟩⟩ ?_)
        rintro e c1 K1 a1 w1 ⟨rfl, rfl⟩ hs1
        exact hout (SRK.only hs1 [0, 1, 2, 3, 4, 12, 13] [])
end Go.Abs.L39
