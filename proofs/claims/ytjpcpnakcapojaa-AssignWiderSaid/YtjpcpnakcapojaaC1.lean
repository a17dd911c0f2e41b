import Derived.Test.YtjpcpnakcapojaaB38
namespace Go.Abs
open Go.RowKit
/-- an empty fresh slice, of whatever kind -/
theorem fn_fsl0 {P : Program} {f : FuncId} {us : List AV} {p q : Bool} {e sz : Nat} (h : Fn P f us (.fsl p e sz 0 [])) : Fn P f us (.fsl q e sz 0 []) := by
  refine ⟨h.1, fun X w vs hw hl ha => (h.2 X w vs hw hl ha).mono ?_⟩
  rintro en w' ⟨v, rfl, ⟨h1, h2, h3⟩, hb⟩
  refine ⟨_, rfl, ⟨h1, h2, ?_⟩, hb⟩
  rcases h3 with h3 | ⟨g, cap, cur, a1, a2, a3, a4, a5, a6, a7⟩
  · exact .inl h3
  · exact .inr ⟨g, cap, cur, a1, a2, a3, a4, a5, a6, fun j u hj => by simp at hj⟩
theorem fn_weak {P : Program} {f : FuncId} {us us' : List AV} {r : AV} (h : Fn P f us r) (hl : us'.length = us.length) (hv : ∀ (w : World) (X : Nat → Prop) (j : Nat) (u' u : AV) (c : Value), us'[j]? = some u' → us[j]? = some u → VR w X K0 u' c → VR w X K0 u c) : Fn P f us' r := by
  refine ⟨h.1, fun X w vs hw hlen ha => h.2 X w vs hw (by omega) fun j u c hu hc => ?_⟩
  have hj : j < us'.length := by rw [hl]; exact (List.getElem?_eq_some_iff.1 hu).1
  have hu' : us'[j]? = some us'[j] := by simp [hj]
  exact hv w X j _ u c hu' hu (ha j _ c hu' hc)
end Go.Abs
namespace Go.Abs.L38
open Go Go.Abs Go.Proofs
set_option linter.unusedVariables false
set_option maxRecDepth 20000
theorem wrapTo {x y : Int} (h : x = y) (h1 : -9223372036854775808 ≤ x) (h2 : x ≤ 9223372036854775807) : IntKind.i64.wrap x = y := by rw [wrap64 h1 h2]; exact h
abbrev I (n : Int) : AV := .int .i64 n
def enc (n : Int) : List AV := [.int .i64 n]
abbrev A (l : List Int) : AV := .rsl 1 l.length (l.map enc)
abbrev fA (l : List Int) : AV := .fsl true 3 1 l.length (l.map enc)
def encT (l : List Int) : List AV := [.rsl 1 l.length (l.map enc)]
abbrev AA (T : List (List Int)) : AV := .rsl 1 T.length (T.map encT)
abbrev fAA (T : List (List Int)) : AV := .fsl false 25 1 T.length (T.map encT)
theorem get_map {α : Type} {f : α → List AV} {l : List α} {i : Nat} {x : α} (h : l[i]? = some x) : (l.map f)[i]? = some (f x) := by rw [List.getElem?_map, h]; rfl
theorem scal (l : List Int) : Scal (l.map enc) := by
  intro row hr u hu
  simp only [List.mem_map] at hr
  obtain ⟨a, _, rfl⟩ := hr
  simp only [enc, List.mem_cons, List.not_mem_nil, or_false] at hu
  subst hu; rfl
theorem set_same {α : Type} {l : List α} {i : Nat} {a : α} (h : l[i]? = some a) : l.set i a = l := by
  obtain ⟨h1, h2⟩ := List.getElem?_eq_some_iff.1 h
  rw [← h2]; simp
/-! ### copies -/
theorem c18n : Fn Try.prog 18 [.nilsl] (fA []) := mk18 rfl ⟨fun _ => ⟨rfl, .inr ⟨_, _, _, rfl⟩⟩, fun h => by cases h⟩
theorem c18e : Fn Try.prog 18 [.esl] (fA []) := mk18 rfl ⟨fun h => (by cases h), fun _ => ⟨by decide, rfl, _, rfl, rfl, rfl, .inl ⟨rfl, rfl⟩⟩⟩
theorem c18 (l : List Int) (h : l.length ≤ 10000) : Fn Try.prog 18 [A l] (fA l) := by
  cases l with
  | nil => exact fn_empty c18n c18e
  | cons a l =>
    refine mk18 rfl ⟨by simp, fun h => (by cases h), fun _ => ?_⟩
    exact ⟨⟨by simp at h ⊢; omega, by simp at h ⊢; omega⟩, scal (a :: l), rfl, _, rfl, rfl, by simp, .inl ⟨rfl, by simp⟩⟩
theorem c33n : Fn Try.prog 33 [.nilsl] (fAA []) := mk33 rfl ⟨fun _ => ⟨rfl, .inr ⟨_, _, _, rfl⟩⟩, fun h => by cases h⟩
theorem c33e : Fn Try.prog 33 [.esl] (fAA []) := fn_fsl0 (p := true) (mk33 rfl ⟨fun h => (by cases h), fun _ => ⟨by decide, rfl, _, rfl, rfl, rfl, .inl ⟨rfl, rfl⟩⟩⟩)
theorem c33 (T : List (List Int)) (hT : T.length ≤ 10000) : Fn Try.prog 33 [AA T] (fAA T) := by
  cases T with
  | nil => exact fn_empty c33n c33e
  | cons t T =>
    refine fn_ofW (N := 8) [.tmp 2] tabOK Try.func33 rfl (by kernel_rfl) rfl rfl rfl ?_
    intro E K a w hN hp hs
    have W8 : ∀ {K : KM} {fr : List (Nat × AV)} {V : List (Nat × OBlk)} {a : Act} {w : World} {code : Code} {Q : Ex → Cfg → Prop} {Q' : Exit → Act → World → Prop}, SRK E K ⟨fr, V⟩ a w → drawsOK code = true →
        ev Try.prog tt 8 [0, 2, 4, 7] code ⟨fr, V⟩ Q → (∀ e c' K' a' w', Q e c' → SRK E K' c' a' w' → Q' e.toExit a' w') → code.wp Try.prog Q' a w := by
      intro K fr V a w code Q Q' hs hd h hQ
      refine wp_ev (Tl := []) tabOK tabOne mixed hN TailOK.nil (Apart.nil _) hd h (by rw [List.append_nil]; exact hs) ?_
      intro e c' K' a' w' q h' _
      rw [List.append_nil] at h'
      exact hQ e c' K' a' w' q h'
    change (Code.seq _ _).wp _ _ _ _
    refine wp_seq (W8 hs rfl (Q := fun e c' => e = .normal ∧ c' = _) ⟨rfl, rfl⟩ ?_)
    rintro e c1 K1 a1 w1 ⟨rfl, rfl⟩ hs1
    change (Code.seq _ _).wp _ _ _ _
    refine wp_seq (W8 hs1 rfl (Q := fun e c' => e = .normal ∧ c' = _) ⟨by show (0 : Nat) < _; simp, fun h => (by cases h), fun _ => ⟨rfl, rfl⟩⟩ ?_)
    rintro e c1 K2 a2 w2 ⟨rfl, rfl⟩ hs2
    change (Code.seq _ _).wp _ _ _ _
    refine wp_seq (wp_region ?_)
    change wpOps _ _ _ (List.range' 0 1 ++ (List.range' 1 3 ++ [])) _ _
    refine wp_evOpsN (V := []) (Tl := []) (dm := []) tabOK tabOne hN hs2 TailOK.nil (Apart.nil _) ⟨⟨[], []⟩, [], []⟩ 0 1 rfl (Kk := fun c' => c' = _) rfl ?_
    rintro c1 K4 a4 w4 rfl hs4 _
    have hs5 := SRK.recastK (b := 80) (blk := ⟨25, 1, .flat, []⟩) (blk0 := ⟨25, 1, .pure, []⟩) hs4 rfl rfl rfl (fun g hB => by
      obtain ⟨cur, hc, _⟩ := hB
      exact ⟨cur, hc, fun j u hj => by simp at hj⟩)
    refine wp_evOpsN (V := [(80, ⟨25, 1, .flat, []⟩)]) (Tl := []) (dm := []) tabOK tabOne hN hs5 TailOK.nil (Apart.nil _) ⟨⟨[], []⟩, [], []⟩ 1 3 rfl (Kk := fun c' => c' = _) ⟨⟨?_, ?_⟩, rfl⟩ ?_
    · show (0 + (T.length + 1)) * 24 ≤ _
      simp at hT; omega
    · show 0 + (T.length + 1) ≤ _
      simp at hT; omega
    rintro c1 K6 a6 w6 rfl hs6 _
    change Code.ret.wp _ _ _ _
    refine wp_ret ⟨.inr rfl, K6, _, hs6, rfl, _, rfl, rfl, ?_, .inr ⟨rfl, ?_⟩⟩
    · show 0 + (T.length + 1) = _
      simp
    · show AV.fsl false 25 1 (T.length + 1) _ = AV.fsl false 25 1 (0 + (T.length + 1)) _
      rw [Nat.zero_add]; rfl
theorem c14 (T : List (List Int)) (hT : T.length ≤ 10000) (hTb : ∀ b ∈ T, b.length ≤ 10000) : Fn Try.prog 14 [AA T] (fAA T) := by
  refine mk14 rfl ⟨_, c33 T hT, false, ?_⟩
  refine ⟨fun q c => ∃ i : Nat, i ≤ T.length ∧ q = T.length - i ∧ c = ⟨[(0, .osl 80 1 T.length), (7, I T.length), (8, I i)], [(80, ⟨25, 1, .flat, T.map encT⟩)]⟩, ⟨_, _, Wk.keep [0, 7, 8] [80], 0, by omega, rfl, rfl⟩, ?_⟩
  rintro q c ⟨i, hi, rfl, rfl⟩
  refine ⟨fun h => ?_, fun h => ?_⟩
  · simp at h
    obtain ⟨t, ht, hd, _⟩ := drop_cons h
    have hr : (T.map encT)[((i : Nat) : Int).toNat]? = some (encT t) := get_map ht
    have htl := hTb t (List.mem_of_getElem? ht)
    refine ⟨⟨by omega, by omega⟩, encT t, hr, _, c18 t htl, true, ⟨by omega, by omega⟩, encT t, hr, _, wrap64 (by omega) (by omega), ?_⟩
    refine ⟨_, _, Wk.keep [0, 7, 8] [80], by omega, i + 1, by omega, rfl, ?_⟩
    show Cfg.mk _ [(80, (⟨25, 1, .flat, (T.map encT).set ((i : Nat) : Int).toNat (encT t)⟩ : OBlk))] = _
    rw [set_same hr]; rfl
  · simp at h
    have : i = T.length := by omega
    subst this
    exact ⟨rfl, _, rfl, rfl, by rw [List.length_map], .inr ⟨rfl, rfl⟩⟩
/-! ### searches -/
def idxG {α : Type} [BEq α] (x : α) : Nat → List α → Int
  | _, [] => -1
  | i, a :: r => if x == a then i else idxG x (i + 1) r
theorem idxG_mem {α : Type} [BEq α] (x : α) : ∀ (l : List α) (i : Nat), decide (idxG x i l ≥ 0) = l.any (x == ·)
  | [], i => by simp [idxG]
  | a :: r, i => by
    unfold idxG
    rw [List.any_cons]
    split
    · rename_i h; rw [h]; simp
    · rename_i h
      rw [idxG_mem x r (i + 1), show (x == a) = false by simpa using h]; rfl
theorem c54 (l : List Int) (hl : l.length ≤ 9223372036854775807) (x : Int) : Fn Try.prog 54 [A l, I x] (I (idxG x 0 l)) := by
  refine mk54 rfl ?_
  refine ⟨fun q c => ∃ i : Nat, i ≤ l.length ∧ q = l.length - i ∧ idxG x i (l.drop i) = idxG x 0 l ∧ c = ⟨[(0, A l), (1, I x), (7, I l.length), (8, I i)], []⟩, ⟨_, _, Wk.keep [0, 1, 7, 8] [], 0, by omega, rfl, rfl, rfl⟩, ?_⟩
  rintro q c ⟨i, hi, rfl, hI, rfl⟩
  refine ⟨fun h => ?_, fun h => ?_⟩
  · simp at h
    obtain ⟨a, ha, hd, _⟩ := drop_cons h
    rw [hd, idxG] at hI
    refine ⟨⟨by omega, by omega⟩, enc a, get_map ha, fun hz => ?_, fun hz => ?_⟩
    · have hz : (x == a) = true := hz
      rw [if_pos hz] at hI
      rw [← hI]; exact ⟨rfl, rfl, rfl⟩
    · have hz : (x == a) = false := hz
      rw [if_neg (by rw [hz]; simp)] at hI
      refine ⟨_, wrap64 (by omega) (by omega), ?_⟩
      exact ⟨_, _, Wk.keep [0, 1, 7, 8] [], by omega, i + 1, by omega, rfl, hI, rfl⟩
  · simp at h
    have : i = l.length := by omega
    subst this
    rw [List.drop_length] at hI
    rw [← hI]; exact ⟨rfl, rfl, rfl⟩
theorem c46 (l : List Int) (hl : l.length ≤ 9223372036854775807) (x : Int) : Fn Try.prog 46 [A l, I x] (.bool (l.any (x == ·))) := by
  rw [← idxG_mem x l 0]
  exact mk46 rfl ⟨_, c54 l hl x, rfl, rfl, rfl⟩
def idxF {α : Type} (p : α → Bool) : Nat → List α → Int
  | _, [] => -1
  | i, a :: r => if p a = true then i else idxF p (i + 1) r
theorem idxF_any {α : Type} (p : α → Bool) : ∀ (l : List α) (i : Nat), decide (idxF p i l ≥ 0) = l.any p
  | [], i => by simp [idxF]
  | a :: r, i => by
    unfold idxF
    rw [List.any_cons]
    split
    · rename_i h; rw [h]; simp
    · rename_i h
      rw [idxF_any p r (i + 1), show p a = false by simpa using h]; rfl
theorem c53a (l : List Int) (hl : l.length ≤ 9223372036854775807) (p : Int → Bool) (g : FuncId) (xs : List AV) (hp : ∀ a ∈ l, Fn Try.prog g [I a, .rptr xs 0] (.bool (p a))) : Fn Try.prog 53 [A l, .func g [.rptr xs 0]] (I (idxF p 0 l)) := by
  refine mk53 rfl ?_
  refine ⟨fun n c => ∃ i : Nat, i ≤ l.length ∧ n = l.length - i ∧ c = ⟨[(0, A l), (1, .func g [.rptr xs 0]), (7, I l.length), (8, I i)], []⟩ ∧ idxF p i (l.drop i) = idxF p 0 l, ⟨_, _, Wk.keep [0, 1, 7, 8] [], 0, by omega, rfl, rfl, by simp⟩, ?_⟩
  rintro n c ⟨i, hi, rfl, rfl, hI⟩
  refine ⟨fun h => ?_, fun h => ?_⟩
  · simp at h
    obtain ⟨a, ha, hd, _⟩ := drop_cons h
    rw [hd, idxF] at hI
    refine ⟨⟨by omega, by omega⟩, enc a, get_map ha, _, hp a (List.mem_of_getElem? ha), fun hf => ?_, fun hf => ?_⟩
    · rw [if_pos hf] at hI
      rw [← hI]; exact ⟨rfl, rfl, rfl⟩
    · rw [if_neg (by simp [hf])] at hI
      refine ⟨_, wrap64 (by omega) (by omega), ?_⟩
      exact ⟨_, _, Wk.keep [0, 1, 7, 8] [], by omega, i + 1, by omega, rfl, rfl, hI⟩
  · simp at h
    have : i = l.length := by omega
    subst this
    rw [List.drop_length] at hI
    rw [← hI]; exact ⟨rfl, rfl, rfl⟩
theorem c52a (l : List (List Int)) (hl : l.length ≤ 9223372036854775807) (p : List Int → Bool) (g : FuncId) (xs : List AV) (hp : ∀ a ∈ l, Fn Try.prog g [A a, .rptr xs 0] (.bool (p a))) : Fn Try.prog 52 [AA l, .func g [.rptr xs 0]] (I (idxF p 0 l)) := by
  refine mk52 rfl ?_
  refine ⟨fun n c => ∃ i : Nat, i ≤ l.length ∧ n = l.length - i ∧ c = ⟨[(0, AA l), (1, .func g [.rptr xs 0]), (7, I l.length), (8, I i)], []⟩ ∧ idxF p i (l.drop i) = idxF p 0 l, ⟨_, _, Wk.keep [0, 1, 7, 8] [], 0, by omega, rfl, rfl, by simp⟩, ?_⟩
  rintro n c ⟨i, hi, rfl, rfl, hI⟩
  refine ⟨fun h => ?_, fun h => ?_⟩
  · simp at h
    obtain ⟨a, ha, hd, _⟩ := drop_cons h
    rw [hd, idxF] at hI
    refine ⟨⟨by omega, by omega⟩, encT a, get_map ha, _, hp a (List.mem_of_getElem? ha), fun hf => ?_, fun hf => ?_⟩
    · rw [if_pos hf] at hI
      rw [← hI]; exact ⟨rfl, rfl, rfl⟩
    · rw [if_neg (by simp [hf])] at hI
      refine ⟨_, wrap64 (by omega) (by omega), ?_⟩
      exact ⟨_, _, Wk.keep [0, 1, 7, 8] [], by omega, i + 1, by omega, rfl, rfl, hI⟩
  · simp at h
    have : i = l.length := by omega
    subst this
    rw [List.drop_length] at hI
    rw [← hI]; exact ⟨rfl, rfl, rfl⟩
theorem beq_drop {l m : List Int} {i : Nat} {x y : Int} (hx : l[i]? = some x) (hy : m[i]? = some y) (hd : l.drop i = x :: l.drop (i + 1)) (hd' : m.drop i = y :: m.drop (i + 1)) : (l.drop i == m.drop i) = (x == y && (l.drop (i + 1) == m.drop (i + 1))) := by
  rw [hd, hd']; rfl
theorem c16 (l m : List Int) (hl : l.length ≤ 9223372036854775807) : Fn Try.prog 16 [A l, A m] (.bool (l == m)) := by
  refine mk16 rfl ⟨fun h => ?_, fun h => ?_⟩
  · have h : l.length ≠ m.length := by simp at h; omega
    have : (l == m) = false := by simp; rintro rfl; exact h rfl
    rw [this]; exact ⟨rfl, rfl, rfl⟩
  · have h : l.length = m.length := by simp at h; omega
    refine ⟨fun q c => ∃ i : Nat, i ≤ l.length ∧ q = l.length - i ∧ (l.drop i == m.drop i) = (l == m) ∧
      c = ⟨[(0, A l), (1, A m), (12, I l.length), (13, I i)], []⟩, ⟨_, _, Wk.keep [0, 1, 12, 13] [], 0, by omega, rfl, by simp, rfl⟩, ?_⟩
    rintro q c ⟨i, hi, rfl, hI, rfl⟩
    refine ⟨fun h5 => ?_, fun h5 => ?_⟩
    · simp at h5
      obtain ⟨n, hn, hd, _⟩ := drop_cons h5
      obtain ⟨n', hn', hd', _⟩ := drop_cons (l := m) (i := i) (by omega)
      rw [beq_drop hn hn' hd hd'] at hI
      refine ⟨⟨by omega, by omega⟩, enc n, get_map hn, ⟨by omega, by omega⟩, enc n', get_map hn', fun hz => ?_, fun hz => ?_⟩
      · have hz : (n == n') = false := by
          have : ((n != n')) = true := hz
          simpa [bne] using this
        rw [hz] at hI
        rw [← hI]; exact ⟨rfl, rfl, rfl⟩
      · have hz : (n == n') = true := by
          have : ((n != n')) = false := hz
          simpa [bne] using this
        rw [hz, Bool.true_and] at hI
        refine ⟨_, wrap64 (by omega) (by omega), ?_⟩
        exact ⟨_, _, Wk.keep [0, 1, 12, 13] [], by omega, i + 1, by omega, rfl, hI, rfl⟩
    · simp at h5
      have hil : i = l.length := by omega
      subst hil
      have : (l == m) = true := by rw [← hI, List.drop_length, h, List.drop_length]; rfl
      rw [this]; exact ⟨rfl, rfl, rfl⟩
end Go.Abs.L38
namespace Go.Abs.L38
open Go Go.Abs Go.Proofs
set_option linter.unusedVariables false
set_option maxRecDepth 20000
def badC (c : Int) : Bool := decide (c < -1) || decide (c > 1000)
def chkE : List (List Int) → Int
  | [] => 9
  | t0 :: T => if t0 = [] then 9 else if (t0 :: T).length > 16 ∨ t0.length > 16 then 8 else if (t0 :: T).any (fun t => decide (t.length ≠ t0.length)) = true then 10 else if (t0 :: T).any (fun t => t.any badC) = true then 2 else 0
theorem c43 (t t0 : List Int) (T : List (List Int)) : Fn Try.prog 43 [A t, .rptr [AA (t0 :: T)] 0] (.bool (decide (t.length ≠ t0.length))) := by
  refine mk43 rfl ⟨⟨by omega, by show (0 : Int) < ((T.length + 1 : Nat) : Int); omega⟩, encT t0, rfl, rfl, rfl, ?_⟩
  show AV.bool (decide (t.length ≠ t0.length)) = AV.bool ((t.length : Int) != (t0.length : Int))
  congr 1
  by_cases h : t.length = t0.length
  · simp [h]
  · have : (t.length : Int) ≠ t0.length := by omega
    simp [h, this]
theorem nil_of_len {t : List Int} (h : ((t.length : Int) == 0) = true) : t = [] := by
  have : t.length = 0 := by simpa using h
  exact List.eq_nil_of_length_eq_zero this
set_option maxHeartbeats 1000000 in
theorem c24 (T : List (List Int)) (hT : T.length ≤ 9223372036854775807) (hTb : ∀ b ∈ T, b.length ≤ 9223372036854775807) : Fn Try.prog 24 [AA T] (I (chkE T)) := by
  cases T with
  | nil => exact mk24 rfl ⟨[(3, true)], rfl, fun _ => ⟨rfl, rfl, rfl⟩, fun h => (by cases h)⟩
  | cons t0 T =>
    have h00 : (0 : Int) < (((t0 :: T).length : Nat) : Int) := by rw [List.length_cons]; omega
    refine mk24 rfl ⟨[(3, false)], by simp; omega, ⟨by omega, h00⟩, encT t0, rfl, fun h => ?_, fun h => ?_⟩
    · have h : t0 = [] := nil_of_len (by simpa using h)
      rw [chkE, if_pos h]; exact ⟨rfl, rfl, rfl⟩
    have h0 : t0 ≠ [] := by rintro rfl; cases h
    have hv : chkE (t0 :: T) = if (t0 :: T).length > 16 ∨ t0.length > 16 then 8 else if (t0 :: T).any (fun t => decide (t.length ≠ t0.length)) = true then 10 else if (t0 :: T).any (fun t => t.any badC) = true then 2 else 0 := by rw [chkE, if_neg h0]
    rw [hv]
    by_cases h1 : (t0 :: T).length > 16
    · rw [if_pos (.inl h1)]
      exact ⟨[(3, true)], by simp at h1 ⊢; omega, fun _ => ⟨rfl, rfl, rfl⟩, fun h => (by cases h)⟩
    refine ⟨[(3, false)], by simp at h1 ⊢; omega, ⟨by omega, h00⟩, encT t0, rfl, fun h2 => ?_, fun h2 => ?_⟩
    · have h2 : t0.length > 16 := by simp at h2; omega
      rw [if_pos (.inr h2)]; exact ⟨rfl, rfl, rfl⟩
    have h2 : ¬ t0.length > 16 := by simp at h2; omega
    rw [if_neg (by omega)]
    have k42 : Fn Try.prog 42 [AA (t0 :: T), .func 43 [.rptr [AA (t0 :: T)] 0]] (.bool ((t0 :: T).any (fun t => decide (t.length ≠ t0.length)))) := by
      rw [← idxF_any _ (t0 :: T) 0]
      exact mk42 rfl ⟨_, c52a (t0 :: T) hT (fun t => decide (t.length ≠ t0.length)) 43 [AA (t0 :: T)] fun a _ => c43 a t0 T, rfl, rfl, rfl⟩
    refine ⟨_, k42, fun h3 => ?_, fun h3 => ?_⟩
    · have h3 : (t0 :: T).any (fun t => decide (t.length ≠ t0.length)) = true := h3
      rw [if_pos h3]; exact ⟨rfl, rfl, rfl⟩
    have h3 : (t0 :: T).any (fun t => decide (t.length ≠ t0.length)) = false := h3
    rw [if_neg (by rw [h3]; simp)]
    generalize hS : t0 :: T = S at *
    clear k42 hv
    refine ⟨fun q c => ∃ i : Nat, i ≤ S.length ∧ q = S.length - i ∧ (S.drop i).any (fun t => t.any badC) = S.any (fun t => t.any badC) ∧ c = ⟨[(2, I 0), (33, AA S), (34, I S.length), (35, I i)], []⟩, ⟨_, _, Wk.keep [2, 33, 34, 35] [], 0, by omega, rfl, rfl, rfl⟩, ?_⟩
    rintro q c ⟨i, hi, rfl, hI, rfl⟩
    refine ⟨fun h4 => ?_, fun h4 => ?_⟩
    · simp at h4
      obtain ⟨t, ht, hd, _⟩ := drop_cons h4
      have htl := hTb t (List.mem_of_getElem? ht)
      rw [hd, List.any_cons] at hI
      refine ⟨⟨by omega, by omega⟩, encT t, get_map ht, ?_⟩
      refine ⟨fun q c => ∃ j : Nat, j ≤ t.length ∧ q = t.length - j ∧ (t.drop j).any badC = t.any badC ∧ c = ⟨[(2, I 0), (33, AA S), (34, I S.length), (35, I i), (39, A t), (40, I t.length), (41, I j)], []⟩, ⟨_, _, Wk.keep [2, 33, 34, 35, 39, 40, 41] [], 0, by omega, rfl, rfl, rfl⟩, ?_⟩
      rintro q c ⟨j, hj, rfl, hJ, rfl⟩
      refine ⟨fun h5 => ?_, fun h5 => ?_⟩
      · simp at h5
        obtain ⟨x, hx, hd2, _⟩ := drop_cons h5
        rw [hd2, List.any_cons] at hJ
        refine ⟨⟨by omega, by omega⟩, enc x, get_map hx, ?_⟩
        by_cases hb1 : x < -1
        · have : badC x = true := by simp [badC, hb1]
          rw [this, Bool.true_or] at hJ
          rw [← hJ, Bool.true_or] at hI
          rw [if_pos hI.symm]
          exact ⟨[(2, true)], by simpa using hb1, fun _ => ⟨rfl, rfl, rfl⟩, fun h => (by cases h)⟩
        · refine ⟨[(2, false)], by simpa using hb1, fun h6 => ?_, fun h6 => ?_⟩
          · have h6 : x > 1000 := by simpa using h6
            have : badC x = true := by simp [badC, h6]
            rw [this, Bool.true_or] at hJ
            rw [← hJ, Bool.true_or] at hI
            rw [if_pos hI.symm]; exact ⟨rfl, rfl, rfl⟩
          · have h6 : ¬ x > 1000 := by simpa using h6
            have : badC x = false := by simp [badC, hb1]; omega
            rw [this, Bool.false_or] at hJ
            refine ⟨_, wrap64 (by omega) (by omega), ?_⟩
            exact ⟨_, _, Wk.keep [2, 33, 34, 35, 39, 40, 41] [], by omega, j + 1, by omega, rfl, hJ, rfl⟩
      · simp at h5
        have : j = t.length := by omega
        subst this
        rw [List.drop_length, List.any_nil] at hJ
        rw [← hJ, Bool.false_or] at hI
        refine ⟨_, wrap64 (by omega) (by omega), ?_⟩
        exact ⟨_, _, Wk.keep [2, 33, 34, 35] [], by omega, i + 1, by omega, rfl, hI, rfl⟩
    · simp at h4
      have : i = S.length := by omega
      subst this
      rw [List.drop_length, List.any_nil] at hI
      rw [if_neg (by rw [← hI]; simp)]; exact ⟨rfl, rfl, rfl⟩
end Go.Abs.L38
