import Derived.Test.YtjpcpnakcapojaaC38n
import Derived.Test.YtjpcpnakcapojaaN3
namespace Go.Abs.L38
open Go Go.Abs Go.Proofs
set_option linter.unusedVariables false
set_option maxRecDepth 20000
/-! ### bits of a column set -/
def onesA (x : Nat) : Nat := (x / 2 &&& 6148914691236517205) + (x &&& 6148914691236517205)
def onesB (x : Nat) : Nat := (x / 4 &&& 3689348814741910323) + (x &&& 3689348814741910323)
def onesC (x : Nat) : Nat := (x / 16 + x) &&& 1085102592571150095
def onesD (x : Nat) : Nat := x + x / 256
def onesE (x : Nat) : Nat := x + x / 65536
def onesF (x : Nat) : Nat := x + x / 4294967296
def onesN (x : Nat) : Nat := onesF (onesE (onesD (onesC (onesB (onesA x))))) &&& 127
theorem and_le' (a b : Nat) : a &&& b ≤ a := Nat.and_le_left
theorem andI (a b : Nat) (ha : a < 9223372036854775808) (hb : b < 9223372036854775808) : bits .and .i64 (a : Int) (b : Int) = ((a &&& b : Nat) : Int) := by
  show IntKind.i64.wrap ((BitVec.ofInt 64 (a : Int) &&& BitVec.ofInt 64 (b : Int)).toNat : Int) = _
  rw [BitVec.toNat_and, ofInt64 a (by omega), ofInt64 b (by omega)]
  have : a &&& b ≤ a := Nat.and_le_left
  exact wrap64 (by omega) (by omega)
theorem andK1 (a : Nat) (ha : a < 18446744073709551616) : bits .and .u64 (a : Int) 6148914691236517205 = ((a &&& 6148914691236517205 : Nat) : Int) := andU a 6148914691236517205 ha (by decide)
theorem andK2 (a : Nat) (ha : a < 18446744073709551616) : bits .and .u64 (a : Int) 3689348814741910323 = ((a &&& 3689348814741910323 : Nat) : Int) := andU a 3689348814741910323 ha (by decide)
theorem andK3 (a : Nat) (ha : a < 18446744073709551616) : bits .and .u64 (a : Int) 1085102592571150095 = ((a &&& 1085102592571150095 : Nat) : Int) := andU a 1085102592571150095 ha (by decide)
theorem andK4 (a : Nat) (ha : a < 9223372036854775808) : bits .and .i64 (a : Int) 127 = ((a &&& 127 : Nat) : Int) := andI a 127 ha (by decide)
theorem c51 (x : Nat) (hx : x < 65536) : Fn Try.prog 51 [U x] (I (onesN x)) := by
  have hs : ∀ k : Int, 0 ≤ k → k ≤ 64 → (0 : Int) ≤ k ∧ k ≤ (IntKind.u64.bits : Int) := fun k h1 h2 => ⟨h1, by show k ≤ 64; exact h2⟩
  have bA : onesA x ≤ 2 * 65536 := by have h1 := and_le' (x / 2) 6148914691236517205; have h2 := and_le' x 6148914691236517205; unfold onesA; omega
  have bB : onesB (onesA x) ≤ 4 * 65536 := by have h1 := and_le' (onesA x / 4) 3689348814741910323; have h2 := and_le' (onesA x) 3689348814741910323; unfold onesB; omega
  have bC : onesC (onesB (onesA x)) ≤ 8 * 65536 := by have h1 := and_le' (onesB (onesA x) / 16 + onesB (onesA x)) 1085102592571150095; unfold onesC; omega
  have bD : onesD (onesC (onesB (onesA x))) ≤ 16 * 65536 := by unfold onesD; omega
  have bE : onesE (onesD (onesC (onesB (onesA x)))) ≤ 32 * 65536 := by unfold onesE; omega
  have bF : onesF (onesE (onesD (onesC (onesB (onesA x))))) ≤ 64 * 65536 := by unfold onesF; omega
  unfold onesN
  have a1 : bits .and .u64 ((x : Int) / 2 ^ Int.toNat 1) 6148914691236517205 = ((x / 2 &&& 6148914691236517205 : Nat) : Int) := by
    rw [show (x : Int) / 2 ^ Int.toNat 1 = ((x / 2 : Nat) : Int) by show (x : Int) / 2 = _; omega]; exact andK1 _ (by omega)
  have a2 : bits .and .u64 (x : Int) 6148914691236517205 = ((x &&& 6148914691236517205 : Nat) : Int) := andK1 _ (by omega)
  have a3 : IntKind.u64.wrap (((x / 2 &&& 6148914691236517205 : Nat) : Int) + ((x &&& 6148914691236517205 : Nat) : Int)) = (onesA x : Int) := wrapUT (by unfold onesA; omega) (by omega) (by omega)
  generalize onesA x = y at *
  have b1 : bits .and .u64 ((y : Int) / 2 ^ Int.toNat 2) 3689348814741910323 = ((y / 4 &&& 3689348814741910323 : Nat) : Int) := by
    rw [show (y : Int) / 2 ^ Int.toNat 2 = ((y / 4 : Nat) : Int) by show (y : Int) / 4 = _; omega]; exact andK2 _ (by omega)
  have b2 : bits .and .u64 (y : Int) 3689348814741910323 = ((y &&& 3689348814741910323 : Nat) : Int) := andK2 _ (by omega)
  have b3 : IntKind.u64.wrap (((y / 4 &&& 3689348814741910323 : Nat) : Int) + ((y &&& 3689348814741910323 : Nat) : Int)) = (onesB y : Int) := wrapUT (by unfold onesB; omega) (by omega) (by omega)
  generalize onesB y = z at *
  have c1 : IntKind.u64.wrap ((z : Int) / 2 ^ Int.toNat 4 + (z : Int)) = ((z / 16 + z : Nat) : Int) := wrapUT (by show (z : Int) / 16 + z = _; omega) (by omega) (by omega)
  have c2 : bits .and .u64 ((z / 16 + z : Nat) : Int) 1085102592571150095 = (onesC z : Int) := andK3 _ (by omega)
  generalize onesC z = u at *
  have d1 : IntKind.u64.wrap ((u : Int) + (u : Int) / 2 ^ Int.toNat 8) = (onesD u : Int) := wrapUT (by unfold onesD; show (u : Int) + u / 256 = _; omega) (by omega) (by omega)
  generalize onesD u = v at *
  have e1 : IntKind.u64.wrap ((v : Int) + (v : Int) / 2 ^ Int.toNat 16) = (onesE v : Int) := wrapUT (by unfold onesE; show (v : Int) + v / 65536 = _; omega) (by omega) (by omega)
  generalize onesE v = s at *
  have f1 : IntKind.u64.wrap ((s : Int) + (s : Int) / 2 ^ Int.toNat 32) = (onesF s : Int) := wrapUT (by unfold onesF; show (s : Int) + s / 4294967296 = _; omega) (by omega) (by omega)
  generalize onesF s = t at *
  have g1 : IntKind.i64.wrap (t : Int) = (t : Int) := wrap64 (by omega) (by omega)
  have g2 : bits .and .i64 (t : Int) 127 = ((t &&& 127 : Nat) : Int) := andK4 _ (by omega)
  refine mk51 rfl ⟨hs _ (by omega) (by omega), _, a1, _, a2, _, a3, hs _ (by omega) (by omega), _, b1, _, b2, _, b3, hs _ (by omega) (by omega), _, c1, _, c2, hs _ (by omega) (by omega), _, d1, hs _ (by omega) (by omega), _, e1, hs _ (by omega) (by omega), _, f1, _, g1, _, g2, rfl, rfl, rfl⟩
theorem c39 (x : Nat) (hx : x < 65536) : Fn Try.prog 39 [.int .u64 x] (I (onesN x)) := by
  refine mk39 rfl ⟨fun h => (by cases h), fun _ => ⟨_, c51 x hx, ?_⟩⟩
  exact ⟨rfl, rfl, rfl⟩
end Go.Abs.L38
namespace Go.Abs.L38
open Go Go.Abs Go.Proofs
set_option linter.unusedVariables false
set_option maxRecDepth 20000
/-! ### the columns that a row names, as bits -/
def maskTo (b : List Int) (k : Nat) : Nat := (List.range k).foldl (fun m c => if b.getD c 0 ≥ 0 then m ||| 2 ^ c else m) 0
theorem maskTo_succ (b : List Int) (k : Nat) : maskTo b (k + 1) = if b.getD k 0 ≥ 0 then maskTo b k ||| 2 ^ k else maskTo b k := by
  rw [maskTo, List.range_succ, List.foldl_append]; rfl
theorem maskTo_lt (b : List Int) (k : Nat) : maskTo b k < 2 ^ k := by
  induction k with
  | zero => simp [maskTo]
  | succ k ih =>
    rw [maskTo_succ]
    have e : 2 ^ (k + 1) = 2 * 2 ^ k := by rw [Nat.pow_succ]; omega
    split
    · exact Nat.or_lt_two_pow (by omega) (by omega)
    · omega
def masksL (T : List (List Int)) : List Nat := T.map fun b => maskTo b b.length
def encU (x : Nat) : List AV := [.int .u64 x]
/-- the masks so far -/
def mid (T : List (List Int)) (j k : Nat) : List Nat := (masksL T).take j ++ maskTo (T.getD j []) k :: List.replicate (T.length - j - 1) 0
theorem mid_0 {T : List (List Int)} {j : Nat} : mid T j 0 = (masksL T).take j ++ 0 :: List.replicate (T.length - j - 1) 0 := rfl
theorem mid_len {T : List (List Int)} {j k : Nat} (h : j < T.length) : (mid T j k).length = T.length := by
  simp [mid, masksL]; omega
theorem mid_at {T : List (List Int)} {j k : Nat} (h : j < T.length) : (mid T j k).getD j 0 = maskTo (T.getD j []) k := by
  have : ((masksL T).take j).length = j := by simp [masksL]; omega
  rw [mid, List.getD_eq_getElem?_getD, List.getElem?_append_right (by omega), this, Nat.sub_self]; rfl
theorem mid_set {T : List (List Int)} {j k x : Nat} (h : j < T.length) (hx : x = maskTo (T.getD j []) (k + 1)) : (mid T j k).set j x = mid T j (k + 1) := by
  have : ((masksL T).take j).length = j := by simp [masksL]; omega
  rw [mid, List.set_append_right _ _ (by omega), this, Nat.sub_self, hx]; rfl
theorem mid_next {T : List (List Int)} {j k : Nat} (h : j < T.length) (hk : k = (T.getD j []).length) : mid T j k = (masksL T).take (j + 1) ++ List.replicate (T.length - (j + 1)) 0 := by
  rw [mid, List.take_add_one, show (masksL T)[j]? = some (maskTo (T.getD j []) k) by simp [masksL, List.getElem?_eq_getElem h, hk], Option.toList_some, List.append_assoc]; rfl
theorem mid_first {T : List (List Int)} {j : Nat} (h : j < T.length) : (masksL T).take j ++ List.replicate (T.length - j) 0 = mid T j 0 := by
  rw [mid_0, show T.length - j = (T.length - j - 1) + 1 by omega, List.replicate_succ]
  congr 2
theorem rowU_at {l : List Nat} {i : Nat} (h : i < l.length) : (l.map encU)[((i : Nat) : Int).toNat]? = some [.int .u64 (l.getD i 0 : Nat)] := by
  rw [Int.toNat_natCast, List.getElem?_map, List.getD_eq_getElem?_getD, List.getElem?_eq_getElem h]; rfl
theorem rowU_set {l : List Nat} {i x : Nat} : (l.map encU).set ((i : Nat) : Int).toNat [.int .u64 x] = (l.set i x).map encU := by
  rw [Int.toNat_natCast, List.map_set]; rfl
abbrev fAU (l : List Nat) : AV := .fsl true 59 1 l.length (l.map encU)
theorem c37 (T : List (List Int)) (hT : T.length ≤ 1000) (hb : ∀ b ∈ T, b.length ≤ 16) : Fn Try.prog 37 [AA T] (fAU (masksL T)) := by
  have hs : ∀ k : Int, 0 ≤ k → k ≤ 64 → (0 : Int) ≤ k ∧ k ≤ (IntKind.u64.bits : Int) := fun k h1 h2 => ⟨h1, by show k ≤ 64; exact h2⟩
  refine mk37 rfl ⟨⟨rfl, by omega, by show (8 : Int) * _ ≤ _; omega, by omega⟩, ?_⟩
  refine ⟨fun q c => ∃ j : Nat, j ≤ T.length ∧ q = T.length - j ∧ c = ⟨[(0, AA T), (2, .nilsl), (3, .osl 160 1 T.length), (11, AA T), (12, I T.length), (13, I j)], [(160, ⟨59, 1, .pure, ((masksL T).take j ++ List.replicate (T.length - j) 0).map encU⟩)]⟩, ⟨_, _, Wk.keep [0, 2, 3, 11, 12, 13] [160], 0, by omega, rfl, ?_⟩, ?_⟩
  · rw [List.take_zero, List.nil_append, Nat.sub_zero, List.map_replicate]; rfl
  rintro q c ⟨j, hj, rfl, rfl⟩
  refine ⟨fun h => ?_, fun h => ?_⟩
  · have h : j < T.length := by have := of_decide_eq_true h; omega
    rw [mid_first h]
    refine ⟨⟨by omega, by omega⟩, _, rowT_at h, ?_⟩
    have hl : (T.getD j []).length ≤ 16 := hb _ (by rw [List.getD_eq_getElem?_getD, List.getElem?_eq_getElem h]; simp)
    have hml := fun k => mid_len (k := k) h
    refine ⟨fun q c => ∃ k : Nat, k ≤ (T.getD j []).length ∧ q = (T.getD j []).length - k ∧ c = ⟨[(0, AA T), (2, .nilsl), (3, .osl 160 1 T.length), (4, I j), (11, AA T), (12, I T.length), (13, I j), (18, A (T.getD j [])), (19, I (T.getD j []).length), (20, I k)], [(160, ⟨59, 1, .pure, (mid T j k).map encU⟩)]⟩, ⟨_, _, Wk.keep [0, 2, 3, 4, 11, 12, 13, 18, 19, 20] [160], 0, by omega, rfl, rfl⟩, ?_⟩
    rintro q c ⟨k, hk, rfl, rfl⟩
    refine ⟨fun h2 => ?_, fun h2 => ?_⟩
    · have h2 : k < (T.getD j []).length := by have := of_decide_eq_true h2; omega
      have hms := maskTo_succ (T.getD j []) k
      have hmk := maskTo_lt (T.getD j []) k
      have hp := Nat.pow_le_pow_right (n := 2) (by omega) (show k ≤ 16 by omega)
      refine ⟨⟨by omega, by omega⟩, _, row_at h2, fun h3 => ?_, fun h3 => ?_⟩
      · have h3 := of_decide_eq_true h3
        rw [if_pos h3] at hms
        refine ⟨⟨by omega, by omega⟩, _, rowU_at (by rw [hml]; exact h), hs _ (by omega) (by omega), ((2 ^ k : Nat) : Int), wrapUT ?_ (by omega) (by omega), ((maskTo (T.getD j []) (k + 1) : Nat) : Int), ?_, ⟨by omega, by omega⟩, _, rowU_at (by rw [hml]; exact h), ?_⟩
        · show (1 : Int) * 2 ^ ((k : Nat) : Int).toNat = _
          rw [Int.toNat_natCast, Int.one_mul]; simp
        · rw [mid_at h, hms]; exact orU _ _ (by omega) (by omega)
        refine ⟨((k + 1 : Nat) : Int), wrapTo (by omega) (by omega) (by omega), _, _, Wk.keep [0, 2, 3, 4, 11, 12, 13, 18, 19, 20] [160], by omega, k + 1, h2, rfl, ?_⟩
        rw [← mid_set h rfl, ← rowU_set]; rfl
      · have h3 := of_decide_eq_false h3
        rw [if_neg h3] at hms
        refine ⟨((k + 1 : Nat) : Int), wrapTo (by omega) (by omega) (by omega), _, _, Wk.keep [0, 2, 3, 4, 11, 12, 13, 18, 19, 20] [160], by omega, k + 1, h2, rfl, ?_⟩
        have e : mid T j (k + 1) = mid T j k := by rw [mid, mid, hms]
        rw [e]; rfl
    · have h2 : k = (T.getD j []).length := by have := of_decide_eq_false h2; omega
      rw [mid_next h h2]
      exact ⟨((j + 1 : Nat) : Int), wrapTo (by omega) (by omega) (by omega), _, _, Wk.keep [0, 2, 3, 11, 12, 13] [160], by omega, j + 1, h, rfl, rfl⟩
  · have h : j = T.length := by have := of_decide_eq_false h; omega
    subst h
    have hl : (masksL T).length = T.length := by simp [masksL]
    rw [Nat.sub_self, List.take_of_length_le (by omega), List.replicate_zero, List.append_nil]
    exact ⟨rfl, _, rfl, rfl, by simp [hl], .inl ⟨rfl, by show AV.fsl true 59 1 (masksL T).length _ = AV.fsl true 59 1 T.length _; rw [hl]⟩⟩
end Go.Abs.L38
namespace Go.Abs.L38
open Go Go.Abs Go.Proofs
set_option linter.unusedVariables false
set_option maxRecDepth 20000
/-! ### extend -/
abbrev AU (l : List Nat) : AV := .rsl 1 l.length (l.map encU)
abbrev ks38 : List Nat := [0, 1, 2, 3, 4, 5, 9, 10, 12, 24, 42]
abbrev cloX (M : List Nat) : AV := .func 38 [.ovar 2 0, .rptr [AU M] 0, .ovar 6 0]
abbrev F38 (M : List Nat) (i m c : Nat) : List (Nat × AV) := [(0, I i), (1, I m), (2, U c), (3, .ovar 2 0), (4, .rptr [AU M] 0), (5, .ovar 6 0)]
/-- the blocks of extend -/
abbrev OX (M : List Nat) (m : Nat) (rows : List (List AV)) : List (Nat × OBlk) := [(2, ⟨25, 1, .any, [[.osl 1808 1 m]]⟩), (1808, ⟨3, 1, .pure, rows⟩), (6, ⟨58, 1, .any, [[cloX M]]⟩)]
theorem W38 {E : Env} (hN : E.N = 48) {K : KM} {fr : List (Nat × AV)} {V : List (Nat × OBlk)} {a : Act} {w : World} {code : Code} {Q : Ex → Cfg → Prop} {Q' : Exit → Act → World → Prop} (hs : SRK E K ⟨fr, V⟩ a w) (hd : drawsOK code = true)
    (h : ev Try.prog tt 48 ks38 code ⟨fr, V⟩ Q) (hQ : ∀ e c' K' a' w', Q e c' → SRK E K' c' a' w' → Q' e.toExit a' w') : code.wp Try.prog Q' a w := by
  refine wp_ev (Tl := []) tabOK tabOne mixed hN TailOK.nil (Apart.nil _) hd h (by rw [List.append_nil]; exact hs) ?_
  intro e c' K' a' w' q h' _
  rw [List.append_nil] at h'
  exact hQ e c' K' a' w' q h'
/-- what extend finds -/
def extE (M : List Nat) : Nat → Nat → Nat → List Int → Option (List Int)
  | 0, i, c, S => if onesN c < S.length then some S else none
  | m + 1, i, c, S => (List.range' i (M.length - m - i)).findSome? fun k => extE M m (k + 1) (c ||| M.getD k 0) (S ++ [(k : Int)])
theorem extE_succ (M : List Nat) (m i c : Nat) (S : List Int) : extE M (m + 1) i c S = (List.range' i (M.length - m - i)).findSome? fun k => extE M m (k + 1) (c ||| M.getD k 0) (S ++ [(k : Int)]) := rfl
def PostX (M : List Nat) (res : Option (List Int)) (S : List Int) : World → KM → List (Nat × OBlk) → AV → Prop := fun w K O r =>
  r = .bool res.isSome ∧ ∃ gs, O = OX M (res.getD S).length ((res.getD S ++ gs).map enc)
/-- the contract of extend -/
def ExtC (M : List Nat) (m i c : Nat) (S : List Int) : Prop :=
  ∀ gs, FnT Try.prog 38 [I i, I m, U c, .ovar 2 0, .rptr [AU M] 0, .ovar 6 0] (OX M S.length ((S ++ gs).map enc)) [2, 6] (fun w K => True) (PostX M (extE M m i c S) S)
def loop38 : Code → Code
  | .seq _ (.seq _ (.seq (.seq _ (.block _ (.loop c))) _)) => c
  | c => c
def blk38 (c : Code) : Code := match loop38 c with | .seq _ (.seq (.block _ c) _) => c | c => c
def r6 (c : Code) : Code := match blk38 c with | .seq c _ => c | c => c
def r7 (c : Code) : Code := match blk38 c with | .seq _ (.seq (.seq c _) _) => c | c => c
def r9 (c : Code) : Code := match blk38 c with | .seq _ (.seq _ c) => c | c => c
def StX (E : Env) (M : List Nat) (fr : List (Nat × AV)) (S : List Int) (a : Act) (w : World) : Prop :=
  ∃ K gs, SRK E K ⟨fr, OX M S.length ((S ++ gs).map enc)⟩ a w
abbrev H38 (M : List Nat) (i m c k : Nat) : List (Nat × AV) := F38 M i m c ++ [(9, .bool false), (10, I k)]
theorem ev6 (M : List Nat) (i m c k n : Nat) (rows : List (List AV)) (hn : n ≤ rows.length) (hn4 : n ≤ 4000) :
    ev Try.prog tt 48 ks38 (r6 (body Try.f38)) ⟨H38 M i m c k, OX M n rows⟩ fun e c' => e = .normal ∧ c' = ⟨H38 M i m c k, OX M (n + 1) (rows.take n ++ [enc k]) ++ [(464, ⟨3, 1, .pure, [enc k]⟩)]⟩ := by
  refine ⟨⟨by show (n + 1) * 8 ≤ _; omega, by omega⟩, ?_⟩
  exact ⟨rfl, rfl⟩
theorem X6 {E : Env} (hN : E.N = 48) {M : List Nat} {i m c k : Nat} {S : List Int} {a : Act} {w : World} {Q : Exit → Act → World → Prop} (hS : S.length ≤ 4000)
    (hs : StX E M (H38 M i m c k) S a w) (hQ : ∀ a' w', StX E M (H38 M i m c k) (S ++ [(k : Int)]) a' w' → Q .normal a' w') : (r6 (body Try.f38)).wp Try.prog Q a w := by
  obtain ⟨K, gs, hs⟩ := hs
  refine W38 hN hs rfl (ev6 M i m c k S.length _ (by simp) hS) ?_
  rintro e c1 K1 a1 w1 ⟨rfl, rfl⟩ hs1
  have hs2 := SRK.only hs1 [0, 1, 2, 3, 4, 5, 9, 10] [2, 1808, 6]
  refine hQ a1 w1 ⟨K1, [], ?_⟩
  have e : ((S ++ gs).map enc).take S.length ++ [enc (k : Int)] = (S ++ [(k : Int)] ++ []).map enc := by
    rw [List.append_nil, List.map_append, List.map_append, List.take_append_of_le_length (by simp), List.take_of_length_le (by simp)]; rfl
  rw [← e, List.length_append]
  exact hs2
theorem X9 {E : Env} (hN : E.N = 48) {M : List Nat} {i m c k : Nat} {x : Int} {S : List Int} {a : Act} {w : World} {Q : Exit → Act → World → Prop} (hS : S.length ≤ 4000)
    (hs : StX E M (H38 M i m c k) (S ++ [x]) a w) (hQ : ∀ a' w', StX E M (H38 M i m c k) S a' w' → Q .normal a' w') : (r9 (body Try.f38)).wp Try.prog Q a w := by
  obtain ⟨K, gs, hs⟩ := hs
  rw [List.length_append] at hs
  refine W38 hN (fr := H38 M i m c k) (V := OX M (S.length + 1) ((S ++ [x] ++ gs).map enc)) hs (Q := fun e c' => e = .normal ∧ c' = ⟨H38 M i m c k, OX M S.length ((S ++ [x] ++ gs).map enc)⟩) rfl ?_ ?_
  · refine ⟨(S.length : Int), wrapTo (by omega) (by omega) (by omega), ⟨by omega, by omega⟩, ?_⟩
    exact ⟨rfl, rfl⟩
  rintro e c1 K1 a1 w1 ⟨rfl, rfl⟩ hs1
  rw [List.append_assoc] at hs1
  exact hQ a1 w1 ⟨K1, _, hs1⟩
noncomputable def ops7 (c : Code) : Array Oper := match r7 c with | .region _ ops _ => ops | _ => #[]
noncomputable def o7 : Array Oper := (ops7 (body Try.f38)).pop
noncomputable def l7 : Oper := (ops7 (body Try.f38)).getD 11 default
theorem X7 {E : Env} (hN : E.N = 48) (hp : ∀ b, memN b [2, 6] = false → E.pin b = none) {M : List Nat} {i m c k z : Nat} {S : List Int} {a : Act} {w : World} {Q : Exit → Act → World → Prop} (hm : m ≤ 2000) (hk : k < M.length) (hM : M.length ≤ 1000) (hz : M.getD k 0 = z) (hc : c < 65536) (hz6 : z < 65536)
    (hs : StX E M (H38 M i (m + 1) c k) S a w) (hX : ExtC M m (k + 1) (c ||| z) S) (hQ : ∀ a' w', StX E M (H38 M i (m + 1) c k ++ [(42, .bool (extE M m (k + 1) (c ||| z) S).isSome)]) ((extE M m (k + 1) (c ||| z) S).getD S) a' w' → Q .normal a' w') : (r7 (body Try.f38)).wp Try.prog Q a w := by
  obtain ⟨K, gs, hs⟩ := hs
  have hro := rowU_at hk
  rw [hz] at hro
  refine wp_region_last (dm := []) (c := ⟨H38 M i (m + 1) c k, OX M S.length ((S ++ gs).map enc)⟩) (opsA := o7) (o := l7) tabOK tabOne hN mixed rfl rfl rfl (Kk := fun c' => c' = _) ⟨((k + 1 : Nat) : Int), wrapTo (by omega) (by omega) (by omega), (m : Int), wrapTo (by omega) (by omega) (by omega), ⟨by omega, by omega⟩, _, hro, ((c ||| z : Nat) : Int), orU _ _ (by omega) (by omega), rfl⟩ ⟨K, hs⟩ ?_
  rintro c1 a1 w1 rfl ⟨K1, hs1⟩
  refine wpOp_callT rfl rfl (wanted_no' rfl) hs1 (hX gs) trivial rfl rfl (noOptL_get rfl) (inPF_lk rfl) hp (by rw [hN]; rfl) ?_
  rintro K2 O2 res v w2 ⟨rfl, gs2, rfl⟩ _ hs2
  have hs3 := SRK.only hs2 [0, 1, 2, 3, 4, 5, 9, 10, 42] [2, 1808, 6]
  exact hQ _ w2 ⟨K2, gs2, hs3⟩
end Go.Abs.L38
namespace Go.Abs.L38
open Go Go.Abs Go.Proofs
set_option linter.unusedVariables false
set_option maxRecDepth 20000
theorem pins38 {O : List (Nat × OBlk)} (h2 : (olk O 2).isSome = true) (h6 : (olk O 6).isSome = true) {b : Nat} (hb : memN b [2, 6] = true) : Nat.ble 2 (b % 16) = true ∧ (olk O b).isSome = true := by
  simp only [memN] at hb
  split at hb
  · rename_i h; have := beq_true h; subst this; exact ⟨rfl, h2⟩
  · split at hb
    · rename_i h; have := beq_true h; subst this; exact ⟨rfl, h6⟩
    · cases hb
/-- one more row -/
def tryX (M : List Nat) (m c : Nat) (S : List Int) (k : Nat) : Option (List Int) := extE M m (k + 1) (c ||| M.getD k 0) (S ++ [(k : Int)])
theorem ext_all {M : List Nat} (hM : M.length ≤ 1000) (hMx : ∀ x ∈ M, x < 65536) : ∀ (m i c : Nat) (S : List Int), m ≤ 2000 → i ≤ 2000 → c < 65536 → S.length + m ≤ 3000 → ExtC M m i c S := by
  intro m
  induction m with
  | zero =>
    intro i c S hm hi hc hS gs
    refine fnT_of (N := 48) 9 Try.func38 rfl (by kernel_rfl) rfl rfl rfl (fun b hb => pins38 rfl rfl hb) ?_
    intro E K a w hN hp hs hlf
    change (Code.seq _ _).wp _ _ _ _
    refine wp_seq (W38 hN hs (Q := fun e c' => e = .normal ∧ c' = _) rfl ⟨rfl, rfl⟩ ?_)
    rintro e c1 K1 a1 w1 ⟨rfl, rfl⟩ hs1
    change (Code.seq _ _).wp _ _ _ _
    refine wp_seq (W38 hN hs1 (Q := fun e c' => e = .ret ∧ c' = _) rfl ⟨fun _ => ⟨_, c39 c hc, rfl, rfl⟩, fun h => (by cases h)⟩ ?_)
    rintro e c2 K2 a2 w2 ⟨rfl, rfl⟩ hs2
    refine ⟨.inr rfl, K2, _, hs2, rfl, ?_, gs, ?_⟩
    · rw [extE]
      by_cases h : onesN c < S.length
      · rw [if_pos h]
        show AV.bool (decide ((onesN c : Int) < (S.length : Int))) = _
        rw [show decide ((onesN c : Int) < (S.length : Int)) = true by simp; omega]; rfl
      · rw [if_neg h]
        show AV.bool (decide ((onesN c : Int) < (S.length : Int))) = _
        rw [show decide ((onesN c : Int) < (S.length : Int)) = false by simp; omega]; rfl
    · rw [extE]
      split <;> rfl
  | succ m ih =>
    intro i c S hm hi hc hS gs
    refine fnT_of (N := 48) 9 Try.func38 rfl (by kernel_rfl) rfl rfl rfl (fun b hb => pins38 rfl rfl hb) ?_
    intro E K a w hN hp hs hlf
    change (Code.seq _ _).wp _ _ _ _
    refine wp_seq (W38 hN hs (Q := fun e c' => e = .normal ∧ c' = _) rfl ⟨rfl, rfl⟩ ?_)
    rintro e c1 K1 a1 w1 ⟨rfl, rfl⟩ hs1
    change (Code.seq _ _).wp _ _ _ _
    refine wp_seq (W38 hN hs1 (Q := fun e c' => e = .normal ∧ c' = _) rfl ⟨fun h => ?_, fun _ => ⟨rfl, rfl⟩⟩ ?_)
    · have := of_decide_eq_true h; omega
    rintro e c2 K2 a2 w2 ⟨rfl, rfl⟩ hs2
    change (Code.seq _ _).wp _ _ _ _
    refine wp_seq (wp_seq (W38 hN hs2 (Q := fun e c' => e = .normal ∧ c' = _) rfl ⟨rfl, rfl⟩ ?_))
    rintro e c3 K3 a3 w3 ⟨rfl, rfl⟩ hs3
    have hs4 := SRK.only hs3 [0, 1, 2, 3, 4, 5, 9, 10] [2, 1808, 6]
    have hst : StX E M (H38 M i (m + 1) c i) S a3 w3 := ⟨K3, gs, hs4⟩
    clear hs hs1 hs2 hs3 hs4
    change (Code.block _ _).wp _ _ _ _
    refine wp_block (wp_loop_ghost (fun q a w => ∃ k, q = M.length - k ∧ k ≤ 4000 ∧ StX E M (H38 M i (m + 1) c k) S a w ∧ (List.range' k (M.length - m - k)).findSome? (tryX M m c S) = extE M (m + 1) i c S) (M.length - i) ⟨i, rfl, by omega, hst, rfl⟩ ?_)
    clear hst
    rintro q a w ⟨k, rfl, hk, hs, hf⟩
    obtain ⟨K, gs, hs⟩ := hs
    change (Code.seq _ _).wp _ _ _ _
    by_cases hlt : k + (m + 1) ≤ M.length
    · have hd : decide (((k + (m + 1) : Nat) : Int) ≤ (M.length : Int)) = true := by simp; omega
      refine wp_seq (W38 hN hs (Q := fun e c' => e = .normal ∧ c' = _) rfl ⟨((k + (m + 1) : Nat) : Int), wrapTo (by omega) (by omega) (by omega), fun _ => ⟨rfl, rfl⟩, fun h => (by rw [show _ = true from hd] at h; cases h)⟩ ?_)
      rintro e c2 K2 a2 w2 ⟨rfl, rfl⟩ hs2
      have hs3 := SRK.only hs2 [0, 1, 2, 3, 4, 5, 9, 10] [2, 1808, 6]
      rw [show M.length - m - k = (M.length - m - (k + 1)) + 1 by omega, List.range'_succ, List.findSome?_cons] at hf
      have hz : M.getD k 0 < 65536 := hMx _ (by rw [List.getD_eq_getElem?_getD, List.getElem?_eq_getElem (by omega)]; simp)
      have hcz : c ||| M.getD k 0 < 65536 := Nat.or_lt_two_pow (n := 16) hc hz
      change (Code.seq _ _).wp _ _ _ _
      refine wp_seq (wp_block ?_)
      change (Code.seq _ _).wp _ _ _ _
      refine wp_seq (X6 hN (by omega) ⟨K2, gs, hs3⟩ ?_)
      intro a4 w4 hs4
      change (Code.seq _ _).wp _ _ _ _
      change (Code.seq (Code.seq _ _) _).wp _ _ _ _
      refine wp_seq (wp_seq (X7 hN hp (by omega) (by omega) hM rfl hc hz hs4 (ih (k + 1) (c ||| M.getD k 0) (S ++ [(k : Int)]) (by omega) (by omega) hcz (by simp; omega)) ?_))
      intro a5 w5 hs5
      change StX E M (H38 M i (m + 1) c k ++ [(42, .bool (tryX M m c S k).isSome)]) ((tryX M m c S k).getD (S ++ [(k : Int)])) a5 w5 at hs5
      change (Code.cond _ _ _).wp _ _ _ _
      cases hres : tryX M m c S k with
      | some x =>
        rw [hres] at hs5 hf
        obtain ⟨K5, gs5, hs5⟩ := hs5
        refine W38 hN hs5 (Q := fun e c' => e = .ret ∧ c' = _) rfl ⟨fun _ => ⟨rfl, rfl⟩, fun h => (by cases h)⟩ ?_
        rintro e c6 K6 a6 w6 ⟨rfl, rfl⟩ hs6
        refine ⟨.inr rfl, K6, _, hs6, rfl, ?_, gs5, ?_⟩
        · rw [← hf]; rfl
        · rw [← hf]; rfl
      | none =>
        rw [hres] at hs5 hf
        obtain ⟨K5, gs5, hs5⟩ := hs5
        refine W38 hN hs5 (Q := fun e c' => e = .normal ∧ c' = _) rfl ⟨fun h => (by cases h), fun _ => ⟨rfl, rfl⟩⟩ ?_
        rintro e c6 K6 a6 w6 ⟨rfl, rfl⟩ hs6
        have hs7 := SRK.only hs6 [0, 1, 2, 3, 4, 5, 9, 10] [2, 1808, 6]
        refine X9 (M := M) (S := S) (x := (k : Int)) hN (by omega) ⟨K6, gs5, hs7⟩ ?_
        intro a8 w8 hs8
        obtain ⟨K8, gs8, hs8⟩ := hs8
        refine W38 hN hs8 (Q := fun e c' => e = .normal ∧ c' = _) rfl ⟨((k + 1 : Nat) : Int), wrapTo (by omega) (by omega) (by omega), rfl, rfl⟩ ?_
        rintro e c9 K9 a9 w9 ⟨rfl, rfl⟩ hs9
        have hs10 := SRK.only hs9 [0, 1, 2, 3, 4, 5, 9, 10] [2, 1808, 6]
        exact ⟨M.length - (k + 1), by omega, k + 1, rfl, by omega, ⟨K9, gs8, hs10⟩, hf⟩
    · have hd : decide (((k + (m + 1) : Nat) : Int) ≤ (M.length : Int)) = false := by simp; omega
      have e0 : M.length - m - k = 0 := by omega
      rw [e0] at hf
      refine wp_seq (W38 hN hs (Q := fun e c' => e = .exit 0 ∧ c' = _) rfl ⟨((k + (m + 1) : Nat) : Int), wrapTo (by omega) (by omega) (by omega), fun h => (by rw [show _ = false from hd] at h; cases h), fun _ => ⟨rfl, rfl⟩⟩ ?_)
      rintro e c2 K2 a2 w2 ⟨rfl, rfl⟩ hs2
      have hs3 := SRK.only hs2 [0, 1, 2, 3, 4, 5, 9, 10] [2, 1808, 6]
      refine W38 hN hs3 (Q := fun e c' => e = .ret ∧ c' = _) rfl ⟨rfl, rfl⟩ ?_
      rintro e c4 K4 a4 w4 ⟨rfl, rfl⟩ hs4
      refine ⟨.inr rfl, K4, _, hs4, rfl, ?_, gs, ?_⟩
      · rw [← hf]; rfl
      · rw [← hf]; rfl
end Go.Abs.L38
