import Derived.Test.YtjpcpnakcapojaaC38d
import Derived.Test.YtjpcpnakcapojaaH1
namespace Go.Abs.L38
open Go Go.Abs Go.Proofs Go.Abs.Hung
set_option linter.unusedVariables false
set_option maxRecDepth 20000
/-! ### solve -/
/-- a cost, under the columns that are given -/
def atE (T : List (List Int)) (F : List Int) (i k : Nat) : Int := if (T.getD i []).getD k 0 ≥ 0 ∧ (F.getD i 0 < 0 ∨ F.getD i 0 = k) then (T.getD i []).getD k 0 else 1048576
theorem row_at {l : List Int} {i : Nat} (h : i < l.length) : (l.map enc)[((i : Nat) : Int).toNat]? = some [I (l.getD i 0)] := by
  rw [Int.toNat_natCast, List.getElem?_map, List.getD_eq_getElem?_getD, List.getElem?_eq_getElem h]; rfl
theorem row_set {l : List Int} {i : Nat} {x : Int} : (l.map enc).set ((i : Nat) : Int).toNat [I x] = (l.set i x).map enc := by
  rw [Int.toNat_natCast, List.map_set]; rfl
abbrev upN (l : List Nat) : List Int := l.map fun n : Nat => (n : Int)
theorem upN_len (l : List Nat) : (upN l).length = l.length := by simp [upN]
theorem upN_at {l : List Nat} {i : Nat} : (upN l).getD i 0 = ((l.getD i 0 : Nat) : Int) := by
  rw [List.getD_eq_getElem?_getD, List.getD_eq_getElem?_getD, List.getElem?_map]
  cases l[i]? <;> rfl
theorem upN_set {l : List Nat} {i x : Nat} : (upN l).set i (x : Int) = upN (l.set i x) := by rw [upN, upN, List.map_set]
def encB (b : Bool) : List AV := [.bool b]
theorem rowB_at {l : List Bool} {i : Nat} (h : i < l.length) : (l.map encB)[((i : Nat) : Int).toNat]? = some [.bool (l.getD i false)] := by
  rw [Int.toNat_natCast, List.getElem?_map, List.getD_eq_getElem?_getD, List.getElem?_eq_getElem h]; rfl
theorem rowB_set {l : List Bool} {i : Nat} {x : Bool} : (l.map encB).set ((i : Nat) : Int).toNat [.bool x] = (l.set i x).map encB := by
  rw [Int.toNat_natCast, List.map_set]; rfl
theorem rowT_at {T : List (List Int)} {i : Nat} (h : i < T.length) : (T.map encT)[((i : Nat) : Int).toNat]? = some (encT (T.getD i [])) := by
  rw [Int.toNat_natCast, List.getElem?_map, List.getD_eq_getElem?_getD, List.getElem?_eq_getElem h]; rfl
theorem c48 {T : List (List Int)} {F : List Int} {i k : Nat} (hi : i < T.length) (hF : i < F.length) (hk : k < (T.getD i []).length) : Fn Try.prog 48 [I i, I k, .rptr [AA T] 0, .rptr [A F] 0] (I (atE T F i k)) := by
  have r1 := rowT_at hi
  have r2 := row_at hk
  have r3 := row_at hF
  unfold atE
  generalize (T.getD i []).getD k 0 = c at *
  generalize F.getD i 0 = f at *
  by_cases hc : c ≥ 0
  · have hc' : decide (c ≥ 0) = true := by simpa using hc
    by_cases hf : f < 0
    · rw [if_pos ⟨hc, .inl hf⟩]
      exact mk48 rfl ⟨⟨by omega, by omega⟩, _, r1, ⟨by omega, by omega⟩, _, r2, [(2, true), (8, true)], hc', ⟨by omega, by omega⟩, _, r3, by simpa using hf, fun _ => ⟨rfl, rfl, rfl⟩, fun h => (by cases h)⟩
    · refine mk48 rfl ⟨⟨by omega, by omega⟩, _, r1, ⟨by omega, by omega⟩, _, r2, [(2, true), (8, false)], hc', ⟨by omega, by omega⟩, _, r3, by simpa using hf, ⟨by omega, by omega⟩, _, r3, fun h => ?_, fun h => ?_⟩
      · have h : f = k := by simpa using h
        rw [if_pos ⟨hc, .inr h⟩]; exact ⟨rfl, rfl, rfl⟩
      · have h : ¬ f = k := by simpa using h
        rw [if_neg (by rintro ⟨_, h1 | h1⟩; exact hf h1; exact h h1)]; exact ⟨rfl, rfl, rfl⟩
  · rw [if_neg (fun h => hc h.1)]
    exact mk48 rfl ⟨⟨by omega, by omega⟩, _, r1, ⟨by omega, by omega⟩, _, r2, [(2, false)], by simpa using hc, fun h => (by cases h), fun _ => ⟨rfl, rfl, rfl⟩⟩
abbrev ks30 : List Nat := [0, 1, 2, 3, 4, 5, 6, 7, 8, 9, 10, 11, 12, 13, 14, 15, 16, 17, 18, 19, 20, 21, 22, 23, 24, 25, 34, 48, 64, 65, 66, 76, 86, 92, 114, 128, 135, 136, 137, 142, 170, 195, 202]
theorem W30 {E : Env} (hN : E.N = 230) {K : KM} {fr : List (Nat × AV)} {V : List (Nat × OBlk)} {a : Act} {w : World} {code : Code} {Q : Ex → Cfg → Prop} {Q' : Exit → Act → World → Prop} (hs : SRK E K ⟨fr, V⟩ a w) (hd : drawsOK code = true)
    (h : ev Try.prog tt 230 ks30 code ⟨fr, V⟩ Q) (hQ : ∀ e c' K' a' w', Q e c' → SRK E K' c' a' w' → Q' e.toExit a' w') : code.wp Try.prog Q' a w := by
  refine wp_ev (Tl := []) tabOK tabOne mixed hN TailOK.nil (Apart.nil _) hd h (by rw [List.append_nil]; exact hs) ?_
  intro e c' K' a' w' q h' _
  rw [List.append_nil] at h'
  exact hQ e c' K' a' w' q h'
/-- the code of a phase, of one more column -/
def ph30 : Code → Code
  | .seq _ (.seq _ (.seq _ (.seq _ (.seq _ (.seq _ (.seq (.seq _ (.block _ (.loop (.seq _ (.seq (.block _ c) _))))) _)))))) => c
  | c => c
def in30 (c : Code) : Code := match ph30 c with
  | .seq _ (.seq _ (.seq _ (.seq _ (.seq _ (.seq (.block _ (.loop (.seq _ (.block _ c)))) _))))) => c
  | c => c
def scan30 (c : Code) : Code := match in30 c with | .seq _ (.seq _ (.seq c _)) => c | c => c
def upd30 (c : Code) : Code := match in30 c with | .seq _ (.seq _ (.seq _ (.seq c _))) => c | c => c
abbrev fn48 : AV := .func 48 [.ovar 32 0, .ovar 48 0]
abbrev plan0 : List AV := [.nilsl, .nilsl, .nilsl, I 0]
abbrev OB (T : List (List Int)) (F : List Int) (u v : List Int) (row : List Nat) : List (Nat × OBlk) := [(32, ⟨22, 1, .any, [[AA T]]⟩), (48, ⟨25, 1, .any, [[A F]]⟩), (64, ⟨47, 4, .any, [plan0]⟩), (624, ⟨3, 1, .pure, u.map enc⟩), (672, ⟨3, 1, .pure, v.map enc⟩), (720, ⟨3, 1, .pure, (upN row).map enc⟩)]
abbrev OI (T : List (List Int)) (F : List Int) (u v : List Int) (row : List Nat) (L : List Int) (W : List Nat) (used : List Bool) : List (Nat × OBlk) := [(32, ⟨22, 1, .any, [[AA T]]⟩), (48, ⟨25, 1, .any, [[A F]]⟩), (64, ⟨47, 4, .any, [plan0]⟩), (624, ⟨3, 1, .pure, u.map enc⟩), (672, ⟨3, 1, .pure, v.map enc⟩), (720, ⟨3, 1, .pure, (upN row).map enc⟩), (896, ⟨3, 1, .pure, L.map enc⟩), (944, ⟨3, 1, .pure, (upN W).map enc⟩), (992, ⟨4, 1, .pure, used.map encB⟩)]
abbrev ids30 : List Nat := [32, 48, 64, 624, 672, 720, 896, 944, 992]
abbrev FP (n m p here : Nat) : List (Nat × AV) := [(4, .ovar 64 0), (6, I n), (7, I m), (8, fn48), (9, .osl 624 1 (n + 1)), (10, .osl 672 1 (m + 1)), (11, .osl 720 1 (m + 1)), (12, I p), (13, I here), (14, .osl 896 1 (m + 1)), (15, .osl 944 1 (m + 1)), (16, .osl 992 1 (m + 1))]
abbrev FI (n m p here r : Nat) (d : Int) (x : Nat) : List (Nat × AV) := [(4, .ovar 64 0), (6, I n), (7, I m), (8, fn48), (9, .osl 624 1 (n + 1)), (10, .osl 672 1 (m + 1)), (11, .osl 720 1 (m + 1)), (12, I p), (13, I here), (14, .osl 896 1 (m + 1)), (15, .osl 944 1 (m + 1)), (16, .osl 992 1 (m + 1)), (18, I r), (19, I d), (20, I x)]
abbrev FK (n m p here r : Nat) (d : Int) (x k : Nat) : List (Nat × AV) := [(4, .ovar 64 0), (6, I n), (7, I m), (8, fn48), (9, .osl 624 1 (n + 1)), (10, .osl 672 1 (m + 1)), (11, .osl 720 1 (m + 1)), (12, I p), (13, I here), (14, .osl 896 1 (m + 1)), (15, .osl 944 1 (m + 1)), (16, .osl 992 1 (m + 1)), (18, I r), (19, I d), (20, I x), (21, I k)]
set_option maxHeartbeats 4000000 in
theorem ev_scan {T : List (List Int)} {F u v : List Int} {row : List Nat} {L : List Int} {W : List Nat} {used : List Bool} {n m p here r : Nat} {d : Int} {x : Nat} {Y : List Int × List Nat × Int × Nat} (hn : T.length = n) (hF : F.length = n) (hT : ∀ t ∈ T, t.length = m) (hm : m ≤ 1000) (hn1 : n ≤ 1000) (hr : 1 ≤ r ∧ r ≤ n) (lu : u.length = n + 1) (lv : v.length = m + 1) (lus : used.length = m + 1) (lL : L.length = m + 1) (lW : W.length = m + 1)
    (hb : ∀ k, 1 ≤ k → k ≤ m → 0 ≤ atE T F (r - 1) (k - 1) ∧ atE T F (r - 1) (k - 1) ≤ 1048576 ∧ -1099511627776 ≤ u.getD r 0 ∧ u.getD r 0 ≤ 1099511627776 ∧ -1099511627776 ≤ v.getD k 0 ∧ v.getD k 0 ≤ 1099511627776)
    (hY : scan (atE T F) used u v r here m 1 L W d x = Y) :
    ev Try.prog tt 230 ks30 (scan30 (body Try.f30)) ⟨FI n m p here r d x, OI T F u v row L W used⟩ fun e c => e = .normal ∧ ∃ fr, c = ⟨FI n m p here r Y.2.2.1 Y.2.2.2 ++ fr, OI T F u v row Y.1 Y.2.1 used⟩ := by
  refine ⟨fun q c => ∃ (k : Nat) (L' : List Int) (W' : List Nat) (d' : Int) (x' : Nat), 1 ≤ k ∧ k ≤ m + 1 ∧ q = m + 1 - k ∧ L'.length = m + 1 ∧ W'.length = m + 1 ∧ scan (atE T F) used u v r here (m + 1 - k) k L' W' d' x' = Y ∧ c = ⟨FK n m p here r d' x' k, OI T F u v row L' W' used⟩, ⟨_, _, Wk.keep [4, 6, 7, 8, 9, 10, 11, 12, 13, 14, 15, 16, 18, 19, 20, 21] ids30, 1, L, W, d, x, by omega, by omega, rfl, lL, lW, by rw [show m + 1 - 1 = m by omega]; exact hY, rfl⟩, ?_⟩
  rintro q c ⟨k, L, W, d, x, hk1, hk2, rfl, lL, lW, hS, rfl⟩
  refine ⟨fun h => ?_, fun h => ?_⟩
  · have hkm : k ≤ m := by simp at h; omega
    clear h
    rw [show m + 1 - k = (m - k) + 1 by omega, scan] at hS
    have rU := rowB_at (l := used) (i := k) (by omega)
    obtain ⟨b1, b2, b3, b4, b5, b6⟩ := hb k hk1 hkm
    refine ⟨⟨by omega, by omega⟩, _, rU, fun hu => ?_, fun hu => ?_⟩
    · have hu : used.getD k false = true := hu
      rw [if_pos hu] at hS
      refine ⟨((k + 1 : Nat) : Int), wrapTo (by omega) (by omega) (by omega), ?_⟩
      exact ⟨_, _, Wk.keep [4, 6, 7, 8, 9, 10, 11, 12, 13, 14, 15, 16, 18, 19, 20, 21] ids30, by omega, k + 1, L, W, d, x, by omega, by omega, rfl, lL, lW, by rw [show m + 1 - (k + 1) = m - k by omega]; exact hS, rfl⟩
    have hu : used.getD k false = false := hu
    rw [if_neg (by rw [hu]; simp)] at hS
    have rT : (T.getD (r - 1) []).length = m := by
      have : T[r - 1]? = some T[r - 1] := by simp
      rw [List.getD_eq_getElem?_getD, this]
      exact hT _ (List.mem_of_getElem? this)
    have k48 := c48 (T := T) (F := F) (i := r - 1) (k := k - 1) (by omega) (by omega) (by omega)
    have ru := row_at (l := u) (i := r) (by omega)
    have rv := row_at (l := v) (i := k) (by omega)
    have rL := row_at (l := L) (i := k) (by omega)
    refine ⟨((r - 1 : Nat) : Int), wrapTo (by omega) (by omega) (by omega), ((k - 1 : Nat) : Int), wrapTo (by omega) (by omega) (by omega), _, k48, ⟨by omega, by omega⟩, _, ru, _, wrap64 (by omega) (by omega), ⟨by omega, by omega⟩, _, rv, _, wrap64 (by omega) (by omega), ⟨by omega, by omega⟩, _, rL, ?_⟩
    have rW := row_at (l := upN W) (i := k) (by rw [upN_len]; omega)
    have hS : (if (if atE T F (r - 1) (k - 1) - u.getD r 0 - v.getD k 0 < L.getD k 0 then L.set k (atE T F (r - 1) (k - 1) - u.getD r 0 - v.getD k 0) else L).getD k 0 < d then scan (atE T F) used u v r here (m - k) (k + 1) (if atE T F (r - 1) (k - 1) - u.getD r 0 - v.getD k 0 < L.getD k 0 then L.set k (atE T F (r - 1) (k - 1) - u.getD r 0 - v.getD k 0) else L) (if atE T F (r - 1) (k - 1) - u.getD r 0 - v.getD k 0 < L.getD k 0 then W.set k here else W) ((if atE T F (r - 1) (k - 1) - u.getD r 0 - v.getD k 0 < L.getD k 0 then L.set k (atE T F (r - 1) (k - 1) - u.getD r 0 - v.getD k 0) else L).getD k 0) k else scan (atE T F) used u v r here (m - k) (k + 1) (if atE T F (r - 1) (k - 1) - u.getD r 0 - v.getD k 0 < L.getD k 0 then L.set k (atE T F (r - 1) (k - 1) - u.getD r 0 - v.getD k 0) else L) (if atE T F (r - 1) (k - 1) - u.getD r 0 - v.getD k 0 < L.getD k 0 then W.set k here else W) d x) = Y := hS
    generalize atE T F (r - 1) (k - 1) - u.getD r 0 - v.getD k 0 = cc at hS ⊢
    by_cases hlt : cc < L.getD k 0
    · rw [if_pos hlt, if_pos hlt] at hS
      have eL : ((L.map enc).set ((k : Nat) : Int).toNat [I cc]) = (L.set k cc).map enc := row_set
      have eW : (((upN W).map enc).set ((k : Nat) : Int).toNat [I here]) = (upN (W.set k here)).map enc := by rw [row_set, upN_set]
      have gk : (L.set k cc).getD k 0 = cc := by rw [gset (by omega), if_pos rfl]
      have rL' : ((L.map enc).set ((k : Nat) : Int).toNat [I cc])[((k : Nat) : Int).toNat]? = some [I cc] := by
        rw [eL, row_at (by rw [List.length_set]; omega), gk]
      rw [gk] at hS
      refine ⟨fun _ => ?_, fun h => absurd hlt (of_decide_eq_false h)⟩
      refine ⟨⟨by omega, by omega⟩, _, rL, ⟨by omega, by omega⟩, _, rW, ⟨by omega, by omega⟩, _, rL', fun hd => ?_, fun hd => ?_⟩
      · have hd : cc < d := of_decide_eq_true hd
        rw [if_pos hd] at hS
        refine ⟨⟨by omega, by omega⟩, _, rL', ((k + 1 : Nat) : Int), wrapTo (by omega) (by omega) (by omega), ?_⟩
        refine ⟨_, _, Wk.keep [4, 6, 7, 8, 9, 10, 11, 12, 13, 14, 15, 16, 18, 19, 20, 21] ids30, by omega, k + 1, L.set k cc, W.set k here, cc, k, by omega, by omega, rfl, by rw [List.length_set]; exact lL, by rw [List.length_set]; exact lW, by rw [show m + 1 - (k + 1) = m - k by omega]; exact hS, ?_⟩
        show _ = Cfg.mk _ [(32, _), (48, _), (64, _), (624, _), (672, _), (720, _), (896, (⟨3, 1, .pure, (L.set k cc).map enc⟩ : OBlk)), (944, (⟨3, 1, .pure, (upN (W.set k here)).map enc⟩ : OBlk)), (992, _)]
        rw [← eL, ← eW]; rfl
      · have hd : ¬ cc < d := of_decide_eq_false hd
        rw [if_neg hd] at hS
        refine ⟨((k + 1 : Nat) : Int), wrapTo (by omega) (by omega) (by omega), ?_⟩
        refine ⟨_, _, Wk.keep [4, 6, 7, 8, 9, 10, 11, 12, 13, 14, 15, 16, 18, 19, 20, 21] ids30, by omega, k + 1, L.set k cc, W.set k here, d, x, by omega, by omega, rfl, by rw [List.length_set]; exact lL, by rw [List.length_set]; exact lW, by rw [show m + 1 - (k + 1) = m - k by omega]; exact hS, ?_⟩
        show _ = Cfg.mk _ [(32, _), (48, _), (64, _), (624, _), (672, _), (720, _), (896, (⟨3, 1, .pure, (L.set k cc).map enc⟩ : OBlk)), (944, (⟨3, 1, .pure, (upN (W.set k here)).map enc⟩ : OBlk)), (992, _)]
        rw [← eL, ← eW]; rfl
    · rw [if_neg hlt, if_neg hlt] at hS
      refine ⟨fun h => absurd (of_decide_eq_true h) hlt, fun _ => ?_⟩
      refine ⟨⟨by omega, by omega⟩, _, rL, fun hd => ?_, fun hd => ?_⟩
      · have hd : L.getD k 0 < d := of_decide_eq_true hd
        rw [if_pos hd] at hS
        refine ⟨⟨by omega, by omega⟩, _, rL, ((k + 1 : Nat) : Int), wrapTo (by omega) (by omega) (by omega), ?_⟩
        exact ⟨_, _, Wk.keep [4, 6, 7, 8, 9, 10, 11, 12, 13, 14, 15, 16, 18, 19, 20, 21] ids30, by omega, k + 1, L, W, L.getD k 0, k, by omega, by omega, rfl, lL, lW, by rw [show m + 1 - (k + 1) = m - k by omega]; exact hS, rfl⟩
      · have hd : ¬ L.getD k 0 < d := of_decide_eq_false hd
        rw [if_neg hd] at hS
        refine ⟨((k + 1 : Nat) : Int), wrapTo (by omega) (by omega) (by omega), ?_⟩
        exact ⟨_, _, Wk.keep [4, 6, 7, 8, 9, 10, 11, 12, 13, 14, 15, 16, 18, 19, 20, 21] ids30, by omega, k + 1, L, W, d, x, by omega, by omega, rfl, lL, lW, by rw [show m + 1 - (k + 1) = m - k by omega]; exact hS, rfl⟩
  · have hk : k = m + 1 := by simp at h; omega
    subst hk
    rw [Nat.sub_self, scan] at hS
    subst hS
    exact ⟨rfl, _, rfl⟩
end Go.Abs.L38
namespace Go.Abs.L38
open Go Go.Abs Go.Proofs Go.Abs.Hung
set_option linter.unusedVariables false
set_option maxRecDepth 20000
theorem gset_le {l : List Int} {i j : Nat} {x B : Int} (h : ∀ j, -B ≤ l.getD j 0 ∧ l.getD j 0 ≤ B) (hx : -B ≤ x ∧ x ≤ B) (hi : i < l.length) : -B ≤ (l.set i x).getD j 0 ∧ (l.set i x).getD j 0 ≤ B := by
  rw [gset hi]
  split
  · exact hx
  · exact h j
set_option maxHeartbeats 4000000 in
theorem ev_upd {T : List (List Int)} {F u v : List Int} {row : List Nat} {L : List Int} {W : List Nat} {used : List Bool} {n m p here r : Nat} {d : Int} {x : Nat} {Z : List Int × List Int × List Int} (hm : m ≤ 1000) (lu : u.length = n + 1) (lv : v.length = m + 1) (lr : row.length = m + 1) (lus : used.length = m + 1) (lL : L.length = m + 1) (hrow : ∀ k, row.getD k 0 ≤ n)
    (hd : 0 ≤ d ∧ d ≤ 1099511627776) (hbu : ∀ i, -2199023255552 ≤ u.getD i 0 ∧ u.getD i 0 ≤ 2199023255552) (hbv : ∀ i, -2199023255552 ≤ v.getD i 0 ∧ v.getD i 0 ≤ 2199023255552) (hbL : ∀ k, k ≤ m → used.getD k false = false → -2199023255552 ≤ L.getD k 0 ∧ L.getD k 0 ≤ 2199023255552)
    (hZ : Hung.upd row used d (m + 1) 0 u v L = Z) :
    ev Try.prog tt 230 ks30 (upd30 (body Try.f30)) ⟨FI n m p here r d x, OI T F u v row L W used⟩ fun e c => e = .normal ∧ ∃ fr, c = ⟨FI n m p here r d x ++ fr, OI T F Z.1 Z.2.1 row Z.2.2 W used⟩ := by
  refine ⟨fun q c => ∃ (k : Nat) (u' v' L' : List Int), k ≤ m + 1 ∧ q = m + 1 - k ∧ u'.length = n + 1 ∧ v'.length = m + 1 ∧ L'.length = m + 1 ∧ (∀ i, -(2199023255552 + 1099511627776 * (k : Int)) ≤ u'.getD i 0 ∧ u'.getD i 0 ≤ 2199023255552 + 1099511627776 * (k : Int)) ∧ (∀ i, -(2199023255552 + 1099511627776 * (k : Int)) ≤ v'.getD i 0 ∧ v'.getD i 0 ≤ 2199023255552 + 1099511627776 * (k : Int)) ∧ (∀ j, k ≤ j → L'.getD j 0 = L.getD j 0) ∧ Hung.upd row used d (m + 1 - k) k u' v' L' = Z ∧
      c = ⟨FI n m p here r d x ++ [(135, I ((m + 1 : Nat) : Int)), (136, I k)], OI T F u' v' row L' W used⟩, ⟨_, _, Wk.keep [4, 6, 7, 8, 9, 10, 11, 12, 13, 14, 15, 16, 18, 19, 20, 135, 136] ids30, 0, u, v, L, by omega, rfl, lu, lv, lL, fun i => by have := hbu i; omega, fun i => by have := hbv i; omega, fun j _ => rfl, hZ, rfl⟩, ?_⟩
  rintro q c ⟨k, u, v, L', hk, rfl, lu, lv, lL, bu, bv, eL, hZ, rfl⟩
  refine ⟨fun h => ?_, fun h => ?_⟩
  · have hkm : k ≤ m := by simp at h; omega
    clear h
    have rU := rowB_at (l := used) (i := k) (by omega)
    rw [show m + 1 - k = (m - k) + 1 by omega, Hung.upd] at hZ
    refine ⟨⟨by omega, by omega⟩, _, rU, fun hu => ?_, fun hu => ?_⟩
    · have hu : used.getD k false = true := hu
      rw [if_pos hu] at hZ
      have hrk := hrow k
      have rR := row_at (l := upN row) (i := k) (by rw [upN_len]; omega)
      rw [upN_at] at rR
      have ru := row_at (l := u) (i := row.getD k 0) (by omega)
      have rv := row_at (l := v) (i := k) (by omega)
      have b1 := bu (row.getD k 0)
      have b2 := bv k
      generalize row.getD k 0 = rk at *
      have eu : (u.map enc).set ((rk : Nat) : Int).toNat [I (u.getD rk 0 + d)] = (u.set rk (u.getD rk 0 + d)).map enc := row_set
      have ev' : (v.map enc).set ((k : Nat) : Int).toNat [I (v.getD k 0 - d)] = (v.set k (v.getD k 0 - d)).map enc := row_set
      refine ⟨⟨by omega, by omega⟩, _, rR, ⟨by omega, by omega⟩, _, ru, _, wrap64 (by omega) (by omega), ⟨by omega, by omega⟩, _, ru, ⟨by omega, by omega⟩, _, rv, _, wrap64 (by omega) (by omega), ⟨by omega, by omega⟩, _, rv, ((k + 1 : Nat) : Int), wrapTo (by omega) (by omega) (by omega), ?_⟩
      refine ⟨_, _, Wk.keep [4, 6, 7, 8, 9, 10, 11, 12, 13, 14, 15, 16, 18, 19, 20, 135, 136] ids30, by omega, k + 1, u.set rk (u.getD rk 0 + d), v.set k (v.getD k 0 - d), L', by omega, rfl, by rw [List.length_set]; exact lu, by rw [List.length_set]; exact lv, lL, fun i => gset_le (fun j => by have := bu j; omega) (by omega) (by omega), fun i => gset_le (fun j => by have := bv j; omega) (by omega) (by omega), fun j hj => eL j (by omega), by rw [show m + 1 - (k + 1) = m - k by omega]; exact hZ, ?_⟩
      show _ = Cfg.mk _ [(32, _), (48, _), (64, _), (624, (⟨3, 1, .pure, (u.set rk (u.getD rk 0 + d)).map enc⟩ : OBlk)), (672, (⟨3, 1, .pure, (v.set k (v.getD k 0 - d)).map enc⟩ : OBlk)), (720, _), (896, _), (944, _), (992, _)]
      rw [← eu, ← ev']; rfl
    · have hu : used.getD k false = false := hu
      rw [if_neg (by rw [hu]; simp)] at hZ
      have rL := row_at (l := L') (i := k) (by omega)
      have b1 := hbL k hkm hu
      rw [← eL k (Nat.le_refl _)] at b1
      have e' : (L'.map enc).set ((k : Nat) : Int).toNat [I (L'.getD k 0 - d)] = (L'.set k (L'.getD k 0 - d)).map enc := row_set
      refine ⟨⟨by omega, by omega⟩, _, rL, _, wrap64 (by omega) (by omega), ⟨by omega, by omega⟩, _, rL, ((k + 1 : Nat) : Int), wrapTo (by omega) (by omega) (by omega), ?_⟩
      refine ⟨_, _, Wk.keep [4, 6, 7, 8, 9, 10, 11, 12, 13, 14, 15, 16, 18, 19, 20, 135, 136] ids30, by omega, k + 1, u, v, L'.set k (L'.getD k 0 - d), by omega, rfl, lu, lv, by rw [List.length_set]; exact lL, fun i => by have := bu i; omega, fun i => by have := bv i; omega, fun j hj => by rw [gset (by omega), if_neg (by omega)]; exact eL j (by omega), by rw [show m + 1 - (k + 1) = m - k by omega]; exact hZ, ?_⟩
      show _ = Cfg.mk _ [(32, _), (48, _), (64, _), (624, _), (672, _), (720, _), (896, (⟨3, 1, .pure, (L'.set k (L'.getD k 0 - d)).map enc⟩ : OBlk)), (944, _), (992, _)]
      rw [← e']; rfl
  · have hk : k = m + 1 := by simp at h; omega
    subst hk
    rw [Nat.sub_self, Hung.upd] at hZ
    subst hZ
    exact ⟨rfl, _, rfl⟩
end Go.Abs.L38
namespace Go.Abs.L38
open Go Go.Abs Go.Proofs Go.Abs.Hung
set_option linter.unusedVariables false
set_option maxRecDepth 20000
/-- what a table and the given columns are -/
structure Tb (T : List (List Int)) (F : List Int) (n m : Nat) : Prop where
  hn : T.length = n
  hF : F.length = n
  hT : ∀ t ∈ T, t.length = m
  hc : ∀ t ∈ T, ∀ c ∈ t, c ≤ 1000
  h1 : 1 ≤ n ∧ n ≤ 16
  h2 : 1 ≤ m ∧ m ≤ 16
theorem Tb.at {T : List (List Int)} {F : List Int} {n m : Nat} (h : Tb T F n m) (i k : Nat) : 0 ≤ atE T F i k ∧ atE T F i k ≤ 1048576 := by
  unfold atE
  split
  · rename_i hc
    refine ⟨hc.1, ?_⟩
    have : (T.getD i []).getD k 0 ≤ 1000 := by
      rw [List.getD_eq_getElem?_getD, List.getD_eq_getElem?_getD]
      cases hi : T[i]? with
      | none => simp
      | some t =>
        show t[k]?.getD 0 ≤ 1000
        cases hk : t[k]? with
        | none => simp
        | some c => exact h.hc t (List.mem_of_getElem? hi) c (List.mem_of_getElem? hk)
    omega
  · omega
theorem in_step {E : Env} (hN : E.N = 230) {T : List (List Int)} {F : List Int} {n m p : Nat} {row : List Nat} {B : Int} {s : St} {ord : List Nat} {D : Int} {K : KM} {a : Act} {w : World} {Q : Exit → Act → World → Prop} (tb : Tb T F n m) (hB : 0 ≤ B ∧ B ≤ 16777216) (R : RowOK n m p row) (h : Inv (atE T F) n m p row 1048576 B 1073741824 s ord D) (hr : row.getD s.here 0 ≠ 0)
    (hs : SRK E K ⟨FP n m p s.here, OI T F s.u s.v row s.L s.W s.used⟩ a w)
    (hQ : ∀ K' a' w', SRK E K' ⟨FP n m p (Hung.step (atE T F) m 1073741824 row s).here, OI T F (Hung.step (atE T F) m 1073741824 row s).u (Hung.step (atE T F) m 1073741824 row s).v row (Hung.step (atE T F) m 1073741824 row s).L (Hung.step (atE T F) m 1073741824 row s).W (Hung.step (atE T F) m 1073741824 row s).used⟩ a' w' → Q .normal a' w') : (in30 (body Try.f30)).wp Try.prog Q a w := by
  obtain ⟨hh1, hh2⟩ := h.hhere
  have hn := tb.h1
  have hm := tb.h2
  have hD := h.hD
  obtain ⟨⟨r1, r2⟩, f1, f2, ⟨d1, d2⟩, f3, f4, f5⟩ := step_facts tb.at hB.1 (by omega) R h hr
  have hstep : Hung.step (atE T F) m 1073741824 row s = (let y := scan (atE T F) (s.used.set s.here true) s.u s.v (row.getD s.here 0) s.here m 1 s.L s.W 1073741824 0
    let z := Hung.upd row (s.used.set s.here true) y.2.2.1 (m + 1) 0 s.u s.v y.1
    ⟨z.1, z.2.1, z.2.2, y.2.1, s.used.set s.here true, y.2.2.2⟩) := rfl
  rw [hstep] at hQ
  simp only at hQ
  generalize hY : scan (atE T F) (s.used.set s.here true) s.u s.v (row.getD s.here 0) s.here m 1 s.L s.W 1073741824 0 = Y at *
  generalize hZ : Hung.upd row (s.used.set s.here true) Y.2.2.1 (m + 1) 0 s.u s.v Y.1 = Z at *
  have lus := h.lus
  have lr := R.lr
  have rU := rowB_at (l := s.used) (i := s.here) (by omega)
  have rR := row_at (l := upN row) (i := s.here) (by rw [upN_len]; omega)
  rw [upN_at] at rR
  have eU : (s.used.map encB).set ((s.here : Nat) : Int).toNat [.bool true] = (s.used.set s.here true).map encB := rowB_set
  change (Code.seq _ _).wp _ _ _ _
  refine wp_seq (W30 hN hs (Q := fun e c' => e = .normal ∧ c' = _) rfl ⟨⟨by omega, by omega⟩, _, rU, rfl, rfl⟩ ?_)
  rintro e c1 K1 a1 w1 ⟨rfl, rfl⟩ hs1
  have hs2 : SRK E K1 ⟨FP n m p s.here, OI T F s.u s.v row s.L s.W (s.used.set s.here true)⟩ a1 w1 := by
    show SRK E K1 (Cfg.mk _ [(32, _), (48, _), (64, _), (624, _), (672, _), (720, _), (896, _), (944, _), (992, (⟨4, 1, .pure, (s.used.set s.here true).map encB⟩ : OBlk))]) a1 w1
    rw [← eU]; exact hs1
  change (Code.seq _ _).wp _ _ _ _
  refine wp_seq (W30 hN hs2 (Q := fun e c' => e = .normal ∧ c' = _) rfl ⟨⟨by omega, by omega⟩, _, rR, rfl, rfl⟩ ?_)
  rintro e c1 K2 a2 w2 ⟨rfl, rfl⟩ hs3
  have hs4 : SRK E K2 ⟨FI n m p s.here (row.getD s.here 0) 1073741824 0, OI T F s.u s.v row s.L s.W (s.used.set s.here true)⟩ a2 w2 := SRK.only hs3 [4, 6, 7, 8, 9, 10, 11, 12, 13, 14, 15, 16, 18, 19, 20] ids30
  clear hs hs1 hs2 hs3
  change (Code.seq _ _).wp _ _ _ _
  refine wp_seq (W30 hN hs4 rfl (ev_scan (Y := Y) tb.hn tb.hF tb.hT (by omega) (by omega) ⟨r1, r2⟩ h.lu h.lv (by rw [List.length_set]; exact lus) h.lL h.lW (fun k k1 k2 => by
    have := tb.at (row.getD s.here 0 - 1) (k - 1)
    have := h.hu (row.getD s.here 0)
    have := h.hv k
    omega) hY) ?_)
  rintro e c1 K3 a3 w3 ⟨rfl, fr, rfl⟩ hs5
  have hs6 : SRK E K3 ⟨FI n m p s.here (row.getD s.here 0) Y.2.2.1 Y.2.2.2, OI T F s.u s.v row Y.1 Y.2.1 (s.used.set s.here true)⟩ a3 w3 := SRK.only hs5 [4, 6, 7, 8, 9, 10, 11, 12, 13, 14, 15, 16, 18, 19, 20] ids30
  change (Code.seq _ _).wp _ _ _ _
  refine wp_seq (W30 hN hs6 rfl (ev_upd (Z := Z) (by omega) h.lu h.lv lr (by rw [List.length_set]; exact lus) f1 (fun k => by have := R.le k; have := R.hp; omega) ⟨by omega, by omega⟩ (fun i => by have := h.hu i; omega) (fun i => by have := h.hv i; omega) (fun k k1 k2 => by
    by_cases k0 : k = 0
    · subst k0; rw [f5] at k2; cases k2
    · have := f4 k (by omega) k1 k2; omega) hZ) ?_)
  rintro e c1 K4 a4 w4 ⟨rfl, fr2, rfl⟩ hs7
  have hs8 : SRK E K4 ⟨FI n m p s.here (row.getD s.here 0) Y.2.2.1 Y.2.2.2, OI T F Z.1 Z.2.1 row Z.2.2 Y.2.1 (s.used.set s.here true)⟩ a4 w4 := SRK.only hs7 [4, 6, 7, 8, 9, 10, 11, 12, 13, 14, 15, 16, 18, 19, 20] ids30
  change (Code.region _ _ _).wp _ _ _ _
  refine W30 hN hs8 (Q := fun e c' => e = .normal ∧ c' = _) rfl ⟨rfl, rfl⟩ ?_
  rintro e c1 K5 a5 w5 ⟨rfl, rfl⟩ hs9
  exact hQ K5 a5 w5 (SRK.only hs9 [4, 6, 7, 8, 9, 10, 11, 12, 13, 14, 15, 16] ids30)
def inL30 (c : Code) : Code := match ph30 c with
  | .seq _ (.seq _ (.seq _ (.seq _ (.seq _ (.seq c _))))) => c
  | c => c
theorem in_loop {E : Env} (hN : E.N = 230) {T : List (List Int)} {F : List Int} {n m p : Nat} {row : List Nat} {B : Int} {s t : St} {ord : List Nat} {D : Int} {f : Nat} {K : KM} {a : Act} {w : World} {Q : Exit → Act → World → Prop} (tb : Tb T F n m) (hB : 0 ≤ B ∧ B ≤ 16777216) (R : RowOK n m p row) (h : Inv (atE T F) n m p row 1048576 B 1073741824 s ord D)
    (hf : inner (atE T F) m 1073741824 row f s = some t)
    (hs : SRK E K ⟨FP n m p s.here, OI T F s.u s.v row s.L s.W s.used⟩ a w)
    (hQ : ∀ K' ord' D' a' w', Inv (atE T F) n m p row 1048576 B 1073741824 t ord' D' → row.getD t.here 0 = 0 → SRK E K' ⟨FP n m p t.here, OI T F t.u t.v row t.L t.W t.used⟩ a' w' → Q .normal a' w') : (inL30 (body Try.f30)).wp Try.prog Q a w := by
  change (Code.block _ _).wp _ _ _ _
  refine wp_block (wp_loop_ghost (fun q a w => ∃ K s ord D, Inv (atE T F) n m p row 1048576 B 1073741824 s ord D ∧ inner (atE T F) m 1073741824 row q s = some t ∧ SRK E K ⟨FP n m p s.here, OI T F s.u s.v row s.L s.W s.used⟩ a w) f ⟨K, s, ord, D, h, hf, hs⟩ ?_)
  clear h hf hs
  rintro q a w ⟨K, s, ord, D, h, hf, hs⟩
  obtain ⟨hh1, hh2⟩ := h.hhere
  have lr := R.lr
  have rR := row_at (l := upN row) (i := s.here) (by rw [upN_len]; omega)
  rw [upN_at] at rR
  change (Code.seq _ _).wp _ _ _ _
  cases q with
  | zero => cases hf
  | succ q =>
    unfold inner at hf
    by_cases hr : row.getD s.here 0 = 0
    · rw [if_pos hr] at hf
      injection hf with hf
      subst hf
      refine wp_seq (W30 hN hs (Q := fun e c' => e = .exit 4 ∧ c' = _) rfl ⟨⟨by omega, by omega⟩, _, rR, fun h => ?_, fun _ => ⟨rfl, rfl⟩⟩ ?_)
      · rw [hr] at h; cases h
      rintro e c1 K1 a1 w1 ⟨rfl, rfl⟩ hs1
      exact hQ K1 ord D a1 w1 h hr (SRK.only hs1 [4, 6, 7, 8, 9, 10, 11, 12, 13, 14, 15, 16] ids30)
    · rw [if_neg hr] at hf
      have hne : (((row.getD s.here 0 : Nat) : Int) != 0) = true := by simp; exact_mod_cast hr
      refine wp_seq (W30 hN hs (Q := fun e c' => e = .normal ∧ c' = _) rfl ⟨⟨by omega, by omega⟩, _, rR, fun _ => ⟨rfl, rfl⟩, fun h => ?_⟩ ?_)
      · rw [show _ = true from hne] at h; cases h
      rintro e c1 K1 a1 w1 ⟨rfl, rfl⟩ hs1
      have hs2 : SRK E K1 ⟨FP n m p s.here, OI T F s.u s.v row s.L s.W s.used⟩ a1 w1 := SRK.only hs1 [4, 6, 7, 8, 9, 10, 11, 12, 13, 14, 15, 16] ids30
      obtain ⟨D', h'⟩ := step_inv tb.at hB.1 (by omega) R h hr
      change (Code.block _ _).wp _ _ _ _
      refine wp_block (in_step hN tb hB R h hr hs2 ?_)
      intro K2 a2 w2 hs3
      exact ⟨q, by omega, K2, _, _, D', h', hf, hs3⟩
end Go.Abs.L38
namespace Go.Abs.L38
open Go Go.Abs Go.Proofs Go.Abs.Hung
set_option linter.unusedVariables false
set_option maxRecDepth 20000
def aug30 (c : Code) : Code := match ph30 c with
  | .seq _ (.seq _ (.seq _ (.seq _ (.seq _ (.seq _ c))))) => c
  | c => c
def fill30 (c : Code) : Code := match ph30 c with
  | .seq _ (.seq _ (.seq _ (.seq _ (.seq c _)))) => c
  | c => c
abbrev FB (n m p : Nat) : List (Nat × AV) := [(4, .ovar 64 0), (6, I n), (7, I m), (8, fn48), (9, .osl 624 1 (n + 1)), (10, .osl 672 1 (m + 1)), (11, .osl 720 1 (m + 1)), (12, I p)]
theorem ev_aug {T : List (List Int)} {F u v : List Int} {row rowF : List Nat} {L : List Int} {W : List Nat} {used : List Bool} {n m p h f : Nat} {ord : List Nat} (hm : m ≤ 1000) (H : Aug (atE T F) n m p u v row W h ord) (hf : aug f row W h = some rowF) :
    ev Try.prog tt 230 ks30 (aug30 (body Try.f30)) ⟨FP n m p h, OI T F u v row L W used⟩ fun e c => e = .normal ∧ ∃ fr, c = ⟨FP n m p 0 ++ fr, OI T F u v rowF L W used⟩ := by
  refine ⟨fun q c => ∃ (row' : List Nat) (h : Nat) (ord : List Nat), Aug (atE T F) n m p u v row' W h ord ∧ aug q row' W h = some rowF ∧ c = ⟨FP n m p h, OI T F u v row' L W used⟩, ⟨f, _, Wk.keep [4, 6, 7, 8, 9, 10, 11, 12, 13, 14, 15, 16] ids30, row, h, ord, H, hf, rfl⟩, ?_⟩
  clear H hf
  rintro q c ⟨row, h, ord, H, hf, rfl⟩
  obtain ⟨hh1, hh2⟩ := H.hh
  have lr := H.lr
  have lW := H.lW
  cases q with
  | zero => cases hf
  | succ q =>
    unfold aug at hf
    refine ⟨fun h0 => ?_, fun h0 => ?_⟩
    · have h0 : h ≠ 0 := by
        rintro rfl; cases h0
      rw [if_neg h0] at hf
      obtain ⟨hw, _⟩ := H.head (by omega)
      have hwm := (H.ordM _ hw).1
      obtain ⟨r, _, H'⟩ := aug_step H h0
      have rW := row_at (l := upN W) (i := h) (by rw [upN_len]; omega)
      rw [upN_at] at rW
      have rR := row_at (l := upN row) (i := W.getD h 0) (by rw [upN_len]; omega)
      rw [upN_at] at rR
      have rH := row_at (l := upN row) (i := h) (by rw [upN_len]; omega)
      have e' : ((upN row).map enc).set ((h : Nat) : Int).toNat [I ((row.getD (W.getD h 0) 0 : Nat) : Int)] = (upN (row.set h (row.getD (W.getD h 0) 0))).map enc := by rw [row_set, upN_set]
      refine ⟨⟨by omega, by omega⟩, _, rW, ⟨by omega, by omega⟩, _, rR, ⟨by omega, by omega⟩, _, rH, ⟨by omega, by omega⟩, _, rW, ?_⟩
      refine ⟨_, _, Wk.keep [4, 6, 7, 8, 9, 10, 11, 12, 13, 14, 15, 16] ids30, by omega, _, _, _, H', hf, ?_⟩
      show _ = Cfg.mk _ [(32, _), (48, _), (64, _), (624, _), (672, _), (720, (⟨3, 1, .pure, (upN (row.set h (row.getD (W.getD h 0) 0))).map enc⟩ : OBlk)), (896, _), (944, _), (992, _)]
      rw [← e']; rfl
    · have h0 : h = 0 := by
        have h0 : (((h : Nat) : Int) != 0) = false := h0
        simp at h0; omega
      subst h0
      rw [if_pos rfl] at hf
      injection hf with hf
      subst hf
      exact ⟨rfl, _, rfl⟩
theorem fill_rows (y : Int) (m k : Nat) (h : k < m) : (List.replicate k [I y] ++ List.replicate (m - k) [I 0]).set k [I y] = List.replicate (k + 1) [I y] ++ List.replicate (m - (k + 1)) [I 0] := by
  rw [List.set_append_right _ _ (by simp), List.length_replicate, Nat.sub_self, show m - k = (m - (k + 1)) + 1 by omega, List.replicate_succ, List.set_cons_zero, List.replicate_succ', List.append_assoc]
  rfl
theorem ev_fill {T : List (List Int)} {F u v : List Int} {row : List Nat} {m n p : Nat} (hm : m ≤ 1000) :
    ev Try.prog tt 230 ks30 (fill30 (body Try.f30)) ⟨FP n m p 0, OI T F u v row (List.replicate (m + 1) 0) (List.replicate (m + 1) 0) (List.replicate (m + 1) false)⟩ fun e c => e = .normal ∧ ∃ fr, c = ⟨FP n m p 0 ++ fr, OI T F u v row (List.replicate (m + 1) 1073741824) (List.replicate (m + 1) 0) (List.replicate (m + 1) false)⟩ := by
  have e0 : (List.replicate (m + 1) (0 : Int)).map enc = List.replicate 0 [I 1073741824] ++ List.replicate (m + 1 - 0) [I 0] := by rw [List.map_replicate]; rfl
  refine ⟨fun q c => ∃ k : Nat, k ≤ m + 1 ∧ q = m + 1 - k ∧ c = ⟨FP n m p 0 ++ [(64, I ((m + 1 : Nat) : Int)), (65, I k)], [(32, ⟨22, 1, .any, [[AA T]]⟩), (48, ⟨25, 1, .any, [[A F]]⟩), (64, ⟨47, 4, .any, [plan0]⟩), (624, ⟨3, 1, .pure, u.map enc⟩), (672, ⟨3, 1, .pure, v.map enc⟩), (720, ⟨3, 1, .pure, (upN row).map enc⟩), (896, ⟨3, 1, .pure, List.replicate k [I 1073741824] ++ List.replicate (m + 1 - k) [I 0]⟩), (944, ⟨3, 1, .pure, (upN (List.replicate (m + 1) 0)).map enc⟩), (992, ⟨4, 1, .pure, (List.replicate (m + 1) false).map encB⟩)]⟩, ⟨_, _, Wk.keep [4, 6, 7, 8, 9, 10, 11, 12, 13, 14, 15, 16, 64, 65] ids30, 0, by omega, rfl, ?_⟩, ?_⟩
  · rw [← e0]; rfl
  rintro q c ⟨k, hk, rfl, rfl⟩
  refine ⟨fun h => ?_, fun h => ?_⟩
  · have hkm : k ≤ m := by simp at h; omega
    have rr : (List.replicate k [I 1073741824] ++ List.replicate (m + 1 - k) [I 0])[((k : Nat) : Int).toNat]? = some [I 0] := by
      rw [Int.toNat_natCast, List.getElem?_append_right (by simp), List.length_replicate, Nat.sub_self, List.getElem?_replicate, if_pos (by omega)]
    refine ⟨⟨by omega, by omega⟩, _, rr, ((k + 1 : Nat) : Int), wrapTo (by omega) (by omega) (by omega), ?_⟩
    refine ⟨_, _, Wk.keep [4, 6, 7, 8, 9, 10, 11, 12, 13, 14, 15, 16, 64, 65] ids30, by omega, k + 1, by omega, rfl, ?_⟩
    rw [← fill_rows 1073741824 (m + 1) k (by omega)]; rfl
  · have hk : k = m + 1 := by simp at h; omega
    subst hk
    have e1 : List.replicate (m + 1) [I 1073741824] ++ List.replicate (m + 1 - (m + 1)) [I 0] = (List.replicate (m + 1) (1073741824 : Int)).map enc := by
      rw [Nat.sub_self, List.map_replicate]; simp [enc]
    rw [e1]
    exact ⟨rfl, _, rfl⟩
theorem wp_phase {E : Env} (hN : E.N = 230) {T : List (List Int)} {F : List Int} {n m p : Nat} {s t : Ph} {K : KM} {a : Act} {w : World} {Q : Exit → Act → World → Prop} (tb : Tb T F n m) (hnm : n ≤ m) (hp : p < n) (h : Mt (atE T F) n m p 1048576 s) (hf : phase (atE T F) m 1073741824 (List.replicate (m + 1) 0) (p + 1) s = some t)
    (hs : SRK E K ⟨FB n m (p + 1), OB T F s.u s.v s.row⟩ a w)
    (hQ : ∀ K' a' w', SRK E K' ⟨FB n m (p + 1), OB T F t.u t.v t.row⟩ a' w' → Q .normal a' w') : (ph30 (body Try.f30)).wp Try.prog Q a w := by
  have hn := tb.h1
  have hm := tb.h2
  have lr := h.lr
  have rR := row_at (l := upN s.row) (i := 0) (by rw [upN_len]; omega)
  have e0 : ((upN s.row).map enc).set (((0 : Nat) : Int)).toNat [I ((p + 1 : Nat) : Int)] = (upN (s.row.set 0 (p + 1))).map enc := by rw [row_set, upN_set]
  change (Code.seq _ _).wp _ _ _ _
  refine wp_seq (W30 hN hs (Q := fun e c' => e = .normal ∧ c' = _) rfl ⟨⟨by omega, by omega⟩, _, rR, rfl, rfl⟩ ?_)
  rintro e c1 K1 a1 w1 ⟨rfl, rfl⟩ hs1
  have hs2 : SRK E K1 ⟨FB n m (p + 1), OB T F s.u s.v (s.row.set 0 (p + 1))⟩ a1 w1 := by
    show SRK E K1 (Cfg.mk _ [(32, _), (48, _), (64, _), (624, _), (672, _), (720, (⟨3, 1, .pure, (upN (s.row.set 0 (p + 1))).map enc⟩ : OBlk))]) a1 w1
    rw [← e0]; exact hs1
  change (Code.seq _ _).wp _ _ _ _
  refine wp_seq (W30 hN hs2 (Q := fun e c' => e = .normal ∧ c' = _) rfl ⟨rfl, rfl⟩ ?_)
  rintro e c1 K2 a2 w2 ⟨rfl, rfl⟩ hs3
  have mk : ∀ z : Int, z = ((m + 1 : Nat) : Int) → (z = z ∧ 0 ≤ z ∧ (8 : Int) * z ≤ 140737488355328 ∧ z ≤ 9223372036854775807) := by
    rintro z rfl; omega
  change (Code.seq _ _).wp _ _ _ _
  refine wp_seq (W30 hN hs3 (Q := fun e c' => e = .normal ∧ c' = _) rfl ⟨((m + 1 : Nat) : Int), wrapTo (by omega) (by omega) (by omega), mk _ rfl, ((m + 1 : Nat) : Int), wrapTo (by omega) (by omega) (by omega), mk _ rfl, rfl, rfl⟩ ?_)
  rintro e c1 K3 a3 w3 ⟨rfl, rfl⟩ hs4
  change (Code.seq _ _).wp _ _ _ _
  refine wp_seq (W30 hN hs4 (Q := fun e c' => e = .normal ∧ c' = _) rfl ⟨((m + 1 : Nat) : Int), wrapTo (by omega) (by omega) (by omega), ⟨rfl, by omega, by show (1 : Int) * _ ≤ _; omega, by omega⟩, rfl, rfl⟩ ?_)
  rintro e c1 K4 a4 w4 ⟨rfl, rfl⟩ hs5
  have hs6 : SRK E K4 ⟨FP n m (p + 1) 0, OI T F s.u s.v (s.row.set 0 (p + 1)) (List.replicate (m + 1) 0) (List.replicate (m + 1) 0) (List.replicate (m + 1) false)⟩ a4 w4 := by
    have := SRK.only hs5 [4, 6, 7, 8, 9, 10, 11, 12, 13, 14, 15, 16] ids30
    have r1 : List.replicate (m + 1) [I 0] = (List.replicate (m + 1) (0 : Int)).map enc := by rw [List.map_replicate]; rfl
    have r2 : List.replicate (m + 1) [I 0] = (upN (List.replicate (m + 1) 0)).map enc := by rw [upN, List.map_replicate, List.map_replicate]; rfl
    have r3 : List.replicate (m + 1) [.bool false] = (List.replicate (m + 1) false).map encB := by rw [List.map_replicate]; rfl
    show SRK E K4 (Cfg.mk _ [(32, _), (48, _), (64, _), (624, _), (672, _), (720, _), (896, (⟨3, 1, .pure, (List.replicate (m + 1) (0 : Int)).map enc⟩ : OBlk)), (944, (⟨3, 1, .pure, (upN (List.replicate (m + 1) 0)).map enc⟩ : OBlk)), (992, (⟨4, 1, .pure, (List.replicate (m + 1) false).map encB⟩ : OBlk))]) a4 w4
    rw [← r1, ← r2, ← r3]
    exact this
  clear hs hs1 hs2 hs3 hs4 hs5
  change (Code.seq _ _).wp _ _ _ _
  refine wp_seq (W30 hN hs6 rfl (ev_fill (by omega)) ?_)
  rintro e c1 K5 a5 w5 ⟨rfl, fr, rfl⟩ hs7
  have hs8 : SRK E K5 ⟨FP n m (p + 1) 0, OI T F s.u s.v (s.row.set 0 (p + 1)) (List.replicate (m + 1) 1073741824) (List.replicate (m + 1) 0) (List.replicate (m + 1) false)⟩ a5 w5 := SRK.only hs7 [4, 6, 7, 8, 9, 10, 11, 12, 13, 14, 15, 16] ids30
  have hpA : 0 ≤ (p : Int) * 1048576 ∧ (p : Int) * 1048576 ≤ 16777216 := by omega
  obtain ⟨R, hs0⟩ := h.start (INF := 1073741824) (W0 := List.replicate (m + 1) 0) (by omega) (by omega) hp hnm ⟨by simp, fun j => by rw [rep_getD]; exact Nat.zero_le _⟩
  unfold phase at hf
  cases hin : inner (atE T F) m 1073741824 (s.row.set 0 (p + 1)) (m + 2) ⟨s.u, s.v, List.replicate (m + 1) 1073741824, List.replicate (m + 1) 0, List.replicate (m + 1) false, 0⟩ with
  | none => rw [hin] at hf; cases hf
  | some t1 =>
    rw [hin] at hf
    simp only at hf
    change (Code.seq _ _).wp _ _ _ _
    refine wp_seq (in_loop hN tb hpA R hs0 hin hs8 ?_)
    intro K6 ord D a6 w6 ht hr hs9
    obtain ⟨H, h0⟩ := ht.toAug R hr
    cases hau : aug (m + 2) (s.row.set 0 (p + 1)) t1.W t1.here with
    | none => rw [hau] at hf; cases hf
    | some rowF =>
      rw [hau] at hf
      injection hf with hf
      subst hf
      refine W30 hN hs9 rfl (ev_aug (by omega) H hau) ?_
      rintro e c1 K7 a7 w7 ⟨rfl, fr, rfl⟩ hs10
      exact hQ K7 a7 w7 (SRK.only hs10 [4, 6, 7, 8, 9, 10, 11, 12] [32, 48, 64, 624, 672, 720])
end Go.Abs.L38
