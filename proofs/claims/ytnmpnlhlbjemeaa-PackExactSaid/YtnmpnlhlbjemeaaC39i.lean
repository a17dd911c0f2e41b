import Derived.Test.YtnmpnlhlbjemeaaC39h
import Derived.Test.YtnmpnlhlbjemeaaN3
namespace Go.Abs.L39
open Go Go.Abs Go.Proofs
set_option linter.unusedVariables false
set_option maxRecDepth 20000
/-- put's state -/
def St (E : Env) (l : List Int) (room least : Int) (fr : List (Nat × AV)) (T : List (List Int)) (S : List Int) (a : Act) (w : World) : Prop :=
  ∃ K us gs, SRK E K ⟨fr, OP l room least T.length ⟨22, 1, .pure, lits us⟩ ((S ++ gs).map enc) ++ fam 3 1 (TT T)⟩ a w ∧ LitF w K 1 us (TT T)
theorem W33 {E : Env} (hN : E.N = 113) {K : KM} {fr : List (Nat × AV)} {V Tl : List (Nat × OBlk)} {a : Act} {w : World} {code : Code} {Q : Ex → Cfg → Prop} {Q' : Exit → Act → World → Prop} (hs : SRK E K ⟨fr, V ++ Tl⟩ a w) (htl : TailOK Tl) (hap : Apart V Tl) (hd : drawsOK code = true)
    (h : ev Try.prog tt 113 ks33 code ⟨fr, V⟩ Q) (hQ : ∀ e c' K' a' w', Q e c' → SRK E K' ⟨c'.fr, c'.O ++ Tl⟩ a' w' → Left K V w K' w' → Q' e.toExit a' w') : code.wp Try.prog Q' a w :=
  wp_ev tabOK tabOne mixed hN htl hap hd h hs hQ
theorem pinF {E : Env} (hp : ∀ b, memN b [2, 4, 6] = false → E.pin b = none) (j : Nat) : E.pin (fid j) = none := by
  refine hp _ ?_
  have h1 : Nat.beq (fid j) 2 = false := by
    cases h : Nat.beq (fid j) 2 with | false => rfl | true => have := beq_true h; unfold fid at this; omega
  have h2 : Nat.beq (fid j) 4 = false := by
    cases h : Nat.beq (fid j) 4 with | false => rfl | true => have := beq_true h; unfold fid at this; omega
  have h3 : Nat.beq (fid j) 6 = false := by
    cases h : Nat.beq (fid j) 6 with | false => rfl | true => have := beq_true h; unfold fid at this; omega
  simp only [memN, h1, h2, h3]
theorem set_app {α : Type} {S gs : List α} {k : Nat} {x : α} (h : k < S.length) : (S ++ gs).set k x = S.set k x ++ gs := by
  rw [List.set_append_left _ _ h]
theorem P7 {E : Env} (hN : E.N = 113) (hp : ∀ b, memN b [2, 4, 6] = false → E.pin b = none) {l : List Int} {room least : Int} {i k : Nat} {T : List (List Int)} {S : List Int} {t : List Int} {s z : Int} {a : Act} {w : World} {Q : Exit → Act → World → Prop}
    (hs : St E l room least (H33 l room least i T.length k) T S a w) (hS : S.length = T.length) (ht : T[k]? = some t) (hsk : S[k]? = some s) (hz : l[i]? = some z) (hl : l.length ≤ 100) (hTl : T.length ≤ 100) (htl : t.length ≤ 100) (hs0 : 0 ≤ s ∧ s ≤ 10000) (hz0 : 0 ≤ z ∧ z ≤ 10000)
    (hQ : ∀ a' w', St E l room least (H33 l room least i T.length k) (T.set k (t ++ [(i : Int)])) (S.set k (s + z)) a' w' → Q .normal a' w') : (r7 (body Try.f33)).wp Try.prog Q a w := by
  obtain ⟨K, us, gs, hs, hlf⟩ := hs
  have hk : k < T.length := (List.getElem?_eq_some_iff.1 ht).1
  have hkS : k < S.length := by omega
  have ht' : (TT T)[k]? = some (t.map enc) := by simp [TT, ht]
  have hkl : k < us.length := by have := hlf.len; simp [TT] at this; omega
  have hSV : ((S ++ gs).map enc)[k]? = some [I s] := by
    rw [List.getElem?_map, List.getElem?_append_left hkS, hsk]; rfl
  obtain ⟨K1, hs1, hl1, _⟩ := nest_open (x := 1840) (k := k) (o := 1808) hs hlf rfl rfl rfl (hp _ rfl) (by decide) (fun s => freshF_lk s rfl) (fun i y h hk => (freshO_olk (b := 1840) (O := OP l room least T.length ⟨22, 1, .pure, lits us⟩ ((S ++ gs).map enc)) rfl h).2 hk) ht'
  refine W33 (fr := H33 l room least i T.length k) (V := (1840, ⟨3, 1, .pure, t.map enc⟩) :: OP l room least T.length ⟨22, 1, .any, (lits us).set k [.osl 1840 1 (t.map enc).length]⟩ ((S ++ gs).map enc)) (Tl := delO (fid k) (fam 3 1 (TT T))) hN hs1 (del_ok fam_ok) (del_apart (fam_apart rfl)) rfl
    (ev7 l room least i T.length k (t.map enc).length (t.map enc) _ _ s z rfl hk hTl (by simp; omega) hz (by omega) (by rw [List.getElem?_set_self (by rw [lits_len]; exact hkl)]) (fun b => hasRow_open b us k hkl) hSV (by omega) (by omega)) ?_
  rintro e c' K2 a2 w2 ⟨rfl, rfl⟩ hs2 hl2
  rw [List.take_length, List.set_set] at hs2
  have hs3 := SRK.onlyT hs2 (del_apart (fam_apart rfl)) [0, 1, 2, 3, 4, 5, 6, 8, 9, 15, 16] [2, 1808, 4, 1824, 6, 640]
  obtain ⟨K4, v', hs4, hl4, _⟩ := nest_back (o := 1808) (y := 640) (k := k) (t' := t.map enc ++ [enc i]) (us := us) (T := TT T)
    (V := OP l room least T.length ⟨22, 1, .any, (lits us).set k [.osl 640 1 ((t.map enc).length + 1)]⟩ (((S ++ gs).map enc).set k [I (s + z)]) ++ [(640, ⟨3, 1, .pure, t.map enc ++ [enc i]⟩)]) hs3 (hl1.left hl2) rfl (by simp [TT]; omega) rfl (by simp) rfl (by decide) (fun j => pinF hp j) rfl rfl (by decide)
  rw [← TT_app] at hs4 hl4
  refine hQ a2 w2 ⟨K4, us.set k v', gs, ?_, hl4⟩
  rw [List.length_set, ← set_app hkS, show ((S ++ gs).set k (s + z)).map enc = ((S ++ gs).map enc).set k [I (s + z)] by simp [List.map_set, enc]]
  exact hs4
end Go.Abs.L39
