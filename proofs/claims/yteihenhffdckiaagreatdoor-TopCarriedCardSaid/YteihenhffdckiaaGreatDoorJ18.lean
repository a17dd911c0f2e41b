import Derived.Test.YteihenhffdckiaaGreatDoorJ17
section
namespace Go.Abs.Ltop
open Go Go.Abs Go.Proofs
set_option linter.unusedVariables false
set_option maxRecDepth 20000
/-! ### boxes -/
theorem c178 (n a b : Int) : Fn Tryz.prog 178 [I n, I a, I b] (B (inB n a b)) := mk178 rfl ⟨[], rfl, rfl, rfl⟩
def isCt (c : Ct) : Bool := inB c.unit 1 1073741824 && inB c.thick 1 10000
theorem c181 (c : Ct) : Fn Tryz.prog 181 [.agg (encC c)] (B (isCt c)) := mk181 rfl ⟨[], _, c178 c.unit 1 1073741824, _, c178 c.thick 1 10000, rfl, rfl, rfl⟩
theorem c180 (c : Ct) : Fn Tryz.prog 180 [.agg (encC c)] (B (!isCt c)) := mk180 rfl ⟨_, c181 c, rfl, rfl, rfl⟩
def thickE : List Ct → Int
  | [] => 0
  | c :: r => c.thick + thickE r
theorem thick_bd : ∀ {l : List Ct}, (∀ c ∈ l, isCt c = true) → 0 ≤ thickE l ∧ thickE l ≤ 10000 * l.length
  | [], _ => by simp [thickE]
  | c :: r, h => by
    have h1 := thick_bd (l := r) fun x hx => h x (by simp [hx])
    have h2 := h c (by simp)
    simp only [isCt, inB, Bool.and_eq_true, decide_eq_true_eq] at h2
    simp only [thickE, List.length_cons]
    omega
theorem thickE_app : ∀ (l m : List Ct), thickE (l ++ m) = thickE l + thickE m
  | [], m => by simp [thickE]
  | c :: r, m => by simp [thickE, thickE_app r m]; omega
theorem c182 (l : List Ct) (hl : l.length ≤ 100000) (h : ∀ c ∈ l, isCt c = true) : Fn Tryz.prog 182 [CS l] (I (thickE l)) := by
  refine mk182 rfl ⟨fun n c => ∃ i : Nat, i ≤ l.length ∧ n = l.length - i ∧ c = ⟨[(3, I (thickE (l.take i))), (6, CS l), (7, I l.length), (8, I i)], []⟩, ⟨_, _, Wk.keep [3, 6, 7, 8] [], 0, by omega, rfl, rfl⟩, ?_⟩
  rintro n c ⟨i, hi, rfl, rfl⟩
  refine ⟨fun hlt => ?_, fun hlt => ?_⟩
  · simp at hlt
    obtain ⟨a, ha, _, ht⟩ := drop_cons hlt
    have hb := thick_bd (l := l.take i) fun x hx => h x (List.mem_of_mem_take hx)
    have ha' := h a (List.mem_of_getElem? ha)
    simp only [isCt, inB, Bool.and_eq_true, decide_eq_true_eq] at ha'
    have hlen : (l.take i).length = i := by simp; omega
    rw [hlen] at hb
    refine ⟨⟨by omega, by omega⟩, encC a, by simp [ha], _, wrapTo (y := thickE (l.take (i + 1))) (by rw [ht, thickE_app]; simp [thickE]) (by omega) (by omega), _, wrap64 (by omega) (by omega), ?_⟩
    exact ⟨_, _, Wk.keep [3, 6, 7, 8] [], by omega, i + 1, by omega, rfl, rfl⟩
  · simp at hlt
    have : i = l.length := by omega
    subst this
    rw [List.take_length]
    exact ⟨rfl, rfl, rfl⟩
def faultE (b : Bx) : Int :=
  if inB b.id 1 1073741824 = false ∨ inB b.width 1 10000 = false ∨ inB b.room 1 b.width = false ∨ inB b.clim 0 7 = false ∨ (b.cont.any fun c => !isCt c) = true then 2
  else if 32 < b.cont.length then 8 else if b.room < thickE b.cont then 12 else 0
theorem c115 (b : Bx) (hl : b.cont.length ≤ 9223372036854775807) : Fn Tryz.prog 115 [.agg (encB b)] (I (faultE b)) := by
  refine mk115 rfl ⟨[], _, c178 b.id 1 1073741824, _, c178 b.width 1 10000, _, c178 b.room 1 b.width, _, c178 b.clim 0 7, _, c179z b.cont hl _ 180 (fun a _ => c180 a), ?_⟩
  have hcond : (!inB b.id 1 1073741824 || !inB b.width 1 10000 || !inB b.room 1 b.width || !inB b.clim 0 7 || b.cont.any fun c => !isCt c) = true ↔ (inB b.id 1 1073741824 = false ∨ inB b.width 1 10000 = false ∨ inB b.room 1 b.width = false ∨ inB b.clim 0 7 = false ∨ (b.cont.any fun c => !isCt c) = true) := by
    simp [Bool.or_eq_true, or_assoc]
  refine ⟨fun h1 => ?_, fun h1 => ⟨fun h2 => ?_, fun h2 => ?_⟩⟩
  · rw [faultE, if_pos (hcond.1 h1)]; exact ⟨rfl, rfl, rfl⟩
  · have h1' := fun h => no (p := False) (hcond.2 h) h1
    have h2 : (32 : Int) < b.cont.length := of_decide_eq_true h2
    rw [faultE, if_neg h1', if_pos (by omega)]; exact ⟨rfl, rfl, rfl⟩
  · have h1' := fun h => no (p := False) (hcond.2 h) h1
    have h2 : ¬ (32 : Int) < b.cont.length := of_decide_eq_false h2
    have hc : ∀ c ∈ b.cont, isCt c = true := by
      intro c hc
      cases hq : isCt c with
      | true => rfl
      | false => exact (h1' (.inr (.inr (.inr (.inr (List.any_eq_true.2 ⟨c, hc, by simp [hq]⟩)))))).elim
    refine ⟨_, c182 b.cont (by omega) hc, fun h3 => ?_, fun h3 => ?_⟩
    · have h3 : b.room < thickE b.cont := of_decide_eq_true h3
      rw [faultE, if_neg h1', if_neg (by omega), if_pos h3]; exact ⟨rfl, rfl, rfl⟩
    · have h3 : ¬ b.room < thickE b.cont := of_decide_eq_false h3
      rw [faultE, if_neg h1', if_neg (by omega), if_neg h3]; exact ⟨rfl, rfl, rfl⟩
/-! ### shelves -/
def badS (s : Sh) : Bool := !inB s.id 1 1073741824 || !inB s.rep 1 1073741824 || !inB s.len 1 10000 || !inB s.clim 0 7
def shGo (prev : Option Int) : List Sh → Int
  | [] => 0
  | s :: r => if badS s = true then 2 else if (match prev with | some p => decide (s.id ≤ p) | none => false) = true then 5 else shGo (some s.id) r
def shelvesE (l : List Sh) : Int := if 32 < l.length then 8 else shGo none l
theorem c80 (l : List Sh) (hl : l.length ≤ 9223372036854775807) : Fn Tryz.prog 80 [SS l] (I (shelvesE l)) := by
  refine mk80 rfl ⟨fun h => ?_, fun h => ?_⟩
  · have h : (32 : Int) < l.length := of_decide_eq_true h
    rw [shelvesE, if_pos (by omega)]; exact ⟨rfl, rfl, rfl⟩
  · have h : ¬ (32 : Int) < l.length := of_decide_eq_false h
    rw [shelvesE, if_neg (by omega)]
    refine ⟨fun n c => ∃ (i : Nat) (prev : Option Int), i ≤ l.length ∧ n = l.length - i ∧ c = ⟨[(0, SS l), (2, I 0), (8, SS l), (9, I l.length), (10, I i)], []⟩ ∧ (∀ j, i = j + 1 → ∃ s, l[j]? = some s ∧ prev = some s.id) ∧ (i = 0 → prev = none) ∧ shGo prev (l.drop i) = shGo none l,
      ⟨_, _, Wk.keep [0, 2, 8, 9, 10] [], 0, none, by omega, rfl, rfl, fun j h => (by omega), fun _ => rfl, by simp⟩, ?_⟩
    rintro n c ⟨i, prev, hi, rfl, rfl, hp1, hp0, hI⟩
    refine ⟨fun hlt => ?_, fun hlt => ?_⟩
    · simp at hlt
      obtain ⟨s, hs, hd, _⟩ := drop_cons hlt
      rw [hd] at hI
      simp only [shGo] at hI
      refine ⟨⟨by omega, by omega⟩, encS s, by simp [hs], [], _, c114 s.id 1 1073741824, _, c114 s.rep 1 1073741824, _, c114 s.len 1 10000, _, c114 s.clim 0 7, fun hb => ?_, fun hb => ?_⟩
      · have hb : badS s = true := hb
        rw [if_pos hb] at hI
        exact ⟨rfl, rfl, by rw [← hI]; rfl⟩
      · have hb : badS s = false := hb
        rw [if_neg (by rw [hb]; simp)] at hI
        cases i with
        | zero =>
          have := hp0 rfl
          subst this
          rw [if_neg (by simp)] at hI
          refine ⟨[(2, false)], rfl, fun h => (by cases h), fun _ => ?_⟩
          refine ⟨_, wrap64 (by omega) (by omega), ?_⟩
          exact ⟨_, _, Wk.keep [0, 2, 8, 9, 10] [], by omega, 1, some s.id, by omega, rfl, rfl, fun j h => ⟨s, by rw [show j = 0 by omega]; exact hs, rfl⟩, fun h => (by cases h), hI⟩
        | succ j =>
          obtain ⟨q, hq, rfl⟩ := hp1 j rfl
          refine ⟨[(2, true)], by simp, _, wrapTo (y := ((j : Nat) : Int)) (by omega) (by omega) (by omega), ⟨by omega, by omega⟩, encS q, by simp [hq], fun hle => ?_, fun hle => ?_⟩
          · have hle : decide (s.id ≤ q.id) = true := hle
            simp only at hI
            rw [if_pos hle] at hI
            exact ⟨rfl, rfl, by rw [← hI]; rfl⟩
          · have hle : decide (s.id ≤ q.id) = false := hle
            simp only at hI
            rw [if_neg (by rw [hle]; simp)] at hI
            refine ⟨_, wrap64 (by omega) (by omega), ?_⟩
            exact ⟨_, _, Wk.keep [0, 2, 8, 9, 10] [], by omega, j + 1 + 1, some s.id, by omega, rfl, rfl, fun k h => ⟨s, by rw [show k = j + 1 by omega]; exact hs, rfl⟩, fun h => (by cases h), hI⟩
    · simp at hlt
      have : i = l.length := by omega
      subst this
      simp [shGo] at hI
      exact ⟨rfl, rfl, by rw [← hI]; rfl⟩
end Go.Abs.Ltop
end
section
namespace Go.Abs.Ltop
open Go Go.Abs Go.Proofs
set_option linter.unusedVariables false
set_option maxRecDepth 20000
/-! ### lists of boxes -/
def seenGo (seen : List Int) : List Ct → Option (List Int)
  | [] => some seen
  | c :: r => if c.unit ∈ seen then none else seenGo (seen ++ [c.unit]) r
def boxGo (prev : Option Int) (seen : List Int) : List Bx → Int
  | [] => 0
  | b :: r => if faultE b ≠ 0 then faultE b else if (match prev with | some p => decide (b.id ≤ p) | none => false) = true then 5 else
      match seenGo seen b.cont with
      | none => 6
      | some s => boxGo (some b.id) s r
def boxE (l : List Bx) : Int := if 128 < l.length then 8 else boxGo none [] l
abbrev SE (seen : List Int) : List (List AV) := seen.map fun u => [I u, B true]
theorem mget_SE (u : Int) : ∀ seen : List Int, mget (I u) (SE seen) = if u ∈ seen then some [B true] else none
  | [] => rfl
  | x :: r => by
    have ih := mget_SE u r
    simp only [List.map_cons, mget, keyEq]
    by_cases h : u = x
    · subst h; simp
    · have hb : (u == x) = false := by simpa using h
      simp only [hb, List.mem_cons, h, false_or]
      exact ih
theorem mput_SE (u : Int) : ∀ seen : List Int, u ∉ seen → mput (I u) [B true] (SE seen) = SE (seen ++ [u])
  | [], _ => rfl
  | x :: r, h => by
    simp only [List.mem_cons, not_or] at h
    have ih := mput_SE u r h.2
    have hb : (u == x) = false := by simpa using h.1
    simp only [List.map_cons, mput, keyEq, hb, List.cons_append]
    exact congrArg _ ih
abbrev OM (seen : List Int) : List (Nat × OBlk) := [(192, ⟨232, 2, .map false false, [], SE seen⟩)]
theorem c81 (l : List Bx) (hl : l.length ≤ 9223372036854775807) (hc : ∀ b ∈ l, b.cont.length ≤ 100000) : Fn Tryz.prog 81 [BS l] (I (boxE l)) := by
  refine mk81 rfl ⟨fun h => ?_, fun h => ?_⟩
  · have h : (128 : Int) < l.length := of_decide_eq_true h
    rw [boxE, if_pos (by omega)]; exact ⟨rfl, rfl, rfl⟩
  · have h : ¬ (128 : Int) < l.length := of_decide_eq_false h
    rw [boxE, if_neg (by omega)]
    refine ⟨fun n c => ∃ (i : Nat) (prev : Option Int) (seen : List Int), i ≤ l.length ∧ n = l.length - i ∧ c = ⟨[(0, BS l), (2, I 0), (3, .omap 192), (13, BS l), (14, I l.length), (15, I i)], OM seen⟩ ∧ (∀ j, i = j + 1 → ∃ s, l[j]? = some s ∧ prev = some s.id) ∧ (i = 0 → prev = none) ∧ boxGo prev seen (l.drop i) = boxGo none [] l,
      ⟨_, _, Wk.keep [0, 2, 3, 13, 14, 15] [192], 0, none, [], by omega, rfl, rfl, fun j h => (by omega), fun _ => rfl, by simp⟩, ?_⟩
    rintro n c ⟨i, prev, seen, hi, rfl, rfl, hp1, hp0, hI⟩
    refine ⟨fun hlt => ?_, fun hlt => ?_⟩
    · simp at hlt
      obtain ⟨b, hb, hd, _⟩ := drop_cons hlt
      have hcb := hc b (List.mem_of_getElem? hb)
      rw [hd] at hI
      simp only [boxGo] at hI
      refine ⟨⟨by omega, by omega⟩, encB b, by simp [hb], _, c115 b (by omega), fun hf => ?_, fun hf => ?_⟩
      · have hf : faultE b ≠ 0 := by simpa using hf
        rw [if_pos hf] at hI
        rw [← hI]
        exact ⟨rfl, rfl, rfl⟩
      · have hf : faultE b = 0 := by simpa using hf
        rw [if_neg (by simp [hf])] at hI
        cases i with
        | zero =>
          have := hp0 rfl
          subst this
          rw [if_neg (by simp)] at hI
          refine ⟨[(2, false)], rfl, fun h => (by cases h), fun _ => ?_⟩
          refine ⟨fun n c => ∃ (j : Nat) (sn : List Int), j ≤ b.cont.length ∧ n = b.cont.length - j ∧ c = ⟨[(0, BS l), (2, I 0), (3, .omap 192), (13, BS l), (14, I l.length), (15, I ((0 : Nat) : Int)), (39, CS b.cont), (40, I b.cont.length), (41, I j)], OM sn⟩ ∧ seenGo sn (b.cont.drop j) = seenGo seen b.cont,
            ⟨_, _, Wk.keep [0, 2, 3, 13, 14, 15, 39, 40, 41] [192], 0, seen, by omega, rfl, rfl, by simp⟩, ?_⟩
          rintro n c ⟨j, sn, hj, rfl, rfl, hJ⟩
          refine ⟨fun hlt => ?_, fun hlt => ?_⟩
          · simp at hlt
            obtain ⟨x, hx, hdx, _⟩ := drop_cons hlt
            rw [hdx] at hJ
            simp only [seenGo] at hJ
            have hm := mget_SE x.unit sn
            refine ⟨⟨by omega, by omega⟩, encC x, by simp [hx], ?_⟩
            by_cases hin : x.unit ∈ sn
            · rw [if_pos hin] at hm hJ
              rw [← hJ] at hI
              exact ⟨true, _, hm, fun _ => ⟨rfl, rfl, by rw [← hI]; rfl⟩, fun h => (by cases h)⟩
            · rw [if_neg hin] at hm hJ
              refine ⟨false, hm, fun h => (by cases h), fun _ => ?_⟩
              refine ⟨_, wrap64 (by omega) (by omega), ?_⟩
              refine ⟨_, _, Wk.keep [0, 2, 3, 13, 14, 15, 39, 40, 41] [192], by omega, j + 1, sn ++ [x.unit], by omega, rfl, ?_, hJ⟩
              show _ = (⟨_, [(192, ⟨232, 2, .map false false, [], SE (sn ++ [x.unit])⟩)]⟩ : Cfg); rw [← mput_SE x.unit sn hin]; rfl
          · simp at hlt
            have : j = b.cont.length := by omega
            subst this
            simp only [List.drop_length, seenGo] at hJ
            rw [← hJ] at hI
            refine ⟨_, wrap64 (by omega) (by omega), ?_⟩
            exact ⟨_, _, Wk.keep [0, 2, 3, 13, 14, 15] [192], by omega, 1, some b.id, sn, by omega, rfl, rfl, fun k h => ⟨b, by rw [show k = 0 by omega]; exact hb, rfl⟩, fun h => (by cases h), hI⟩
        | succ i =>
          obtain ⟨q, hq, rfl⟩ := hp1 i rfl
          refine ⟨[(2, true)], by simp, _, wrapTo (y := ((i : Nat) : Int)) (by omega) (by omega) (by omega), ⟨by omega, by omega⟩, encB q, by simp [hq], fun hle => ?_, fun hle => ?_⟩
          · have hle : decide (b.id ≤ q.id) = true := hle
            simp only at hI
            rw [if_pos hle] at hI
            exact ⟨rfl, rfl, by rw [← hI]; rfl⟩
          · have hle : decide (b.id ≤ q.id) = false := hle
            simp only at hI
            rw [if_neg (by rw [hle]; simp)] at hI
            refine ⟨fun n c => ∃ (j : Nat) (sn : List Int), j ≤ b.cont.length ∧ n = b.cont.length - j ∧ c = ⟨[(0, BS l), (2, I 0), (3, .omap 192), (13, BS l), (14, I l.length), (15, I ((i + 1 : Nat) : Int)), (39, CS b.cont), (40, I b.cont.length), (41, I j)], OM sn⟩ ∧ seenGo sn (b.cont.drop j) = seenGo seen b.cont,
              ⟨_, _, Wk.keep [0, 2, 3, 13, 14, 15, 39, 40, 41] [192], 0, seen, by omega, rfl, rfl, by simp⟩, ?_⟩
            rintro n c ⟨j, sn, hj, rfl, rfl, hJ⟩
            refine ⟨fun hlt => ?_, fun hlt => ?_⟩
            · simp at hlt
              obtain ⟨x, hx, hdx, _⟩ := drop_cons hlt
              rw [hdx] at hJ
              simp only [seenGo] at hJ
              have hm := mget_SE x.unit sn
              refine ⟨⟨by omega, by omega⟩, encC x, by simp [hx], ?_⟩
              by_cases hin : x.unit ∈ sn
              · rw [if_pos hin] at hm hJ
                rw [← hJ] at hI
                exact ⟨true, _, hm, fun _ => ⟨rfl, rfl, by rw [← hI]; rfl⟩, fun h => (by cases h)⟩
              · rw [if_neg hin] at hm hJ
                refine ⟨false, hm, fun h => (by cases h), fun _ => ?_⟩
                refine ⟨_, wrap64 (by omega) (by omega), ?_⟩
                refine ⟨_, _, Wk.keep [0, 2, 3, 13, 14, 15, 39, 40, 41] [192], by omega, j + 1, sn ++ [x.unit], by omega, rfl, ?_, hJ⟩
                show _ = (⟨_, [(192, ⟨232, 2, .map false false, [], SE (sn ++ [x.unit])⟩)]⟩ : Cfg); rw [← mput_SE x.unit sn hin]; rfl
            · simp at hlt
              have : j = b.cont.length := by omega
              subst this
              simp only [List.drop_length, seenGo] at hJ
              rw [← hJ] at hI
              refine ⟨_, wrap64 (by omega) (by omega), ?_⟩
              exact ⟨_, _, Wk.keep [0, 2, 3, 13, 14, 15] [192], by omega, i + 1 + 1, some b.id, sn, by omega, rfl, rfl, fun k h => ⟨b, by rw [show k = i + 1 by omega]; exact hb, rfl⟩, fun h => (by cases h), hI⟩
    · simp at hlt
      have : i = l.length := by omega
      subst this
      simp [boxGo] at hI
      exact ⟨rfl, rfl, by rw [← hI]; rfl⟩
end Go.Abs.Ltop
end
section
namespace Go.Abs.Ltop
open Go Go.Abs Go.Proofs
set_option linter.unusedVariables false
set_option maxRecDepth 20000
/-! ### a house -/
abbrev HS (ls : List Sh) (bs : List Bx) : AV := .agg [SS ls, BS bs]
def shI (ls : List Sh) (n : Int) : Int := idxF (fun s : Sh => s.id == n) 0 ls
def bxI (bs : List Bx) (n : Int) : Int := idxF (fun b : Bx => b.id == n) 0 bs
theorem c85 (s : Sh) (n : Int) : Fn Tryz.prog 85 [.agg (encS s), .rptr [I n] 0] (B (s.id == n)) := mk85 rfl ⟨rfl, rfl, rfl⟩
theorem c83 (s : Bx) (n : Int) : Fn Tryz.prog 83 [.agg (encB s), .rptr [I n] 0] (B (s.id == n)) := mk83 rfl ⟨rfl, rfl, rfl⟩
theorem c47 (ls : List Sh) (bs : List Bx) (n : Int) (hl : ls.length ≤ 9223372036854775807) : Fn Tryz.prog 47 [HS ls bs, I n] (I (shI ls n)) :=
  mk47 rfl ⟨_, c84a ls hl _ 85 [I n] (fun a _ => c85 a n), rfl, rfl, rfl⟩
theorem c45 (ls : List Sh) (bs : List Bx) (n : Int) (hl : bs.length ≤ 9223372036854775807) : Fn Tryz.prog 45 [HS ls bs, I n] (I (bxI bs n)) :=
  mk45 rfl ⟨_, c82a bs hl _ 83 [I n] (fun a _ => c83 a n), rfl, rfl, rfl⟩
def sizeGo (L : Int) : Nat → Int → Bool
  | 0, _ => true
  | n + 1, s => if 4096 < s * L then false else sizeGo L n (s * L)
def openE (ls : List Sh) (bs : List Bx) : Int := if shelvesE ls ≠ 0 ∨ boxE bs ≠ 0 then 1 else if sizeGo ls.length bs.length 1 = false then 8 else 0
def openH (ls : List Sh) (bs : List Bx) : AV := if openE ls bs = 0 then HS ls bs else .agg [.nilsl, .nilsl]
theorem shelves_len {ls : List Sh} (h : shelvesE ls = 0) : ls.length ≤ 32 := by
  unfold shelvesE at h
  split at h
  · cases h
  · omega
theorem box_len {bs : List Bx} (h : boxE bs = 0) : bs.length ≤ 128 := by
  unfold boxE at h
  split at h
  · cases h
  · omega
theorem c41 (ls : List Sh) (bs : List Bx) (hl : ls.length ≤ 9223372036854775807) (hb : bs.length ≤ 9223372036854775807) (hc : ∀ b ∈ bs, b.cont.length ≤ 100000) : Fn Tryz.prog 41 [.rsl 4 ls.length (ls.map encS), .rsl 5 bs.length (bs.map encB)] (.tup [openH ls bs, I (openE ls bs)]) := by
  have hcond : ∀ q : Bool, q = (shelvesE ls != 0 || boxE bs != 0) → (q = true ↔ (shelvesE ls ≠ 0 ∨ boxE bs ≠ 0)) := by
    rintro q rfl
    simp
  have main : (shelvesE ls ≠ 0 ∨ boxE bs ≠ 0) → openE ls bs = 1 ∧ openH ls bs = .agg [.nilsl, .nilsl] := by
    intro h
    have e : openE ls bs = 1 := by unfold openE; rw [if_pos h]
    exact ⟨e, by unfold openH; rw [e]; rfl⟩
  refine mk41 rfl ?_
  by_cases hs : shelvesE ls = 0
  · refine ⟨[(3, false)], _, c80 ls hl, by simp [hs], _, c81 bs hb hc, fun h => ?_, fun h => ?_⟩
    · have h : boxE bs ≠ 0 := by simpa using h
      obtain ⟨e1, e2⟩ := main (.inr h)
      rw [e1, e2]
      exact ⟨_, _, rfl, ⟨rfl, rfl⟩, rfl, rfl, trivial⟩
    · have h : boxE bs = 0 := by simpa using h
      have hL := shelves_len hs
      have hB := box_len h
      have e0 : openE ls bs = if sizeGo ls.length bs.length 1 = false then 8 else 0 := by unfold openE; rw [if_neg (by simp [hs, h])]
      refine ⟨fun n c => ∃ (i : Nat) (s : Int), i ≤ bs.length ∧ n = bs.length - i ∧ c = ⟨[(0, SS ls), (1, BS bs), (4, .ovar 64 0), (5, I 0), (6, I s), (17, I bs.length), (18, I i)], [(64, ⟨89, 2, .any, [[.nilsl, .nilsl]], []⟩)]⟩ ∧ 0 ≤ s ∧ s ≤ 4096 ∧ sizeGo ls.length (bs.length - i) s = sizeGo ls.length bs.length 1,
        ⟨_, _, Wk.keep [0, 1, 4, 5, 6, 17, 18] [64], 0, 1, by omega, rfl, rfl, by omega, by omega, by simp⟩, ?_⟩
      rintro n c ⟨i, s, hi, rfl, rfl, hs0, hs1, hI⟩
      refine ⟨fun hlt => ?_, fun hlt => ?_⟩
      · simp at hlt
        have hmul : 0 ≤ s * ls.length ∧ s * ls.length ≤ 4096 * 32 := by
          refine ⟨Int.mul_nonneg hs0 (by omega), ?_⟩
          exact Int.mul_le_mul hs1 (by omega) (by omega) (by omega)
        rw [show bs.length - i = (bs.length - (i + 1)) + 1 by omega, sizeGo] at hI
        refine ⟨_, wrap64 (by omega) (by omega), fun hg => ?_, fun hg => ?_⟩
        · have hg : 4096 < s * ls.length := of_decide_eq_true hg
          rw [if_pos hg] at hI
          have e : openE ls bs = 8 := by rw [e0, ← hI]; rfl
          have e2 : openH ls bs = .agg [.nilsl, .nilsl] := by unfold openH; rw [e]; rfl
          rw [e, e2]
          exact ⟨_, _, rfl, ⟨rfl, rfl⟩, rfl, rfl, trivial⟩
        · have hg : ¬ 4096 < s * ls.length := of_decide_eq_false hg
          rw [if_neg hg] at hI
          refine ⟨_, wrap64 (by omega) (by omega), ?_⟩
          exact ⟨_, _, Wk.keep [0, 1, 4, 5, 6, 17, 18] [64], by omega, i + 1, _, by omega, rfl, rfl, by omega, by omega, hI⟩
      · simp at hlt
        have : i = bs.length := by omega
        subst this
        rw [Nat.sub_self, sizeGo] at hI
        have e : openE ls bs = 0 := by rw [e0, ← hI]; rfl
        have e2 : openH ls bs = HS ls bs := by unfold openH; rw [if_pos e]
        rw [e, e2]
        exact ⟨_, _, rfl, ⟨rfl, rfl⟩, rfl, rfl, trivial⟩
  · refine ⟨[(3, true)], _, c80 ls hl, by simp [hs], fun _ => ?_, fun h => (by cases h)⟩
    obtain ⟨e1, e2⟩ := main (.inl hs)
    rw [e1, e2]
    exact ⟨_, _, rfl, ⟨rfl, rfl⟩, rfl, rfl, trivial⟩
end Go.Abs.Ltop
end
section
namespace Go.Abs.Ltop
open Go Go.Abs Go.Proofs
set_option linter.unusedVariables false
set_option maxRecDepth 20000
/-! ### which states are possible -/
def chkGo (ls : List Sh) : List Int → List Bx → List Int → Bool
  | a :: at', b :: bs, sums =>
    match ls[(shI ls a).toNat]? with
    | some s => if sums.getD (shI ls a).toNat 0 + b.width > s.len ∨ b.clim ≠ s.clim then false else chkGo ls at' bs (sums.set (shI ls a).toNat (sums.getD (shI ls a).toNat 0 + b.width))
    | none => false
  | _, _, _ => true
def chkE (ls : List Sh) (bs : List Bx) (at' : List Int) : Int :=
  if at'.length ≠ bs.length then 10
  else if (at'.any fun a => decide (shI ls a < 0)) = true then 7
  else if chkGo ls at' bs (List.replicate ls.length 0) = false then 11 else 0
theorem shI_lt {ls : List Sh} {a : Int} (h : ¬ shI ls a < 0) : ∃ s, ls[(shI ls a).toNat]? = some s ∧ s.id = a ∧ (shI ls a).toNat < ls.length ∧ ((shI ls a).toNat : Int) = shI ls a := by
  unfold shI at h ⊢
  rcases idxF_spec (fun s : Sh => s.id == a) ls 0 with ⟨h1, _⟩ | ⟨i, s, h1, h2, h3, _⟩
  · omega
  · rw [h3]
    simp only [Nat.zero_add, Int.toNat_natCast]
    exact ⟨s, h1, by simpa using h2, (List.getElem?_eq_some_iff.1 h1).1, trivial⟩
abbrev OC (ls : List Sh) (bs : List Bx) (sums : List Int) : List (Nat × OBlk) := [(32, ⟨89, 2, .any, [[SS ls, BS bs]], []⟩), (496, ⟨3, 1, .pure, sums.map fun n => [I n], []⟩)]
theorem c42 (ls : List Sh) (bs : List Bx) (at' : List Int) (hl : ls.length ≤ 1000) (hb : bs.length ≤ 1000) (hw : ∀ b ∈ bs, 0 ≤ b.width ∧ b.width ≤ 10000) : Fn Tryz.prog 42 [HS ls bs, NS at'] (I (chkE ls bs at')) := by
  refine mk42 rfl ⟨fun h => ?_, fun h => ?_⟩
  · have h : at'.length ≠ bs.length := by simp at h; omega
    rw [chkE, if_pos h]; exact ⟨rfl, rfl, rfl⟩
  · have h : at'.length = bs.length := by simp at h; omega
    rw [chkE, if_neg (by omega)]
    refine ⟨fun n c => ∃ i : Nat, i ≤ at'.length ∧ n = at'.length - i ∧ c = ⟨[(1, NS at'), (2, .ovar 32 0), (4, I 0), (17, NS at'), (18, I at'.length), (19, I i)], [(32, ⟨89, 2, .any, [[SS ls, BS bs]], []⟩)]⟩ ∧ ∀ a ∈ at'.take i, ¬ shI ls a < 0,
      ⟨_, _, Wk.keep [1, 2, 4, 17, 18, 19] [32], 0, by omega, rfl, rfl, by simp⟩, ?_⟩
    rintro n c ⟨i, hi, rfl, rfl, hI⟩
    refine ⟨fun hlt => ?_, fun hlt => ?_⟩
    · simp at hlt
      obtain ⟨a, ha, hd, ht⟩ := drop_cons hlt
      refine ⟨⟨by omega, by omega⟩, [I a], by simp [ha], _, c47 ls bs a (by omega), fun hn => ?_, fun hn => ?_⟩
      · have hn : decide (shI ls a < 0) = true := hn
        rw [if_pos (List.any_eq_true.2 ⟨a, List.mem_of_getElem? ha, hn⟩)]
        exact ⟨rfl, rfl, rfl⟩
      · have hn : ¬ shI ls a < 0 := of_decide_eq_false hn
        refine ⟨_, wrap64 (by omega) (by omega), ?_⟩
        refine ⟨_, _, Wk.keep [1, 2, 4, 17, 18, 19] [32], by omega, i + 1, by omega, rfl, rfl, ?_⟩
        rw [ht]
        intro x hx
        rcases List.mem_append.1 hx with hx | hx
        · exact hI x hx
        · simp at hx; rw [hx]; exact hn
    · simp at hlt
      have : i = at'.length := by omega
      subst this
      rw [List.take_length] at hI
      rw [if_neg (by
        intro hh
        obtain ⟨a, ha, hq⟩ := List.any_eq_true.1 hh
        exact hI a ha (of_decide_eq_true hq))]
      refine ⟨⟨rfl, by omega, by show (8 : Int) * _ ≤ _; omega, by omega⟩, ?_⟩
      refine ⟨fun n c => ∃ (j : Nat) (sums : List Int), j ≤ at'.length ∧ n = at'.length - j ∧ c = ⟨[(2, .ovar 32 0), (4, I 0), (7, .osl 496 1 ls.length), (32, NS at'), (33, I at'.length), (34, I j)], OC ls bs sums⟩ ∧ sums.length = ls.length ∧ (∀ x ∈ sums, 0 ≤ x ∧ x ≤ 10000 * j) ∧ chkGo ls (at'.drop j) (bs.drop j) sums = chkGo ls at' bs (List.replicate ls.length 0),
        ⟨_, _, Wk.keep [2, 4, 7, 32, 33, 34] [32, 496], 0, List.replicate ls.length 0, by omega, rfl, ?_, by simp, fun x hx => (by simp [List.mem_replicate] at hx; omega), by simp⟩, ?_⟩
      · show _ = (⟨[(2, .ovar 32 0), (4, I 0), (7, .osl 496 1 ls.length), (32, NS at'), (33, I at'.length), (34, I ((0 : Nat) : Int))], [(32, ⟨89, 2, .any, [[SS ls, BS bs]], []⟩), (496, ⟨3, 1, .pure, (List.replicate ls.length (0 : Int)).map fun n => [I n], []⟩)]⟩ : Cfg)
        rw [List.map_replicate]; rfl
      rintro n c ⟨j, sums, hj, rfl, rfl, hsl, hsb, hJ⟩
      refine ⟨fun hlt => ?_, fun hlt => ?_⟩
      · simp at hlt
        obtain ⟨a, ha, hd, _⟩ := drop_cons hlt
        obtain ⟨b, hbb, hdb, _⟩ := drop_cons (l := bs) (i := j) (by omega)
        have hna := hI a (List.mem_of_getElem? ha)
        obtain ⟨s, hs, hsid, hslt, hsn⟩ := shI_lt hna
        have hwb := hw b (List.mem_of_getElem? hbb)
        rw [hd, hdb] at hJ
        simp only [chkGo, hs] at hJ
        generalize hk : (shI ls a).toNat = k at hs hslt hsn hJ
        have hx : sums[k]? = some (sums.getD k 0) := by
          rw [List.getD_eq_getElem?_getD, List.getElem?_eq_getElem (by omega)]; rfl
        generalize sums.getD k 0 = v at hx hJ
        have hxb := hsb _ (List.mem_of_getElem? hx)
        have hrow : (sums.map fun n => [I n])[(shI ls a).toNat]? = some [I v] := by rw [hk, List.getElem?_map, hx]; rfl
        refine ⟨⟨by omega, by omega⟩, [I a], by simp [ha], _, c47 ls bs a (by omega), ?_⟩
        refine ⟨⟨by omega, by omega⟩, [I v], hrow, ⟨by omega, by omega⟩, encB b, by simp [hbb], _, wrap64 (by omega) (by omega), ⟨by omega, by omega⟩, [I v], hrow, ?_⟩
        have hrow2 : ((sums.map fun n => [I n]).set (shI ls a).toNat [I (v + b.width)])[(shI ls a).toNat]? = some [I (v + b.width)] := by
          rw [hk, List.getElem?_set_self (by rw [List.length_map]; omega)]
        have hsrow : (ls.map encS)[(shI ls a).toNat]? = some (encS s) := by rw [hk, List.getElem?_map, hs]; rfl
        have hset : (sums.map fun n => [I n]).set (shI ls a).toNat [I (v + b.width)] = (sums.set k (v + b.width)).map fun n => [I n] := by rw [hk, List.map_set]
        by_cases hgt : v + b.width > s.len
        · rw [if_pos (.inl hgt)] at hJ
          refine ⟨[(11, true)], ⟨by omega, by omega⟩, [I (v + b.width)], hrow2, ⟨by omega, by omega⟩, encS s, hsrow, decide_eq_true hgt, fun _ => ?_, fun h => (by cases h)⟩
          rw [if_pos hJ.symm]
          exact ⟨rfl, rfl, rfl⟩
        · refine ⟨[(11, false)], ⟨by omega, by omega⟩, [I (v + b.width)], hrow2, ⟨by omega, by omega⟩, encS s, hsrow, decide_eq_false hgt, ⟨by omega, by omega⟩, encB b, by simp [hbb], ⟨by omega, by omega⟩, encS s, hsrow, fun hc => ?_, fun hc => ?_⟩
          · have hc : b.clim ≠ s.clim := by simpa using hc
            rw [if_pos (.inr hc)] at hJ
            rw [if_pos hJ.symm]
            exact ⟨rfl, rfl, rfl⟩
          · have hc : b.clim = s.clim := by simpa using hc
            rw [if_neg (by simp [hc, hgt])] at hJ
            refine ⟨_, wrap64 (by omega) (by omega), ?_⟩
            refine ⟨_, _, Wk.keep [2, 4, 7, 32, 33, 34] [32, 496], by omega, j + 1, sums.set k (v + b.width), by omega, rfl, ?_, by simp [hsl], ?_, hJ⟩
            · show _ = (⟨[(2, .ovar 32 0), (4, I 0), (7, .osl 496 1 ls.length), (32, NS at'), (33, I at'.length), (34, I ((j + 1 : Nat) : Int))], [(32, ⟨89, 2, .any, [[SS ls, BS bs]], []⟩), (496, ⟨3, 1, .pure, (sums.set k (v + b.width)).map fun n => [I n], []⟩)]⟩ : Cfg)
              rw [← hset]; rfl
            · intro x hx'
              rcases List.mem_or_eq_of_mem_set hx' with q | q
              · have := hsb x q; omega
              · omega
      · simp at hlt
        have : j = at'.length := by omega
        subst this
        rw [List.drop_length, chkGo] at hJ
        · rw [← hJ]
          exact ⟨rfl, rfl, rfl⟩
        · rintro a r b q h; cases h
end Go.Abs.Ltop
end
section
namespace Go.Abs.Ltop
open Go Go.Abs Go.Proofs
set_option linter.unusedVariables false
set_option maxRecDepth 20000
abbrev fNS (l : List Int) : AV := .fsl true 3 1 l.length (l.map fun n => [I n])
theorem c10N (l : List Int) (hl : l.length ≤ 100000) : Fn Tryz.prog 10 [NS l] (fNS l) := by
  have := c10 (l.map fun n => [I n]) (by simpa using hl) (sc1 l)
  rw [List.length_map] at this
  exact this
theorem c44 (at' : List Int) (hl : at'.length ≤ 100000) (i : Nat) (hi : i < at'.length) (to : Int) : Fn Tryz.prog 44 [NS at', I i, I to] (fNS (at'.set i to)) := by
  refine mk44 rfl ⟨_, c10N at' hl, false, ⟨by omega, by omega⟩, [I at'[i]], by simp, ?_⟩
  refine ⟨rfl, _, rfl, rfl, ?_, .inl ⟨rfl, ?_⟩⟩
  · simp
  · show AV.fsl true 3 1 _ _ = AV.fsl true 3 1 _ (((at'.map fun n => [I n]).set ((i : Int)).toNat [I to]))
    rw [Int.toNat_natCast, List.map_set, List.length_set]
theorem c23 (ls : List Sh) (bs : List Bx) (at' : List Int) (hl : ls.length ≤ 1000) (hb : bs.length ≤ 1000) (hc : ∀ b ∈ bs, b.cont.length ≤ 100000) (hw : openE ls bs = 0 → ∀ b ∈ bs, 0 ≤ b.width ∧ b.width ≤ 10000) :
    Fn Tryz.prog 23 [SS ls, BS bs, NS at'] (I (if openE ls bs ≠ 0 then openE ls bs else chkE ls bs at')) := by
  by_cases h : openE ls bs = 0
  · have e : openH ls bs = HS ls bs := by unfold openH; rw [if_pos h]
    have c := c41 ls bs (by omega) (by omega) hc
    rw [e, h] at c
    rw [if_neg (by simp [h])]
    exact mk23 rfl ⟨_, c, fun h => (by cases h), fun _ => ⟨_, c42 ls bs at' hl hb (hw h), rfl, rfl, rfl⟩⟩
  · have e : openH ls bs = .agg [.nilsl, .nilsl] := by unfold openH; rw [if_neg h]
    have c := c41 ls bs (by omega) (by omega) hc
    rw [e] at c
    rw [if_pos h]
    refine mk23 rfl ⟨_, c, fun _ => ⟨rfl, rfl, rfl⟩, fun h' => ?_⟩
    have : openE ls bs = 0 := by simpa using h'
    exact absurd this h
/-! ### the steps from a state -/
def stepsIn (ls : List Sh) (bs : List Bx) (at' : List Int) (i : Nat) (b : Bx) : List Sh → List Cy
  | [] => []
  | s :: r => (if s.id ≠ at'.getD i 0 ∧ chkE ls bs (at'.set i s.id) = 0 then [⟨b.id, at'.getD i 0, s.id⟩] else []) ++ stepsIn ls bs at' i b r
def stepsGo (ls : List Sh) (bs : List Bx) (at' : List Int) (i : Nat) : List Bx → List Cy
  | [] => []
  | b :: r => stepsIn ls bs at' i b ls ++ stepsGo ls bs at' (i + 1) r
def stepsE (ls : List Sh) (bs : List Bx) (at' : List Int) : List Cy := stepsGo ls bs at' 0 bs
end Go.Abs.Ltop
end
section
namespace Go.Abs.Ltop
open Go Go.Abs Go.Proofs
set_option linter.unusedVariables false
set_option maxRecDepth 20000
abbrev fYS (l : List Cy) : AV := .fsl true 62 3 l.length (l.map encY)
abbrev OS1 (ls : List Sh) (bs : List Bx) (acc : List Cy) : List (Nat × OBlk) := [(32, ⟨89, 2, .any, [[SS ls, BS bs]], []⟩), (864, ⟨62, 3, .pure, acc.map encY, []⟩)]
abbrev OS2 (ls : List Sh) (bs : List Bx) (b : Bx) (acc : List Cy) : List (Nat × OBlk) := [(32, ⟨89, 2, .any, [[SS ls, BS bs]], []⟩), (112, ⟨56, 5, .any, [encB b], []⟩), (864, ⟨62, 3, .pure, acc.map encY, []⟩)]
theorem c43 (ls : List Sh) (bs : List Bx) (at' : List Int) (hl : ls.length ≤ 1000) (hb : bs.length ≤ 1000) (hw : ∀ b ∈ bs, 0 ≤ b.width ∧ b.width ≤ 10000) (ha : at'.length = bs.length) : Fn Tryz.prog 43 [HS ls bs, NS at'] (fYS (stepsE ls bs at')) := by
  refine mkG43 [] [] rfl ?_
  refine ⟨fun n c => ∃ (i : Nat) (acc : List Cy), i ≤ bs.length ∧ n = bs.length - i ∧ acc.length ≤ 1000 * i ∧ c = ⟨[(1, NS at'), (2, .ovar 32 0), (4, .nilsl), (5, .osl 864 3 acc.length), (11, BS bs), (12, I bs.length), (13, I i)], OS1 ls bs acc⟩ ∧ acc ++ stepsGo ls bs at' i (bs.drop i) = stepsE ls bs at',
    ⟨_, _, (Wk.nilKeep 5 864 ⟨62, 3, .pure, [], []⟩ [1, 2, 4, 5, 11, 12, 13] [32, 864] rfl rfl rfl).p, 0, [], by omega, rfl, by simp, rfl, by simp [stepsE]⟩, ?_⟩
  rintro n c ⟨i, acc, hi, rfl, hacc, rfl, hI⟩
  refine ⟨fun hlt => ?_, fun hlt => ?_⟩
  · simp at hlt
    obtain ⟨b, hbb, hd, _⟩ := drop_cons hlt
    rw [hd] at hI
    simp only [stepsGo] at hI
    refine ⟨⟨by omega, by omega⟩, encB b, by simp [hbb], ?_⟩
    refine ⟨fun n c => ∃ (k : Nat) (acc' : List Cy), k ≤ ls.length ∧ n = ls.length - k ∧ acc'.length ≤ 1000 * i + k ∧ c = ⟨[(1, NS at'), (2, .ovar 32 0), (4, .nilsl), (5, .osl 864 3 acc'.length), (6, I i), (7, .ovar 112 0), (11, BS bs), (12, I bs.length), (13, I i), (19, SS ls), (20, I ls.length), (21, I k)], OS2 ls bs b acc'⟩ ∧ acc' ++ (stepsIn ls bs at' i b (ls.drop k) ++ stepsGo ls bs at' (i + 1) (bs.drop (i + 1))) = stepsE ls bs at',
      ⟨_, _, WkP.keep [1, 2, 4, 5, 6, 7, 11, 12, 13, 19, 20, 21] [32, 112, 864], 0, acc, by omega, rfl, by omega, rfl, by simpa using hI⟩, ?_⟩
    rintro n c ⟨k, acc', hk, rfl, hacc', rfl, hK⟩
    refine ⟨fun hlt2 => ?_, fun hlt2 => ?_⟩
    · simp at hlt2
      obtain ⟨s, hs, hds, _⟩ := drop_cons hlt2
      rw [hds] at hK
      simp only [stepsIn] at hK
      have hat : at'[i]? = some (at'.getD i 0) := by
        rw [List.getD_eq_getElem?_getD, List.getElem?_eq_getElem (by omega)]; rfl
      generalize at'.getD i 0 = x at hat hK
      have hrow : (at'.map fun n => [I n])[((i : Nat) : Int).toNat]? = some [I x] := by rw [Int.toNat_natCast, List.getElem?_map, hat]; rfl
      refine ⟨⟨by omega, by omega⟩, encS s, by simp [hs], ?_⟩
      by_cases hne : s.id = x
      · rw [if_neg (by simp [hne]), List.nil_append] at hK
        refine ⟨[(7, false)], ⟨by omega, by omega⟩, [I x], hrow, by simp [hne], fun h => (by cases h), fun _ => ?_⟩
        refine ⟨_, wrap64 (by omega) (by omega), ?_⟩
        exact ⟨_, _, WkP.keep [1, 2, 4, 5, 6, 7, 11, 12, 13, 19, 20, 21] [32, 112, 864], by omega, k + 1, acc', by omega, rfl, by omega, rfl, hK⟩
      · have hc44 := c44 at' (by omega) i (by omega) s.id
        have hc42 := c42 ls bs (at'.set i s.id) hl hb hw
        refine ⟨[(7, true)], ⟨by omega, by omega⟩, [I x], hrow, by simp [hne], _, hc44, true, _, hc42, fun hc => ?_, fun hc => ?_⟩
        · have hc : chkE ls bs (at'.set i s.id) = 0 := by simpa using hc
          rw [if_pos ⟨hne, hc⟩] at hK
          refine ⟨⟨by omega, by omega⟩, [I x], hrow, ⟨by show (acc'.length + 1) * 24 ≤ _; omega, by omega⟩, ?_⟩
          refine ⟨_, wrap64 (by omega) (by omega), ?_⟩
          refine ⟨_, _, WkP.kr [1, 2, 4, 5, 6, 7, 11, 12, 13, 19, 20, 21] [32, 112, 848] [(848, 864)] rfl rfl rfl rfl, by omega, k + 1, acc' ++ [⟨b.id, x, s.id⟩], by omega, rfl, by simp; omega, ?_, by simpa using hK⟩
          have hl' : (acc' ++ [(⟨b.id, x, s.id⟩ : Cy)]).length = acc'.length + 1 := by simp
          have hm' : (acc' ++ [(⟨b.id, x, s.id⟩ : Cy)]).map encY = (acc'.map encY).take acc'.length ++ [encY ⟨b.id, x, s.id⟩] := by rw [List.take_of_length_le (by simp)]; simp
          show _ = (⟨[(1, NS at'), (2, .ovar 32 0), (4, .nilsl), (5, .osl 864 3 (acc' ++ [(⟨b.id, x, s.id⟩ : Cy)]).length), (6, I i), (7, .ovar 112 0), (11, BS bs), (12, I bs.length), (13, I i), (19, SS ls), (20, I ls.length), (21, I ((k + 1 : Nat) : Int))], [(32, ⟨89, 2, .any, [[SS ls, BS bs]], []⟩), (112, ⟨56, 5, .any, [encB b], []⟩), (864, ⟨62, 3, .pure, (acc' ++ [(⟨b.id, x, s.id⟩ : Cy)]).map encY, []⟩)]⟩ : Cfg)
          rw [hl', hm']
          rfl
        · have hc : ¬ chkE ls bs (at'.set i s.id) = 0 := by simpa using hc
          rw [if_neg (by simp [hc]), List.nil_append] at hK
          refine ⟨_, wrap64 (by omega) (by omega), ?_⟩
          exact ⟨_, _, WkP.keep [1, 2, 4, 5, 6, 7, 11, 12, 13, 19, 20, 21] [32, 112, 864], by omega, k + 1, acc', by omega, rfl, by omega, rfl, hK⟩
    · simp at hlt2
      have : k = ls.length := by omega
      subst this
      simp only [List.drop_length, stepsIn, List.nil_append] at hK
      refine ⟨_, wrap64 (by omega) (by omega), ?_⟩
      exact ⟨_, _, WkP.keep [1, 2, 4, 5, 11, 12, 13] [32, 864], by omega, i + 1, acc', by omega, rfl, by omega, rfl, hK⟩
  · simp at hlt
    have : i = bs.length := by omega
    subst this
    simp only [List.drop_length, stepsGo, List.append_nil] at hI
    refine ⟨_, WkP.refl _ _, rfl, _, rfl, rfl, by simp, .inl ⟨rfl, ?_⟩⟩
    rw [← hI]
end Go.Abs.Ltop
end
section
namespace Go.Abs.Ltop
open Go Go.Abs
set_option linter.unusedVariables false
/-! ### right shelves and boxes -/
theorem wg {c : Prop} [Decidable c] {q x : Int} (hq : q ≠ 0) (h : (if c then q else x) = 0) : x = 0 := by
  by_cases hc : c
  · rw [if_pos hc] at h; exact absurd h hq
  · rw [if_neg hc] at h; exact h
theorem shGo_spec : ∀ (l : List Sh) (prev : Option Int), shGo prev l = 0 → (∀ s ∈ l, badS s = false ∧ ∀ p, prev = some p → p < s.id) ∧ (l.map Sh.id).Pairwise (· < ·)
  | [], _, _ => by simp
  | s :: r, prev, h => by
    simp only [shGo] at h
    by_cases hb : badS s = true
    · rw [if_pos hb] at h; cases h
    · rw [if_neg hb] at h
      have hps : ∀ p, prev = some p → p < s.id := by
        intro p hq; subst hq
        by_cases hp : s.id ≤ p
        · rw [if_pos (decide_eq_true hp)] at h; cases h
        · omega
      have h := wg (q := 5) (by decide) h
      · skip
        obtain ⟨h1, h2⟩ := shGo_spec r (some s.id) h
        refine ⟨fun x hx => ?_, ?_⟩
        · rcases List.mem_cons.1 hx with rfl | hx
          · exact ⟨by simpa using hb, hps⟩
          · refine ⟨(h1 x hx).1, fun p hq => ?_⟩
            have := hps p hq
            have := (h1 x hx).2 _ rfl
            omega
        · rw [List.map_cons, List.pairwise_cons]
          refine ⟨fun y hy => ?_, h2⟩
          obtain ⟨x, hx, rfl⟩ := List.mem_map.1 hy
          exact (h1 x hx).2 _ rfl
theorem boxGo_spec : ∀ (l : List Bx) (prev : Option Int) (seen : List Int), boxGo prev seen l = 0 → (∀ s ∈ l, faultE s = 0 ∧ ∀ p, prev = some p → p < s.id) ∧ (l.map Bx.id).Pairwise (· < ·)
  | [], _, _, _ => by simp
  | s :: r, prev, seen, h => by
    simp only [boxGo] at h
    by_cases hb : faultE s ≠ 0
    · rw [if_pos hb] at h; exact absurd h hb
    · rw [if_neg hb] at h
      have hps : ∀ p, prev = some p → p < s.id := by
        intro p hq; subst hq
        by_cases hp : s.id ≤ p
        · rw [if_pos (decide_eq_true hp)] at h; cases h
        · omega
      have h := wg (q := 5) (by decide) h
      · skip
        cases hsn : seenGo seen s.cont with
        | none => rw [hsn] at h; cases h
        | some sn =>
          rw [hsn] at h
          simp only at h
          obtain ⟨h1, h2⟩ := boxGo_spec r (some s.id) sn h
          refine ⟨fun x hx => ?_, ?_⟩
          · rcases List.mem_cons.1 hx with rfl | hx
            · exact ⟨by simpa using hb, hps⟩
            · refine ⟨(h1 x hx).1, fun p hq => ?_⟩
              have := hps p hq
              have := (h1 x hx).2 _ rfl
              omega
          · rw [List.map_cons, List.pairwise_cons]
            refine ⟨fun y hy => ?_, h2⟩
            obtain ⟨x, hx, rfl⟩ := List.mem_map.1 hy
            exact (h1 x hx).2 _ rfl
theorem fault_wid {b : Bx} (h : faultE b = 0) : 1 ≤ b.width ∧ b.width ≤ 10000 ∧ 1 ≤ b.id ∧ b.id ≤ 1073741824 ∧ b.cont.length ≤ 32 := by
  unfold faultE at h
  split at h
  · cases h
  · rename_i hn
    split at h
    · cases h
    · rename_i hc
      simp only [not_or, inB] at hn
      simp at hn
      omega
/-- the ids of shelves differ -/
theorem sh_inj {ls : List Sh} (hp : (ls.map Sh.id).Pairwise (· < ·)) {i j : Nat} {s t : Sh} (hi : ls[i]? = some s) (hj : ls[j]? = some t) (h : s.id = t.id) : i = j := by
  rw [List.pairwise_iff_getElem] at hp
  obtain ⟨hi1, hi2⟩ := List.getElem?_eq_some_iff.1 hi
  obtain ⟨hj1, hj2⟩ := List.getElem?_eq_some_iff.1 hj
  rcases Nat.lt_trichotomy i j with q | q | q
  · have := hp i j (by simpa using hi1) (by simpa using hj1) q
    simp [hi2, hj2] at this; omega
  · exact q
  · have := hp j i (by simpa using hj1) (by simpa using hi1) q
    simp [hi2, hj2] at this; omega
theorem bx_inj {ls : List Bx} (hp : (ls.map Bx.id).Pairwise (· < ·)) {i j : Nat} {s t : Bx} (hi : ls[i]? = some s) (hj : ls[j]? = some t) (h : s.id = t.id) : i = j := by
  rw [List.pairwise_iff_getElem] at hp
  obtain ⟨hi1, hi2⟩ := List.getElem?_eq_some_iff.1 hi
  obtain ⟨hj1, hj2⟩ := List.getElem?_eq_some_iff.1 hj
  rcases Nat.lt_trichotomy i j with q | q | q
  · have := hp i j (by simpa using hi1) (by simpa using hj1) q
    simp [hi2, hj2] at this; omega
  · exact q
  · have := hp j i (by simpa using hj1) (by simpa using hi1) q
    simp [hi2, hj2] at this; omega
theorem shI_of {ls : List Sh} (hp : (ls.map Sh.id).Pairwise (· < ·)) {i : Nat} {s : Sh} (hi : ls[i]? = some s) : shI ls s.id = i := by
  have hn : ¬ shI ls s.id < 0 := by
    intro hn
    unfold shI at hn
    rcases idxF_spec (fun x : Sh => x.id == s.id) ls 0 with ⟨h1, h2⟩ | ⟨j, a, h1, h2, h3, _⟩
    · have := h2 s (List.mem_of_getElem? hi); simp at this
    · omega
  obtain ⟨t, h1, h2, h3, h4⟩ := shI_lt hn
  have := sh_inj hp h1 hi h2
  omega
theorem bxI_of {bs : List Bx} (hp : (bs.map Bx.id).Pairwise (· < ·)) {i : Nat} {s : Bx} (hi : bs[i]? = some s) : bxI bs s.id = i := by
  unfold bxI
  rcases idxF_spec (fun x : Bx => x.id == s.id) bs 0 with ⟨h1, h2⟩ | ⟨j, a, h1, h2, h3, _⟩
  · have := h2 s (List.mem_of_getElem? hi); simp at this
  · have := bx_inj hp h1 hi (by simpa using h2)
    omega
theorem shI_neg {ls : List Sh} {a : Int} : shI ls a < 0 ↔ ∀ s ∈ ls, s.id ≠ a := by
  constructor
  · intro h s hs he
    unfold shI at h
    rcases idxF_spec (fun x : Sh => x.id == a) ls 0 with ⟨h1, h2⟩ | ⟨j, b, h1, h2, h3, _⟩
    · have := h2 s hs; simp [he] at this
    · omega
  · intro h
    rcases Int.lt_or_le (shI ls a) 0 with q | q
    · exact q
    · obtain ⟨s, h1, h2, _⟩ := shI_lt (ls := ls) (a := a) (by omega)
      exact absurd h2 (h s (List.mem_of_getElem? h1))
/-! ### the check of a state -/
theorem wid_nn {bs : List Bx} (hw : ∀ b ∈ bs, 1 ≤ b.width) (s : Int) : ∀ (at' : List Int), 0 ≤ wid s at' bs := by
  induction bs with
  | nil => intro at'; cases at' <;> simp [wid]
  | cons b bs ih =>
    intro at'
    cases at' with
    | nil => simp [wid]
    | cons a r =>
      have h1 := ih (fun x hx => hw x (by simp [hx])) r
      have h2 := hw b (by simp)
      simp only [wid]
      split <;> omega
theorem wid_zero (s : Int) : ∀ (at' : List Int) (bs : List Bx), s ∉ at' → wid s at' bs = 0
  | [], bs, _ => by simp [wid]
  | a :: r, [], _ => by simp [wid]
  | a :: r, b :: bs, h => by
    simp only [List.mem_cons, not_or] at h
    simp only [wid, wid_zero s r bs h.2]
    rw [if_neg (fun e => h.1 e.symm)]; rfl
theorem chkGo_iff {ls : List Sh} (hp : (ls.map Sh.id).Pairwise (· < ·)) : ∀ (at' : List Int) (bs : List Bx) (sums : List Int), (∀ b ∈ bs, 1 ≤ b.width) → at'.length = bs.length → sums.length = ls.length → (∀ a ∈ at', ¬ shI ls a < 0) →
    (chkGo ls at' bs sums = true ↔ climOK ls at' bs ∧ ∀ k s, ls[k]? = some s → s.id ∈ at' → sums.getD k 0 + wid s.id at' bs ≤ s.len)
  | [], bs, sums, _, _, _, _ => by simp [chkGo, climOK]
  | a :: r, [], sums, _, h, _, _ => by simp at h
  | a :: r, b :: bs, sums, hw, hl, hs, ha => by
    obtain ⟨s0, h0, h0i, h0l, _⟩ := shI_lt (ha a (by simp))
    generalize hk0 : (shI ls a).toNat = k0 at h0 h0l
    have ih := chkGo_iff hp r bs (sums.set k0 (sums.getD k0 0 + b.width)) (fun x hx => hw x (by simp [hx])) (by simpa using hl) (by simpa using hs) fun x hx => ha x (by simp [hx])
    have hwb := hw b (by simp)
    have hwn := fun s => wid_nn (bs := bs) (fun x hx => hw x (by simp [hx])) s r
    have hget : ∀ k, (sums.set k0 (sums.getD k0 0 + b.width)).getD k 0 = if k = k0 then sums.getD k0 0 + b.width else sums.getD k 0 := by
      intro k
      simp only [List.getD_eq_getElem?_getD, List.getElem?_set]
      by_cases q : k0 = k
      · subst q; rw [if_pos rfl, if_pos (by omega)]; simp
      · rw [if_neg q, if_neg (fun e => q e.symm)]
    simp only [chkGo, hk0, h0]
    have hclim : (∃ s, s ∈ ls ∧ s.id = a ∧ s.clim = b.clim) ↔ b.clim = s0.clim := by
      constructor
      · rintro ⟨s, hs', h1, h2⟩
        obtain ⟨i, hi⟩ := List.getElem?_of_mem hs'
        have := sh_inj hp hi h0 (by omega)
        subst this
        rw [hi] at h0; cases h0
        exact h2.symm
      · intro h; exact ⟨s0, List.mem_of_getElem? h0, h0i, h.symm⟩
    simp only [climOK, hclim, wid]
    by_cases hbad : sums.getD k0 0 + b.width > s0.len ∨ b.clim ≠ s0.clim
    · rw [if_pos hbad]
      simp only [Bool.false_eq_true, false_iff]
      rintro ⟨⟨h1, h2⟩, h3⟩
      rcases hbad with q | q
      · have := h3 k0 s0 h0 (by simp [h0i])
        rw [if_pos h0i.symm] at this
        have := hwn s0.id
        omega
      · exact q h1
    · rw [if_neg hbad, ih]
      simp only [not_or, ne_eq, Decidable.not_not] at hbad
      obtain ⟨hb1, hb2⟩ := hbad
      constructor
      · rintro ⟨h1, h2⟩
        refine ⟨⟨hb2, h1⟩, fun k s hks hm => ?_⟩
        by_cases he : a = s.id
        · have : k = k0 := sh_inj hp hks h0 (by omega)
          subst this
          have es : s = s0 := Option.some.inj (hks.symm.trans h0)
          subst es
          rw [if_pos he]
          by_cases hm2 : s.id ∈ r
          · have := h2 k s hks hm2
            rw [hget, if_pos rfl] at this
            omega
          · rw [wid_zero _ _ _ hm2]; omega
        · rw [if_neg he]
          have hm2 : s.id ∈ r := by
            rcases List.mem_cons.1 hm with q | q
            · exact absurd q.symm he
            · exact q
          have := h2 k s hks hm2
          rw [hget, if_neg (fun e => by subst e; rw [hks] at h0; cases h0; exact he h0i.symm)] at this
          omega
      · rintro ⟨⟨_, h1⟩, h2⟩
        refine ⟨h1, fun k s hks hm => ?_⟩
        have := h2 k s hks (by simp [hm])
        rw [hget]
        by_cases he : a = s.id
        · have : k = k0 := sh_inj hp hks h0 (by omega)
          subst this
          rw [if_pos rfl]
          rw [if_pos he] at this
          omega
        · rw [if_neg he] at this
          rw [if_neg (fun e => by subst e; rw [hks] at h0; cases h0; exact he h0i.symm)]
          omega
theorem clim_mem {ls : List Sh} : ∀ {at' : List Int} {bs : List Bx}, at'.length = bs.length → climOK ls at' bs → ∀ a ∈ at', ∃ s ∈ ls, s.id = a
  | [], _, _, _, a, h => by cases h
  | x :: r, [], hl, _, _, _ => by simp at hl
  | x :: r, b :: bs, hl, h, a, ha => by
    rcases List.mem_cons.1 ha with rfl | ha
    · obtain ⟨s, h1, h2, _⟩ := h.1; exact ⟨s, h1, h2⟩
    · exact clim_mem (by simpa using hl) h.2 a ha
theorem chkE_iff {ls : List Sh} {bs : List Bx} (hs : shelvesE ls = 0) (hw : ∀ b ∈ bs, 1 ≤ b.width) (at' : List Int) : chkE ls bs at' = 0 ↔ OkAt ls bs at' := by
  have hsp : (∀ s ∈ ls, badS s = false) ∧ (ls.map Sh.id).Pairwise (· < ·) := by
    unfold shelvesE at hs
    split at hs
    · cases hs
    · obtain ⟨h1, h2⟩ := shGo_spec ls none hs
      exact ⟨fun s h => (h1 s h).1, h2⟩
  obtain ⟨hb, hp⟩ := hsp
  unfold chkE
  by_cases hl : at'.length ≠ bs.length
  · rw [if_pos hl]
    exact ⟨fun h => (by cases h), fun h => absurd h.len hl⟩
  · rw [if_neg hl]
    simp only [ne_eq, Decidable.not_not] at hl
    by_cases hn : (at'.any fun a => decide (shI ls a < 0)) = true
    · rw [if_pos hn]
      refine ⟨fun h => (by cases h), fun h => ?_⟩
      obtain ⟨a, ha, hq⟩ := List.any_eq_true.1 hn
      have hq := shI_neg.1 (of_decide_eq_true hq)
      obtain ⟨s, h1, h2⟩ := clim_mem hl h.clim a ha
      exact absurd h2 (hq s h1)
    · rw [if_neg hn]
      have hn' : ∀ a ∈ at', ¬ shI ls a < 0 := fun a ha hq => hn (List.any_eq_true.2 ⟨a, ha, decide_eq_true hq⟩)
      have key := chkGo_iff hp at' bs (List.replicate ls.length 0) hw hl (by simp) hn'
      have hz : ∀ k, (List.replicate ls.length (0 : Int)).getD k 0 = 0 := by
        intro k
        rw [List.getD_eq_getElem?_getD, List.getElem?_replicate]
        split <;> rfl
      have e : OkAt ls bs at' ↔ chkGo ls at' bs (List.replicate ls.length 0) = true := by
        rw [key]
        constructor
        · intro h
          refine ⟨h.clim, fun k s hks _ => ?_⟩
          rw [hz]
          have := h.wid s (List.mem_of_getElem? hks)
          omega
        · rintro ⟨h1, h2⟩
          refine ⟨hl, h1, fun s hs => ?_⟩
          by_cases hm : s.id ∈ at'
          · obtain ⟨k, hk⟩ := List.getElem?_of_mem hs
            have := h2 k s hk hm
            rw [hz] at this
            omega
          · rw [wid_zero _ _ _ hm]
            have := hb s hs
            unfold badS inB at this
            simp at this
            omega
      rw [e]
      cases chkGo ls at' bs (List.replicate ls.length 0) <;> simp
/-! ### the steps -/
theorem mem_stepsIn {ls0 : List Sh} {bs : List Bx} {at' : List Int} {i : Nat} {b : Bx} {c : Cy} : ∀ (ls : List Sh), c ∈ stepsIn ls0 bs at' i b ls ↔ ∃ s ∈ ls, s.id ≠ at'.getD i 0 ∧ chkE ls0 bs (at'.set i s.id) = 0 ∧ c = ⟨b.id, at'.getD i 0, s.id⟩
  | [] => by simp [stepsIn]
  | s :: r => by
    rw [stepsIn, List.mem_append, mem_stepsIn r]
    constructor
    · rintro (h | ⟨t, h1, h2⟩)
      · split at h
        · rename_i hc
          simp at h
          exact ⟨s, by simp, hc.1, hc.2, h⟩
        · cases h
      · exact ⟨t, by simp [h1], h2⟩
    · rintro ⟨t, h1, h2, h3, h4⟩
      rcases List.mem_cons.1 h1 with rfl | h1
      · left; rw [if_pos ⟨h2, h3⟩]; simp [h4]
      · exact .inr ⟨t, h1, h2, h3, h4⟩
theorem stepsIn_len {ls0 : List Sh} {bs : List Bx} {at' : List Int} {i : Nat} {b : Bx} : ∀ (ls : List Sh), (stepsIn ls0 bs at' i b ls).length ≤ ls.length
  | [] => by simp [stepsIn]
  | s :: r => by
    rw [stepsIn, List.length_append]
    have := stepsIn_len (ls0 := ls0) (bs := bs) (at' := at') (i := i) (b := b) r
    split <;> simp <;> omega
theorem stepsGo_len {ls : List Sh} {bs0 : List Bx} {at' : List Int} : ∀ (bs : List Bx) (i : Nat), (stepsGo ls bs0 at' i bs).length ≤ bs.length * ls.length
  | [], i => by simp [stepsGo]
  | b :: r, i => by
    rw [stepsGo, List.length_append, List.length_cons, Nat.add_mul, Nat.one_mul]
    have := stepsGo_len (ls := ls) (bs0 := bs0) (at' := at') r (i + 1)
    have := stepsIn_len (ls0 := ls) (bs := bs0) (at' := at') (i := i) (b := b) ls
    omega
theorem mem_stepsGo {ls : List Sh} {bs0 : List Bx} {at' : List Int} {c : Cy} : ∀ (bs : List Bx) (i : Nat), c ∈ stepsGo ls bs0 at' i bs ↔ ∃ j b, bs[j]? = some b ∧ c ∈ stepsIn ls bs0 at' (i + j) b ls
  | [], i => by simp [stepsGo]
  | b :: r, i => by
    rw [stepsGo, List.mem_append, mem_stepsGo r (i + 1)]
    constructor
    · rintro (h | ⟨j, b', h1, h2⟩)
      · exact ⟨0, b, by simp, h⟩
      · exact ⟨j + 1, b', by simpa using h1, by rw [show i + (j + 1) = i + 1 + j by omega]; exact h2⟩
    · rintro ⟨j, b', h1, h2⟩
      cases j with
      | zero => simp at h1; subst h1; exact .inl h2
      | succ j => exact .inr ⟨j, b', by simpa using h1, by rw [show i + 1 + j = i + (j + 1) by omega]; exact h2⟩
/-- a house that is right: ids rise, widths and lengths are bounded -/
structure Hs (ls : List Sh) (bs : List Bx) : Prop where
  sh : shelvesE ls = 0
  sp : (ls.map Sh.id).Pairwise (· < ·)
  bp : (bs.map Bx.id).Pairwise (· < ·)
  sb : ∀ s ∈ ls, badS s = false
  bw : ∀ b ∈ bs, 1 ≤ b.width ∧ b.width ≤ 10000 ∧ 1 ≤ b.id ∧ b.id ≤ 1073741824 ∧ b.cont.length ≤ 32
  sl : ls.length ≤ 32
  bl : bs.length ≤ 128
  sz : ls.length ^ bs.length ≤ 4096
theorem size_spec {L : Nat} : ∀ (n : Nat) (s : Nat), sizeGo L n s = true → 1 ≤ n → s * L ^ n ≤ 4096
  | 0, s, _, h => by omega
  | n + 1, s, h, _ => by
    simp only [sizeGo] at h
    split at h
    · cases h
    · rename_i hs
      have e : (s : Int) * (L : Int) = ((s * L : Nat) : Int) := by simp
      rw [e] at h hs
      cases n with
      | zero => simp; omega
      | succ n =>
        have := size_spec (n + 1) (s * L) h (by omega)
        rw [Nat.pow_succ, Nat.mul_comm (L ^ (n + 1)) L, ← Nat.mul_assoc]
        exact this
theorem hs_of {ls : List Sh} {bs : List Bx} (h : openE ls bs = 0) : Hs ls bs := by
  unfold openE at h
  split at h
  · cases h
  · rename_i h1
    split at h
    · cases h
    · rename_i h2
      simp only [not_or, ne_eq, Decidable.not_not] at h1
      obtain ⟨hs, hb⟩ := h1
      have hsl := shelves_len hs
      have hbl := box_len hb
      have hs' := hs
      unfold shelvesE at hs'
      rw [if_neg (by omega)] at hs'
      unfold boxE at hb
      rw [if_neg (by omega)] at hb
      obtain ⟨s1, s2⟩ := shGo_spec ls none hs'
      obtain ⟨b1, b2⟩ := boxGo_spec bs none [] hb
      refine ⟨hs, s2, b2, fun s h => (s1 s h).1, fun b h => fault_wid (b1 b h).1, hsl, hbl, ?_⟩
      have hz : sizeGo ls.length bs.length 1 = true := by simpa using h2
      cases hn : bs.length with
      | zero => simp
      | succ n =>
        rw [hn] at hz
        have := size_spec (n + 1) 1 hz (by omega)
        omega
theorem Hs.chk {ls : List Sh} {bs : List Bx} (h : Hs ls bs) (at' : List Int) : chkE ls bs at' = 0 ↔ OkAt ls bs at' :=
  chkE_iff h.sh (fun b hb => (h.bw b hb).1) at'
theorem Hs.mem {ls : List Sh} {bs : List Bx} {x : List Int} (h : Hs ls bs) (hx : OkAt ls bs x) {c : Cy} (hc : c ∈ stepsE ls bs x) :
    bxI bs c.box = ((bxI bs c.box).toNat : Int) ∧ (bxI bs c.box).toNat < x.length ∧ StepR ls bs x c (x.set (bxI bs c.box).toNat c.to) := by
  unfold stepsE at hc
  obtain ⟨j, b, hb, hc⟩ := (mem_stepsGo bs 0).1 hc
  obtain ⟨s, hs, h1, h2, rfl⟩ := (mem_stepsIn ls).1 hc
  rw [Nat.zero_add] at h1 h2 ⊢
  have hi := bxI_of h.bp hb
  have hj := (List.getElem?_eq_some_iff.1 hb).1
  have hl := hx.len
  simp only [hi, Int.toNat_natCast]
  refine ⟨trivial, by omega, j, b, x.getD j 0, hb, ?_, rfl, h1, ⟨s, hs, rfl⟩, rfl, (h.chk _).1 h2⟩
  rw [List.getD_eq_getElem?_getD, List.getElem?_eq_getElem (by omega)]; rfl
theorem Hs.step {ls : List Sh} {bs : List Bx} {x y : List Int} (h : Hs ls bs) {c : Cy} (hc : StepR ls bs x c y) : c ∈ stepsE ls bs x ∧ y = x.set (bxI bs c.box).toNat c.to := by
  obtain ⟨i, b, a, hb, ha, hc1, hne, ⟨s, hs, hs2⟩, rfl, hok⟩ := hc
  have hg : x.getD i 0 = a := by rw [List.getD_eq_getElem?_getD, ha]; rfl
  have hi : bxI bs c.box = i := by rw [hc1]; exact bxI_of h.bp hb
  rw [hi]
  refine ⟨?_, rfl⟩
  unfold stepsE
  rw [mem_stepsGo]
  refine ⟨i, b, hb, (mem_stepsIn ls).2 ⟨s, hs, ?_, ?_, ?_⟩⟩
  · rw [Nat.zero_add, hg, hs2]; exact hne
  · rw [Nat.zero_add, hs2]; exact (h.chk _).2 hok
  · rw [Nat.zero_add, hg, hs2]; exact hc1
/-! ### keys -/
def kyL (ls : List Sh) (x : List Int) : List Nat := x.map fun a => (shI ls a).toNat
theorem OkAt.has {ls : List Sh} {bs : List Bx} {x : List Int} (hx : OkAt ls bs x) : ∀ a ∈ x, ¬ shI ls a < 0 := by
  intro a ha hn
  obtain ⟨s, h1, h2⟩ := clim_mem hx.len hx.clim a ha
  exact shI_neg.1 hn s h1 h2
theorem kyL_lt {ls : List Sh} {x : List Int} (hx : ∀ a ∈ x, ¬ shI ls a < 0) : (kyL ls x).length = x.length ∧ ∀ k ∈ kyL ls x, k < ls.length := by
  refine ⟨by simp [kyL], fun k hk => ?_⟩
  obtain ⟨a, ha, rfl⟩ := List.mem_map.1 hk
  obtain ⟨_, _, _, h, _⟩ := shI_lt (hx a ha)
  exact h
theorem kyL_inj {ls : List Sh} : ∀ {x y : List Int}, (∀ a ∈ x, ¬ shI ls a < 0) → (∀ a ∈ y, ¬ shI ls a < 0) → kyL ls x = kyL ls y → x = y
  | [], [], _, _, _ => rfl
  | [], b :: y, _, _, h => by simp [kyL] at h
  | a :: x, [], _, _, h => by simp [kyL] at h
  | a :: x, b :: y, hx, hy, h => by
    simp only [kyL, List.map_cons, List.cons.injEq] at h
    obtain ⟨s, h1, h2, _⟩ := shI_lt (hx a (by simp))
    obtain ⟨t, k1, k2, _⟩ := shI_lt (hy b (by simp))
    rw [h.1, k1] at h1
    cases h1
    rw [← h2, ← k2, kyL_inj (fun a ha => hx a (by simp [ha])) (fun a ha => hy a (by simp [ha])) h.2]
/-- the key of a state, as a string -/
def keyS (ls : List Sh) (x : List Int) : AV := .str (bytesOf ((kyL ls x).map Int.ofNat))
theorem bytes_data (l : List Int) : ∀ (b : ByteArray), (l.foldl (fun r n => r.push (UInt8.ofNat n.toNat)) b).data.toList = b.data.toList ++ l.map fun n => UInt8.ofNat n.toNat := by
  induction l with
  | nil => intro b; simp
  | cons a r ih =>
    intro b
    rw [List.foldl_cons, ih]
    simp [ByteArray.push]
theorem bytesOf_inj {l m : List Nat} (hl : ∀ k ∈ l, k < 256) (hm : ∀ k ∈ m, k < 256) (h : bytesOf (l.map Int.ofNat) = bytesOf (m.map Int.ofNat)) : l = m := by
  have h1 : (bytesOf (l.map Int.ofNat)).data.toList = (bytesOf (m.map Int.ofNat)).data.toList := by rw [h]
  unfold bytesOf at h1
  rw [bytes_data, bytes_data] at h1
  simp only [List.map_map] at h1
  have h2 := (List.append_cancel_left h1)
  clear h h1
  induction l generalizing m with
  | nil => cases m with
    | nil => rfl
    | cons _ _ => simp at h2
  | cons a r ih =>
    cases m with
    | nil => simp at h2
    | cons b s =>
      simp only [List.map_cons, List.cons.injEq, Function.comp] at h2
      obtain ⟨h3, h4⟩ := h2
      have e := congrArg UInt8.toNat h3
      have ha := hl a (by simp)
      have hb := hm b (by simp)
      simp at e
      rw [Nat.mod_eq_of_lt (by omega), Nat.mod_eq_of_lt (by omega)] at e
      rw [e, ih (fun k hk => hl k (by simp [hk])) (fun k hk => hm k (by simp [hk])) h4]
theorem ba_eq {a b : ByteArray} : (a == b) = true ↔ a = b := by
  constructor
  · intro h
    have h : (a.data == b.data) = true := h
    have h := eq_of_beq h
    cases a; cases b; simp at h; rw [h]
  · rintro rfl
    show (a.data == a.data) = true
    exact beq_self_eq_true _
theorem keyS_inj {ls : List Sh} {bs : List Bx} {x y : List Int} (h : Hs ls bs) (hx : ∀ a ∈ x, ¬ shI ls a < 0) (hy : ∀ a ∈ y, ¬ shI ls a < 0) (he : keyEq (keyS ls x) (keyS ls y) = true) : x = y := by
  unfold keyS at he
  have he := ba_eq.1 he
  have := h.sl
  exact kyL_inj hx hy (bytesOf_inj (fun k hk => by have := (kyL_lt hx).2 k hk; omega) (fun k hk => by have := (kyL_lt hy).2 k hk; omega) he)
theorem keyS_refl {ls : List Sh} {x : List Int} : keyEq (keyS ls x) (keyS ls x) = true := by
  exact ba_eq.2 rfl
/-- possible states that differ: not more than N -/
theorem states_few {ls : List Sh} {bs : List Bx} (h : Hs ls bs) {xs : List (List Int)} (hn : xs.Nodup) (hx : ∀ x ∈ xs, OkAt ls bs x) : xs.length ≤ ls.length ^ bs.length := by
  have hk : (xs.map (kyL ls)).Nodup := by
    rw [List.Nodup, List.pairwise_map]
    refine List.Pairwise.imp_of_mem (fun {a b} ha hb hne he => hne (kyL_inj (hx a ha).has (hx b hb).has he)) hn
  have := keys_few (L := ls.length) (n := bs.length) hk fun k hk => by
    obtain ⟨x, hx', rfl⟩ := List.mem_map.1 hk
    have := kyL_lt (hx x hx').has
    exact ⟨by rw [this.1, (hx x hx').len], this.2⟩
  simpa using this
end Go.Abs.Ltop
end
