import Derived.Test.YtknbomaidhlnlaaL42h
namespace Go.Abs.L42
open Go Go.Abs Go.Proofs
set_option linter.unusedVariables false
set_option maxRecDepth 20000
theorem step_keep {m : List Req} {st : List St} {i : Nat} {b : Nat} {fr : List (Nat × AV)} {O : List (Nat × OBlk)} (h : (Cfg.only ⟨(0, .rsl 7 m.length ((m.map encR).take m.length)) :: fr, delO b O⟩ [0, 1, 4, 28, 29, 30] []) = C7 m st i)
    (h0 : lk fr 0 = .osl b 7 m.length) (hb : olk O b = some ⟨24, 7, .pure, m.map encR⟩) : Wk ⟨fr, O⟩ (C7 m st i) := by
  have := Wk.freezeKeep (c := ⟨fr, O⟩) 0 b m.length ⟨24, 7, .pure, m.map encR⟩ [0, 1, 4, 28, 29, 30] [] h0 hb rfl
  dsimp only at this
  rw [h] at this
  exact this
theorem l7 (l : List Req) (hl : l.length ≤ 9223372036854775807) (st : List St) (hst : st.length ≤ 9223372036854775807) : Fn Try.prog 7 [A l, SS st] (.bool true) := by
  refine mk7S rfl (SemA.seq (fun c' => c' = _) (E7 rfl rfl) ?_)
  rintro _ rfl
  refine SemA.seq (fun c' => c' = _) (E7 rfl ⟨_, c10, fun h => (by cases h), fun _ => rfl⟩) ?_
  rintro _ rfl
  by_cases h1 : 40 < l.length
  · exact SemA.seq (fun _ => False) (E7 rfl ⟨[(3, true), (8, true)], _, c11 l, by simp; omega, rfl, fun _ => ⟨rfl, rfl, rfl⟩, fun h => (by cases h)⟩) (fun _ h => h.elim)
  by_cases h2 : 30 < st.length
  · exact SemA.seq (fun _ => False) (E7 rfl ⟨[(3, false), (8, true)], _, c11 l, by simp; omega, by show decide ((st.length : Int) > 30) = true; simp; omega, fun _ => ⟨rfl, rfl, rfl⟩, fun h => (by cases h)⟩) (fun _ h => h.elim)
  by_cases h3 : checkE l ≠ 0
  · refine SemA.seq (fun _ => False) (E7 rfl ⟨[(3, false), (8, false)], _, c11 l, by simp; omega, by show decide ((st.length : Int) > 30) = false; simp; omega, _, c13 l (by omega), _, fnA (c15 l), fun _ => ⟨rfl, rfl, rfl⟩, fun h => ?_⟩) (fun _ h => h.elim)
    simp at h; exact absurd h h3
  have h3 : checkE l = 0 := by simpa using h3
  refine SemA.seq (fun c' => c' = _) (E7 rfl ⟨[(3, false), (8, false)], _, c11 l, by simp; omega, by show decide ((st.length : Int) > 30) = false; simp; omega, _, c13 l (by omega), _, fnA (c15 l), fun h => ?_, fun h => rfl⟩) ?_
  · simp [h3] at h
  rintro _ rfl
  refine SemA.seq (fun c' => ∃ m i, Wk c' (C7 m st i)) (SemA.seq (fun c' => c' = _) (E7 rfl rfl) ?_) ?_
  · rintro _ rfl
    refine SemA.block (SemA.loop (fun k c => ∃ (i : Nat) (m : List Req), i ≤ st.length ∧ k = st.length - i ∧ checkE m = 0 ∧ m.length ≤ 40 ∧ c = C7 m st i) ⟨_, _, Wk.keep [0, 1, 4, 28, 29, 30] [], 0, l, by omega, rfl, h3, by omega, rfl⟩ ?_)
    rintro k c ⟨i, m, hi, rfl, hc, hm, rfl⟩
    refine SemA.seq (fun c' => c' = _) (E7 rfl rfl) ?_
    rintro _ rfl
    by_cases hlt : i < st.length
    · obtain ⟨s, hs, _, _⟩ := drop_cons hlt
      have hd : decide ((i : Int) < (st.length : Int)) = true := by simp; omega
      refine SemA.seq (fun c' => c' = _) (E7 rfl ⟨fun _ => rfl, fun h => (by rw [show _ = false from h] at hd; cases hd)⟩) ?_
      rintro _ rfl
      refine SemA.seq (fun c' => ∃ m, checkE m = 0 ∧ m.length ≤ 40 ∧ Wk c' (C7 m st i)) (SemA.block ?_) ?_
      · refine SemA.seq (fun c' => c' = _) (E7 rfl ⟨⟨by omega, by omega⟩, encS s, get_map hs, rfl⟩) ?_
        rintro _ rfl
        refine SemA.seq (fun c' => c' = _) (E7 rfl ⟨_, c28 m (by omega) s.1 s.2.1 s.2.2, rfl⟩) ?_
        rintro _ rfl
        by_cases he : (actE m s.1 s.2.1 s.2.2).2 = 0
        · have hv : checkE (actE m s.1 s.2.1 s.2.2).1 = 0 := act_valid (x := s.1) (n := s.2.1) (d := s.2.2) (l := m) (m := (actE m s.1 s.2.1 s.2.2).1) (by rw [← he])
          have hlen := act_len m s.1 s.2.1 s.2.2
          rw [he]
          generalize (actE m s.1 s.2.1 s.2.2).1 = m' at *
          refine SemA.seq (fun c' => c' = _) (E7 rfl ⟨fun h => (by cases h), fun _ => rfl⟩) ?_
          rintro _ rfl
          refine SemA.seq (fun c' => c' = _) (E7 rfl rfl) ?_
          rintro _ rfl
          refine SemA.seq (fun c' => c' = _) (E7 rfl ⟨_, fnA (c13 m' (by omega)), _, fnA (c15 m'), fun h => ?_, fun h => rfl⟩) ?_
          · simp [hv] at h
          rintro _ rfl
          refine SemA.wk (step_keep (b := 592) (m := m') (st := st) (i := i) ?_ rfl rfl) ?_
          · show Cfg.mk _ _ = Cfg.mk _ _
            rw [map_take_all]; rfl
          · exact mapAll i hv (by omega) fun c' hw => ⟨m', hv, by omega, hw⟩
        · refine SemA.seq (fun _ => False) (E7 rfl ⟨fun _ => ⟨m, hc, hm, Wk.keep [0, 1, 4, 28, 29, 30] []⟩, fun h => ?_⟩) (fun _ h => h.elim)
          simp at h; exact absurd h he
      · rintro c' ⟨m', hc', hm', hw⟩
        refine SemA.wk hw (E7 rfl ⟨_, wrap64 (by omega) (by omega), ?_⟩)
        exact ⟨_, _, Wk.keep [0, 1, 4, 28, 29, 30] [], by omega, i + 1, m', by omega, rfl, hc', hm', rfl⟩
    · have hd : decide ((i : Int) < (st.length : Int)) = false := by simp; omega
      refine SemA.seq (fun _ => False) (E7 rfl ⟨fun h => (by rw [show _ = true from h] at hd; cases hd), fun _ => ⟨m, i, Wk.keep [0, 1, 4, 28, 29, 30] []⟩⟩) (fun _ h => h.elim)
  · rintro c' ⟨m, i, hw⟩
    exact SemA.wk hw (E7 rfl ⟨rfl, rfl, rfl⟩)
theorem rows47 {d : Nat} : ∀ {rows : List (List AV)}, (∀ row ∈ rows, Rd Try.prog (d + 2) 47 row) → ∃ l : List St, rows = l.map encS
  | [], _ => ⟨[], rfl⟩
  | r :: rows, h => by
    have h0 := h r (by simp)
    simp only [Rd, Try.underlying47, RdN, Try.underlying3] at h0
    obtain ⟨_, _, rfl, ⟨n0, rfl, w0⟩, _, _, rfl, ⟨n1, rfl, w1⟩, _, _, rfl, ⟨n2, rfl, w2⟩, rfl⟩ := h0
    obtain ⟨l, rfl⟩ := rows47 (rows := rows) fun row hr => h row (by simp [hr])
    exact ⟨(n0, n1, n2) :: l, rfl⟩
theorem rd46 {u : AV} (h : RdV Try.prog 6 46 u) : ∃ l : List St, u = SS l ∧ l.length ≤ 9223372036854775807 := by
  simp only [RdV, Try.underlying46, Rd] at h
  obtain ⟨rows, hu, hl, hr⟩ := h
  obtain ⟨l, rfl⟩ := rows47 (d := 3) hr
  injection hu with hu
  rw [show Try.prog.cellsOf 47 = 3 by kernel_rfl, List.length_map] at hu
  refine ⟨l, hu, ?_⟩
  simp only [List.length_map] at hl
  have : maxLen ≤ 9223372036854775807 := by unfold maxLen; omega
  omega
end Go.Abs.L42
