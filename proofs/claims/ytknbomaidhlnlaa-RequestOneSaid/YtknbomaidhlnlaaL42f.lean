import Derived.Test.YtknbomaidhlnlaaL42d
import Derived.Test.YtknbomaidhlnlaaFrz
namespace Go.Abs.L42
open Go Go.Abs Go.Proofs
set_option linter.unusedVariables false
set_option maxRecDepth 20000
theorem act_len (l : List Req) (x n d : Int) : (actE l x n d).1.length ≤ l.length := by
  unfold actE dropE'
  repeat' split
  all_goals exact make_len _ _ _ _ _
abbrev St := Int × Int × Int
def encS (s : St) : List AV := [I s.1, I s.2.1, I s.2.2]
abbrev SS (l : List St) : AV := .rsl 3 l.length (l.map encS)
theorem mk7S {args : List AV} {r : AV} (hn : Nat.ble args.length 77 = true) (h : SemA Try.prog 77 (body Try.f7) ⟨idx 0 args, []⟩ (retQ tt [.tmp 4] r)) : Fn Try.prog 7 args r :=
  fn_ofS [.tmp 4] tabOK Try.func7 rfl (by kernel_rfl) hn rfl rfl h
abbrev ks7 : List Nat := [0, 1, 4, 6, 7, 8, 9, 11, 13, 27, 28, 29, 30, 31, 41, 46, 48, 49, 50, 51, 62]
theorem E7 {code : Code} {c : Cfg} {Q : Ex → Cfg → Prop} (hd : drawsOK code = true) (h : ev Try.prog tt 77 ks7 code c Q) : SemA Try.prog 77 code c Q := SemA.ev tabOK tabOne mixed hd h
theorem W7 {E : Env} {K : KM} {fr : List (Nat × AV)} {V : List (Nat × OBlk)} {a : Act} {w : World} (hN : E.N = 77) {code : Code} {Q : Ex → Cfg → Prop} {Q' : Exit → Act → World → Prop} (hs : SRK E K ⟨fr, V⟩ a w) (hd : drawsOK code = true)
    (h : ev Try.prog tt 77 ks7 code ⟨fr, V⟩ Q)
    (hQ : ∀ e c' K' a' w', Q e c' → SRK E K' c' a' w' → Left K V w K' w' → Q' e.toExit a' w') : code.wp Try.prog Q' a w :=
  wp_ev (Tl := []) tabOK tabOne mixed hN TailOK.nil (Apart.nil _) hd h (by rw [List.append_nil]; exact hs) fun e c' K' a' w' hq hs' hl => hQ e c' K' a' w' hq (by rw [List.append_nil] at hs'; exact hs') hl
theorem WO7 {E : Env} {K : KM} {fr : List (Nat × AV)} {V : List (Nat × OBlk)} {a : Act} {w : World} (hN : E.N = 77) {ops : Array Oper} {dm : List (Nat × Bool)} {Kk : Cfg → Prop} {Q : Exit → Act → World → Prop} {is : List Nat} (hs : SRK E K ⟨fr, V⟩ a w) (A : Acc) (i n : Nat)
    (hn : ((ops.toList.drop i).take n).length = n) (h : evOps false Try.prog tt 77 dm ops A i ((ops.toList.drop i).take n) ⟨fr, V⟩ Kk)
    (hQ : ∀ c' K' a' w', Kk c' → SRK E K' c' a' w' → Left K V w K' w' → wpOps Try.prog ops Q is a' w') : wpOps Try.prog ops Q (List.range' i n ++ is) a w := by
  have := wp_evOps (Tl := []) (is := is) (Q := Q) (l := (ops.toList.drop i).take n) tabOK tabOne hN TailOK.nil (Apart.nil _) (fun j hj => by
    rw [List.getElem?_take_of_lt (by omega), List.getElem?_drop]; simp) h (by rw [List.append_nil]; exact hs) fun c' K' a' w' hq hs' hl => hQ c' K' a' w' hq (by rw [List.append_nil] at hs'; exact hs') hl
  rw [hn] at this
  exact this
theorem wanted_of {ops : Array Oper} {o : Oper} {tm : Array Value} {j d : Nat} {want : Bool} (hg : o.guard = some (j, want)) (hgs : gslot ops j = some d) (htm : tm.getD d undef = .bool want) : Region.wanted o (yielded ops tm) = true := by
  simp only [Region.wanted, hg]; exact (yielded_iff hgs _).2 htm
theorem wanted_no {ops : Array Oper} {o : Oper} {tm : Array Value} (hg : o.guard = none) : Region.wanted o (yielded ops tm) = true := by
  simp [Region.wanted, hg]
theorem VR.lit_inv {w : World} {X : Nat → Prop} {K : KM} {u v : Value} (h : VR w X K (.lit u) v) : v = u := by cases h; rfl
theorem SRK.only {E : Env} {K : KM} {c : Cfg} {a : Act} {w : World} (h : SRK E K c a w) (ks ids : List Nat) : SRK E K (c.only ks ids) a w :=
  h.weak (fun t => lk_keep c.fr ks t) fun b x hb => olk_keep c.O ids b x hb
def outF (l : List Req) (k : Int) : Bool := l.any fun r => (r.st == 2) && (r.bx == k)
theorem outF_snoc (l : List Req) (r : Req) : outF (l ++ [r]) = fun k => if k = r.bx then (outF l r.bx || (r.st == 2)) else outF l k := by
  funext k
  simp only [outF, List.any_append, List.any_cons, List.any_nil, Bool.or_false]
  by_cases h : k = r.bx
  · subst h; simp
  · rw [if_neg h]
    have : (r.bx == k) = false := by simp; exact fun e => h e.symm
    rw [this]; simp
theorem outF_not {l : List Req} (h : checkE l = 0) {j : Nat} {r : Req} (hr : l[j]? = some r) (hst : r.st = 2) : outF (l.take j) r.bx = false := by
  rw [outF, List.any_eq_false]
  intro x hx hc
  obtain ⟨i, hi⟩ := List.getElem?_of_mem hx
  have hij : i < j := by
    have := (List.getElem?_eq_some_iff.1 hi).1
    simp at this; omega
  rw [List.getElem?_take_of_lt hij] at hi
  simp at hc
  exact (valid_iff.1 h).lent i j x r hij hi hr ⟨hc.1, hst, hc.2⟩
abbrev F7 (l m : List Req) (st : List St) (i : Nat) : List (Nat × AV) := [(0, A l), (1, SS st), (4, .bool false), (28, SS st), (29, I st.length), (30, I i)]
abbrev C7 (l : List Req) (st : List St) (i : Nat) : Cfg := ⟨[(0, A l), (1, SS st), (4, .bool false), (28, SS st), (29, I st.length), (30, I i)], []⟩
theorem u49 : Try.prog.underlying 49 = some (.map 3 4) := by kernel_rfl
theorem z4 (w : World) : (zeroValue 4).run Try.prog w = .ok (.bool false) w := by kernel_rfl
/-- what is held while the map is filled -/
structure MI (E : Env) (g : Nat) (f : Int → Bool) (w : World) : Prop where
  m : ∃ es cl, w.heap[g]? = some (.map es cl) ∧ MapB es f
  mine : E.X0 g ∨ E.w0.heap.size ≤ g
theorem MI.left {E : Env} {g : Nat} {f : Int → Bool} {K K' : KM} {c : Cfg} {a : Act} {w w' : World} (h : MI E g f w) (hs : SRK E K c a w) (hl : Left K c.O w K' w') : MI E g f w' := by
  obtain ⟨⟨es, cl, h1, h2⟩, h3⟩ := h
  exact ⟨⟨es, cl, by rw [hl.block g (Array.getElem?_eq_some_iff.1 h1).1 (hs.notLive h1)]; exact h1, h2⟩, h3⟩
end Go.Abs.L42
