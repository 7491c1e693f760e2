/- What the tree of decisions says, the interpreter says. -/
import Derived.Test.YtolbinhdmenekaaAxTree
import Derived.Test.YtolbinhdmenekaaAxExec
namespace Go.AI
set_option linter.unusedVariables false
set_option linter.unusedSimpArgs false

theorem Tr.run_bind {α β : Type} {f : α → Tr β} : ∀ (t : Tr α), (t.bind f).run = t.run.bind fun a => (f a).run
  | .leaf a => rfl
  | .fail => rfl
  | .br b t e => by cases b <;> simp [Tr.bind, Tr.run, Tr.run_bind t, Tr.run_bind e]
  | .opt o k => by
    cases o with
    | none => rfl
    | some y => simp [Tr.bind, Tr.run, Tr.run_bind (k y)]

theorem Tr.bind_some {α β : Type} {f : α → Tr β} {t : Tr α} {x : β} (h : (t.bind f).run = some x) : ∃ a, t.run = some a ∧ (f a).run = some x := by
  rw [Tr.run_bind] at h
  cases ht : t.run with
  | none => rw [ht] at h; simp at h
  | some a => rw [ht] at h; exact ⟨a, rfl, h⟩

theorem Tr.of_run {α : Type} (o : Option α) : (Tr.of o).run = o := by cases o <;> rfl

theorem Tr.br_some {α : Type} {b : Bool} {t e : Tr α} {x : α} (h : (Tr.br b t e).run = some x) : (b = true ∧ t.run = some x) ∨ (b = false ∧ e.run = some x) := by
  cases b with
  | true => exact .inl ⟨rfl, h⟩
  | false => exact .inr ⟨rfl, h⟩

theorem Tr.cond_some {α : Type} {b : Bool} {t : Tr α} {x : α} (h : (bif b then t else Tr.fail).run = some x) : b = true ∧ t.run = some x := by
  cases b with
  | true => exact ⟨rfl, h⟩
  | false => simp [Tr.run] at h

theorem Tr.opt_some {α β : Type} {o : Option β} {k : β → Tr α} {x : α} (h : (Tr.opt o k).run = some x) : ∃ y, o = some y ∧ (k y).run = some x := by
  cases o with
  | none => simp [Tr.run] at h
  | some y => exact ⟨y, rfl, h⟩

theorem Tr.fail_some {α : Type} {x : α} {p : Prop} (h : (Tr.fail : Tr α).run = some x) : p := by simp [Tr.run] at h

theorem Tr.leaf_some {α : Type} {a x : α} (h : (Tr.leaf a).run = some x) : a = x := Option.some.inj h

section
variable {P : Program}

theorem binT_run {op : BinOp} {t : TypeId} {x y z : DV} (h : (binT P op t x y).run = some z) : binDV P op t x y = some z := by
  unfold binT at h
  split at h
  · rename_i k a k' b
    split at h
    all_goals first
      | (rcases Tr.br_some h with ⟨h1, h2⟩ | ⟨h1, h2⟩
         · exact Tr.fail_some h2
         · have hb : ¬ b < 0 := by simpa using h1
           rw [Tr.of_run, show max b 0 = b by omega] at h2
           exact h2)
      | (by_cases hk : k = k'
         · subst hk
           simp only [decide_true, cond_true] at h
           rcases Tr.br_some h with ⟨h1, h2⟩ | ⟨h1, h2⟩
           · exact Tr.fail_some h2
           · have hb : ¬ b = 0 := by simpa using h1
             have := Tr.leaf_some h2
             subst this
             simp [binDV, intBin, hb]
         · simp only [decide_eq_false hk, cond_false] at h
           exact Tr.fail_some h)
      | (rw [Tr.of_run] at h; exact h)
  · rename_i a b
    split at h
    · rcases Tr.br_some h with ⟨h1, h2⟩ | ⟨h1, h2⟩
      · have hb := of_decide_eq_true h1
        have := Tr.leaf_some h2
        subst this
        simp [binDV, strBin, hb]
      · exact Tr.fail_some h2
    · rw [Tr.of_run] at h
      exact h
  · rw [Tr.of_run] at h; exact h

theorem convT_run {s t : TypeId} {x v : AV} (h : (convT P s t x).run = some v) : convA P s t x = some v := by
  unfold convT at h
  split at h
  · rename_i e h1 h2
    split at h
    · rename_i sz xs h3 h4
      obtain ⟨y, h5, h6⟩ := Tr.opt_some h
      have := Tr.leaf_some h6
      subst this
      simp [convA, h1, h2, h3, h4, h5]
    · exact Tr.fail_some h
  · rw [Tr.of_run] at h; exact h

theorem makeSliceT_run {t : TypeId} {l c v : AV} (h : (makeSliceT P t l c).run = some v) : makeSliceA P t l c = some v := by
  unfold makeSliceT at h
  split at h
  · rename_i e k l k' c h1
    split at h
    · rename_i i z h2 h3
      obtain ⟨h4, h⟩ := Tr.cond_some h
      rcases Tr.br_some h with ⟨h5, h6⟩ | ⟨_, h6⟩
      · have := Tr.leaf_some h6
        subst this
        have h4 := of_decide_eq_true h4
        have h5 := of_decide_eq_true h5
        simp only [makeSliceA, h1, h2, h3]
        rw [if_pos ⟨h5.1, h5.2.1, h5.2.2.1, h5.2.2.2, h4⟩]
      · exact Tr.fail_some h6
    · exact Tr.fail_some h
  · exact Tr.fail_some h

theorem sliceT_run {t : TypeId} {x : AV} {lo hi mx : Option AV} {v : AV} (h : (sliceT P t x lo hi mx).run = some v) : sliceA P t x lo hi mx = some v := by
  unfold sliceT at h
  split at h
  · rename_i h0
    split at h
    · rename_i s
      split at h
      · rename_i l hh h1 h2
        rcases Tr.br_some h with ⟨h3, h4⟩ | ⟨_, h4⟩
        · have := Tr.leaf_some h4
          subst this
          have h3 := of_decide_eq_true h3
          simp only [sliceA, h0, h1, h2]
          rw [if_pos h3]
        · exact Tr.fail_some h4
      · exact Tr.fail_some h
    · exact Tr.fail_some h
  · rename_i e h0
    split at h
    · rename_i sz xs h1
      split at h
      · rename_i l hh h2 h3
        obtain ⟨h4, h⟩ := Tr.cond_some h
        simp only [Bool.and_eq_true, decide_eq_true_eq] at h4
        rcases Tr.br_some h with ⟨h5, h6⟩ | ⟨_, h6⟩
        · have h5 := of_decide_eq_true h5
          simp only [sliceA, h0, h1, h2, h3]
          rw [if_pos ⟨h4.1, h5.1, h5.2.1, h5.2.2, .inl h4.2⟩]
          split at h6
          · have := Tr.leaf_some h6
            subst this; rfl
          · rename_i k m
            obtain ⟨h7, h6⟩ := Tr.cond_some h6
            simp only [Bool.and_eq_true, decide_eq_true_eq] at h7
            rcases Tr.br_some h6 with ⟨h8, h9⟩ | ⟨_, h9⟩
            · have h8 := of_decide_eq_true h8
              have := Tr.leaf_some h9
              subst this
              simp only
              rw [if_pos ⟨h8, h7.1, h7.2⟩, h4.2]
            · exact Tr.fail_some h9
          · exact Tr.fail_some h6
        · exact Tr.fail_some h6
      · exact Tr.fail_some h
    · exact Tr.fail_some h
  · exact Tr.fail_some h

theorem selT_run {α : Type} {i : Int} {f : Nat → Tr α} {x : α} : ∀ (n j : Nat), (selT i f n j).run = some x → ∃ m : Nat, i = m ∧ (f m).run = some x
  | 0, j, h => Tr.fail_some h
  | n + 1, j, h => by
    unfold selT at h
    rcases Tr.br_some h with ⟨h1, h2⟩ | ⟨_, h2⟩
    · exact ⟨j, of_decide_eq_true h1, h2⟩
    · exact selT_run n (j + 1) h2

theorem atT_run {α : Type} {io : Operand} {i : Int} {n : Nat} {f : Nat → Tr α} {x : α} (h : (atT io i n f).run = some x) : ∃ m : Nat, i = m ∧ (f m).run = some x := by
  unfold atT at h
  split at h
  · obtain ⟨h1, h2⟩ := Tr.cond_some h
    simp only [Bool.and_eq_true, decide_eq_true_eq] at h1
    exact ⟨i.toNat, by omega, h2⟩
  · exact selT_run _ _ h

theorem appendST_run {t : TypeId} {s x v : AV} {u : Option TypeId} (h : (appendST P t s x u).run = some v) : appendS P t s x u = some v := by
  unfold appendST at h
  split at h
  · rename_i e sz xs h0
    split at h
    · rename_i i zc h1 h2
      split at h
      · rename_i sz2 ys h3
        obtain ⟨h4, h⟩ := Tr.cond_some h
        simp only [Bool.and_eq_true, decide_eq_true_eq] at h4
        obtain ⟨⟨⟨h5, h6⟩, h7⟩, h8⟩ := h4
        rcases Tr.br_some h with ⟨h9, h10⟩ | ⟨_, h10⟩
        · have h9 := of_decide_eq_true h9
          have := Tr.leaf_some h10
          subst this
          simp only [appendS, h0, h1, h2, h3]
          rw [if_pos ⟨.inl h5, .inl h6, h7, h8, h9⟩, h5]
        · exact Tr.fail_some h10
      · exact Tr.fail_some h
    · exact Tr.fail_some h
  · exact Tr.fail_some h
end

section
variable {X : TX}

theorem appendZT_run {P : Program} {t : TypeId} {s v : AV} {n : Int} (h : (appendZT P t s n).run = some v) : appendZ P t s n = some v := by
  unfold appendZT at h
  unfold appendZ
  split at h
  · rename_i e sz xs ht
    simp only [ht]
    split at h
    · rename_i ik i he hi
      simp only [he, hi]
      obtain ⟨hc, h⟩ := Tr.cond_some h
      simp only [Bool.and_eq_true, decide_eq_true_eq] at hc
      rcases Tr.br_some h with ⟨hb, h⟩ | ⟨hb, h⟩
      · simp only [decide_eq_true_eq] at hb
        rw [if_pos ⟨⟨hc.1.1.1, hc.1.1.2, hc.1.2, hc.2⟩, hb⟩, Tr.leaf_some h]
      · exact Tr.fail_some h
    · exact Tr.fail_some h
  · exact Tr.fail_some h

theorem appendT_run {P : Program} {t : TypeId} {s x v : AV} {u : Option TypeId} (h : (appendT P t s x u).run = some v) : appendA P t s x u = some v := by
  unfold appendT at h
  unfold appendA
  split at h
  · simp only
    split at h
    · rename_i hu; simp only [hu]; exact appendZT_run h
    · exact Tr.fail_some h
    · rename_i h1 h2
      split
      · exact (h1 _ (by assumption)).elim
      · exact (h1 _ (by assumption)).elim
      · exact appendST_run h
  · exact Tr.fail_some h

theorem indexAddrT_run {t : TypeId} {x ix v : AV} {io : Operand} (h : (indexAddrT X t x ix io).run = some v) : indexAddrA X.P t x ix = some v := by
  unfold indexAddrT at h
  split at h
  · rename_i k i
    split at h
    · rename_i e h0
      split at h
      · rename_i sz xs h1
        obtain ⟨h2, h⟩ := Tr.cond_some h
        simp only [Bool.and_eq_true, decide_eq_true_eq] at h2
        rcases Tr.br_some h with ⟨h3, h4⟩ | ⟨_, h4⟩
        · have h3 := of_decide_eq_true h3
          obtain ⟨y, h5, h6⟩ := Tr.opt_some h4
          have := Tr.leaf_some h6
          subst this
          cases hx : xs[i.toNat]? with
          | none => rw [hx] at h5; simp at h5
          | some z =>
            rw [hx] at h5
            have := (X.vw e).ok z y h5
            simp only [indexAddrA, h0, h1]
            rw [if_pos ⟨h2.1, h3, h2.2⟩, hx, this]; rfl
        · exact Tr.fail_some h4
      · exact Tr.fail_some h
    · obtain ⟨m, rfl, h1⟩ := atT_run h
      rw [Tr.of_run] at h1; exact h1
    · exact Tr.fail_some h
  · exact Tr.fail_some h

theorem indexT_run {t : TypeId} {x ix v : AV} {io : Operand} (h : (indexT X t x ix io).run = some v) : indexA X.P t x ix = some v := by
  unfold indexT at h
  split at h
  · rename_i k i
    split at h
    · rename_i s h0
      rcases Tr.br_some h with ⟨h3, h4⟩ | ⟨_, h4⟩
      · have h3 := of_decide_eq_true h3
        obtain ⟨y, h5, h6⟩ := Tr.opt_some h4
        have := Tr.leaf_some h6
        subst this
        simp only [indexA, h0]
        rw [if_pos h3, h5]; rfl
      · exact Tr.fail_some h4
    · obtain ⟨m, rfl, h1⟩ := atT_run h
      rw [Tr.of_run] at h1; exact h1
    · exact Tr.fail_some h
  · exact Tr.fail_some h

theorem deDs_some : ∀ {cs : List AV} {xs : List DV}, deDs cs = some xs → cs = xs.map .d
  | [], _, h => by simp [deDs] at h; subst h; rfl
  | a :: r, xs, h => by
    cases a <;> simp [deDs] at h
    obtain ⟨ys, h1, rfl⟩ := h
    rw [deDs_some h1]; rfl

theorem deAV_some {v : AV} {x : DV} (h : deAV v = some x) : v = of1 x := by
  cases v <;> simp [deAV] at h
  case d y =>
    cases y <;> simp [deAV] at h <;> subst h <;> rfl
  case agg cs =>
    obtain ⟨xs, h1, rfl⟩ := h
    rw [deDs_some h1]; rfl

theorem has_find {k : DV} : ∀ {ks : List DV} {vs : List AV}, hasM k ks = false → findM k ks vs = none
  | [], _, _ => rfl
  | _ :: _, [], _ => rfl
  | x :: ks, v :: vs, h => by
    simp only [hasM, Bool.or_eq_false_iff] at h
    simp only [findM, h.1, cond_false, has_find h.2]

theorem lookupT_run {t : TypeId} {kd : KK} {k : DV} {ks : List DV} {vs : List AV} {ck : Bool} {v : AV} (h : (lookupT X t kd k ks vs ck).run = some v) : lookupA X.P t kd k ks vs ck = some v := by
  unfold lookupT at h
  unfold lookupA
  split at h
  · rename_i kd' et hty
    obtain ⟨hc, h⟩ := Tr.cond_some h
    simp only [Bool.and_eq_true, decide_eq_true_eq] at hc
    simp only [hty, if_pos hc]
    rcases Tr.br_some h with ⟨hb, h⟩ | ⟨hb, h⟩
    · obtain ⟨y, h1, h2⟩ := Tr.opt_some h
      cases hf : findM k ks vs with
      | none => rw [hf] at h1; simp at h1
      | some a =>
        rw [hf] at h1
        simp only [Option.bind_some] at h1
        cases hd : deAV a with
        | none => rw [hd] at h1; simp at h1
        | some x =>
          rw [hd] at h1
          have hx := (X.vw et).ok x y h1
          have ha := deAV_some hd
          rw [hx] at ha
          have := Tr.leaf_some h2
          rw [← this, ha]
    · rw [has_find hb]
      split at h
      · rename_i z hz
        have := Tr.leaf_some h
        simp only [hz, this]
      · exact Tr.fail_some h
  · exact Tr.fail_some h

theorem callT_run {f : FuncId} {as : List AV} {fr : Fr} {H : Hp} {r : R} (h : (callT X f as fr H).run = some r) : ∃ v H' ft, callA X.cx f as H = some (v, H', ft) ∧ r = ⟨v, fr, H', ft⟩ := by
  unfold callT at h
  unfold callA
  cases hi : X.iso f with
  | true =>
    rw [hi, cond_true] at h
    rw [show X.cx.iso f = true from hi, cond_true]
    split at h
    · rename_i ds h1
      obtain ⟨⟨v, H0⟩, h2, h3⟩ := Tr.bind_some h
      have h2' : X.cx.call f (ds.map of1) [] = some (v, H0) := h2
      simp only at h3
      split at h3
      · rename_i x h4
        have := Tr.leaf_some h3
        exact ⟨_, _, _, by simp only [h1, h2', h4], this.symm⟩
      · exact Tr.fail_some h3
    · exact Tr.fail_some h
  | false =>
    rw [hi, cond_false] at h
    rw [show X.cx.iso f = false from hi, cond_false]
    obtain ⟨h1, h⟩ := Tr.cond_some h
    obtain ⟨⟨v, H0⟩, h2, h3⟩ := Tr.bind_some h
    have h2' : X.cx.call f as H = some (v, H0) := h2
    rw [if_pos h1, h2']
    exact ⟨_, _, _, rfl, (Tr.leaf_some h3).symm⟩

theorem pureT_run {t : Tr AV} {fr : Fr} {H : Hp} {r : R} (h : (t.bind fun v => pureT v fr H).run = some r) : ∃ v, t.run = some v ∧ r = ⟨v, fr, H, ftOf v⟩ := by
  obtain ⟨v, h1, h2⟩ := Tr.bind_some h
  exact ⟨v, h1, (Tr.leaf_some h2).symm⟩

theorem aopT_run {st hf : Bool} {fr : Fr} {H : Hp} {op : Op} {r : R} (h : (aopT X st hf fr H op).run = some r) : aop X.cx st hf fr H op = some r := by
  unfold aopT at h
  split at h
  · split at h
    · rename_i a b h1 h2
      obtain ⟨z, h3, h4⟩ := Tr.bind_some h
      have := Tr.leaf_some h4
      subst this
      have h5 : binDV X.cx.P _ _ a b = some z := binT_run h3
      simp only [aop, h1, h2, h5]; rfl
    · exact Tr.fail_some h
  · split at h
    · rename_i v h1
      obtain ⟨z, h3, rfl⟩ := pureT_run h
      have h5 : convA X.cx.P _ _ v = some z := convT_run h3
      simp only [aop, h1, h5]; rfl
    · exact Tr.fail_some h
  · split at h
    · rename_i l c h1 h2
      obtain ⟨z, h3, rfl⟩ := pureT_run h
      have h5 : makeSliceA X.cx.P _ l c = some z := makeSliceT_run h3
      simp only [aop, h1, h2, h5]; rfl
    · exact Tr.fail_some h
  · split at h
    · rename_i v h1
      split at h
      · rename_i l hh m h2 h3 h4
        obtain ⟨z, h5, rfl⟩ := pureT_run h
        have h6 : sliceA X.cx.P _ v _ _ _ = some z := sliceT_run h5
        simp only [aop, h1, h2, h3, h4, h6]; rfl
      · exact Tr.fail_some h
    · exact Tr.fail_some h
  · split at h
    · rename_i v j h1 h2
      obtain ⟨z, h5, rfl⟩ := pureT_run h
      have h6 : indexAddrA X.cx.P _ v j = some z := indexAddrT_run h5
      simp only [aop, h1, h2, h6]; rfl
    · exact Tr.fail_some h
  · split at h
    · rename_i v j h1 h2
      obtain ⟨z, h5, rfl⟩ := pureT_run h
      have h6 : indexA X.cx.P _ v j = some z := indexT_run h5
      simp only [aop, h1, h2, h6]; rfl
    · exact Tr.fail_some h
  · split at h
    · rename_i b k h1 h2
      split at h
      · rename_i kd ks vs hg
        obtain ⟨v, h3, h4⟩ := Tr.bind_some h
        have := Tr.leaf_some h4
        subst this
        have h5 : lookupA X.cx.P _ kd k ks vs _ = some v := lookupT_run h3
        simp only [aop, h1, h2, hg, h5]
      · exact Tr.fail_some h
    · exact Tr.fail_some h
  · rename_i c
    split at h
    · rename_i hc
      split at h
      · rename_i s x t u h1 h2
        split at h
        · rename_i s' fr' x' h3 h4
          obtain ⟨z, h5, rfl⟩ := pureT_run h
          have h6 : appendA X.cx.P t s' x' (some u) = some z := appendT_run h5
          simp only [aop, hc, h1, h2, h3, h4, h6]; rfl
        · exact Tr.fail_some h
      · exact Tr.fail_some h
    · rename_i f hc
      split at h
      · rename_i g as h1 h2
        obtain ⟨v, H', ft, h3, rfl⟩ := callT_run h
        simp only [aop, hc, h1, h2, h3]
      · exact Tr.fail_some h
    · rw [Tr.of_run] at h; exact h
  · rw [Tr.of_run] at h; exact h

/-! ### What is known -/

def KnOK (s : SK) : Prop := ∀ t b, kget s.kn t = some b → get s.fr t = some (.d (.bool b))

theorem upd_same {t : Nat} {a : AV} : ∀ {fr : Fr}, get fr t = some a → upd t a fr = fr
  | [], h => by simp [get] at h
  | (u, c) :: r, h => by
    by_cases hu : u = t
    · simp only [get, hu, if_true, Option.some.injEq] at h
      simp [upd, hu, h]
    · simp only [get, if_neg hu] at h
      simp [upd, hu, upd_same h]

theorem decT_run {α : Type} {t : Nat} {s : SK} {yes no un : SK → Tr α} {x : α} (hk : KnOK s) (h : (decT t s yes no un).run = some x) :
    (∃ b s', get s.fr t = some (.d (.bool b)) ∧ s'.fr = s.fr ∧ s'.H = s.H ∧ KnOK s' ∧ ((bif b then yes s' else no s').run = some x)) ∨ (get s.fr t = some .undef ∧ (un s).run = some x) := by
  have cons : ∀ b, get s.fr t = some (.d (.bool b)) → KnOK ⟨s.fr, s.H, (t, b) :: s.kn⟩ := fun b hg u c hu => by
    simp only [kget] at hu
    by_cases htu : t = u
    · subst htu; simp at hu; subst hu; exact hg
    · rw [if_neg htu] at hu; exact hk u c hu
  unfold decT at h
  split at h
  · rename_i hg; exact .inl ⟨true, s, hk _ _ hg, rfl, rfl, hk, h⟩
  · rename_i hg; exact .inl ⟨false, s, hk _ _ hg, rfl, rfl, hk, h⟩
  · split at h
    · rename_i b hg
      rcases Tr.br_some h with ⟨rfl, h2⟩ | ⟨rfl, h2⟩
      · rw [upd_same hg] at h2; exact .inl ⟨true, ⟨s.fr, s.H, (t, true) :: s.kn⟩, hg, rfl, rfl, cons _ hg, h2⟩
      · rw [upd_same hg] at h2; exact .inl ⟨false, ⟨s.fr, s.H, (t, false) :: s.kn⟩, hg, rfl, rfl, cons _ hg, h2⟩
    · rename_i hg; exact .inr ⟨hg, h⟩
    · exact Tr.fail_some h

theorem kget_kdel {d t : Nat} {b : Bool} : ∀ {kn : Kn}, kget (kdel d kn) t = some b → t ≠ d ∧ kget kn t = some b
  | [], h => by simp [kdel, kget] at h
  | (u, c) :: r, h => by
    by_cases hu : u = d
    · simp only [kdel, hu, if_true] at h
      obtain ⟨h1, h2⟩ := kget_kdel h
      exact ⟨h1, by simp [kget, hu, Ne.symm h1, h2]⟩
    · simp only [kdel, if_neg hu, kget] at h
      by_cases hut : u = t
      · rw [if_pos hut] at h
        exact ⟨by rw [← hut]; exact hu, by simp [kget, hut, h]⟩
      · rw [if_neg hut] at h
        obtain ⟨h1, h2⟩ := kget_kdel h
        exact ⟨h1, by simp [kget, hut, h2]⟩

theorem KnOK.put {fr fr' : Fr} {H H' : Hp} {kn : Kn} {dst : Option Nat} {v : AV} {kb : Option Bool} (hk : KnOK ⟨fr, H, kn⟩) (hf : ∀ t b, get fr t = some (.d (.bool b)) → get fr' t = some (.d (.bool b)))
    (hv : ∀ b, kb = some b → v = .d (.bool b)) : KnOK ⟨Go.AI.put dst v fr', H', kput dst kb kn⟩ := by
  intro t b h
  cases dst with
  | none => exact hf _ _ (hk t b h)
  | some d =>
    have old : kget (kdel d kn) t = some b → get (Go.AI.put (some d) v fr') t = some (.d (.bool b)) := fun h => by
      obtain ⟨h1, h2⟩ := kget_kdel h
      rw [get_put, if_neg h1, hf t b (hk t b h2)]; rfl
    cases kb with
    | none => exact old h
    | some c =>
      simp only [kput, kget] at h
      by_cases htd : d = t
      · subst htd
        simp at h; subst h
        rw [get_put, if_pos rfl, hv _ rfl]; rfl
      · rw [if_neg htd] at h; exact old h

theorem aop_bools {cx : Cx} {st hf : Bool} {fr : Fr} {H : Hp} {op : Op} {r : R} (h : aop cx st hf fr H op = some r) (t : Nat) (b : Bool) (hg : get fr t = some (.d (.bool b))) : get r.fr t = some (.d (.bool b)) := by
  obtain ⟨e, h1, _, _, h4, _⟩ := aop_loc h
  rw [h1]
  have hd : get (disL e.ds fr) t = some (.d (.bool b)) := by rw [get_disL, hg]; split <;> rfl
  unfold Eff.app
  cases hb : e.bx with
  | none => exact hd
  | some p =>
    obtain ⟨u, lo, cs⟩ := p
    simp only [boxApp]
    split
    · rename_i bb hu
      rw [get_upd]
      split
      · rename_i htu; subst htu; rw [hd] at hu; simp at hu
      · exact hd
    · exact hd

theorem know_rd {cx : Cx} {fr : Fr} {H : Hp} {kn : Kn} {o : Operand} {b : Bool} (hk : KnOK ⟨fr, H, kn⟩) (h : know kn o = some b) : rd cx fr o = some (.d (.bool b)) := by
  cases o with
  | tmp t => simp only [rd, hk t b h]; rfl
  | const v =>
    cases v <;> simp [know] at h
    subst h; rfl
  | global g => simp [know] at h
  | func f => simp [know] at h

theorem know_rdS {cx : Cx} {st : Bool} {fr fr' : Fr} {H : Hp} {kn : Kn} {o : Operand} {b : Bool} {v : AV} (hk : KnOK ⟨fr, H, kn⟩) (h : know kn o = some b) (hr : rdS cx st fr o = some (v, fr')) : v = .d (.bool b) := by
  have h1 := know_rd (cx := cx) hk h
  cases st with
  | false => simp only [rdS, cond_false, h1, Option.map_some] at hr; exact (Prod.mk.inj (Option.some.inj hr)).1.symm
  | true =>
    cases o with
    | tmp t => simp only [rdS, cond_true, hk t b h] at hr; exact (Prod.mk.inj (Option.some.inj hr)).1.symm
    | const v' => simp only [rdS, cond_true, h1, Option.map_some] at hr; exact (Prod.mk.inj (Option.some.inj hr)).1.symm
    | global g => simp [know] at h
    | func f => simp [know] at h

theorem knowOp_v {cx : Cx} {st hf : Bool} {fr : Fr} {H : Hp} {kn : Kn} {op : Op} {r : R} {b : Bool} (hk : KnOK ⟨fr, H, kn⟩) (hb : knowOp kn op = some b) (h : aop cx st hf fr H op = some r) : r.v = .d (.bool b) := by
  unfold knowOp at hb
  split at hb
  · simp only [aop] at h
    split at h
    · rename_i h1; obtain rfl := Option.some.inj h; exact know_rdS hk hb h1
    · simp at h
  · simp only [aop] at h
    split at h
    · rename_i h1; obtain rfl := Option.some.inj h; exact know_rdS hk hb h1
    · simp at h
  · split at hb
    · rename_i c h1
      obtain rfl := Option.some.inj hb
      simp only [aop, know_rd (cx := cx) hk h1, unDV] at h
      obtain rfl := Option.some.inj h
      rfl
    · simp at hb
  · simp at hb

theorem fixA_bool {fx : List (Option Nat)} {b : Bool} : fixA fx (.d (.bool b)) = .d (.bool b) := by
  cases fx with
  | nil => rfl
  | cons f fx => cases f <;> rfl

/-- What an operation leaves. -/
def OpDid (X : TX) (st hf : Bool) (dst : Option Nat) (op : Op) (fx : List (Option Nat)) (s s' : SK) (ft : Foot) : Prop :=
  ∃ r, aop X.cx st hf s.fr s.H op = some r ∧ okV r.v r.ft = true ∧ s'.fr = put dst (fixA fx r.v) r.fr ∧ s'.H = r.H ∧ KnOK s' ∧ ft = r.ft

theorem goDid {st hf : Bool} {dst : Option Nat} {op : Op} {fx : List (Option Nat)} {s s' : SK} {r : R} (hk : KnOK s) (h1 : aop X.cx st hf s.fr s.H op = some r) (h2 : okV r.v r.ft = true)
    (h3 : s' = ⟨put dst (fixA fx r.v) r.fr, r.H, kput dst (knowOp s.kn op) s.kn⟩) : OpDid X st hf dst op fx s s' r.ft := by
  subst h3
  refine ⟨r, h1, h2, rfl, rfl, KnOK.put hk (aop_bools h1) fun b hb => ?_, rfl⟩
  rw [knowOp_v hk hb h1, fixA_bool]

theorem pickDid {st hf : Bool} {dst : Option Nat} {c a b : Operand} {fx : List (Option Nat)} {s s' : SK} (hk : KnOK s) (h : (pickT X dst fx c a b s).run = some s') : OpDid X st hf dst (.pick c a b) fx s s' .non := by
  unfold pickT at h
  split at h
  · rename_i t
    have go : ∀ (v : Bool) (s1 : SK) (x : Operand), get s.fr t = some (.d (.bool v)) → s1.fr = s.fr → s1.H = s.H → KnOK s1 → x = (bif v then a else b) → (pickT.pickGo X dst fx a b x s1).run = some s' → OpDid X st hf dst (.pick (.tmp t) a b) fx s s' .non := by
      intro v s1 x hg hf1 hH1 hk1 hx h
      unfold pickT.pickGo at h
      rw [hf1] at h
      split at h
      · rename_i u w y h1 h2 h3
        obtain ⟨h4, h⟩ := Tr.cond_some h
        have := Tr.leaf_some h
        subst this
        have hy : y = bif v then u else w := by
          subst hx
          cases v with
          | true => rw [cond_true] at h3 ⊢; rw [h1] at h3; exact (Option.some.inj h3).symm
          | false => rw [cond_false] at h3 ⊢; rw [h2] at h3; exact (Option.some.inj h3).symm
        have hp : pickB y = true := by
          simp only [Bool.and_eq_true] at h4
          rw [hy]; cases v
          · exact h4.2
          · exact h4.1
        have hft : ftOf y = .non := by cases y <;> first | rfl | simp [pickB] at hp
        have hok : okV y .non = true := by cases y <;> first | rfl | simp [pickB] at hp
        have hrt : rd X.cx s.fr (.tmp t) = some (.d (.bool v)) := by simp only [rd, hg]; rfl
        refine ⟨⟨y, s.fr, s.H, .non⟩, ?_, hok, rfl, hH1, ?_, rfl⟩
        · simp only [aop, hrt, h1, h2, h4, cond_true, ← hy, pureR, hft]
        · have hk2 : KnOK ⟨s.fr, s1.H, s1.kn⟩ := by rw [← hf1]; exact hk1
          refine KnOK.put (fr' := s.fr) hk2 (fun _ _ h => h) fun bb hb => ?_
          have := know_rd (cx := X.cx) hk2 hb
          rw [h3] at this
          rw [Option.some.inj this, fixA_bool]
      · exact Tr.fail_some h
    rcases decT_run hk h with ⟨v, s1, h1, h2, h3, h4, h5⟩ | ⟨_, h5⟩
    · cases v with
      | true => exact go true s1 a h1 h2 h3 h4 rfl h5
      | false => exact go false s1 b h1 h2 h3 h4 rfl h5
    · exact Tr.fail_some h5
  · exact Tr.fail_some h

theorem opDid {st hf : Bool} {dst : Option Nat} {op : Op} {fx : List (Option Nat)} {s s' : SK} (hk : KnOK s) (h : (opT X st hf dst op fx s).run = some s') : ∃ ft, OpDid X st hf dst op fx s s' ft := by
  unfold opT at h
  split at h
  · exact ⟨_, pickDid hk h⟩
  · unfold goT at h
    obtain ⟨r, h1, h2⟩ := Tr.bind_some h
    obtain ⟨h3, h4⟩ := Tr.cond_some h2
    exact ⟨_, goDid hk (aopT_run h1) h3 (Tr.leaf_some h4).symm⟩

theorem skip_ok {dst : Option Nat} {s : SK} (hk : KnOK s) : KnOK (skipT dst s) := KnOK.put hk (fun _ _ h => h) fun _ h => by simp at h

theorem guard_cg {ops : List Oper} {o : Oper} {fr : Fr} : guardOf ops fr o = match cgOf ops o with
    | .yes => some true
    | .no => some false
    | .on d want => match get fr d with
      | some (.d (.bool b)) => some (b == want)
      | some .undef => some false
      | _ => none := by
  unfold guardOf cgOf
  cases o.guard with
  | none => rfl
  | some jw =>
    obtain ⟨j, want⟩ := jw
    simp only
    cases ops[j]? with
    | none => rfl
    | some oj =>
      simp only
      cases oj.dst with
      | none => rfl
      | some d => rfl

theorem step_of_did {an : RA} {ops : List Oper} {i : Nat} {o : Oper} {s s1 s' : SK} {ft : Foot} (hg : guardOf ops s.fr o = some true) (hf1 : s1.fr = s.fr) (hH1 : s1.H = s.H) (h : OpDid X (an.st.contains i) (an.hf.contains i) o.dst o.op (fxOf X.P o.type) s1 s' ft) :
    stepOp X.cx an ops i o ⟨s.fr, s.H⟩ = some ⟨s'.fr, s'.H⟩ ∧ KnOK s' ∧ stepFt X.cx an ops i o ⟨s.fr, s.H⟩ = ⟨ft, o.dst⟩ := by
  obtain ⟨r, h1, h2, h3, h4, h5, rfl⟩ := h
  rw [hf1, hH1] at h1
  refine ⟨?_, h5, ?_⟩
  · simp only [stepOp, hg, h1, h2, cond_true, h3, h4]; rfl
  · simp only [stepFt, hg, h1]

theorem step_of_skip {an : RA} {ops : List Oper} {i : Nat} {o : Oper} {s s1 : SK} (hg : guardOf ops s.fr o = some false) (hf1 : s1.fr = s.fr) (hH1 : s1.H = s.H) (hk : KnOK s1) :
    stepOp X.cx an ops i o ⟨s.fr, s.H⟩ = some ⟨(skipT o.dst s1).fr, (skipT o.dst s1).H⟩ ∧ KnOK (skipT o.dst s1) ∧ stepFt X.cx an ops i o ⟨s.fr, s.H⟩ = ⟨.non, o.dst⟩ := by
  refine ⟨?_, skip_ok hk, ?_⟩
  · simp only [stepOp, hg, skipT, hf1, hH1]
  · simp only [stepFt, hg]

theorem stepT_run {an : RA} {ops : List Oper} {i : Nat} {o : Oper} {s s' : SK} (hk : KnOK s) (h : (stepT X ⟨cgOf ops o, o.dst, o.op, an.st.contains i, an.hf.contains i, fxOf X.P o.type⟩ s).run = some s') :
    stepOp X.cx an ops i o ⟨s.fr, s.H⟩ = some ⟨s'.fr, s'.H⟩ ∧ KnOK s' := by
  unfold stepT at h
  simp only at h
  have hgd := guard_cg (ops := ops) (o := o) (fr := s.fr)
  cases hc : cgOf ops o with
  | yes =>
    rw [hc] at h hgd
    obtain ⟨ft, h1⟩ := opDid hk h
    obtain ⟨h2, h3, _⟩ := step_of_did hgd rfl rfl h1
    exact ⟨h2, h3⟩
  | no =>
    rw [hc] at h hgd
    have := Tr.leaf_some h
    subst this
    obtain ⟨h2, h3, _⟩ := step_of_skip (an := an) (i := i) (X := X) hgd rfl rfl hk
    exact ⟨h2, h3⟩
  | on d want =>
    rw [hc] at h hgd
    simp only at h hgd
    have skip : ∀ (s1 : SK), guardOf ops s.fr o = some false → s1.fr = s.fr → s1.H = s.H → KnOK s1 → (Tr.leaf (skipT o.dst s1)).run = some s' → stepOp X.cx an ops i o ⟨s.fr, s.H⟩ = some ⟨s'.fr, s'.H⟩ ∧ KnOK s' := by
      intro s1 hg hf1 hH1 hk1 h
      have := Tr.leaf_some h
      subst this
      obtain ⟨h2, h3, _⟩ := step_of_skip (an := an) (i := i) (X := X) hg hf1 hH1 hk1
      exact ⟨h2, h3⟩
    have go : ∀ (s1 : SK), guardOf ops s.fr o = some true → s1.fr = s.fr → s1.H = s.H → KnOK s1 → (opT X (an.st.contains i) (an.hf.contains i) o.dst o.op (fxOf X.P o.type) s1).run = some s' → stepOp X.cx an ops i o ⟨s.fr, s.H⟩ = some ⟨s'.fr, s'.H⟩ ∧ KnOK s' := by
      intro s1 hg hf1 hH1 hk1 h
      obtain ⟨ft, h1⟩ := opDid hk1 h
      obtain ⟨h2, h3, _⟩ := step_of_did hg hf1 hH1 h1
      exact ⟨h2, h3⟩
    rcases decT_run hk h with ⟨b, s1, h1, h2, h3, h4, h5⟩ | ⟨h1, h5⟩
    · rw [h1] at hgd
      simp only at hgd
      cases b <;> cases want
      · exact go s1 hgd h2 h3 h4 h5
      · exact skip s1 hgd h2 h3 h4 h5
      · exact skip s1 hgd h2 h3 h4 h5
      · exact go s1 hgd h2 h3 h4 h5
    · rw [h1] at hgd
      exact skip s hgd rfl rfl hk h5

theorem runT_run {an : RA} {ops : List Oper} : ∀ (l : List Oper) (i : Nat) {s s' : SK}, KnOK s → (runT X (compile X.P an ops i l) s).run = some s' → runOps X.cx an ops i l ⟨s.fr, s.H⟩ = some ⟨s'.fr, s'.H⟩ ∧ KnOK s'
  | [], i, s, s', hk, h => by
    have := Tr.leaf_some h
    subst this
    exact ⟨rfl, hk⟩
  | o :: l, i, s, s', hk, h => by
    simp only [compile, runT] at h
    obtain ⟨s1, h1, h2⟩ := Tr.bind_some h
    obtain ⟨h3, h4⟩ := stepT_run hk h1
    obtain ⟨h5, h6⟩ := runT_run l (i + 1) h4 h2
    exact ⟨by simp only [runOps, h3, h5], h6⟩

theorem ftDid {an : RA} {i : Nat} {g : CG} {o : Oper} {s : SK} {x : SF} (hk : KnOK s) (h : (ftT X an i g o s).run = some x) : ∃ ft, OpDid X (an.st.contains i) (an.hf.contains i) o.dst o.op (fxOf X.P o.type) s x.s ft ∧ x.fs = [⟨ft, o.dst⟩] := by
  unfold ftT at h
  split at h
  · rename_i c a b hop
    obtain ⟨s1, h1, h2⟩ := Tr.bind_some h
    have := Tr.leaf_some h2
    subst this
    rw [hop]
    exact ⟨.non, pickDid hk h1, rfl⟩
  · obtain ⟨r, h1, h2⟩ := Tr.bind_some h
    obtain ⟨h3, h4⟩ := Tr.cond_some h2
    have := Tr.leaf_some h4
    subst this
    exact ⟨r.ft, goDid hk (aopT_run h1) h3 rfl, rfl⟩

theorem stepFT_run {an : RA} {ops : List Oper} {i : Nat} {o : Oper} {s : SK} {x : SF} (hk : KnOK s) (h : (stepFT X an ops i o s).run = some x) :
    stepOp X.cx an ops i o ⟨s.fr, s.H⟩ = some ⟨x.s.fr, x.s.H⟩ ∧ KnOK x.s ∧ x.fs = [stepFt X.cx an ops i o ⟨s.fr, s.H⟩] := by
  unfold stepFT at h
  have hgd := guard_cg (ops := ops) (o := o) (fr := s.fr)
  have skip : ∀ (s1 : SK), guardOf ops s.fr o = some false → s1.fr = s.fr → s1.H = s.H → KnOK s1 → (Tr.leaf (SF.mk (skipT o.dst s1) [⟨.non, o.dst⟩])).run = some x →
      stepOp X.cx an ops i o ⟨s.fr, s.H⟩ = some ⟨x.s.fr, x.s.H⟩ ∧ KnOK x.s ∧ x.fs = [stepFt X.cx an ops i o ⟨s.fr, s.H⟩] := by
    intro s1 hg hf1 hH1 hk1 h
    have := Tr.leaf_some h
    subst this
    obtain ⟨h2, h3, h4⟩ := step_of_skip (an := an) (i := i) (X := X) hg hf1 hH1 hk1
    exact ⟨h2, h3, by rw [h4]⟩
  have go : ∀ (s1 : SK) (g : CG), guardOf ops s.fr o = some true → s1.fr = s.fr → s1.H = s.H → KnOK s1 → (ftT X an i g o s1).run = some x →
      stepOp X.cx an ops i o ⟨s.fr, s.H⟩ = some ⟨x.s.fr, x.s.H⟩ ∧ KnOK x.s ∧ x.fs = [stepFt X.cx an ops i o ⟨s.fr, s.H⟩] := by
    intro s1 g hg hf1 hH1 hk1 h
    obtain ⟨ft, h1, h2⟩ := ftDid hk1 h
    obtain ⟨h3, h4, h5⟩ := step_of_did (ops := ops) hg hf1 hH1 h1
    exact ⟨h3, h4, by rw [h2, h5]⟩
  cases hc : cgOf ops o with
  | yes => rw [hc] at h hgd; exact go s .yes hgd rfl rfl hk h
  | no => rw [hc] at h hgd; exact skip s hgd rfl rfl hk h
  | on d want =>
    rw [hc] at h hgd
    simp only at h hgd
    rcases decT_run hk h with ⟨b, s1, h1, h2, h3, h4, h5⟩ | ⟨h1, h5⟩
    · rw [h1] at hgd
      simp only at hgd
      cases b <;> cases want
      · exact go s1 .yes hgd h2 h3 h4 h5
      · exact skip s1 hgd h2 h3 h4 h5
      · exact skip s1 hgd h2 h3 h4 h5
      · exact go s1 .yes hgd h2 h3 h4 h5
    · rw [h1] at hgd
      exact skip s hgd rfl rfl hk h5

theorem runFT_run {an : RA} {ops : List Oper} : ∀ (l : List Oper) (i : Nat) {s : SK} {x : SF}, KnOK s → (runFT X an ops i l s).run = some x →
    runOps X.cx an ops i l ⟨s.fr, s.H⟩ = some ⟨x.s.fr, x.s.H⟩ ∧ KnOK x.s ∧ x.fs = runFts X.cx an ops i l ⟨s.fr, s.H⟩
  | [], i, s, x, hk, h => by
    have := Tr.leaf_some h
    subst this
    exact ⟨rfl, hk, rfl⟩
  | o :: l, i, s, x, hk, h => by
    simp only [runFT] at h
    obtain ⟨x1, h1, h2⟩ := Tr.bind_some h
    obtain ⟨x2, h3, h4⟩ := Tr.bind_some h2
    have := Tr.leaf_some h4
    subst this
    obtain ⟨h5, h6, h7⟩ := stepFT_run hk h1
    obtain ⟨h8, h9, h10⟩ := runFT_run l (i + 1) h6 h3
    exact ⟨by simp only [runOps, h5, h8], h9, by simp only [runFts, h5, h7, h10]; rfl⟩

theorem keep_ok {s : SK} {lv : List Nat} (hk : KnOK s) : KnOK (s.keep lv) := by
  intro t b h
  have hkg : ∀ (kn : Kn), kget (krestrict kn lv) t = some b → t ∈ lv ∧ kget kn t = some b := by
    intro kn
    induction kn with
    | nil => intro h; simp [krestrict, kget] at h
    | cons p r ih =>
      obtain ⟨u, c⟩ := p
      intro h
      by_cases hu : u ∈ lv
      · have e : krestrict ((u, c) :: r) lv = (u, c) :: krestrict r lv := by simp [krestrict, hu]
        rw [e] at h
        simp only [kget] at h ⊢
        by_cases hut : u = t
        · rw [if_pos hut] at h ⊢; exact ⟨by rw [← hut]; exact hu, h⟩
        · rw [if_neg hut] at h ⊢; exact ih h
      · have e : krestrict ((u, c) :: r) lv = krestrict r lv := by simp [krestrict, hu]
        rw [e] at h
        obtain ⟨h1, h2⟩ := ih h
        have hut : u ≠ t := fun he => hu (he ▸ h1)
        exact ⟨h1, by simp only [kget, if_neg hut, h2]⟩
  obtain ⟨h1, h2⟩ := hkg s.kn h
  have hg := hk t b h2
  show get (restrict s.fr lv) t = _
  have : ∀ (l : List Nat), t ∈ l → get (restrict s.fr l) t = some (.d (.bool b)) := by
    intro l
    induction l with
    | nil => intro h; simp at h
    | cons u l ih =>
      intro hm
      by_cases hut : u = t
      · subst hut
        simp only [restrict, hg, keepB, cond_true, get, if_true]
      · have := ih (by rcases List.mem_cons.1 hm with h | h; exact absurd h.symm hut; exact h)
        simp only [restrict]
        split
        · rename_i a _
          cases keepB a with
          | true => simp only [cond_true, get, if_neg hut]; exact this
          | false => exact this
        · exact this
  exact this lv h1
end

section
variable {X : TX}

/-- What code does. -/
def Tri (P : Program) (gl : Nat → Option DV) (c : Code) (s : ST) (r : Ex × ST) : Prop :=
  ∀ (E : Ent) (a : Act) (w : World) (Q : Exit → Act → World → Prop), GOK gl E.Φ → codeOK a.tmps.size c = true → SR E s a.tmps w → Upon E a.tmps.size a.defers r Q → c.wp P Q a w

/-- What a piece of code does, in sum. -/
def SumOK (P : Program) (gl : Nat → Option DV) (an : Ann) (f : ST → Tr (Ex × ST)) (b : CC) : Prop :=
  ∀ c, comp P an c = erase b → ∀ s r, (f s).run = some r → Tri P gl c s r

def Sums (P : Program) (gl : Nat → Option DV) (an : Ann) : CC → Prop
  | .seq a b => Sums P gl an a ∧ Sums P gl an b
  | .cond _ a b => Sums P gl an a ∧ Sums P gl an b
  | .block _ b => Sums P gl an b
  | .keep _ b => Sums P gl an b
  | .sum f b => SumOK P gl an f b
  | .region _ lv => True
  | _ => True

def keepsOK : CC → Bool
  | .seq a b => keepsOK a && keepsOK b
  | .cond _ a b => keepsOK a && keepsOK b
  | .block _ b => keepsOK b
  | .keep lv b => decide lv.Nodup && keepsOK b
  | _ => true

/-- What a function does, in sum. -/
def FnOK (P : Program) (gl : Nat → Option DV) (f : FuncId) (g : FT) : Prop :=
  (∃ fn : Func, P.funcs[f]? = some fn ∧ fn.body.isSome) ∧
  ∀ as H v H', (g as H).run = some (v, H') → ∀ (w : World) (Φ : Mem) (μ BH : List Nat) (vals : List Value), WOK Φ w.heap → GOK gl Φ →
    All2 (fun a x => AR1 ⟨Φ, w.heap, μ⟩ a x []) as vals → HR ⟨Φ, w.heap, μ⟩ H μ BH → BH.Nodup →
    Calls P f vals.toArray w fun e w' => ∃ x, e = .returned x ∧ Post w Φ μ BH v H' x w'

def TblOK (P : Program) (gl : Nat → Option DV) : List (Nat × FT) → Prop
  | [] => True
  | (f, g) :: r => FnOK P gl f g ∧ TblOK P gl r

theorem tbl_ok {P : Program} {gl : Nat → Option DV} : ∀ {l : List (Nat × FT)}, TblOK P gl l → ∀ f as H r, (tbl l f as H).run = some r → ∃ g, FnOK P gl f g ∧ (g as H).run = some r
  | [], _, f, as, H, r, h => Tr.fail_some h
  | (f', g) :: l, hT, f, as, H, r, h => by
    unfold tbl at h
    split at h
    · rename_i hf; subst hf; exact ⟨g, hT.1, h⟩
    · exact tbl_ok hT.2 f as H r h

structure XOK (X : TX) (an : Ann) (gl : Nat → Option DV) : Prop where
  prog : ProgOK X.P
  mixed : X.P.follows .mixedOrders = true
  live : ∀ id, (an id).live.Nodup
  glob : X.glob = gl
  call : ∀ f as H r, (X.call f as H).run = some r → ∃ g, FnOK X.P gl f g ∧ (g as H).run = some r

theorem XOK.cxok {an : Ann} {gl : Nat → Option DV} (hX : XOK X an gl) {E : Ent} (hg : GOK gl E.Φ) : CxOK X.P E X.cx := by
  refine ⟨?_, ?_, hX.prog, rfl, by show GOK X.glob E.Φ; rw [hX.glob]; exact hg⟩
  · intro f as H v H' h w Φ μ BH vals h1 h2 h3 h4 h5
    obtain ⟨g, h6, h7⟩ := hX.call f as H _ h
    exact h6.2 as H v H' h7 w Φ μ BH vals h1 (by rw [← hX.glob]; exact h2) h3 h4 h5
  · intro f as H r h
    obtain ⟨g, h6, h7⟩ := hX.call f as H _ h
    exact h6.1

theorem Tri.of_exec {an : Ann} {gl : Nat → Option DV} (hX : XOK X an gl) {k : Nat} {c : Code} {s : ST} {r : Ex × ST} (h : exec X.cx an k c s = some r) : Tri X.P gl c s r :=
  fun E a w Q hg hok hs hQ => exec_sound (an := an) (hX.cxok hg) hX.mixed hX.live (n := a.tmps.size) c hok s a w r Q hs rfl h hQ

theorem Tri.keep {P : Program} {gl : Nat → Option DV} {c : Code} {s : ST} {r : Ex × ST} {lv : List Nat} (hl : lv.Nodup) (h : Tri P gl c ⟨restrict s.fr lv, s.H⟩ r) : Tri P gl c s r :=
  fun E a w Q hg hok hs hQ => h E a w Q hg hok (hs.restrict hl) hQ

theorem Tri.seq {P : Program} {gl : Nat → Option DV} {x y : Code} {s s1 : ST} {r : Ex × ST} (h1 : Tri P gl x s (.nrm, s1)) (h2 : Tri P gl y s1 r) : Tri P gl (.seq x y) s r := fun E a w Q hg hok hs hQ => by
  simp only [codeOK, Bool.and_eq_true] at hok
  refine wp_seq (h1 E a w _ hg hok.1 hs fun a' w' h3 h4 h5 => ?_)
  exact h2 E a' w' Q hg (by rw [h4]; exact hok.2) h3 (by rw [h4, h5]; exact hQ)

theorem Tri.seq_out {P : Program} {gl : Nat → Option DV} {x y : Code} {s s1 : ST} {ex : Ex} (hne : ex ≠ .nrm) (h1 : Tri P gl x s (ex, s1)) : Tri P gl (.seq x y) s (ex, s1) := fun E a w Q hg hok hs hQ => by
  simp only [codeOK, Bool.and_eq_true] at hok
  refine wp_seq (h1 E a w _ hg hok.1 hs fun a' w' h3 h4 h5 => ?_)
  have := hQ a' w' h3 h4 h5
  cases ex with
  | nrm => exact absurd rfl hne
  | ext i => exact this
  | ret => exact this

theorem Tri.cond {P : Program} {gl : Nat → Option DV} {c : Operand} {x y : Code} {s : ST} {r : Ex × ST} {t : Bool} {cx : Cx} (hcx : cx.glob = gl) (h0 : rd cx s.fr c = some (.d (.bool t))) (h : Tri P gl (bif t then x else y) s r) :
    Tri P gl (.cond c x y) s r := fun E a w Q hg hok hs hQ => by
  simp only [codeOK, Bool.and_eq_true] at hok
  obtain ⟨Φ, μ, BF, BH, hF, _, _, hI⟩ := id hs
  have hv := rd_sound (a := a) hF rfl (fun g x hx => (hg g x (by rw [← hcx]; exact hx)).mono hI.sub) h0
  have he : a.eval c = .bool t := by
    have := hv.1
    generalize a.eval c = v at this
    cases this; rfl
  refine wp_cond he ?_
  cases t with
  | true => rw [if_pos rfl]; exact h E a w Q hg hok.1 hs hQ
  | false => rw [if_neg (by decide)]; exact h E a w Q hg hok.2 hs hQ

theorem Tri.block {P : Program} {gl : Nat → Option DV} {id : Nat} {b : Code} {s s1 : ST} {ex : Ex} (h : Tri P gl b s (ex, s1)) : Tri P gl (.block id b) s (match ex with | .ext i => if i = id then (.nrm, s1) else (.ext i, s1) | e => (e, s1)) := fun E a w Q hg hok hs hQ => by
  refine wp_block (h E a w _ hg hok hs fun a' w' h3 h4 h5 => ?_)
  cases ex with
  | nrm => exact hQ a' w' h3 h4 h5
  | ret => exact hQ a' w' h3 h4 h5
  | ext i =>
    show Exit.inBlock id Q (.exit i) a' w'
    simp only [Exit.inBlock]
    simp only at hQ
    split
    · rename_i hi; rw [if_pos hi] at hQ; exact hQ a' w' h3 h4 h5
    · rename_i hi; rw [if_neg hi] at hQ; exact hQ a' w' h3 h4 h5

theorem Tri.scope {P : Program} {gl : Nat → Option DV} {b : Code} {s : ST} {r : Ex × ST} (h : Tri P gl b s r) : Tri P gl (.scope b) s r := fun E a w Q hg hok hs hQ => by
  refine wp_scope_straight (h E a w _ hg hok hs fun a' w' h3 h4 h5 => ?_)
  have := hQ a' w' h3 h4 h5
  obtain ⟨ex, s'⟩ := r
  cases ex <;> exact this

/-- A loop: how many rounds there are is not said. -/
def LoopTri (P : Program) (gl : Nat → Option DV) (b : Code) (s : ST) (r : Ex × ST) : Prop :=
  ∃ k, ∀ (E : Ent) (a : Act) (w : World) (Q : Exit → Act → World → Prop), GOK gl E.Φ → codeOK a.tmps.size b = true → SR E s a.tmps w → Upon E a.tmps.size a.defers r Q → Code.rounds P b Q k a w

theorem LoopTri.tri {P : Program} {gl : Nat → Option DV} {b : Code} {s : ST} {r : Ex × ST} (h : LoopTri P gl b s r) : Tri P gl (.loop b) s r := by
  obtain ⟨k, h⟩ := h
  exact fun E a w Q hg hok hs hQ => wp_loop_rounds k (h E a w Q hg hok hs hQ)

theorem LoopTri.go {P : Program} {gl : Nat → Option DV} {b : Code} {s s1 : ST} {r : Ex × ST} (h1 : Tri P gl b s (.nrm, s1)) (h2 : LoopTri P gl b s1 r) : LoopTri P gl b s r := by
  obtain ⟨k, h⟩ := h2
  refine ⟨k + 1, fun E a w Q hg hok hs hQ => ?_⟩
  rw [rounds_succ]
  refine h1 E a w _ hg hok hs fun a' w' h3 h4 h5 => ?_
  exact h E a' w' Q hg (by rw [h4]; exact hok) h3 (by rw [h4, h5]; exact hQ)

theorem LoopTri.out {P : Program} {gl : Nat → Option DV} {b : Code} {s s1 : ST} {ex : Ex} (hne : ex ≠ .nrm) (h1 : Tri P gl b s (ex, s1)) : LoopTri P gl b s (ex, s1) := by
  refine ⟨1, fun E a w Q hg hok hs hQ => ?_⟩
  rw [rounds_succ]
  refine h1 E a w _ hg hok hs fun a' w' h3 h4 h5 => ?_
  have := hQ a' w' h3 h4 h5
  cases ex with
  | nrm => exact absurd rfl hne
  | ext i => exact this
  | ret => exact this

theorem LoopTri.keep {P : Program} {gl : Nat → Option DV} {b : Code} {s : ST} {r : Ex × ST} {lv : List Nat} (hl : lv.Nodup) (h : LoopTri P gl b ⟨restrict s.fr lv, s.H⟩ r) : LoopTri P gl b s r := by
  obtain ⟨k, h⟩ := h
  exact ⟨k, fun E a w Q hg hok hs hQ => h E a w Q hg hok (hs.restrict hl) hQ⟩

theorem execT_sound {an : Ann} {gl : Nat → Option DV} (hX : XOK X an gl) : ∀ (c : Code) (cc : CC), comp X.P an c = erase cc → Sums X.P gl an cc → keepsOK cc = true → ∀ (s s' : SK) (ex : Ex), KnOK s → (execT X cc s).run = some (ex, s') →
    Tri X.P gl c ⟨s.fr, s.H⟩ (ex, ⟨s'.fr, s'.H⟩) ∧ KnOK s'
  | c, .keep lv b, hc, hs, hkk, s, s', ex, hk, h => by
    simp only [keepsOK, Bool.and_eq_true, decide_eq_true_eq] at hkk
    obtain ⟨h1, h2⟩ := execT_sound hX c b hc hs hkk.2 (s.keep lv) s' ex (keep_ok hk) h
    exact ⟨Tri.keep hkk.1 h1, h2⟩
  | c, .sum f b, hc, hs, _, s, s', ex, hk, h => by
    simp only [execT] at h
    obtain ⟨r, h1, h2⟩ := Tr.bind_some h
    have := Tr.leaf_some h2
    obtain ⟨rfl, rfl⟩ := Prod.mk.inj this
    exact ⟨hs c hc _ r h1, fun t b hb => by simp [exK, kget] at hb⟩
  | .scope c, cc, hc, hs, hkk, s, s', ex, hk, h => by
    obtain ⟨h1, h2⟩ := execT_sound hX c cc hc hs hkk s s' ex hk h
    exact ⟨h1.scope, h2⟩
  | .skip, .skip, _, _, _, s, s', ex, hk, h => by
    obtain ⟨rfl, rfl⟩ := Prod.mk.inj (Tr.leaf_some h)
    exact ⟨Tri.of_exec hX (k := 0) rfl, hk⟩
  | .label l, .skip, _, _, _, s, s', ex, hk, h => by
    obtain ⟨rfl, rfl⟩ := Prod.mk.inj (Tr.leaf_some h)
    exact ⟨Tri.of_exec hX (k := 0) rfl, hk⟩
  | .region id ops false, .region cs lv, hc, _, _, s, s', ex, hk, h => by
    simp only [comp, erase] at hc
    obtain ⟨rfl, rfl⟩ := CC.region.inj hc
    simp only [execT] at h
    obtain ⟨s1, h1, h2⟩ := Tr.bind_some h
    obtain ⟨rfl, rfl⟩ := Prod.mk.inj (Tr.leaf_some h2)
    obtain ⟨h3, h4⟩ := runT_run ops.toList 0 hk h1
    refine ⟨Tri.of_exec hX (k := 0) ?_, keep_ok h4⟩
    simp only [exec, runRegion, h3, cond_false]; rfl
  | .region id ops true, .drawn an' ops', hc, _, _, s, s', ex, hk, h => by
    simp only [comp, erase] at hc
    obtain ⟨rfl, rfl⟩ := CC.drawn.inj hc
    simp only [execT, drawnT] at h
    obtain ⟨s1, h1, h2⟩ := Tr.bind_some h
    obtain ⟨rfl, rfl⟩ := Prod.mk.inj (Tr.leaf_some h2)
    obtain ⟨x, h3, h4⟩ := Tr.bind_some h1
    obtain ⟨h5, h6⟩ := Tr.cond_some h4
    have := Tr.leaf_some h6
    subst this
    obtain ⟨h7, h8, h9⟩ := runFT_run ops.toList 0 hk h3
    refine ⟨Tri.of_exec hX (k := 0) ?_, keep_ok h8⟩
    rw [h9] at h5
    simp only [exec, runRegion, h7, cond_true]
    rw [show Region.lexB .any ops = Region.lexB .any ops.toList.toArray by simp, h5, cond_true]; rfl
  | .seq x y, .seq a b, hc, hs, hkk, s, s', ex, hk, h => by
    simp only [comp, erase] at hc
    obtain ⟨hc1, hc2⟩ := CC.seq.inj hc
    simp only [keepsOK, Bool.and_eq_true] at hkk
    simp only [execT] at h
    obtain ⟨⟨e1, s1⟩, h1, h2⟩ := Tr.bind_some h
    obtain ⟨h3, h4⟩ := execT_sound hX x a hc1 hs.1 hkk.1 s s1 e1 hk h1
    cases e1 with
    | nrm =>
      obtain ⟨h5, h6⟩ := execT_sound hX y b hc2 hs.2 hkk.2 s1 s' ex h4 h2
      exact ⟨Tri.seq h3 h5, h6⟩
    | ext i => obtain ⟨rfl, rfl⟩ := Prod.mk.inj (Tr.leaf_some h2); exact ⟨Tri.seq_out (by simp) h3, h4⟩
    | ret => obtain ⟨rfl, rfl⟩ := Prod.mk.inj (Tr.leaf_some h2); exact ⟨Tri.seq_out (by simp) h3, h4⟩
  | .cond o x y, .cond o' a b, hc, hs, hkk, s, s', ex, hk, h => by
    simp only [comp, erase] at hc
    obtain ⟨rfl, hc1, hc2⟩ := CC.cond.inj hc
    simp only [keepsOK, Bool.and_eq_true] at hkk
    simp only [execT] at h
    split at h
    · rename_i t
      rcases decT_run hk h with ⟨v, s1, h1, h2, h3, h4, h5⟩ | ⟨_, h5⟩
      · have hrt : rd X.cx s.fr (.tmp t) = some (.d (.bool v)) := by simp only [rd, h1]; rfl
        cases v with
        | true =>
          obtain ⟨h6, h7⟩ := execT_sound hX x a hc1 hs.1 hkk.1 s1 s' ex h4 h5
          rw [h2, h3] at h6
          exact ⟨Tri.cond (cx := X.cx) hX.glob hrt h6, h7⟩
        | false =>
          obtain ⟨h6, h7⟩ := execT_sound hX y b hc2 hs.2 hkk.2 s1 s' ex h4 h5
          rw [h2, h3] at h6
          exact ⟨Tri.cond (cx := X.cx) hX.glob hrt h6, h7⟩
      · exact Tr.fail_some h5
    · obtain ⟨h6, h7⟩ := execT_sound hX x a hc1 hs.1 hkk.1 s s' ex hk h
      exact ⟨Tri.cond (cx := X.cx) (t := true) hX.glob rfl h6, h7⟩
    · obtain ⟨h6, h7⟩ := execT_sound hX y b hc2 hs.2 hkk.2 s s' ex hk h
      exact ⟨Tri.cond (cx := X.cx) (t := false) hX.glob rfl h6, h7⟩
    · exact Tr.fail_some h
  | .block id x, .block id' b, hc, hs, hkk, s, s', ex, hk, h => by
    simp only [comp, erase] at hc
    obtain ⟨rfl, hc1⟩ := CC.block.inj hc
    simp only [execT] at h
    obtain ⟨⟨e1, s1⟩, h1, h2⟩ := Tr.bind_some h
    obtain ⟨h3, h4⟩ := execT_sound hX x b hc1 hs hkk s s1 e1 hk h1
    have h5 := Tri.block (id := id) h3
    cases e1 with
    | nrm => obtain ⟨rfl, rfl⟩ := Prod.mk.inj (Tr.leaf_some h2); exact ⟨h5, h4⟩
    | ret => obtain ⟨rfl, rfl⟩ := Prod.mk.inj (Tr.leaf_some h2); exact ⟨h5, h4⟩
    | ext i =>
      simp only at h2 h5
      by_cases hi : i = id
      · rw [if_pos hi] at h5
        rw [decide_eq_true hi, cond_true] at h2
        obtain ⟨rfl, rfl⟩ := Prod.mk.inj (Tr.leaf_some h2)
        exact ⟨h5, h4⟩
      · rw [if_neg hi] at h5
        rw [decide_eq_false hi, cond_false] at h2
        obtain ⟨rfl, rfl⟩ := Prod.mk.inj (Tr.leaf_some h2)
        exact ⟨h5, h4⟩
  | .exit id, .exit id', hc, _, _, s, s', ex, hk, h => by
    simp only [comp, erase] at hc
    obtain rfl := CC.exit.inj hc
    obtain ⟨rfl, rfl⟩ := Prod.mk.inj (Tr.leaf_some h)
    exact ⟨Tri.of_exec hX (k := 0) rfl, hk⟩
  | .ret, .ret, _, _, _, s, s', ex, hk, h => by
    obtain ⟨rfl, rfl⟩ := Prod.mk.inj (Tr.leaf_some h)
    exact ⟨Tri.of_exec hX (k := 0) rfl, hk⟩
  | _, .loop _, _, _, _, s, s', ex, hk, h => Tr.fail_some h
  | _, .bad, _, _, _, s, s', ex, hk, h => Tr.fail_some h
  | .region _ _ false, .skip, hc, _, _, _, _, _, _, _ => by simp [comp, erase] at hc
  | .region _ _ true, .skip, hc, _, _, _, _, _, _, _ => by simp [comp, erase] at hc
  | .seq _ _, .skip, hc, _, _, _, _, _, _, _ => by simp [comp, erase] at hc
  | .cond _ _ _, .skip, hc, _, _, _, _, _, _, _ => by simp [comp, erase] at hc
  | .block _ _, .skip, hc, _, _, _, _, _, _, _ => by simp [comp, erase] at hc
  | .loop _, .skip, hc, _, _, _, _, _, _, _ => by simp [comp, erase] at hc
  | .rangeFunc _ _ _ _, .skip, hc, _, _, _, _, _, _, _ => by simp [comp, erase] at hc
  | .exit _, .skip, hc, _, _, _, _, _, _, _ => by simp [comp, erase] at hc
  | .goto _, .skip, hc, _, _, _, _, _, _, _ => by simp [comp, erase] at hc
  | .ret, .skip, hc, _, _, _, _, _, _, _ => by simp [comp, erase] at hc
  | .refuse _, .skip, hc, _, _, _, _, _, _, _ => by simp [comp, erase] at hc
  | .skip, .region _ _, hc, _, _, _, _, _, _, _ => by simp [comp, erase] at hc
  | .region _ _ true, .region _ _, hc, _, _, _, _, _, _, _ => by simp [comp, erase] at hc
  | .seq _ _, .region _ _, hc, _, _, _, _, _, _, _ => by simp [comp, erase] at hc
  | .cond _ _ _, .region _ _, hc, _, _, _, _, _, _, _ => by simp [comp, erase] at hc
  | .block _ _, .region _ _, hc, _, _, _, _, _, _, _ => by simp [comp, erase] at hc
  | .loop _, .region _ _, hc, _, _, _, _, _, _, _ => by simp [comp, erase] at hc
  | .rangeFunc _ _ _ _, .region _ _, hc, _, _, _, _, _, _, _ => by simp [comp, erase] at hc
  | .exit _, .region _ _, hc, _, _, _, _, _, _, _ => by simp [comp, erase] at hc
  | .label _, .region _ _, hc, _, _, _, _, _, _, _ => by simp [comp, erase] at hc
  | .goto _, .region _ _, hc, _, _, _, _, _, _, _ => by simp [comp, erase] at hc
  | .ret, .region _ _, hc, _, _, _, _, _, _, _ => by simp [comp, erase] at hc
  | .refuse _, .region _ _, hc, _, _, _, _, _, _, _ => by simp [comp, erase] at hc
  | .skip, .drawn _ _, hc, _, _, _, _, _, _, _ => by simp [comp, erase] at hc
  | .region _ _ false, .drawn _ _, hc, _, _, _, _, _, _, _ => by simp [comp, erase] at hc
  | .seq _ _, .drawn _ _, hc, _, _, _, _, _, _, _ => by simp [comp, erase] at hc
  | .cond _ _ _, .drawn _ _, hc, _, _, _, _, _, _, _ => by simp [comp, erase] at hc
  | .block _ _, .drawn _ _, hc, _, _, _, _, _, _, _ => by simp [comp, erase] at hc
  | .loop _, .drawn _ _, hc, _, _, _, _, _, _, _ => by simp [comp, erase] at hc
  | .rangeFunc _ _ _ _, .drawn _ _, hc, _, _, _, _, _, _, _ => by simp [comp, erase] at hc
  | .exit _, .drawn _ _, hc, _, _, _, _, _, _, _ => by simp [comp, erase] at hc
  | .label _, .drawn _ _, hc, _, _, _, _, _, _, _ => by simp [comp, erase] at hc
  | .goto _, .drawn _ _, hc, _, _, _, _, _, _, _ => by simp [comp, erase] at hc
  | .ret, .drawn _ _, hc, _, _, _, _, _, _, _ => by simp [comp, erase] at hc
  | .refuse _, .drawn _ _, hc, _, _, _, _, _, _, _ => by simp [comp, erase] at hc
  | .skip, .seq _ _, hc, _, _, _, _, _, _, _ => by simp [comp, erase] at hc
  | .region _ _ false, .seq _ _, hc, _, _, _, _, _, _, _ => by simp [comp, erase] at hc
  | .region _ _ true, .seq _ _, hc, _, _, _, _, _, _, _ => by simp [comp, erase] at hc
  | .cond _ _ _, .seq _ _, hc, _, _, _, _, _, _, _ => by simp [comp, erase] at hc
  | .block _ _, .seq _ _, hc, _, _, _, _, _, _, _ => by simp [comp, erase] at hc
  | .loop _, .seq _ _, hc, _, _, _, _, _, _, _ => by simp [comp, erase] at hc
  | .rangeFunc _ _ _ _, .seq _ _, hc, _, _, _, _, _, _, _ => by simp [comp, erase] at hc
  | .exit _, .seq _ _, hc, _, _, _, _, _, _, _ => by simp [comp, erase] at hc
  | .label _, .seq _ _, hc, _, _, _, _, _, _, _ => by simp [comp, erase] at hc
  | .goto _, .seq _ _, hc, _, _, _, _, _, _, _ => by simp [comp, erase] at hc
  | .ret, .seq _ _, hc, _, _, _, _, _, _, _ => by simp [comp, erase] at hc
  | .refuse _, .seq _ _, hc, _, _, _, _, _, _, _ => by simp [comp, erase] at hc
  | .skip, .cond _ _ _, hc, _, _, _, _, _, _, _ => by simp [comp, erase] at hc
  | .region _ _ false, .cond _ _ _, hc, _, _, _, _, _, _, _ => by simp [comp, erase] at hc
  | .region _ _ true, .cond _ _ _, hc, _, _, _, _, _, _, _ => by simp [comp, erase] at hc
  | .seq _ _, .cond _ _ _, hc, _, _, _, _, _, _, _ => by simp [comp, erase] at hc
  | .block _ _, .cond _ _ _, hc, _, _, _, _, _, _, _ => by simp [comp, erase] at hc
  | .loop _, .cond _ _ _, hc, _, _, _, _, _, _, _ => by simp [comp, erase] at hc
  | .rangeFunc _ _ _ _, .cond _ _ _, hc, _, _, _, _, _, _, _ => by simp [comp, erase] at hc
  | .exit _, .cond _ _ _, hc, _, _, _, _, _, _, _ => by simp [comp, erase] at hc
  | .label _, .cond _ _ _, hc, _, _, _, _, _, _, _ => by simp [comp, erase] at hc
  | .goto _, .cond _ _ _, hc, _, _, _, _, _, _, _ => by simp [comp, erase] at hc
  | .ret, .cond _ _ _, hc, _, _, _, _, _, _, _ => by simp [comp, erase] at hc
  | .refuse _, .cond _ _ _, hc, _, _, _, _, _, _, _ => by simp [comp, erase] at hc
  | .skip, .block _ _, hc, _, _, _, _, _, _, _ => by simp [comp, erase] at hc
  | .region _ _ false, .block _ _, hc, _, _, _, _, _, _, _ => by simp [comp, erase] at hc
  | .region _ _ true, .block _ _, hc, _, _, _, _, _, _, _ => by simp [comp, erase] at hc
  | .seq _ _, .block _ _, hc, _, _, _, _, _, _, _ => by simp [comp, erase] at hc
  | .cond _ _ _, .block _ _, hc, _, _, _, _, _, _, _ => by simp [comp, erase] at hc
  | .loop _, .block _ _, hc, _, _, _, _, _, _, _ => by simp [comp, erase] at hc
  | .rangeFunc _ _ _ _, .block _ _, hc, _, _, _, _, _, _, _ => by simp [comp, erase] at hc
  | .exit _, .block _ _, hc, _, _, _, _, _, _, _ => by simp [comp, erase] at hc
  | .label _, .block _ _, hc, _, _, _, _, _, _, _ => by simp [comp, erase] at hc
  | .goto _, .block _ _, hc, _, _, _, _, _, _, _ => by simp [comp, erase] at hc
  | .ret, .block _ _, hc, _, _, _, _, _, _, _ => by simp [comp, erase] at hc
  | .refuse _, .block _ _, hc, _, _, _, _, _, _, _ => by simp [comp, erase] at hc
  | .skip, .exit _, hc, _, _, _, _, _, _, _ => by simp [comp, erase] at hc
  | .region _ _ false, .exit _, hc, _, _, _, _, _, _, _ => by simp [comp, erase] at hc
  | .region _ _ true, .exit _, hc, _, _, _, _, _, _, _ => by simp [comp, erase] at hc
  | .seq _ _, .exit _, hc, _, _, _, _, _, _, _ => by simp [comp, erase] at hc
  | .cond _ _ _, .exit _, hc, _, _, _, _, _, _, _ => by simp [comp, erase] at hc
  | .block _ _, .exit _, hc, _, _, _, _, _, _, _ => by simp [comp, erase] at hc
  | .loop _, .exit _, hc, _, _, _, _, _, _, _ => by simp [comp, erase] at hc
  | .rangeFunc _ _ _ _, .exit _, hc, _, _, _, _, _, _, _ => by simp [comp, erase] at hc
  | .label _, .exit _, hc, _, _, _, _, _, _, _ => by simp [comp, erase] at hc
  | .goto _, .exit _, hc, _, _, _, _, _, _, _ => by simp [comp, erase] at hc
  | .ret, .exit _, hc, _, _, _, _, _, _, _ => by simp [comp, erase] at hc
  | .refuse _, .exit _, hc, _, _, _, _, _, _, _ => by simp [comp, erase] at hc
  | .skip, .ret, hc, _, _, _, _, _, _, _ => by simp [comp, erase] at hc
  | .region _ _ false, .ret, hc, _, _, _, _, _, _, _ => by simp [comp, erase] at hc
  | .region _ _ true, .ret, hc, _, _, _, _, _, _, _ => by simp [comp, erase] at hc
  | .seq _ _, .ret, hc, _, _, _, _, _, _, _ => by simp [comp, erase] at hc
  | .cond _ _ _, .ret, hc, _, _, _, _, _, _, _ => by simp [comp, erase] at hc
  | .block _ _, .ret, hc, _, _, _, _, _, _, _ => by simp [comp, erase] at hc
  | .loop _, .ret, hc, _, _, _, _, _, _, _ => by simp [comp, erase] at hc
  | .rangeFunc _ _ _ _, .ret, hc, _, _, _, _, _, _, _ => by simp [comp, erase] at hc
  | .exit _, .ret, hc, _, _, _, _, _, _, _ => by simp [comp, erase] at hc
  | .label _, .ret, hc, _, _, _, _, _, _, _ => by simp [comp, erase] at hc
  | .goto _, .ret, hc, _, _, _, _, _, _, _ => by simp [comp, erase] at hc
  | .refuse _, .ret, hc, _, _, _, _, _, _, _ => by simp [comp, erase] at hc
termination_by c cc => SizeOf.sizeOf c + SizeOf.sizeOf cc
end
end Go.AI
