/- One step of a region, and a region whose order is the text's. -/
import Derived.Test.YtolbinhdmenekaaAxSound
namespace Go.AI
set_option linter.unusedVariables false
set_option linter.unusedSimpArgs false

/-- Each destination is a slot. -/
def dstsOK (n : Nat) (ops : List Oper) : Bool := ops.all fun o => match o.dst with | some d => decide (d < n) | none => true

section
variable {P : Program} {E : Ent} {cx : Cx} {an : RA}

theorem SR.heap_eq {s : ST} {tm : Array Value} {w w' : World} (h : SR E s tm w) (hh : w'.heap = w.heap) (hio : SameIO w w') : SR E s tm w' := by
  obtain ⟨Φ, μ, BF, BH, h1, h2, h3, h4⟩ := h
  exact ⟨Φ, μ, BF, BH, by rw [hh]; exact h1, by rw [hh]; exact h2, h3, ⟨by rw [hh]; exact h4.wok, by rw [hh]; exact h4.size, h4.sub, h4.mu, by rw [hh]; exact h4.keep, h4.own, h4.io.trans hio⟩⟩

theorem guard_sound {ops : Array Oper} {s : ST} {a : Act} {w : World} (hs : SR E s a.tmps w) {o : Oper} {b : Bool} (h : guardOf ops.toList s.fr o = some b) : Region.wanted o (yielded ops a.tmps) = b := by
  obtain ⟨Φ, μ, BF, BH, hF, _⟩ := hs
  unfold guardOf at h
  unfold Region.wanted
  cases hg : o.guard with
  | none => rw [hg] at h; simp at h; simp [h]
  | some jw =>
    obtain ⟨j, want⟩ := jw
    rw [hg] at h
    simp only at h ⊢
    unfold yielded
    cases hj : ops[j]? with
    | none =>
      have : ops.toList[j]? = none := by simpa using hj
      rw [this] at h; simp at h; simp [← h]
    | some oj =>
      have hj' : ops.toList[j]? = some oj := by simpa using hj
      rw [hj'] at h
      simp only at h
      cases hd : oj.dst with
      | none => rw [hd] at h; simp at h; simp [hd, ← h]
      | some d =>
        rw [hd] at h
        simp only at h
        simp only [Option.bind_some, hd]
        split at h
        · rename_i b' hget
          obtain rfl := Option.some.inj h
          obtain ⟨v, B1, h1, h2, _⟩ := hF.get hget
          obtain ⟨hc, _⟩ := h2
          cases hc
          rw [h1]
          simp
        · rename_i hget
          obtain rfl := Option.some.inj h
          obtain ⟨v, B1, h1, h2, _⟩ := hF.get hget
          obtain ⟨hc, _⟩ := h2
          rw [h1, hc]
          rfl
        · simp at h

theorem act_put (a : Act) (dst : Option Tmp) (v : Value) : (a.put dst v).tmps = putTm a.tmps dst v := by cases dst <;> rfl
theorem act_put_defers (a : Act) (dst : Option Tmp) (v : Value) : (a.put dst v).defers = a.defers := by cases dst <;> rfl

theorem VR.fixA {fx : List (Option Nat)} {v : AV} {fr : Fr} {H : Hp} {tm : Array Value} {x : Value} {w : World} (h : VR E v fr H tm x w) : VR E (Go.AI.fixA fx v) fr H tm x w := by
  obtain ⟨Φ, μ, BV, BF, BH, h1, h2⟩ := h
  exact ⟨Φ, μ, BV, BF, BH, h1.fixA, h2⟩

structure CxOK (P : Program) (E : Ent) (cx : Cx) : Prop where
  call : CallOK P cx.glob cx.call
  body : CallBody P cx.call
  prog : ProgOK P
  same : cx.P = P
  glob : GOK cx.glob E.Φ

theorem step_sound (hc : CxOK P E cx) {ops : Array Oper} {Q : Exit → Act → World → Prop} {i : Nat} {o : Oper} {s s' : ST} {a : Act} {w : World} (ho : ops[i]? = some o) (hs : SR E s a.tmps w)
    (hd : dstsOK a.tmps.size ops.toList = true) (h : stepOp cx an ops.toList i o s = some s') {K : Act → World → Prop}
    (hK : ∀ a' w', SR E s' a'.tmps w' → a'.tmps.size = a.tmps.size → a'.defers = a.defers → K a' w') : wpOp P ops Q i K a w := by
  have hdst : ∀ d, o.dst = some d → d < a.tmps.size := by
    intro d hdd
    have hm : o ∈ ops.toList := by
      have : ops.toList[i]? = some o := by simpa using ho
      exact List.mem_of_getElem? this
    have := (List.all_eq_true.1 hd) o hm
    rw [hdd] at this
    simpa using this
  have fin : ∀ {v : AV} {fr : Fr} {H : Hp} {x : Value} {w' : World}, VR E v fr H a.tmps x w' → s' = ⟨put o.dst v fr, H⟩ → K (a.put o.dst x) w' := by
    intro v fr H x w' hv he
    have := hv.put o.dst hdst
    rw [← act_put] at this
    refine hK _ _ (by rw [he]; exact this) ?_ (act_put_defers _ _ _)
    rw [act_put]; cases o.dst <;> simp [putTm]
  unfold stepOp at h
  unfold wpOp
  simp only [ho]
  split at h
  · rename_i hg
    rw [guard_sound hs hg]
    simp only [if_true]
    refine .inl ?_
    split at h
    · rename_i r hr
      cases hok : okV r.v r.ft with
      | false => rw [hok] at h; simp at h
      | true =>
      rw [hok, cond_true] at h
      have he := Option.some.inj h
      have hop := aop_sound (P := P) (a := a) hc.call hc.body hc.prog hc.same rfl hc.glob hs hr
      unfold Oper.wp
      generalize (execOp a.eval o).run P w = res at hop
      cases res with
      | halt x w' => exact hop.elim
      | ok n w' =>
        cases n <;> first | exact hop.elim | skip
        case value x => exact fin (VR.fixA hop) he.symm
        case skip => exact fin (VR.fixA hop) he.symm
        case enter f args =>
          refine Calls.mono hop ?_
          rintro e w'' ⟨x, rfl, hv⟩
          exact fin hv.fixA he.symm
    · simp at h
  · rename_i hg
    rw [guard_sound hs hg]
    simp only [Bool.false_eq_true, if_false]
    have he := Option.some.inj h
    obtain ⟨Φ, μ, BF, BH, h1, h2, h3, h4⟩ := hs
    exact fin (v := .undef) (x := Go.undef) (VR.pure h1 h2 h3 h4 ⟨rfl, rfl⟩) he.symm
  · simp at h

theorem runOps_sound (hc : CxOK P E cx) {ops : Array Oper} {Q : Exit → Act → World → Prop} {n : Nat} (hd : dstsOK n ops.toList = true) : ∀ (rest : List Oper) (i : Nat) {s s' : ST} {a : Act} {w : World}, a.tmps.size = n →
    (∀ k, rest[k]? = ops[i + k]?) → SR E s a.tmps w → runOps cx an ops.toList i rest s = some s' →
    (∀ a' w', SR E s' a'.tmps w' → a'.tmps.size = n → a'.defers = a.defers → Q .normal a' w') → wpOps P ops Q (List.range' i rest.length) a w
  | [], i, s, s', a, w, hn, _, hs, h, hQ => by
    simp only [runOps] at h
    obtain rfl := Option.some.inj h
    exact hQ a w hs hn rfl
  | o :: rest, i, s, s', a, w, hn, hk, hs, h, hQ => by
    simp only [runOps] at h
    split at h
    · rename_i s1 h1
      have ho : ops[i]? = some o := by have := hk 0; simpa using this.symm
      rw [List.length_cons, List.range'_succ, wpOps_cons]
      refine step_sound hc ho hs (by rw [hn]; exact hd) h1 fun a' w' hs' hn' hdf => ?_
      refine runOps_sound hc hd rest (i + 1) (by rw [hn', hn]) (fun k => ?_) hs' h fun a'' w'' h2 h3 h4 => hQ a'' w'' h2 h3 (h4.trans hdf)
      have := hk (k + 1)
      simpa [Nat.add_assoc, Nat.add_comm 1 k] using this
    · simp at h

theorem SR.restrict {s : ST} {tm : Array Value} {w : World} (h : SR E s tm w) {l : List Nat} (hl : l.Nodup) : SR E ⟨restrict s.fr l, s.H⟩ tm w := by
  obtain ⟨Φ, μ, BF, BH, h1, h2, h3, h4⟩ := h
  obtain ⟨B', h5, C, h6⟩ := FR.restrict l hl h1
  have hs : ∀ r ∈ B' ++ BH, r ∈ BF ++ BH := fun r hr => by
    rcases List.mem_append.1 hr with hr | hr
    · exact List.mem_append_left _ (h6.subset (List.mem_append_left _ hr))
    · exact List.mem_append_right _ hr
  refine ⟨Φ, μ, B', BH, h5, h2, ?_, h4.perm hs⟩
  have := (List.Perm.append_right BH h6).nodup_iff.2 h3
  have hp : (B' ++ C ++ BH).Perm (B' ++ BH ++ C) := by
    rw [List.append_assoc, List.append_assoc]; exact List.Perm.append_left _ List.perm_append_comm
  exact (List.nodup_append.1 (hp.nodup_iff.1 this)).1
end
end Go.AI
