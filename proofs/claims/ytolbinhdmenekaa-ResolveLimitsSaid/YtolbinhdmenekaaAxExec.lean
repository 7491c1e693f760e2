/- The code of a function, and calls of functions. -/
import Derived.Test.YtolbinhdmenekaaAxAny
import Derived.LoopN
import Derived.Scope
namespace Go.AI
set_option linter.unusedVariables false
set_option linter.unusedSimpArgs false

/-- Each region's destinations are slots. -/
def codeOK (n : Nat) : Code → Bool
  | .region _ ops _ => dstsOK n ops.toList
  | .seq a b => codeOK n a && codeOK n b
  | .cond _ a b => codeOK n a && codeOK n b
  | .block _ b | .loop b | .scope b => codeOK n b
  | _ => true

def Ex.exit : Ex → Exit
  | .nrm => .normal
  | .ext i => .exit i
  | .ret => .ret

section
variable {P : Program} {E : Ent} {cx : Cx} {an : Ann}

/-- What holds behind a run. -/
def Upon (E : Ent) (n : Nat) (ds : List Deferred) (r : Ex × ST) (Q : Exit → Act → World → Prop) : Prop :=
  ∀ a w, SR E r.2 a.tmps w → a.tmps.size = n → a.defers = ds → Q r.1.exit a w

theorem loopN_sound {n : Nat} {ds : List Deferred} {f : ST → Option (Ex × ST)} {b : Code}
    (hb : ∀ s a w r Q, SR E s a.tmps w → a.tmps.size = n → a.defers = ds → f s = some r → Upon E n ds r Q → b.wp P Q a w) {Q : Exit → Act → World → Prop} :
    ∀ (k : Nat) (s : ST) (a : Act) (w : World) (r : Ex × ST), SR E s a.tmps w → a.tmps.size = n → a.defers = ds → loopN k f s = some r → Upon E n ds r Q → Code.rounds P b Q k a w
  | 0, s, a, w, r, _, _, _, h, _ => by simp [loopN] at h
  | k + 1, s, a, w, r, hs, hn, hd, h, hQ => by
    simp only [loopN] at h
    rw [rounds_succ]
    split at h
    · rename_i s' h1
      refine hb s a w _ _ hs hn hd h1 fun a' w' h2 h3 h4 => ?_
      exact loopN_sound hb k s' a' w' r h2 h3 h4 h hQ
    · rename_i hne
      refine hb s a w r _ hs hn hd h fun a' w' h2 h3 h4 => ?_
      have := hQ a' w' h2 h3 h4
      obtain ⟨ex, s'⟩ := r
      cases ex with
      | nrm => exact absurd h (hne s')
      | ext i => exact this
      | ret => exact this

theorem exec_sound (hc : CxOK P E cx) (hm : P.follows .mixedOrders = true) (hl : ∀ id, (an id).live.Nodup) {n k : Nat} : ∀ (c : Code), codeOK n c = true → ∀ (s : ST) (a : Act) (w : World) (r : Ex × ST) (Q : Exit → Act → World → Prop),
    SR E s a.tmps w → a.tmps.size = n → exec cx an k c s = some r → Upon E n a.defers r Q → c.wp P Q a w
  | .skip, _, s, a, w, r, Q, hs, hn, h, hQ => by
    simp only [exec] at h; obtain rfl := Option.some.inj h
    exact wp_skip (hQ a w hs hn rfl)
  | .label _, _, s, a, w, r, Q, hs, hn, h, hQ => by
    simp only [exec] at h; obtain rfl := Option.some.inj h
    exact wp_label (hQ a w hs hn rfl)
  | .region id ops draw, hok, s, a, w, r, Q, hs, hn, h, hQ => by
    simp only [exec] at h
    split at h
    · rename_i s' h1
      obtain rfl := Option.some.inj h
      exact region_sound hc hm (by rw [hn]; exact hok) (hl id) hs h1 fun a' w' h2 h3 h4 => hQ a' w' h2 (h3.trans hn) h4
    · simp at h
  | .seq x y, hok, s, a, w, r, Q, hs, hn, h, hQ => by
    simp only [codeOK, Bool.and_eq_true] at hok
    simp only [exec] at h
    refine wp_seq ?_
    split at h
    · rename_i s' h1
      exact exec_sound hc hm hl x hok.1 s a w _ _ hs hn h1 fun a' w' h2 h3 h4 => exec_sound hc hm hl y hok.2 s' a' w' r Q h2 h3 h (by rw [h4]; exact hQ)
    · rename_i hne
      refine exec_sound hc hm hl x hok.1 s a w r _ hs hn h fun a' w' h2 h3 h4 => ?_
      have := hQ a' w' h2 h3 h4
      obtain ⟨ex, s'⟩ := r
      cases ex with
      | nrm => exact absurd h (hne s')
      | ext i => exact this
      | ret => exact this
  | .cond c x y, hok, s, a, w, r, Q, hs, hn, h, hQ => by
    simp only [codeOK, Bool.and_eq_true] at hok
    simp only [exec] at h
    split at h
    · rename_i t h1
      obtain ⟨Φ, μ, BF, BH, hF, _, _, hI⟩ := id hs
      have hv := rd_sound (a := a) hF rfl (fun g x hx => (hc.glob g x hx).mono hI.sub) h1
      have he : a.eval c = .bool t := by
        have := hv.1
        generalize a.eval c = v at this
        cases this; rfl
      refine wp_cond he ?_
      cases t with
      | true => rw [cond_true] at h; rw [if_pos rfl]; exact exec_sound hc hm hl x hok.1 s a w r Q hs hn h hQ
      | false => rw [cond_false] at h; rw [if_neg (by decide)]; exact exec_sound hc hm hl y hok.2 s a w r Q hs hn h hQ
    · simp at h
  | .block id b, hok, s, a, w, r, Q, hs, hn, h, hQ => by
    simp only [exec] at h
    refine wp_block ?_
    split at h
    · rename_i i s' h1
      split at h
      · rename_i hi
        obtain rfl := Option.some.inj h
        refine exec_sound hc hm hl b hok s a w _ _ hs hn h1 fun a' w' h2 h3 h4 => ?_
        show Exit.inBlock id Q (.exit i) a' w'
        simp only [Exit.inBlock, hi, if_true]
        exact hQ a' w' h2 h3 h4
      · rename_i hi
        obtain rfl := Option.some.inj h
        refine exec_sound hc hm hl b hok s a w _ _ hs hn h1 fun a' w' h2 h3 h4 => ?_
        show Exit.inBlock id Q (.exit i) a' w'
        simp only [Exit.inBlock, hi, if_false]
        exact hQ a' w' h2 h3 h4
    · rename_i hne
      refine exec_sound hc hm hl b hok s a w r _ hs hn h fun a' w' h2 h3 h4 => ?_
      have := hQ a' w' h2 h3 h4
      obtain ⟨ex, s'⟩ := r
      cases ex with
      | nrm => exact this
      | ext i => exact absurd h (hne i s')
      | ret => exact this
  | .loop b, hok, s, a, w, r, Q, hs, hn, h, hQ => by
    simp only [exec] at h
    exact wp_loop_rounds k (loopN_sound (ds := a.defers) (fun s' a' w' r' Q' h1 h2 h3 h4 h5 => exec_sound hc hm hl b hok s' a' w' r' Q' h1 h2 h4 (by rw [h3]; exact h5)) k s a w r hs hn rfl h hQ)
  | .exit id, _, s, a, w, r, Q, hs, hn, h, hQ => by
    simp only [exec] at h; obtain rfl := Option.some.inj h
    exact wp_exit (hQ a w hs hn rfl)
  | .scope b, hok, s, a, w, r, Q, hs, hn, h, hQ => by
    simp only [exec] at h
    refine wp_scope_straight (exec_sound hc hm hl b hok s a w r _ hs hn h fun a' w' h2 h3 h4 => ?_)
    have := hQ a' w' h2 h3 h4
    obtain ⟨ex, s'⟩ := r
    cases ex <;> exact this
  | .ret, _, s, a, w, r, Q, hs, hn, h, hQ => by
    simp only [exec] at h; obtain rfl := Option.some.inj h
    exact wp_ret (hQ a w hs hn rfl)
  | .goto _, _, s, a, w, r, Q, hs, hn, h, hQ => by simp [exec] at h
  | .refuse _, _, s, a, w, r, Q, hs, hn, h, hQ => by simp [exec] at h
  | .rangeFunc _ _ _ _, _, s, a, w, r, Q, hs, hn, h, hQ => by simp [exec] at h

end
end Go.AI
