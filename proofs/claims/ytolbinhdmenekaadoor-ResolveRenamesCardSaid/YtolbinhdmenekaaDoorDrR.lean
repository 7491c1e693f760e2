/- What is drawn, plainly: it is of the right form and not deep. -/
import Derived.Test.YtolbinhdmenekaaDoorDrO
import Derived.Test.YtolbinhdmenekaaDoorDrE
namespace Go.AI.RD
open Go Go.Proofs
set_option maxRecDepth 10000
set_option linter.unusedVariables false
set_option linter.unusedSimpArgs false

theorem fitX_leaf (N : Nat) (o v : Int) (nm : List UInt8) (sl sz : Int) (h : nm.length ≤ 100) : fitX (N + 1) ⟨o, v, nm, sl, sz, []⟩ = true := by
  have h2 : unL unXp [] = some [] := rfl
  simp only [fitX, h2, List.all_nil, Bool.and_true, List.length_nil]
  exact decide_eq_true ⟨by decide, by omega⟩
theorem fitX_one {N : Nat} {o v : Int} {nm : List UInt8} {sl sz : Int} {e : Xp} (h : nm.length ≤ 100) (he : fitX N e = true) : fitX (N + 1) ⟨o, v, nm, sl, sz, [encXp e]⟩ = true := by
  have h2 : unL unXp [encXp e] = some [e] := unL_map (un := unXp) (enc := encXp) unXp_enc [e]
  simp only [fitX, h2, List.all_cons, List.all_nil, he, Bool.and_true, List.length_cons, List.length_nil]
  exact decide_eq_true ⟨by decide, by omega⟩
theorem fitX_two {N : Nat} {o v : Int} {nm : List UInt8} {sl sz : Int} {e f : Xp} (h : nm.length ≤ 100) (he : fitX N e = true) (hf : fitX N f = true) : fitX (N + 1) ⟨o, v, nm, sl, sz, [encXp e, encXp f]⟩ = true := by
  have h2 : unL unXp [encXp e, encXp f] = some [e, f] := unL_map (un := unXp) (enc := encXp) unXp_enc [e, f]
  simp only [fitX, h2, List.all_cons, List.all_nil, he, hf, Bool.and_true, List.length_cons, List.length_nil]
  exact decide_eq_true ⟨by decide, by omega⟩
theorem scName_len (k : Nat) : (scName k).length ≤ 100 := by
  unfold scName
  repeat' split
  all_goals simp
theorem arName_len (k : Nat) : (arName k).length ≤ 100 := by
  unfold arName
  repeat' split
  all_goals simp

theorem drawT_fit {rec : List UInt8 → Xp × List UInt8} {d N : Nat} (ih : d = 0 ∨ ∀ r, fitX N (rec r).1 = true) (k : Nat) (r : List UInt8) : fitX (N + 1) (drawT rec d k r).1 = true := by
  have z : ([] : List UInt8).length ≤ 100 := by decide
  unfold drawT
  split; · exact fitX_leaf _ _ _ _ _ _ z
  split; · exact fitX_leaf _ _ _ _ _ _ (scName_len _)
  split; · exact fitX_leaf _ _ _ _ _ _ z
  split; · exact fitX_leaf _ _ _ _ _ _ z
  split; · exact fitX_leaf _ _ _ _ _ _ z
  rename_i h1 h2 h3 h4 h5
  have ih := ih.resolve_left (by omega)
  split; · exact fitX_one (arName_len _) (ih _)
  split; · exact fitX_one z (ih _)
  exact fitX_two z (ih _) (ih _)

theorem drawX_fit : ∀ (d N : Nat) (r : List UInt8), d ≤ N → 0 < N → fitX N (drawX d r).1 = true
  | _, 0, _, _, h => absurd h (by omega)
  | 0, N + 1, r, _, _ => fitX_leaf N _ _ _ _ _ (by decide)
  | d + 1, N + 1, r, h, _ => by
    show fitX (N + 1) (drawT (drawX d) d (if d = 0 ∧ 8 ≤ (nx 12 r).1 then (nx 12 r).1 - 8 else (nx 12 r).1) (nx 12 r).2).1 = true
    by_cases hd : d = 0
    · exact drawT_fit (.inl hd) _ _
    · exact drawT_fit (.inr fun r => drawX_fit d N r (by omega) (by omega)) _ _

theorem fit1_oneK {rec : Nat → List UInt8 → List St × List UInt8} {N : Nat} (ih : ∀ r m, m ≤ 100 → fitS N ((rec m r).1.map encSt) = true) (h0 : fitS N [] = true) (k : Nat) (r : List UInt8) : fit1 N (oneK rec k r).1 = true := by
  have hx : ∀ d r, d ≤ 9 → fitX 9 (drawX d r).1 = true := fun d r h => drawX_fit d 9 r h (by decide)
  have hz : fitX 9 x0 = true := by rfl
  have z : ([] : List UInt8).length ≤ 100 := by decide
  have mk : ∀ (k : Int) (nm : List UInt8) (p v : Xp) (bd es : List DV), nm.length ≤ 100 → fitX 9 p = true → fitX 9 v = true → fitS N bd = true → fitS N es = true → fit1 N ⟨k, nm, 0, 0, p, v, bd, es⟩ = true := by
    intro k nm p v bd es h1 h2 h3 h4 h5
    simp only [fit1, h2, h3, h4, h5, Bool.true_and]
    exact decide_eq_true (by omega)
  unfold oneK
  split; · exact mk _ _ _ _ _ _ (scName_len _) hz (hx _ _ (by decide)) h0 h0
  split; · exact mk _ _ _ _ _ _ (arName_len _) (hx _ _ (by decide)) (hx _ _ (by decide)) h0 h0
  split; · exact mk _ _ _ _ _ _ z (hx _ _ (by decide)) (hx _ _ (by decide)) h0 h0
  split; · exact mk _ _ _ _ _ _ z hz (hx _ _ (by decide)) h0 h0
  split; · exact mk _ _ _ _ _ _ z hz (hx _ _ (by decide)) (ih _ _ (by decide)) (ih _ _ (by decide))
  exact mk _ _ _ _ _ _ z hz (hx _ _ (by decide)) (ih _ _ (by decide)) h0

theorem drawL_len (rec : Nat → List UInt8 → List St × List UInt8) (d : Nat) : ∀ (n : Nat) (r : List UInt8), (drawL rec d n r).1.length = n
  | 0, _ => rfl
  | n + 1, r => congrArg (· + 1) (drawL_len rec d n _)

theorem drawL_all {rec : Nat → List UInt8 → List St × List UInt8} {d : Nat} {P : St → Bool} (h : ∀ k r, P (oneK rec k r).1 = true) : ∀ (n : Nat) (r : List UInt8), (drawL rec d n r).1.all P = true
  | 0, _ => rfl
  | n + 1, r => by
    show (P (draw1 rec d r).1 && (drawL rec d n (draw1 rec d r).2).1.all P) = true
    rw [drawL_all h n, Bool.and_true]; exact h _ _

theorem fitS_nil (N : Nat) : fitS (N + 1) [] = true := by
  have h : unL unSt [] = some [] := rfl
  simp only [fitS, h]; rfl

theorem drawS_fit : ∀ (d N m : Nat) (r : List UInt8), d < N → m ≤ 100 → fitS N ((drawS d m r).1.map encSt) = true
  | _, 0, _, _, h, _ => absurd h (by omega)
  | 0, N + 1, m, r, _, _ => fitS_nil N
  | d + 1, 0 + 1, m, r, h, _ => absurd h (by omega)
  | d + 1, N + 1 + 1, m, r, h, hm => by
    have hu : unL unSt ((drawS (d + 1) m r).1.map encSt) = some (drawS (d + 1) m r).1 := unL_map (un := unSt) (enc := encSt) unSt_enc _
    have ha : (drawS (d + 1) m r).1.all (fit1 (N + 1)) = true := drawL_all (fun k r => fit1_oneK (fun r m hm => drawS_fit d (N + 1) m r (by omega) hm) (fitS_nil N) k r) _ _
    have hl : (drawS (d + 1) m r).1.length ≤ 100 := by
      show (drawL (drawS d) d (nx (m + 1) r).1 (nx (m + 1) r).2).1.length ≤ 100
      rw [drawL_len]
      have := nx_lt (n := m + 1) (by omega) r
      omega
    have hd : fitS (N + 1 + 1) ((drawS (d + 1) m r).1.map encSt) = (decide (((drawS (d + 1) m r).1.length : Int) ≤ 100000) && (drawS (d + 1) m r).1.all (fit1 (N + 1))) := by
      simp only [fitS, hu]; rfl
    rw [hd, ha, Bool.and_true]
    exact decide_eq_true (by omega)
end Go.AI.RD

/- What is drawn, plainly: it could be written. -/
namespace Go.AI.RD
open Go Go.Proofs
set_option maxRecDepth 10000
set_option linter.unusedVariables false
set_option linter.unusedSimpArgs false

theorem scName_valid (k : Nat) : validB (scName k) = true := by
  unfold scName
  split <;> rfl
theorem arName_valid (k : Nat) : validB (arName k) = true := by
  unfold arName
  split <;> rfl

theorem goodX_of {N : Nat} {o v : Int} {nm : List UInt8} {l : List Xp} (h : headX ⟨o, v, nm, 0, 0, l.map encXp⟩ = true) (ha : l.all (goodX N) = true) : goodX (N + 1) ⟨o, v, nm, 0, 0, l.map encXp⟩ = true := by
  have hu : unL unXp (l.map encXp) = some l := unL_map (un := unXp) (enc := encXp) unXp_enc l
  simp only [goodX, h, hu, ha, Bool.and_true]

theorem headX_of {o v : Int} {nm : List UInt8} {a : List DV} (h1 : 1 ≤ o) (h2 : o ≤ 22) (h3 : (a.length : Int) = argsN o) (h4 : (o = 2 ∨ o = 3) → validB nm = true) (h5 : ¬ (o = 2 ∨ o = 3) → nm = []) (h6 : o = 1 → 0 ≤ v) (h7 : o ≠ 1 → v = 0) : headX ⟨o, v, nm, 0, 0, a⟩ = true := by
  unfold headX
  dsimp only
  have e1 : decide (o < 1) = false := decide_eq_false (by omega)
  have e2 : decide (22 < o) = false := decide_eq_false (by omega)
  simp only [e1, e2, h3, decide_true, Bool.not_true, Bool.or_false, Bool.not_false, Bool.true_and]
  by_cases a1 : o = 2 ∨ o = 3
  · have hv := h4 a1
    have hz := h7 (by omega)
    have hn : ¬ o = 1 := by omega
    have hb : (decide (o = 2) || decide (o = 3)) = true := by simpa using a1
    simp [hb, hv, hz, hn]
  · have hv := h5 a1
    have hb : (decide (o = 2) || decide (o = 3)) = false := by simpa using a1
    by_cases a2 : o = 1
    · have hz := h6 a2
      simp [hb, hv, a2]; omega
    · have hz := h7 a2
      simp [hb, hv, hz, a2]

theorem drawT_good {rec : List UInt8 → Xp × List UInt8} {d N : Nat} (ih : d = 0 ∨ ∀ r, goodX N (rec r).1 = true) (k : Nat) (r : List UInt8) : goodX (N + 1) (drawT rec d k r).1 = true := by
  have b3 : ∀ r, (nx 3 r).1 < 3 := fun r => nx_lt (by decide) r
  have b2 : ∀ r, (nx 2 r).1 < 2 := fun r => nx_lt (by decide) r
  have b13 : ∀ r, (nx 13 r).1 < 13 := fun r => nx_lt (by decide) r
  unfold drawT
  split; · exact goodX_of (l := []) (headX_of (by omega) (by omega) rfl (by omega) (fun _ => rfl) (by omega) (by omega)) rfl
  split; · exact goodX_of (l := []) (headX_of (by omega) (by omega) rfl (fun _ => scName_valid _) (by omega) (by omega) (fun _ => rfl)) rfl
  split; · exact goodX_of (l := []) (headX_of (by omega) (by omega) rfl (by omega) (fun _ => rfl) (by omega) (fun _ => rfl)) rfl
  split
  · have := b3 r
    refine goodX_of (l := []) (headX_of (by omega) (by omega) ?_ (by omega) (fun _ => rfl) (by omega) (fun _ => rfl)) rfl
    unfold argsN; rw [if_neg (by omega), if_neg (by omega)]; rfl
  split; · exact goodX_of (l := []) (headX_of (by omega) (by omega) rfl (by omega) (fun _ => rfl) (by omega) (by omega)) rfl
  rename_i h1 h2 h3 h4 h5
  have ih := ih.resolve_left (by omega)
  split
  · exact goodX_of (l := [_]) (headX_of (by omega) (by omega) rfl (fun _ => arName_valid _) (by omega) (by omega) (fun _ => rfl)) (by simp [ih])
  split
  · have := b2 r
    refine goodX_of (l := [_]) (headX_of (by omega) (by omega) ?_ (by omega) (fun _ => rfl) (by omega) (fun _ => rfl)) (by simp [ih])
    unfold argsN; rw [if_neg (by omega), if_pos (by omega)]; rfl
  · have := b13 (rec r).2
    refine goodX_of (l := [_, _]) (headX_of (by omega) (by omega) ?_ (by omega) (fun _ => rfl) (by omega) (fun _ => rfl)) (by simp [ih])
    unfold argsN; rw [if_pos (by omega)]; rfl

theorem drawX_good : ∀ (d N : Nat) (r : List UInt8), 0 < d → d ≤ N → goodX N (drawX d r).1 = true
  | 0, _, _, h, _ => absurd h (by omega)
  | _ + 1, 0, _, _, h => absurd h (by omega)
  | d + 1, N + 1, r, _, h => by
    show goodX (N + 1) (drawT (drawX d) d (if d = 0 ∧ 8 ≤ (nx 12 r).1 then (nx 12 r).1 - 8 else (nx 12 r).1) (nx 12 r).2).1 = true
    by_cases hd : d = 0
    · exact drawT_good (.inl hd) _ _
    · exact drawT_good (.inr fun r => drawX_good d N r (by omega) (by omega)) _ _
end Go.AI.RD

/- What is drawn, plainly: statements could be written. -/
namespace Go.AI.RD
open Go Go.Proofs
set_option maxRecDepth 10000
set_option linter.unusedVariables false
set_option linter.unusedSimpArgs false

theorem goodL_nil (N : Nat) : goodL (N + 1) [] = true := by
  have h : unL unSt [] = some [] := rfl
  simp only [goodL, h]; rfl

theorem good1_oneK {rec : Nat → List UInt8 → List St × List UInt8} {N : Nat} (ih : ∀ r m, goodL N ((rec m r).1.map encSt) = true) (h0 : goodL N [] = true) (k : Nat) (r : List UInt8) : good1 N (oneK rec k r).1 = true := by
  have hx2 : ∀ r, goodX 9 (drawX 2 r).1 = true := fun r => drawX_good 2 9 r (by decide) (by decide)
  have hx3 : ∀ r, goodX 9 (drawX 3 r).1 = true := fun r => drawX_good 3 9 r (by decide) (by decide)
  have hz : zeroX x0 = true := by rfl
  unfold oneK
  split; · simp [good1, headS, hx3, hz, h0, scName_valid]
  split; · simp [good1, headS, hx2, hz, h0, arName_valid]
  split; · simp [good1, headS, hx2, hz, h0]
  split; · simp [good1, headS, hx2, hz, h0]
  split; · simp [good1, headS, hx2, hz, h0, ih]
  simp [good1, headS, hx2, hz, h0, ih]

theorem drawS_good : ∀ (d N m : Nat) (r : List UInt8), d < N → goodL N ((drawS d m r).1.map encSt) = true
  | _, 0, _, _, h => absurd h (by omega)
  | 0, N + 1, m, r, _ => goodL_nil N
  | d + 1, 0 + 1, m, r, h => absurd h (by omega)
  | d + 1, N + 1 + 1, m, r, h => by
    have hu : unL unSt ((drawS (d + 1) m r).1.map encSt) = some (drawS (d + 1) m r).1 := unL_map (un := unSt) (enc := encSt) unSt_enc _
    have ha : (drawS (d + 1) m r).1.all (good1 (N + 1)) = true := drawL_all (fun k r => good1_oneK (fun r m => drawS_good d (N + 1) m r (by omega)) (goodL_nil N) k r) _ _
    have hd : goodL (N + 1 + 1) ((drawS (d + 1) m r).1.map encSt) = (drawS (d + 1) m r).1.all (good1 (N + 1)) := by
      simp only [goodL, hu]; rfl
    rw [hd, ha]
end Go.AI.RD

/- What is drawn, plainly: it is not deep. -/
namespace Go.AI.RD
open Go Go.Proofs
set_option maxRecDepth 10000
set_option linter.unusedVariables false
set_option linter.unusedSimpArgs false

theorem fold_le {α : Type} {f : α → Int} {b : Int} : ∀ (l : List α) (d : Int), (∀ x ∈ l, f x ≤ b) → d ≤ b → l.foldl (fun d x => max d (f x)) d ≤ b
  | [], d, _, h => h
  | x :: l, d, h, hd => by
    have h1 := h x (List.mem_cons_self ..)
    exact fold_le l (max d (f x)) (fun y hy => h y (List.mem_cons_of_mem _ hy)) (by omega)

theorem depthX_fit : ∀ (n m : Nat) (e : Xp), fitX n e = true → depthX m e ≤ n
  | 0, _, _, h => by simp [fitX] at h
  | n + 1, 0, _, _ => by simp only [depthX]; omega
  | n + 1, m + 1, e, h => by
    simp only [fitX] at h
    simp only [depthX]
    split at h
    · rename_i l hl
      try simp only [hl]
      simp only [Bool.and_eq_true] at h
      have := fold_le (f := depthX m) (b := n) l 0 (fun x hx => depthX_fit n m x (List.all_eq_true.1 h.2 x hx)) (by omega)
      omega
    · cases h

theorem depthS_fit : ∀ (n m : Nat) (ss : List DV), fitS n ss = true → depthS m ss ≤ 9 + n
  | 0, _, _, h => by simp [fitS] at h
  | n + 1, 0, _, _ => by simp only [depthS]; omega
  | n + 1, m + 1, e, h => by
    simp only [fitS] at h
    simp only [depthS]
    split at h
    · rename_i l hl
      try simp only [hl]
      simp only [Bool.and_eq_true] at h
      refine fold_le (f := dep1 m) (b := 9 + (n + 1 : Nat)) l 0 (fun s hs => ?_) (by omega)
      have h1 := List.all_eq_true.1 h.2 s hs
      simp only [Bool.and_eq_true] at h1
      obtain ⟨f1, f2, f3, f4, _⟩ := h1
      have g1 := depthX_fit 9 9 _ f1
      have g2 := depthX_fit 9 9 _ f2
      have g3 := depthS_fit n m _ f3
      have g4 := depthS_fit n m _ f4
      unfold dep1
      omega
    · cases h

theorem drawP_check (r : List UInt8) :
    let p := (drawP r).1
    fitP (p.start.map encSt) (p.message.map encSt) (p.tick.map encSt) (p.input.map encSt) = true ∧
    chkP p.vars (p.start.map encSt) (p.message.map encSt) (p.tick.map encSt) (p.input.map encSt) = 0 := by
  intro p
  have f1 : ∀ N, 4 ≤ N → fitS N (p.start.map encSt) = true := fun N h => drawS_fit 2 N 3 _ (by omega) (by decide)
  have f2 : ∀ N, 4 ≤ N → fitS N (p.message.map encSt) = true := fun N h => drawS_fit 3 N 4 _ (by omega) (by decide)
  have f3 : ∀ N, 4 ≤ N → fitS N (p.tick.map encSt) = true := fun N h => drawS_fit 2 N 3 _ (by omega) (by decide)
  have f4 : ∀ N, 4 ≤ N → fitS N (p.input.map encSt) = true := fun N h => drawS_fit 2 N 2 _ (by omega) (by decide)
  have g1 : goodL 9 (p.start.map encSt) = true := drawS_good 2 9 3 _ (by omega)
  have g2 : goodL 9 (p.message.map encSt) = true := drawS_good 3 9 4 _ (by omega)
  have g3 : goodL 9 (p.tick.map encSt) = true := drawS_good 2 9 3 _ (by omega)
  have g4 : goodL 9 (p.input.map encSt) = true := drawS_good 2 9 2 _ (by omega)
  have d1 := depthS_fit 4 9 _ (f1 4 (by decide))
  have d2 := depthS_fit 4 9 _ (f2 4 (by decide))
  have d3 := depthS_fit 4 9 _ (f3 4 (by decide))
  have d4 := depthS_fit 4 9 _ (f4 4 (by decide))
  refine ⟨by simp only [fitP, f1 9 (by decide), f2 9 (by decide), f3 9 (by decide), f4 9 (by decide)]; rfl, ?_⟩
  have hd : ¬ 16 < depP (p.start.map encSt) (p.message.map encSt) (p.tick.map encSt) (p.input.map encSt) := by unfold depP; omega
  have hb : p.vars.any badVar = false := by
    have v1 : validB [120] = true := rfl
    have v2 : validB [97] = true := rfl
    have v3 : validB [121] = true := rfl
    have v4 : validB [122] = true := rfl
    have v5 : validB [98] = true := rfl
    show (_ || (_ || (_ || (_ || (_ || false))))) = false
    simp [badVar, v1, v2, v3, v4, v5]
    omega
  unfold chkP
  rw [if_neg hd, hb, g1, g2, g3, g4]
  rfl
end Go.AI.RD

/- What is drawn, plainly: its declarations. -/
namespace Go.AI.RD
open Go Go.Proofs
set_option maxRecDepth 10000
set_option linter.unusedVariables false
set_option linter.unusedSimpArgs false

def vars5 (a b c : Int) : List Var := [⟨[120], 0, a⟩, ⟨[97], 1 + b, 0⟩, ⟨[121], 0, 0⟩, ⟨[122], 0, c⟩, ⟨[98], 2, 0⟩]
theorem drawP_vars (r : List UInt8) : ∃ a b c : Int, -2 ≤ a ∧ a ≤ 4 ∧ 0 ≤ b ∧ b ≤ 4 ∧ 0 ≤ c ∧ c ≤ 2 ∧ (drawP r).1.vars = vars5 a b c := by
  have h1 := nx_lt (n := 7) (by decide) r
  have h2 := nx_lt (n := 5) (by decide) (nx 7 r).2
  have h3 := nx_lt (n := 3) (by decide) (nx 5 (nx 7 r).2).2
  exact ⟨((nx 7 r).1 : Int) - 2, ((nx 5 (nx 7 r).2).1 : Int), ((nx 3 (nx 5 (nx 7 r).2).2).1 : Int), by omega, by omega, by omega, by omega, by omega, by omega, rfl⟩
theorem vars5_dup (a b c : Int) : dupB [] (vars5 a b c) = false := by
  simp [vars5, dupB]
theorem vars5_many {a b c : Int} (h0 : 0 ≤ b) (h1 : b ≤ 4) : many 0 (vars5 a b c) = false := by
  simp only [vars5, many]
  rw [if_neg (by omega), if_neg (by omega), if_neg (by omega), if_neg (by omega), if_neg (by omega)]
theorem vars5_kss (a b c : Int) : kss (vars5 a b c) = [.str [120], .str [97], .str [121], .str [122], .str [98]] := rfl
end Go.AI.RD

/- Resolving where each name is found: the marks stay, and each place lies within. -/
namespace Go.AI.RD
open Go Go.Proofs
set_option maxRecDepth 10000
set_option linter.unusedVariables false
set_option linter.unusedSimpArgs false

/-- A name that is found, and whose cells lie within c. -/
def Fnd (ks : List DV) (ps : List Plc) (c : Int) (nm : List UInt8) (ar : Bool) : Prop :=
  ∀ a b, (fndR ks ps nm ar a b).2 = (a, b) ∧ out1 c (fndR ks ps nm ar a b).1.slot (fndR ks ps nm ar a b).1.size = false

def NamesX (ks : List DV) (ps : List Plc) (c : Int) : Nat → Xp → Prop
  | 0, _ => False
  | n + 1, e => ((e.op = 2 ∨ e.op = 3) → Fnd ks ps c e.name (decide (e.op = 3))) ∧ ∃ l, unL unXp e.args = some l ∧ ∀ x ∈ l, NamesX ks ps c n x

theorem resL_ok {f : Xp → Mk → Xp × Mk} {P : Xp → Bool} : ∀ (l : List Xp) (m : Mk), (∀ x ∈ l, ∀ m, (f x m).2 = m ∧ P (f x m).1 = true) → (resL f l m).2 = m ∧ (resL f l m).1.all P = true
  | [], m, _ => ⟨rfl, rfl⟩
  | x :: l, m, h => by
    have h1 := h x (List.mem_cons_self ..) m
    have h2 := resL_ok l m (fun y hy => h y (List.mem_cons_of_mem _ hy))
    show (resL f l (f x m).2).2 = m ∧ (P (f x m).1 && (resL f l (f x m).2).1.all P) = true
    rw [h1.1, h1.2]
    exact ⟨h2.1, by rw [h2.2]; rfl⟩

theorem resX_ok {ks : List DV} {ps : List Plc} {c : Int} : ∀ (n : Nat) (e : Xp) (m : Mk), NamesX ks ps c n e → (resX ks ps n e m).2 = m ∧ insX c n (resX ks ps n e m).1 = true
  | 0, _, _, h => h.elim
  | n + 1, e, m, h => by
    obtain ⟨h1, l, hl, h2⟩ := h
    have ih := resL_ok (f := resX ks ps n) (P := insX c n) l
    have hu : ∀ q : List Xp, unL unXp (q.map encXp) = some q := unL_map (un := unXp) (enc := encXp) unXp_enc
    simp only [resX, hl, insX, hu]
    by_cases ho : e.op = 2 ∨ e.op = 3
    · obtain ⟨g1, g2⟩ := h1 ho m.a m.b
      have hh : (headR ks ps e m).2 = m := by simp only [headR, if_pos ho, g1]
      have q := ih m (fun x hx m => resX_ok n x m (h2 x hx))
      rw [hh]
      refine ⟨q.1, ?_⟩
      rw [q.2, Bool.and_true]
      simp only [headR, if_pos ho, g2, Bool.and_false, Bool.not_false]
    · have hh : headR ks ps e m = (e, m) := by simp only [headR, if_neg ho]
      have q := ih m (fun x hx m => resX_ok n x m (h2 x hx))
      rw [hh]
      refine ⟨q.1, ?_⟩
      rw [q.2, Bool.and_true]
      have hb : (decide (e.op = 2) || decide (e.op = 3)) = false := by simpa using ho
      simp only [hb, Bool.false_and, Bool.not_false]
end Go.AI.RD

/- The names that are drawn are found. -/
namespace Go.AI.RD
open Go Go.Proofs
set_option maxRecDepth 10000
set_option linter.unusedVariables false
set_option linter.unusedSimpArgs false

section
variable {ks : List DV} {ps : List Plc} {c : Int} (hs : ∀ k, Fnd ks ps c (scName k) false) (ha : ∀ k, Fnd ks ps c (arName k) true)

theorem namesX_of {N : Nat} {o v : Int} {nm : List UInt8} {sl sz : Int} {l : List Xp} (h : (o = 2 ∨ o = 3) → Fnd ks ps c nm (decide (o = 3))) (hl : ∀ x ∈ l, NamesX ks ps c N x) : NamesX ks ps c (N + 1) ⟨o, v, nm, sl, sz, l.map encXp⟩ :=
  ⟨h, l, unL_map (un := unXp) (enc := encXp) unXp_enc l, hl⟩

include hs ha
theorem drawT_names {rec : List UInt8 → Xp × List UInt8} {d N : Nat} (ih : d = 0 ∨ ∀ r, NamesX ks ps c N (rec r).1) (k : Nat) (r : List UInt8) : NamesX ks ps c (N + 1) (drawT rec d k r).1 := by
  unfold drawT
  split; · exact namesX_of (l := []) (by omega) (by simp)
  split; · exact namesX_of (l := []) (fun _ => hs _) (by simp)
  split; · exact namesX_of (l := []) (by omega) (by simp)
  split; · exact namesX_of (l := []) (by omega) (by simp)
  split; · exact namesX_of (l := []) (by omega) (by simp)
  rename_i h1 h2 h3 h4 h5
  have ih := ih.resolve_left (by omega)
  split; · exact namesX_of (l := [_]) (fun _ => ha _) (by simp [ih])
  split; · exact namesX_of (l := [_]) (by omega) (by simp [ih])
  exact namesX_of (l := [_, _]) (by omega) (by simp [ih])

theorem drawX_names : ∀ (d N : Nat) (r : List UInt8), d ≤ N → 0 < N → NamesX ks ps c N (drawX d r).1
  | _, 0, _, _, h => absurd h (by omega)
  | 0, N + 1, r, _, _ => namesX_of (l := []) (by omega) (by simp)
  | d + 1, N + 1, r, h, _ => by
    show NamesX ks ps c (N + 1) (drawT (drawX d) d (if d = 0 ∧ 8 ≤ (nx 12 r).1 then (nx 12 r).1 - 8 else (nx 12 r).1) (nx 12 r).2).1
    by_cases hd : d = 0
    · exact drawT_names hs ha (.inl hd) _ _
    · exact drawT_names hs ha (.inr fun r => drawX_names d N r (by omega) (by omega)) _ _
end
end Go.AI.RD

/- Resolving statements where each name is found. -/
namespace Go.AI.RD
open Go Go.Proofs
set_option maxRecDepth 10000
set_option linter.unusedVariables false
set_option linter.unusedSimpArgs false

def NamesS (ks : List DV) (ps : List Plc) (c : Int) : Nat → List DV → Prop
  | 0, _ => False
  | n + 1, ss => ∃ l, unL unSt ss = some l ∧ ∀ s ∈ l, ((s.kind = 1 ∨ s.kind = 2) → Fnd ks ps c s.name (decide (s.kind = 2))) ∧
      NamesX ks ps c 9 s.place ∧ NamesX ks ps c 9 s.value ∧ NamesS ks ps c n s.body ∧ NamesS ks ps c n s.els

theorem resQ_ok {f : St → Mk → St × Mk} {P : St → Bool} : ∀ (l : List St) (m : Mk), (∀ x ∈ l, ∀ m, (f x m).2 = m ∧ P (f x m).1 = true) → (resQ f l m).2 = m ∧ (resQ f l m).1.all P = true
  | [], m, _ => ⟨rfl, rfl⟩
  | x :: l, m, h => by
    have h1 := h x (List.mem_cons_self ..) m
    have h2 := resQ_ok l m (fun y hy => h y (List.mem_cons_of_mem _ hy))
    show (resQ f l (f x m).2).2 = m ∧ (P (f x m).1 && (resQ f l (f x m).2).1.all P) = true
    rw [h1.1, h1.2]
    exact ⟨h2.1, by rw [h2.2]; rfl⟩

theorem resS_ok {ks : List DV} {ps : List Plc} {c : Int} : ∀ (n : Nat) (ss : List DV) (m : Mk), NamesS ks ps c n ss → (resS ks ps n ss m).2 = m ∧ wthL c n ((resS ks ps n ss m).1.map encSt) = true
  | 0, _, _, h => h.elim
  | n + 1, ss, m, h => by
    obtain ⟨l, hl, h2⟩ := h
    have hu : ∀ q : List St, unL unSt (q.map encSt) = some q := unL_map (un := unSt) (enc := encSt) unSt_enc
    simp only [resS, hl, wthL, hu]
    refine resQ_ok (P := wth1 c n) l m fun s hs m => ?_
    obtain ⟨h1, hp, hv, hb, he⟩ := h2 s hs
    have hh : (headQ ks ps s m).2 = m ∧ (!((decide (s.kind = 1) || decide (s.kind = 2)) && out1 c (headQ ks ps s m).1.slot (headQ ks ps s m).1.size)) = true := by
      by_cases ho : s.kind = 1 ∨ s.kind = 2
      · obtain ⟨g1, g2⟩ := h1 ho m.a m.b
        simp only [headQ, if_pos ho, g1, g2, Bool.and_false, Bool.not_false, and_self]
      · have hb : (decide (s.kind = 1) || decide (s.kind = 2)) = false := by simpa using ho
        simp only [headQ, if_neg ho, hb, Bool.false_and, Bool.not_false, and_self]
    have qp := resX_ok 9 s.place m hp
    have qv := resX_ok 9 s.value m hv
    have qb := resS_ok n s.body m hb
    have qe := resS_ok n s.els m he
    simp only [res1, hh.1, qp.1, qv.1, qb.1, qe.1, true_and, wth1, headW, hh.2, qp.2, qv.2, qb.2, qe.2, Bool.and_self]
end Go.AI.RD

/- The names in drawn statements are found. -/
namespace Go.AI.RD
open Go Go.Proofs
set_option maxRecDepth 10000
set_option linter.unusedVariables false
set_option linter.unusedSimpArgs false

section
variable {ks : List DV} {ps : List Plc} {c : Int} (hs : ∀ k, Fnd ks ps c (scName k) false) (ha : ∀ k, Fnd ks ps c (arName k) true)

def Names1 (ks : List DV) (ps : List Plc) (c : Int) (n : Nat) (s : St) : Prop :=
  ((s.kind = 1 ∨ s.kind = 2) → Fnd ks ps c s.name (decide (s.kind = 2))) ∧
      NamesX ks ps c 9 s.place ∧ NamesX ks ps c 9 s.value ∧ NamesS ks ps c n s.body ∧ NamesS ks ps c n s.els

theorem namesS_nil (N : Nat) : NamesS ks ps c (N + 1) [] := ⟨[], rfl, by simp⟩

theorem drawL_names {rec : Nat → List UInt8 → List St × List UInt8} {d N : Nat} (h : ∀ k r, Names1 ks ps c N (oneK rec k r).1) : ∀ (n : Nat) (r : List UInt8), ∀ s ∈ (drawL rec d n r).1, Names1 ks ps c N s
  | 0, _, s, hs => by cases hs
  | n + 1, r, s, hs => by
    rcases List.mem_cons.1 (show s ∈ (draw1 rec d r).1 :: (drawL rec d n (draw1 rec d r).2).1 from hs) with rfl | h1
    · exact h _ _
    · exact drawL_names h n _ s h1

include hs ha
theorem oneK_names {rec : Nat → List UInt8 → List St × List UInt8} {N : Nat} (ih : ∀ r m, NamesS ks ps c N ((rec m r).1.map encSt)) (h0 : NamesS ks ps c N []) (k : Nat) (r : List UInt8) : Names1 ks ps c N (oneK rec k r).1 := by
  have hx2 : ∀ r, NamesX ks ps c 9 (drawX 2 r).1 := fun r => drawX_names hs ha 2 9 r (by decide) (by decide)
  have hx3 : ∀ r, NamesX ks ps c 9 (drawX 3 r).1 := fun r => drawX_names hs ha 3 9 r (by decide) (by decide)
  have hz : NamesX ks ps c 9 x0 := namesX_of (l := []) (by omega) (by simp)
  unfold oneK
  split; · exact ⟨fun _ => hs _, hz, hx3 _, h0, h0⟩
  split; · exact ⟨fun _ => ha _, hx2 _, hx2 _, h0, h0⟩
  split; · exact ⟨fun h => absurd h (by dsimp only; omega), hx2 _, hx2 _, h0, h0⟩
  split; · exact ⟨fun h => absurd h (by dsimp only; omega), hz, hx2 _, h0, h0⟩
  split; · exact ⟨fun h => absurd h (by dsimp only; omega), hz, hx2 _, ih _ _, ih _ _⟩
  exact ⟨fun h => absurd h (by dsimp only; omega), hz, hx2 _, ih _ _, h0⟩

theorem drawS_names : ∀ (d N m : Nat) (r : List UInt8), d < N → NamesS ks ps c N ((drawS d m r).1.map encSt)
  | _, 0, _, _, h => absurd h (by omega)
  | 0, N + 1, m, r, _ => namesS_nil N
  | d + 1, 0 + 1, m, r, h => absurd h (by omega)
  | d + 1, N + 1 + 1, m, r, h => ⟨_, unL_map (un := unSt) (enc := encSt) unSt_enc _, drawL_names (fun k r => oneK_names hs ha (fun r m => drawS_names d (N + 1) m r (by omega)) (namesS_nil N) k r) _ _⟩
end
end Go.AI.RD
