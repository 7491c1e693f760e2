/- Making: new blocks, structs, slices. -/
import Derived.Test.YtolbinhdmenekaaAxMem
namespace Go.AI
set_option linter.unusedVariables false
set_option linter.unusedSimpArgs false

theorem Nodup.cons_of_lt {B : List Nat} {n : Nat} (h : B.Nodup) (hl : ∀ r ∈ B, r < n) : (n :: B).Nodup :=
  List.nodup_cons.2 ⟨fun hm => Nat.lt_irrefl _ (hl n hm), h⟩

section
variable {E : Ent} {w w' : World} {Φ : Mem} {μ BF BH : List Nat} {tm : Array Value} {fr : Fr} {H : Hp} {v : AV} {x : Value}

theorem own_both (hF : FR ⟨Φ, w.heap, μ⟩ tm fr BF) (hH : HR ⟨Φ, w.heap, μ⟩ H μ BH) : ∀ r ∈ BF ++ BH, r < w.heap.size := fun r hr => by
  rcases List.mem_append.1 hr with hr | hr
  · exact hF.own_lt r hr
  · exact hH.own_lt r hr

/-- Nothing but a value. -/
theorem VR.pure (hF : FR ⟨Φ, w.heap, μ⟩ tm fr BF) (hH : HR ⟨Φ, w.heap, μ⟩ H μ BH) (hN : (BF ++ BH).Nodup) (hI : Inv E w Φ μ (BF ++ BH)) (hv : AR ⟨Φ, w.heap, μ⟩ tm v x []) : VR E v fr H tm x w :=
  ⟨Φ, μ, [], BF, BH, hv, hF, hH, by simpa using hN, by simpa using hI⟩

/-- A new block that nobody else knows. -/
theorem VR.push {vs : Array Value} {el : TypeId} {fz : Nat × Nat} (hF : FR ⟨Φ, w.heap, μ⟩ tm fr BF) (hH : HR ⟨Φ, w.heap, μ⟩ H μ BH) (hN : (BF ++ BH).Nodup) (hI : Inv E w Φ μ (BF ++ BH))
    (hw' : w'.heap = w.heap.push (.cells vs el fz)) (f : Nat → Option Value) (hf : ∀ o v, f o = some v → vs[o]? = some v) (BV : List Nat) (hBV : BV = [] ∨ BV = [w.heap.size])
    (hv : AR ⟨ext Φ w.heap.size f, w'.heap, μ⟩ tm v x BV) (hio : SameIO w w' := by exact ⟨rfl, rfl, rfl⟩) : VR E v fr H tm x w' := by
  have hlt := own_both hF hH
  have hs : ∀ B, (∀ r ∈ B, r ∈ BF ++ BH) → Step ⟨Φ, w.heap, μ⟩ ⟨ext Φ w.heap.size f, w'.heap, μ⟩ B := fun B hB => by
    rw [hw']; exact Step.push hI.wok f _ (fun r hr => hlt r (hB r hr)) (fun _ _ h => h)
  refine ⟨ext Φ w.heap.size f, μ, BV, BF, BH, hv, hF.step (hs _ fun r hr => List.mem_append_left _ hr), hH.step (hs _ fun r hr => List.mem_append_right _ hr), ?_, (hI.push hw' f hf (fun _ _ h => h) hio).perm ?_⟩
  · rcases hBV with rfl | rfl
    · simpa using hN
    · exact Nodup.cons_of_lt hN hlt
  · intro r hr
    rcases List.mem_append.1 hr with hr | hr
    · rcases hBV with rfl | rfl
      · simp at hr
      · simp at hr; subst hr; simp
    · exact List.mem_cons_of_mem _ hr

/-- A new variable, with what its value may be appended to. -/
theorem VR.box {vs : Array Value} {el : TypeId} {cs : List AV} {BC : List Nat} (hF : FR ⟨Φ, w.heap, μ⟩ tm fr BF) (hH : HR ⟨Φ, w.heap, μ⟩ H μ BH) (hc : All2O (AC ⟨Φ, w.heap, μ⟩) cs vs.toList BC)
    (hN : (BC ++ (BF ++ BH)).Nodup) (hI : Inv E w Φ μ (BC ++ (BF ++ BH))) (hw' : w'.heap = w.heap.push (.cells vs el (0, 0))) (hio : SameIO w w' := by exact ⟨rfl, rfl, rfl⟩) :
    VR E (.box cs) fr H tm (.pointer (some ⟨w.heap.size, 0, none⟩)) w' := by
  have hlt : ∀ r ∈ BC ++ (BF ++ BH), r < w.heap.size := fun r hr => by
    rcases List.mem_append.1 hr with hr | hr
    · exact hc.own_lt r hr
    · exact own_both hF hH r hr
  have hs : ∀ B, (∀ r ∈ B, r ∈ BC ++ (BF ++ BH)) → Step ⟨Φ, w.heap, μ⟩ ⟨ext Φ w.heap.size fun _ => none, w'.heap, μ⟩ B := fun B hB => by
    rw [hw']; exact Step.push hI.wok _ _ (fun r hr => hlt r (hB r hr)) (fun _ _ h => h)
  refine ⟨ext Φ w.heap.size fun _ => none, μ, w.heap.size :: BC, BF, BH, ⟨_, rfl, vs, el, ?_, ?_, BC, ?_, rfl⟩, hF.step (hs _ fun r hr => by simp [hr]), hH.step (hs _ fun r hr => by simp [hr]), ?_, hI.push hw' _ (by simp) (fun _ _ h => h) hio⟩
  · show w'.heap[w.heap.size]? = _; rw [hw']; simp
  · intro o; simp [ext]
  · exact hc.mono fun a v C hC h => h.step (hs _ fun r hr => List.mem_append_left _ (hC r hr))
  · exact Nodup.cons_of_lt hN hlt

/-- A new block of the shared heap. -/
theorem VR.heap {vs : Array Value} {el : TypeId} {cs : List AV} {BC : List Nat} (hF : FR ⟨Φ, w.heap, μ⟩ tm fr BF) (hH : HR ⟨Φ, w.heap, μ⟩ H μ BH) (hc : All2O (AC ⟨Φ, w.heap, μ⟩) cs vs.toList BC)
    (hN : (BC ++ (BF ++ BH)).Nodup) (hI : Inv E w Φ μ (BC ++ (BF ++ BH))) (hw' : w'.heap = w.heap.push (.cells vs el (0, 0))) (hio : SameIO w w' := by exact ⟨rfl, rfl, rfl⟩) :
    VR E (.hp H.length 0) fr (H ++ [cs]) tm (.pointer (some ⟨w.heap.size, 0, none⟩)) w' := by
  have hlt : ∀ r ∈ BC ++ (BF ++ BH), r < w.heap.size := fun r hr => by
    rcases List.mem_append.1 hr with hr | hr
    · exact hc.own_lt r hr
    · exact own_both hF hH r hr
  have hμ : ∀ (b r : Nat), μ[b]? = some r → (μ ++ [w.heap.size])[b]? = some r := fun b r h => by
    rw [List.getElem?_append_left (List.getElem?_eq_some_iff.1 h).1]; exact h
  have hs : ∀ B, (∀ r ∈ B, r ∈ BC ++ (BF ++ BH)) → Step ⟨Φ, w.heap, μ⟩ ⟨ext Φ w.heap.size fun _ => none, w'.heap, μ ++ [w.heap.size]⟩ B := fun B hB => by
    rw [hw']; exact Step.push hI.wok _ _ (fun r hr => hlt r (hB r hr)) hμ
  have happ : ∀ (e : Env) (H : Hp) (m : List Nat) (B : List Nat) (cs : List AV) (r : Nat) (C : List Nat), HR e H m B → ObjR e cs r C → HR e (H ++ [cs]) (m ++ [r]) (B ++ C) := by
    intro e H
    induction H with
    | nil =>
      intro m B cs r C h hb
      cases m with
      | nil => rw [show B = [] from h]; exact ⟨C, [], hb, rfl, by simp⟩
      | cons _ _ => exact h.elim
    | cons c H ih =>
      intro m B cs r C h hb
      cases m with
      | nil => exact h.elim
      | cons r' m => obtain ⟨B1, B2, h1, h2, rfl⟩ := h; exact ⟨B1, B2 ++ C, h1, ih m B2 cs r C h2 hb, by simp⟩
  have hlen : ∀ (H : Hp) (m B : List Nat), HR ⟨Φ, w.heap, μ⟩ H m B → H.length = m.length := by
    intro H
    induction H with
    | nil => intro m B h; cases m with | nil => rfl | cons _ _ => exact h.elim
    | cons c H ih => intro m B h; cases m with | nil => exact h.elim | cons r m => obtain ⟨_, B2, _, h2, _⟩ := h; simp [ih m B2 h2]
  have hblk : BlkR ⟨ext Φ w.heap.size fun _ => none, w'.heap, μ ++ [w.heap.size]⟩ cs w.heap.size (w.heap.size :: BC) := by
    refine ⟨vs, el, ?_, ?_, BC, ?_, rfl⟩
    · show w'.heap[w.heap.size]? = _; rw [hw']; simp
    · intro o; simp [ext]
    · exact hc.mono fun a v C hC h => h.step (hs _ fun r hr => List.mem_append_left _ (hC r hr))
  refine ⟨ext Φ w.heap.size fun _ => none, μ ++ [w.heap.size], [], BF, BH ++ w.heap.size :: BC, ⟨w.heap.size, ?_, rfl, rfl⟩, hF.step (hs _ fun r hr => by simp [hr]),
    happ _ _ _ _ _ _ _ (hH.step (hs _ fun r hr => by simp [hr])) (.inl hblk), ?_, (hI.push hw' _ (by simp) hμ hio).perm ?_⟩
  · rw [hlen _ _ _ hH]; simp
  · have hn := Nodup.cons_of_lt hN hlt
    have hp : (w.heap.size :: (BC ++ (BF ++ BH))).Perm ([] ++ (BF ++ (BH ++ w.heap.size :: BC))) := by
      rw [List.nil_append, ← List.append_assoc BF]
      exact (List.perm_append_comm (l₁ := w.heap.size :: BC) (l₂ := BF ++ BH))
    exact hp.nodup_iff.1 hn
  · intro r hr
    simp at hr ⊢
    rcases hr with h | h | h | h <;> simp [h]
theorem HR.snoc {e : Env} : ∀ {H : Hp} {m B : List Nat} {cs : List AV} {r : Nat} {C : List Nat}, HR e H m B → ObjR e cs r C → HR e (H ++ [cs]) (m ++ [r]) (B ++ C)
  | [], [], _, cs, r, C, h, hb => by rw [show _ = [] from h]; exact ⟨C, [], hb, rfl, by simp⟩
  | c :: H, r' :: m, _, cs, r, C, ⟨B1, B2, h1, h2, rfl⟩, hb => ⟨B1, B2 ++ C, h1, h2.snoc hb, by simp⟩
  | [], _ :: _, _, _, _, _, h, _ => h.elim
  | _ :: _, [], _, _, _, _, h, _ => h.elim

theorem HR.len0 {e : Env} : ∀ {H : Hp} {m B : List Nat}, HR e H m B → H.length = m.length
  | [], [], _, _ => rfl
  | cs :: H, r :: m, _, ⟨_, _, _, h, _⟩ => by simp [h.len0]
  | [], _ :: _, _, h => h.elim
  | _ :: _, [], _, h => h.elim

/-- A new map. -/
theorem VR.newMap {kd : KK} (hF : FR ⟨Φ, w.heap, μ⟩ tm fr BF) (hH : HR ⟨Φ, w.heap, μ⟩ H μ BH)
    (hN : (BF ++ BH).Nodup) (hI : Inv E w Φ μ (BF ++ BH)) (hw' : w'.heap = w.heap.push (.map #[] 0)) (hio : SameIO w w') :
    VR E (.mp H.length) fr (H ++ [[.mpb kd [] []]]) tm (.map (some w.heap.size)) w' := by
  have hlt : ∀ r ∈ BF ++ BH, r < w.heap.size := own_both hF hH
  have hμ : ∀ (b r : Nat), μ[b]? = some r → (μ ++ [w.heap.size])[b]? = some r := fun b r h => by
    rw [List.getElem?_append_left (List.getElem?_eq_some_iff.1 h).1]; exact h
  have hs : ∀ B, (∀ r ∈ B, r ∈ BF ++ BH) → Step ⟨Φ, w.heap, μ⟩ ⟨ext Φ w.heap.size fun _ => none, w'.heap, μ ++ [w.heap.size]⟩ B := fun B hB => by
    rw [hw']; exact Step.push hI.wok _ _ (fun r hr => hlt r (hB r hr)) hμ
  have hblk : ObjR ⟨ext Φ w.heap.size fun _ => none, w'.heap, μ ++ [w.heap.size]⟩ [.mpb kd [] []] w.heap.size [w.heap.size] := by
    refine .inr ⟨kd, [], [], rfl, #[], 0, ?_, ?_, trivial, rfl, rfl⟩
    · show w'.heap[w.heap.size]? = _; rw [hw']; simp
    · intro o; simp [ext]
  refine ⟨ext Φ w.heap.size fun _ => none, μ ++ [w.heap.size], [], BF, BH ++ [w.heap.size], ⟨w.heap.size, ?_, rfl, rfl⟩, hF.step (hs _ fun r hr => by simp [hr]),
    (hH.step (hs _ fun r hr => by simp [hr])).snoc hblk, ?_, (hI.pushO hw' (fun _ => none) (by simp) hμ hio).perm ?_⟩
  · rw [hH.len0]; simp
  · have hn : (w.heap.size :: (BF ++ BH)).Nodup := List.nodup_cons.2 ⟨fun hm => Nat.lt_irrefl _ (hlt _ hm), hN⟩
    have hp : (w.heap.size :: (BF ++ BH)).Perm ([] ++ (BF ++ (BH ++ [w.heap.size]))) := by
      rw [List.nil_append, ← List.append_assoc]
      exact (List.perm_append_comm (l₁ := [w.heap.size]) (l₂ := BF ++ BH))
    exact hp.nodup_iff.1 hn
  · intro r hr
    simp at hr ⊢
    rcases hr with h | h | h <;> simp [h]

end

end Go.AI
