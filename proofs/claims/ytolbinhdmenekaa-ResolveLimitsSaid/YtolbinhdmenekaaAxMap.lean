/- Maps of the shared heap. -/
import Derived.Test.YtolbinhdmenekaaAxCall
import Derived.MapKept
namespace Go.AI
set_option linter.unusedVariables false
set_option linter.unusedSimpArgs false

def KK.fits : KK → TypeDesc → Prop
  | .str, .string => True
  | .int k, .int k' => k' = k
  | _, _ => False

theorem mapTy_some {P : Program} {t : TypeId} {kd : KK} {et : TypeId} (h : mapTy P t = some (kd, et)) : ∃ kt d, P.underlying t = some (.map kt et) ∧ P.underlying kt = some d ∧ kd.fits d := by
  unfold mapTy at h
  split at h
  · rename_i kt et' hu
    split at h
    · rename_i kd' hk
      simp only [Option.some.injEq, Prod.mk.injEq] at h
      obtain ⟨rfl, rfl⟩ := h
      unfold kkOf at hk
      split at hk
      · rename_i hd; obtain rfl := Option.some.inj hk; exact ⟨kt, _, hu, hd, trivial⟩
      · rename_i k hd; obtain rfl := Option.some.inj hk; exact ⟨kt, _, hu, hd, rfl⟩
      · simp at hk
    · simp at h
  · simp at h

theorem key_isKey {Φ : Mem} {kd : KK} {d : TypeDesc} (hf : kd.fits d) {k : DV} {kv : Value} (hh : kd.has k = true) (h : CR Φ k kv) : MapKept.IsKey d kv := by
  cases kd <;> cases d <;> simp [KK.fits] at hf <;> cases k <;> simp [KK.has] at hh <;> cases h
  · trivial
  · rename_i k1 k2 k3; subst hh; exact hf.symm ▸ rfl

theorem sameNow_key {Φ : Mem} {kd : KK} {d : TypeDesc} (hf : kd.fits d) {k k' : DV} {kv kv' : Value} (hh : kd.has k = true) (hh' : kd.has k' = true) (h : CR Φ k kv) (h' : CR Φ k' kv') :
    Instr.sameNow d kv kv' = some (eqK k k') ∧ (eqK k k' = true → kv' = kv) := by
  cases kd <;> cases d <;> simp [KK.fits] at hf <;> cases k <;> simp [KK.has] at hh <;> cases k' <;> simp [KK.has] at hh' <;> cases h <;> cases h'
  · rename_i s s' b hb b' hb'
    subst hb; subst hb'
    have hbb : (b == b') = decide (b.data.toList = b'.data.toList) := by
      by_cases he : b = b'
      · subst he; rw [(MapKept.bytes_beq b b).2 rfl]; simp
      · have h1 : (b == b') = false := by
          cases hq : b == b' with
          | false => rfl
          | true => exact absurd ((MapKept.bytes_beq b b').1 hq) he
        rw [h1]
        symm
        rw [decide_eq_false_iff_not]
        intro hd
        apply he
        obtain ⟨x⟩ := b
        obtain ⟨y⟩ := b'
        congr 1
        exact Array.ext' hd
    refine ⟨by simp only [Instr.sameNow, eqK, hbb], fun hq => ?_⟩
    simp only [eqK] at hq
    rw [← hbb] at hq
    rw [(MapKept.bytes_beq b b').1 hq]
  · rename_i k1 k2 k3 n k4 n'
    subst hh; subst hh'
    refine ⟨by simp only [Instr.sameNow, eqK, if_true]; congr 1, fun hq => ?_⟩
    simp [eqK] at hq
    rw [hq]

section
variable {P : Program} {E : Ent} {w : World} {tm : Array Value} {fr : Fr} {H : Hp} {e : Env}

def newEnt (kv y : Value) (x : MapEntry) : MapEntry := { x with key := kv, val := y }

theorem find_sound {kd : KK} {d : TypeDesc} (hf : kd.fits d) {k : DV} {kv : Value} (hk : kd.has k = true) (hkv : CR e.Φ k kv) : ∀ (ks : List DV) (vs : List AV) (es : List MapEntry) (i : Nat), EntR e ks vs es → ks.all kd.has = true →
    (findM k ks vs = none ∧ Instr.findNow d kv es i = some none ∧ ∀ v y b, AR1 e v y [] → EntR e (setK k ks) (setV k v ks vs) (es ++ [⟨kv, y, b⟩])) ∨
    ∃ v j x, findM k ks vs = some v ∧ Instr.findNow d kv es i = some (some (i + j, x.val)) ∧ es[j]? = some x ∧ AR1 e v x.val [] ∧ x.key = kv ∧
      ∀ v y, AR1 e v y [] → EntR e (setK k ks) (setV k v ks vs) (es.modify j (newEnt kv y))
  | [], [], [], i, _, _ => .inl ⟨rfl, rfl, fun v y b h => ⟨hkv, h, trivial⟩⟩
  | k' :: ks, v' :: vs, x :: es, i, ⟨h1, h2, h3⟩, ha => by
    simp only [List.all_cons, Bool.and_eq_true] at ha
    obtain ⟨hs, he⟩ := sameNow_key hf hk ha.1 hkv h1
    cases hq : eqK k k' with
    | true =>
      refine .inr ⟨v', 0, x, by simp [findM, hq], by simp [Instr.findNow, hs, hq], rfl, h2, he hq, fun v y hv => ?_⟩
      simp only [setK, setV, hq, cond_true, List.modify_zero_cons]
      exact ⟨hkv, hv, h3⟩
    | false =>
      rcases find_sound hf hk hkv ks vs es (i + 1) h3 ha.2 with ⟨a, b, c⟩ | ⟨v, j, x', a, b, c, d', e', g⟩
      · refine .inl ⟨by simp [findM, hq, a], by simp [Instr.findNow, hs, hq, b], fun v y b' hv => ?_⟩
        simp only [setK, setV, hq, cond_false]
        exact ⟨h1, h2, c v y b' hv⟩
      · refine .inr ⟨v, j + 1, x', by simp [findM, hq, a], ?_, by simpa using c, d', e', fun v y hv => ?_⟩
        · simp [Instr.findNow, hs, hq, b]; omega
        · simp only [setK, setV, hq, cond_false, List.modify_succ_cons]
          exact ⟨h1, h2, g v y hv⟩
  | [], _ :: _, _, _, h, _ => by cases h
  | [], [], _ :: _, _, h, _ => by cases h
  | _ :: _, [], _, _, h, _ => by cases h
  | _ :: _, _ :: _, [], _, h, _ => by cases h

theorem setK_has {kd : KK} {k : DV} (hk : kd.has k = true) : ∀ {ks : List DV}, ks.all kd.has = true → (setK k ks).all kd.has = true
  | [], _ => by simp [setK, hk]
  | x :: ks, h => by
    simp only [List.all_cons, Bool.and_eq_true] at h
    unfold setK
    cases eqK k x with
    | true => simp [hk, h.2]
    | false => simp only [cond_false, List.all_cons, Bool.and_eq_true]; exact ⟨h.1, setK_has hk h.2⟩

theorem AR1.dup {e : Env} {a : AV} {v : Value} {B : List Nat} (h : AR1 e a v B) : AR1 e (Go.AI.dup a) v [] := by
  cases a
  case agg cs => obtain ⟨vs, hv, h⟩ := h; exact ⟨vs, hv, h.dupC⟩
  case osl sz xs =>
    have := AC.dupC (a := .osl sz xs) h
    show AR1 e (Go.AI.dupC (.osl sz xs)) v []
    rw [dupC_osl] at this ⊢
    split at this <;> rename_i hz
    · rw [if_pos hz]; exact this
    · rw [if_neg hz]; exact this
  case d x => exact AC.dupC (e := e) (a := .d x) h
  case hp b o => exact AC.dupC (e := e) (a := .hp b o) h
  case vp x => exact AC.dupC (e := e) (a := .vp x) h
  case fn f => exact AC.dupC (e := e) (a := .fn f) h
  case nilp => exact AC.dupC (e := e) (a := .nilp) h
  case nilf => exact AC.dupC (e := e) (a := .nilf) h
  case nilm => exact AC.dupC (e := e) (a := .nilm) h
  case mp b => exact AC.dupC (e := e) (a := .mp b) h
  case zsl ik xs k => exact AC.dupC (e := e) (a := .zsl ik xs k) h
  case sref => exact AC.dupC (e := e) (a := .sref) h
  all_goals exact h.elim

theorem zeroAV_sound {t : TypeId} {a : AV} (h : zeroAV P t = some a) : ∃ z, (zeroValue t).run P w = .ok z w ∧ ∀ e, AR1 e (dup a) z [] := by
  unfold zeroAV at h
  split at h
  · rename_i i hi
    split at h
    · rename_i cs hz
      refine ⟨_, zeroValue_run hi hz, fun e => AR1.dup (B := []) ?_⟩
      cases hoc : ofConsts cs.toList with
      | none => rw [hoc] at h; simp at h
      | some l => rw [hoc] at h; simp at h; subst h; exact ⟨cs, rfl, (All2O.ofConsts (e := e) hoc).fixCs⟩
    · rename_i z hna hz
      exact ⟨z, zeroValue_run hi hz, fun e => AR1.dup (B := []) (AR1.of_AC (AC.ofConst0 h))⟩
    · simp at h
  · simp at h

theorem ifpos {α : Type} {b : Bool} (h : b = true) {x y : α} : (bif b then x else y) = x := by rw [h]; rfl

theorem lookup_sound {t : TypeId} {kd : KK} {k : DV} {ks : List DV} {vs : List AV} {ck : Bool} {v : AV} {r : Nat} {B : List Nat} {kv : Value} (hw : w.heap = e.heap) (hm : MapR e kd ks vs r B) (hkv : CR e.Φ k kv)
    (h : lookupA P t kd k ks vs ck = some v) : ∃ x, (Instr.lookup t (.map (some r)) kv ck).run P w = .ok x w ∧ AR e tm v x [] := by
  unfold lookupA at h
  split at h
  · rename_i kd' et hty
    obtain ⟨kt, d, hu, hd, hf⟩ := mapTy_some hty
    split at h
    · rename_i hc
      obtain ⟨rfl, hk⟩ := hc
      obtain ⟨es, cl, h1, h2, h3, h4, rfl⟩ := hm
      have hkey := key_isKey hf hk hkv
      have hb : w.heap[r]? = some (.map es cl) := by rw [hw]; exact h1
      have hck := fun b => MapKept.run_checkKey (P := P) (w := w) hd hkey b 9999
      have hgo := MapKept.run_getObj_map (P := P) hb
      rcases find_sound hf hk hkv ks vs es.toList 0 h3 h4 with ⟨a, b, _⟩ | ⟨v', j, x, a, b, c, d', e', g⟩
      · rw [a] at h
        have hfk := MapKept.run_findKey (P := P) (w := w) hd b
        cases hz : zeroAV P et with
        | none => rw [hz] at h; simp at h
        | some z =>
          rw [hz] at h
          obtain rfl := Option.some.inj h
          obtain ⟨zv, hzr, hza⟩ := zeroAV_sound (w := w) hz
          cases ck with
          | true =>
            refine ⟨.tuple #[zv, .bool false], by simp [Instr.lookup, run_underlying hu, hgo, hck, hfk, hzr], #[zv, .bool false], rfl, .cons (hza e) (.cons ⟨.bool _, rfl⟩ .nil), rfl⟩
          | false => exact ⟨zv, by simp [Instr.lookup, run_underlying hu, hgo, hck, hfk, hzr], AR.of_AR1 (hza e)⟩
      · rw [a] at h
        have hfk := MapKept.run_findKey (P := P) (w := w) hd b
        obtain rfl := Option.some.inj h
        cases ck with
        | true => refine ⟨.tuple #[x.val, .bool true], by simp [Instr.lookup, run_underlying hu, hgo, hck, hfk], #[x.val, .bool true], rfl, .cons d' (.cons ⟨.bool _, rfl⟩ .nil), rfl⟩
        | false => exact ⟨x.val, by simp [Instr.lookup, run_underlying hu, hgo, hck, hfk], AR.of_AR1 d'⟩
    · simp at h
  · simp at h

/-- The world behind a map's new entry. -/
theorem setObj_world {Φ : Mem} {μ B : List Nat} {r : Nat} {ob ob' : Obj} {w' : World} (hI : Inv E w Φ μ B) (h1 : w.heap[r]? = some ob) (h2 : ∀ o, Φ r o = none) (hr : r ∈ B) (hw' : w'.heap = w.heap.setIfInBounds r ob') (hio : SameIO w w') :
    (∀ C, r ∉ C → Step ⟨Φ, w.heap, μ⟩ ⟨Φ, w'.heap, μ⟩ C) ∧ Inv E w' Φ μ B ∧ w'.heap[r]? = some ob' := by
  obtain ⟨hs, ho⟩ := MapKept.heap_set (o' := ob') h1
  refine ⟨fun C hC => ⟨Sub.refl _, fun _ _ h => h, fun q hq => ⟨by show w'.heap[q]? = _; rw [hw']; exact ho q (fun he => hC (he ▸ hq)), fun _ => rfl⟩⟩, ⟨?_, by rw [hw']; simpa using hI.size, hI.sub, hI.mu, fun q hq hx => ?_, hI.own, hI.io.trans hio⟩, by rw [hw']; exact hs⟩
  · intro q o v hv
    have hne : q ≠ r := fun he => by subst he; rw [h2 o] at hv; simp at hv
    obtain ⟨c, el', fz, h3, h4⟩ := hI.wok q o v hv
    exact ⟨c, el', fz, by rw [hw', ho q hne]; exact h3, h4⟩
  · have hne : q ≠ r := fun he => by
      subst he
      rcases hI.own q hr with h | h
      · exact hx h
      · omega
    have hk := hI.keep q hq hx
    exact ⟨by rw [hw', ho q hne]; exact hk.1, hk.2⟩

theorem mapUpdate_sound {Φ : Mem} {μ BF BH : List Nat} (hF : FR ⟨Φ, w.heap, μ⟩ tm fr BF) (hH : HR ⟨Φ, w.heap, μ⟩ H μ BH) (hN : (BF ++ BH).Nodup) (hI : Inv E w Φ μ (BF ++ BH))
    {t et : TypeId} {b : Nat} {kd : KK} {k : DV} {ks : List DV} {vs : List AV} {v : AV} {xv kv y : Value} (hx : AR ⟨Φ, w.heap, μ⟩ tm (.mp b) xv []) (hkv : CR Φ k kv) (hy : AR1 ⟨Φ, w.heap, μ⟩ v y [])
    (hg : H[b]? = some [.mpb kd ks vs]) (hty : mapTy P t = some (kd, et)) (hk : kd.has k = true) :
    ∃ w', (Instr.mapUpdate t xv kv y).run P w = .ok () w' ∧ VR E .undef fr (H.set b [.mpb kd (setK k ks) (setV k v ks vs)]) tm Go.undef w' := by
  obtain ⟨kt, d, hu, hd, hf⟩ := mapTy_some hty
  obtain ⟨r', hr', rfl, _⟩ := hx
  obtain ⟨r, B1, B2, hm, hb, hp, hup⟩ := hH.split hg
  simp only at hr'
  rw [hm] at hr'; obtain rfl := Option.some.inj hr'
  obtain ⟨es, cl, h1, h2, h3, h4, rfl⟩ := hb.map
  have hkey := key_isKey hf hk hkv
  have hgo := MapKept.run_getObj_map (P := P) h1
  have hck := MapKept.run_checkKey (P := P) (w := w) hd hkey false 9999
  have hrB : r ∈ BF ++ BH := List.mem_append_right _ (hp.subset (by simp))
  have hperm : (r :: (BF ++ B2)).Perm (BF ++ BH) := by
    have e1 : (r :: (BF ++ B2)).Perm (BF ++ (r :: B2)) := (List.perm_middle (a := r) (l₁ := BF) (l₂ := B2)).symm
    exact e1.trans (List.Perm.append_left BF hp)
  have hnd := List.nodup_cons.1 (hperm.nodup_iff.2 hN)
  have fin : ∀ {es' : Array MapEntry} {cl' : Nat} {w' : World}, w' = { w with heap := w.heap.setIfInBounds r (.map es' cl') } → EntR ⟨Φ, w.heap, μ⟩ (setK k ks) (setV k v ks vs) es'.toList →
      VR E .undef fr (H.set b [.mpb kd (setK k ks) (setV k v ks vs)]) tm Go.undef w' := by
    intro es' cl' w' hw' hent
    have hh : w'.heap = w.heap.setIfInBounds r (.map es' cl') := by rw [hw']
    obtain ⟨hstep, hinv, hnew⟩ := setObj_world (w' := w') hI h1 h2 hrB hh (by rw [hw']; exact ⟨rfl, rfl, rfl⟩)
    have hblk : ObjR ⟨Φ, w'.heap, μ⟩ [.mpb kd (setK k ks) (setV k v ks vs)] r [r] :=
      .inr ⟨kd, _, _, rfl, es', cl', hnew, h2, hent.step (hstep [] (by simp)), setK_has hk h4, rfl⟩
    obtain ⟨B'', h5, h6⟩ := hup ⟨Φ, w'.heap, μ⟩ _ _ hblk (hstep B2 fun hm => hnd.1 (by simp [hm]))
    have hp2 : (BF ++ B'').Perm (BF ++ BH) := List.Perm.append_left _ (h6.trans hp)
    exact ⟨Φ, μ, [], BF, B'', ⟨rfl, rfl⟩, hF.step (hstep BF fun hm => hnd.1 (by simp [hm])), h5, by simpa using hp2.nodup_iff.2 hN, by simpa using hinv.perm fun q hq => hp2.subset hq⟩
  rcases find_sound hf hk hkv ks vs es.toList 0 h3 h4 with ⟨a, c, g⟩ | ⟨v', j, x, a, c, hj, d', e', g⟩
  · have hfk := MapKept.run_findKey (P := P) (w := w) hd c
    refine ⟨_, by simp [Instr.mapUpdate, run_underlying hu, hgo, hck, hfk, MapKept.run_setObj_map _ h1]; rfl, fin rfl ?_⟩
    rw [Array.toList_push]
    exact g v y cl hy
  · have hfk := MapKept.run_findKey (P := P) (w := w) hd c
    have hold : ((es[j]?).map (·.key)).getD kv = kv := by
      have : es[j]? = some x := by simpa using hj
      simp [this, e']
    have hst := MapKept.run_keyThatStays (P := P) (w := w) hkey
    refine ⟨_, by simp [Instr.mapUpdate, run_underlying hu, hgo, hck, hfk, hold, hst, MapKept.run_setObj_map _ h1]; rfl, fin rfl ?_⟩
    simp only [Array.toList_modify, Nat.zero_add]
    exact g v y hy
end
end Go.AI
