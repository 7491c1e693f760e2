/- Appending. -/
import Derived.Test.YtolbinhdmenekaaAxMem4
namespace Go.AI
set_option linter.unusedVariables false
set_option linter.unusedSimpArgs false

section
variable {P : Program} {w : World}

/-- What the second argument of an append says: so many elements, these cells, wherever the memory is as it is. -/
structure Src (P : Program) (w : World) (t u : TypeId) (size m : Nat) (x : Value) (news : List Value) : Prop where
  len : ∀ w', (Builtin.lenOf x).run P w' = .ok m w'
  rd : ∀ w', w'.heap = w.heap → (Builtin.firstCells size m x).run P w' = .ok news.toArray w'
  ty : ∃ d, P.underlying u = some d ∧ ∀ k, d ≠ .int k
  cnt : news.length = m * size
  one : ∀ v ∈ news, v.oneCell' = true

theorem append_room {t u ty e : TypeId} {i : TypeInfo} (ht : P.underlying t = some (.slice e)) (hi : P.info? e = some i) {m n cap : Nat} {x : Value} {news : List Value} (hs : Src P w t u i.size m x news)
    {g : Nat} {cur : Array Value} {el : TypeId} (hg : w.heap[g]? = some (.cells cur el (0, 0))) (hroom : n + m ≤ cap) (hfit : n * i.size + news.length ≤ cur.size) :
    (Builtin.append_ #[t, u] ty #[.slice (some ⟨g, 0, none⟩) n cap, x]).run P w =
      .ok (.slice (some ⟨g, 0, none⟩) (n + m) cap) (w.setRow g (setRangeV cur.toList (n * i.size) news).toArray) := by
  obtain ⟨d, hu, hd⟩ := hs.ty
  have hst := run_storeCells_at P g (n * i.size) el news 0 cur w hg (by simpa using hfit) hs.one
  simp only [Nat.add_zero] at hst
  have hz : (match some d with | some (.int _) => true | _ => false) = false := by
    cases d <;> first | rfl | exact (hd _ rfl).elim
  have hz' : (d matches .int _) = false := by cases d <;> first | rfl | exact (hd _ rfl).elim
  have hl := hs.len
  have hr := hs.rd w rfl
  simp [Builtin.append_, run_underlying ht, run_underlying hu, sizeOf, typeInfo, hi, hl, hz', hroom, hr, Addr.add_lit, hst, setRangeV]

theorem append_none {t u ty e : TypeId} {i : TypeInfo} (ht : P.underlying t = some (.slice e)) (hi : P.info? e = some i) {n cap : Nat} {x : Value} (hs : Src P w t u i.size 0 x [])
    (b : Option Addr) (hle : n ≤ cap) : (Builtin.append_ #[t, u] ty #[.slice b n cap, x]).run P w = .ok (.slice b n cap) w := by
  obtain ⟨d, hu, hd⟩ := hs.ty
  have hz' : (d matches .int _) = false := by cases d <;> first | rfl | exact (hd _ rfl).elim
  have hl := hs.len
  have hr := hs.rd w rfl
  cases b with
  | none => simp [Builtin.append_, run_underlying ht, run_underlying hu, sizeOf, typeInfo, hi, hl, hz', hle, hr]
  | some a => simp [Builtin.append_, run_underlying ht, run_underlying hu, sizeOf, typeInfo, hi, hl, hz', hle, hr, storeCells]

theorem append_grow {t u ty e : TypeId} {i : TypeInfo} {z : Value} (ht : P.underlying t = some (.slice e)) (hi : P.info? e = some i) (hzv : i.zero = some z) {m n cap : Nat} {x : Value} {news : List Value} (hs : Src P w t u i.size m x news)
    (hb : 0 < i.bytes) (b : Option Addr) (olds : List Value) (hro : ∀ w', w'.heap = w.heap → (Builtin.firstCells i.size n (.slice b n cap)).run P w' = .ok olds.toArray w')
    (hg : cap < n + m) (hfit : (n + m) * i.bytes ≤ 140737488355328) :
    (Builtin.append_ #[t, u] ty #[.slice b n cap, x]).run P w =
      .ok (.slice (some ⟨w.heap.size, 0, none⟩) (n + m) (grownCap w (n + m) cap e))
        (w.drew.alloc (.cells (olds.toArray ++ news.toArray ++ Builtin.zeroCells z.cells (grownCap w (n + m) cap e - (n + m))) e)) := by
  obtain ⟨d, hu, hd⟩ := hs.ty
  have hz' : (d matches .int _) = false := by cases d <;> first | rfl | exact (hd _ rfl).elim
  have hl := hs.len
  have hr := hs.rd w.drew rfl
  have ho := hro w.drew rfl
  have hn : ¬ (n + m ≤ cap) := by omega
  have hle : n + m ≤ (n + m) * i.bytes := Nat.le_mul_of_pos_right _ hb
  have h63' : ¬ (9223372036854775807 < ((n : Int) + (m : Int))) := by omega
  have h48 := growslice_fits hg hfit
  have h48' : ¬ (281474976710656 < Builtin.nextslicecap (n + m) cap * i.bytes) := by omega
  simp [Builtin.append_, run_underlying ht, run_underlying hu, sizeOf, typeInfo, zeroValue, hi, hzv, hl, hz', hn, h63', h48', Question.forced, hr, ho, newRow, grownCap]
  congr 2
  apply Array.ext'
  simp

end

section
variable {P : Program} {E : Ent} {w : World} {Φ : Mem} {μ BF BH BS : List Nat} {tm : Array Value} {fr : Fr} {H : Hp}

theorem CR.oneCell {Φ : Mem} {x : DV} {v : Value} (h : CR Φ x v) : v.oneCell' = true := by cases h <;> rfl

theorem All2.mem {R : DV → Value → Prop} {xs : List DV} {vs : List Value} (h : All2 R xs vs) : ∀ v ∈ vs, ∃ x, R x v := by
  induction h with
  | nil => simp
  | cons h _ ih =>
    intro v hv
    rcases List.mem_cons.1 hv with rfl | hv
    · exact ⟨_, h⟩
    · exact ih v hv

theorem src_of (hI : WOK Φ w.heap) {t e : TypeId} {i : TypeInfo} (ht : P.underlying t = some (.slice e)) (hi : P.info? e = some i) {u : TypeId} {x : AV} {vx : Value} {sz : Nat} {ys : List DV}
    (hx : AR ⟨Φ, w.heap, μ⟩ tm x vx []) (h : appended P t (some u) x = some (sz, ys)) (hsz : sz = i.size ∨ ys = []) :
    ∃ news, Src P w t u i.size ys.length vx news ∧ All2 (CR Φ) (flat ys) news ∧ ∀ y ∈ ys, y.cells.length = i.size := by
  unfold appended at h
  simp only at h
  split at h
  · rename_i hut
    subst hut
    have hcr := elems_sound hx h
    rcases hcr.sl_inv with ⟨rfl, rfl⟩ | ⟨ad, cap, rfl, hcap, hsl⟩
    · exact ⟨[], ⟨fun _ => rfl, fun _ _ => rfl, ⟨_, ht, fun k => by simp⟩, by simp, by simp⟩, .nil, by simp⟩
    · have hsl' : SlR Φ i.size ys ad := by
        rcases hsz with rfl | rfl
        · exact hsl
        · exact SlR.nil _ hsl.1
      obtain ⟨vs, h1, h2, h3, h4⟩ := cells_at (e := ⟨Φ, w.heap, μ⟩) (heap := w.heap) hI hsl'
      refine ⟨vs, ⟨fun _ => rfl, fun w' hw' => ?_, ⟨_, ht, fun k => by simp⟩, h2, fun v hv => ?_⟩, h1, fun y hy => ?_⟩
      · have h4' : ∀ (j : Nat) (v : Value), vs[j]? = some v → w'.cell? (ad.add j) = some v := fun j v hj => by
          have := h4 j v hj
          simpa [World.cell?, hw'] using this
        have := run_loadCells_list (P := P) w' ad vs h4'
        rw [h2] at this
        exact this
      · obtain ⟨x, hx⟩ := h1.mem v hv
        exact hx.oneCell
      · obtain ⟨j, hj⟩ := List.getElem?_of_mem hy
        exact (hsl'.2 j y hj).1
  · rename_i hut
    split at h
    · rename_i b hu
      obtain ⟨rfl, rfl⟩ := Prod.mk.inj (Option.some.inj h)
      obtain ⟨hc, _⟩ := hx
      cases hc with
      | str _ bs hb =>
        subst hb
        have hlen : (ofBytes bs.data.toList).length = bs.size := by rw [size_data]; simp only [ofBytes, List.length_map]
        have hfl : flat (ofBytes bs.data.toList) = ofBytes bs.data.toList := by
          have : ∀ l : List UInt8, flat (ofBytes l) = ofBytes l := by
            intro l; induction l with
            | nil => rfl
            | cons c l ih => simp only [ofBytes, List.map_cons] at ih ⊢; rw [flat_cons, ih]; rfl
          exact this _
        by_cases hne : ofBytes bs.data.toList = []
        · have h0 : bs.size = 0 := by rw [← hlen, hne]; rfl
          refine ⟨[], ⟨fun w' => ?_, fun w' _ => ?_, ⟨_, hu, fun k => by simp⟩, by rw [hne]; simp, by simp⟩, by rw [hne]; exact .nil, by rw [hne]; simp⟩
          · rw [hne]; simp [Builtin.lenOf, h0]
          · have := Lib.run_firstCells_string (P := P) w' i.size bs
            rw [h0] at this
            rw [hne]
            have hsc : Lib.strCells bs = [] := List.eq_nil_of_length_eq_zero (by rw [Lib.strCells_length, h0])
            rw [hsc] at this
            exact this
        · have hsz' : 1 = i.size := hsz.resolve_right hne
          refine ⟨Lib.strCells bs, ⟨fun w' => by rw [hlen]; rfl, fun w' _ => ?_, ⟨_, hu, fun k => by simp⟩, ?_, Lib.strCells_oneCell bs⟩, ?_, ?_⟩
          · rw [hlen]; exact Lib.run_firstCells_string (P := P) w' i.size bs
          · rw [Lib.strCells_length, hlen, ← hsz', Nat.mul_one]
          · rw [hfl]
            refine All2.of_get (by rw [Lib.strCells_length, hlen]) fun j a b ha hb => ?_
            simp only [ofBytes, Lib.strCells, List.getElem?_map] at ha hb
            cases hg : bs.data.toList[j]? with
            | none => rw [hg] at ha; simp at ha
            | some c => rw [hg] at ha hb; simp at ha hb; subst ha; subst hb; exact .int _ _
          · intro y hy
            simp only [ofBytes, List.mem_map] at hy
            obtain ⟨c, _, rfl⟩ := hy
            exact hsz'
    · simp at h


theorem setRow_heap_eq {w : World} {g : Nat} {cs : Array Value} : (w.setRow g cs).heap.size = w.heap.size := by simp [World.setRow]

/-- What nobody writes grows by cells behind the end. -/
theorem appendS_sound {t : TypeId} {u : TypeId} {s x v : AV} {vs vx : Value} (hS : AR ⟨Φ, w.heap, μ⟩ tm s vs BS) (hF : FR ⟨Φ, w.heap, μ⟩ tm fr BF) (hH : HR ⟨Φ, w.heap, μ⟩ H μ BH)
    (hN : (BS ++ (BF ++ BH)).Nodup) (hI : Inv E w Φ μ (BS ++ (BF ++ BH))) (hx : AR ⟨Φ, w.heap, μ⟩ tm x vx []) (h : appendS P t s x (some u) = some v) (ty : TypeId) :
    ∃ y w', (Builtin.append_ #[t, u] ty #[vs, vx]).run P w = .ok y w' ∧ VR E v fr H tm y w' := by
  unfold appendS at h
  split at h
  · rename_i e sz xs ht
    split at h
    · rename_i i zc hi hzc
      obtain ⟨i', z, hi', hz, hzs, hcs, _⟩ := zeroCells_spec hzc
      rw [hi] at hi'; obtain rfl := Option.some.inj hi'
      split at h
      · rename_i sz2 ys hap
        split at h
        · rename_i hc
          obtain ⟨hsz, hsz2, hpos, hbp, hfit⟩ := hc
          obtain rfl := Option.some.inj h
          obtain ⟨news, hsrc, hnews, hylen⟩ := src_of (μ := μ) (tm := tm) hI.wok ht hi hx hap hsz2
          have hN' : (BF ++ BH).Nodup := (List.nodup_append.1 hN).2.1
          have hI' : Inv E w Φ μ (BF ++ BH) := hI.perm fun r hr => List.mem_append_right _ hr
          -- a new block, holding all
          have grown : ∀ (cap : Nat) (b : Option Addr) (olds : List Value), vs = .slice b xs.length cap → cap < xs.length + ys.length → (∀ w', w'.heap = w.heap → (Builtin.firstCells i.size xs.length (.slice b xs.length cap)).run P w' = .ok olds.toArray w') →
              All2 (CR Φ) (flat xs) olds → (∀ y ∈ xs, y.cells.length = i.size) →
              ∃ y w', (Builtin.append_ #[t, u] ty #[vs, vx]).run P w = .ok y w' ∧ VR E (.osl i.size (xs ++ ys)) fr H tm y w' := by
            intro cap b olds hvs hcap hro holds hxlen
            subst hvs
            refine ⟨_, _, append_grow ht hi hz hsrc hbp b olds hro hcap (by omega), ?_⟩
            have hall : ∀ y ∈ xs ++ ys, y.cells.length = i.size := fun y hy => (List.mem_append.1 hy).elim (hxlen y) (hylen y)
            have hfl : (flat (xs ++ ys)).length = (xs.length + ys.length) * i.size := by rw [flat_length hall, List.length_append]
            have hboth : All2 (CR Φ) (flat (xs ++ ys)) (olds ++ news) := by rw [flat_append]; exact holds.append hnews
            have hlen : (olds ++ news).length = (xs.length + ys.length) * i.size := by rw [← hboth.length, hfl]
            have hge := grownCap_ge w (xs.length + ys.length) cap e
            refine VR.push (vs := olds.toArray ++ news.toArray ++ Builtin.zeroCells z.cells (grownCap w (xs.length + ys.length) cap e - (xs.length + ys.length))) (el := e) (fz := (0, 0)) hF hH hN' hI' rfl
              (fun o => if o < (xs.length + ys.length) * i.size then (olds ++ news)[o]? else none) ?_ [w.heap.size] (.inr rfl) ?_
            · intro o v hv
              split at hv
              · rename_i ho
                rw [Array.getElem?_append_left (by simp; simp at hlen; omega)]
                simpa using hv
              · simp at hv
            · refine .inr ⟨⟨w.heap.size, 0, none⟩, grownCap w (xs.length + ys.length) cap e, by simp, hpos, ?_, by simpa using hge, .inr ⟨rfl, rfl, olds.toArray ++ news.toArray ++ Builtin.zeroCells z.cells (grownCap w (xs.length + ys.length) cap e - (xs.length + ys.length)), e, ?_, ?_, ?_⟩⟩
              · refine SlR.of_flat (vs := olds ++ news) hall ?_ ?_
                · rw [hfl, List.take_of_length_le (by omega)]
                  exact hboth.mono fun a b hab => CR.mono (sub_ext hI.wok _) hab
                · intro o v ho hv
                  rw [hfl] at ho
                  simp only [ext, if_true, if_pos ho]; exact hv
              · show (w.heap.push _)[w.heap.size]? = some _; simp only [Array.getElem?_push_size]
              · have hsz3 : (Builtin.zeroCells z.cells (grownCap w (xs.length + ys.length) cap e - (xs.length + ys.length))).size = (grownCap w (xs.length + ys.length) cap e - (xs.length + ys.length)) * i.size := by rw [size_zeroCells, hzs]
                have h1 : olds.length + news.length = (xs.length + ys.length) * i.size := by simpa using hlen
                simp only [Array.size_append, List.size_toArray, hsz3, Nat.zero_add, h1, ← Nat.add_mul]
                exact Nat.mul_le_mul_right _ (by omega)
              · intro o ho
                simp [ext] at ho ⊢
                omega
          rcases hS with ⟨rfl, rfl, rfl⟩ | ⟨a, cap, rfl, hsp, hsl, hcap, hown⟩
          · -- nil
            by_cases hy : ys = []
            · subst hy
              have hn0 : news = [] := List.eq_nil_of_length_eq_zero (by have := hsrc.cnt; simpa using this)
              subst hn0
              exact ⟨_, w, append_none ht hi hsrc none (by simp), VR.pure hF hH hN' hI' (.inl ⟨rfl, rfl, rfl⟩)⟩
            · have hpos2 : 0 < ys.length := List.length_pos_iff.2 hy
              exact grown 0 none [] rfl (by simpa using hpos2) (fun _ _ => rfl) .nil (by simp)
          · obtain rfl : sz = i.size := hsz.resolve_right fun h => by omega
            have hsl' : SlR Φ i.size xs a := hsl
            have hxlen : ∀ y ∈ xs, y.cells.length = i.size := fun y hy => by
              obtain ⟨j, hj⟩ := List.getElem?_of_mem hy
              exact (hsl'.2 j y hj).1
            have hgrow : cap < xs.length + ys.length → ∃ y w', (Builtin.append_ #[t, u] ty #[.slice (some a) xs.length cap, vx]).run P w = .ok y w' ∧ VR E (.osl i.size (xs ++ ys)) fr H tm y w' := by
              intro hlt
              obtain ⟨olds, h1, h2, h3, h4⟩ := cells_at (e := ⟨Φ, w.heap, μ⟩) (heap := w.heap) hI.wok hsl'
              refine grown cap (some a) olds rfl hlt (fun w' hw' => ?_) h1 hxlen
              have h4' : ∀ (j : Nat) (v : Value), olds[j]? = some v → w'.cell? (a.add j) = some v := fun j v hj => by
                have := h4 j v hj
                simpa [World.cell?, hw'] using this
              have := run_loadCells_list (P := P) w' a olds h4'
              rw [h2] at this
              exact this
            by_cases hy : ys = []
            · subst hy
              have hn0 : news = [] := List.eq_nil_of_length_eq_zero (by have := hsrc.cnt; simpa using this)
              subst hn0
              refine ⟨_, w, append_none ht hi hsrc (some a) hcap, Φ, μ, BS, BF, BH, .inr ⟨a, cap, by simp, hpos, by simpa using hsl', by simpa using hcap, ?_⟩, hF, hH, hN, hI⟩
              rcases hown with ⟨h1, h2⟩ | ⟨h1, h2, c, el, h3, h4, h5⟩
              · exact .inl ⟨by simpa using h1, h2⟩
              · exact .inr ⟨h1, h2, c, el, h3, h4, by simpa using h5⟩
            · rcases hown with ⟨h1, h2⟩ | ⟨h1, h2, c, el, h3, h4, h5⟩
              · have hpos2 : 0 < ys.length := List.length_pos_iff.2 hy
                exact hgrow (by omega)
              · by_cases hroom : xs.length + ys.length ≤ cap
                · subst h1
                  obtain ⟨g, aoff, aspot⟩ := a
                  obtain rfl : aoff = 0 := h2
                  obtain rfl : aspot = none := hsl.1
                  simp only [Nat.zero_add] at h4 h5
                  have hnl : news.length = ys.length * i.size := hsrc.cnt
                  have hmul : (xs.length + ys.length) * i.size ≤ cap * i.size := Nat.mul_le_mul_right _ hroom
                  have hfit2 : xs.length * i.size + news.length ≤ c.size := by rw [hnl, ← Nat.add_mul]; omega
                  refine ⟨_, _, append_room ht hi hsrc h3 hroom hfit2, ?_⟩
                  have hg : g ∉ BF ++ BH := fun hm => (List.nodup_append.1 hN).2.2 g (by simp) g hm rfl
                  have hrow := setRow_heap w g c (setRangeV c.toList (xs.length * i.size) news).toArray el (0, 0) h3
                  have hother := fun k (hk : k ≠ g) => setRow_other w g k (setRangeV c.toList (xs.length * i.size) news).toArray hk
                  have hget : ∀ o, (setRangeV c.toList (xs.length * i.size) news).toArray[o]? = if o < xs.length * i.size then c[o]? else if o < xs.length * i.size + news.length then news[o - xs.length * i.size]? else c[o]? := by
                    intro o
                    rw [List.getElem?_toArray]
                    unfold setRangeV
                    have htl : (c.toList.take (xs.length * i.size)).length = xs.length * i.size := by simp; omega
                    rw [List.getElem?_append, htl]
                    split
                    · rename_i ho; rw [List.getElem?_take, if_pos ho]; simp
                    · rename_i ho
                      rw [List.getElem?_append]
                      split
                      · rename_i ho2; rw [if_pos (by omega)]
                      · rename_i ho2
                        rw [if_neg (by omega), List.getElem?_drop]
                        rw [show xs.length * i.size + news.length + (o - xs.length * i.size - news.length) = o by omega]; simp
                  -- what nobody writes, from here on
                  let Φ' : Mem := fun r o => if r = g ∧ xs.length * i.size ≤ o ∧ o < xs.length * i.size + news.length then news[o - xs.length * i.size]? else Φ r o
                  have hsub : Sub Φ Φ' := fun r o v hv => by
                    have : ¬ (r = g ∧ xs.length * i.size ≤ o ∧ o < xs.length * i.size + news.length) := fun ⟨hr, hlo, _⟩ => by subst hr; rw [h5 o hlo] at hv; simp at hv
                    simp only [Φ', if_neg this]; exact hv
                  have hstep : ∀ B, (∀ r ∈ B, r ∈ BF ++ BH) → Step ⟨Φ, w.heap, μ⟩ ⟨Φ', (w.setRow g (setRangeV c.toList (xs.length * i.size) news).toArray).heap, μ⟩ B := fun B hB =>
                    ⟨hsub, fun _ _ h => h, fun r hr => by
                      have hne : r ≠ g := fun he => hg (he ▸ hB r hr)
                      exact ⟨hother r hne, fun o => by simp [Φ', hne]⟩⟩
                  have hall : ∀ y ∈ xs ++ ys, y.cells.length = i.size := fun y hy => (List.mem_append.1 hy).elim (hxlen y) (hylen y)
                  refine ⟨Φ', μ, [g], BF, BH, .inr ⟨⟨g, 0, none⟩, cap, by simp, hpos, ?_, by simpa using hroom, .inr ⟨rfl, rfl, (setRangeV c.toList (xs.length * i.size) news).toArray, el, hrow, ?_, ?_⟩⟩,
                    hF.step (hstep _ fun r hr => List.mem_append_left _ hr), hH.step (hstep _ fun r hr => List.mem_append_right _ hr), hN, ?_⟩
                  · refine ⟨rfl, fun j x hj => ⟨hall x (List.mem_of_getElem? hj), fun k cc hk => ?_⟩⟩
                    rw [List.getElem?_append] at hj
                    split at hj
                    · obtain ⟨v, h6, h7⟩ := (hsl.2 j x hj).2 k cc hk
                      exact ⟨v, hsub _ _ _ h6, h7.mono hsub⟩
                    · rename_i hjl
                      have h6 := flat_get hylen hj hk
                      obtain ⟨v, h7, h8⟩ := hnews.get _ h6
                      refine ⟨v, ?_, h8.mono hsub⟩
                      have hlt := (List.getElem?_eq_some_iff.1 h7).1
                      have hjm : j * i.size = xs.length * i.size + (j - xs.length) * i.size := by rw [← Nat.add_mul]; congr 1; omega
                      have : (g = g ∧ xs.length * i.size ≤ 0 + j * i.size + k ∧ 0 + j * i.size + k < xs.length * i.size + news.length) := ⟨rfl, by omega, by omega⟩
                      simp only [Φ', if_pos this]
                      rw [show 0 + j * i.size + k - xs.length * i.size = (j - xs.length) * i.size + k by omega]
                      exact h7
                  · simp only [Nat.zero_add]
                    have : (setRangeV c.toList (xs.length * i.size) news).toArray.size = c.size := by
                      simp [setRangeV]; omega
                    rw [this]; exact h4
                  · intro o ho
                    simp only [Nat.zero_add, List.length_append, Nat.add_mul] at ho
                    have h6 : ¬ (g = g ∧ xs.length * i.size ≤ o ∧ o < xs.length * i.size + news.length) := fun h => by omega
                    simp only [Φ', if_neg h6]
                    exact h5 o (by omega)
                  · refine ⟨?_, by rw [setRow_heap_eq]; exact hI.size, hI.sub.trans hsub, hI.mu, fun r hr hx => ?_, hI.own, hI.io.trans ⟨rfl, rfl, rfl⟩⟩
                    · intro r o v hv
                      by_cases hrg : r = g
                      · subst hrg
                        refine ⟨_, el, (0, 0), hrow, ?_⟩
                        rw [hget]
                        by_cases h6 : (r = r ∧ xs.length * i.size ≤ o ∧ o < xs.length * i.size + news.length)
                        · simp only [Φ', if_pos h6] at hv
                          rw [if_neg (by omega), if_pos (by omega)]; exact hv
                        · simp only [Φ', if_neg h6] at hv
                          obtain ⟨c', el', fz', h7, h8⟩ := hI.wok r o v hv
                          rw [h3] at h7; cases Option.some.inj h7
                          have hlo : o < xs.length * i.size := by
                            rcases Nat.lt_or_ge o (xs.length * i.size) with h | h
                            · exact h
                            · rw [h5 o h] at hv; simp at hv
                          rw [if_pos hlo]; exact h8
                      · have h6 : ¬ (r = g ∧ xs.length * i.size ≤ o ∧ o < xs.length * i.size + news.length) := fun h => hrg h.1
                        simp only [Φ', if_neg h6] at hv
                        obtain ⟨c', el', fz', h7, h8⟩ := hI.wok r o v hv
                        exact ⟨c', el', fz', by rw [hother r hrg]; exact h7, h8⟩
                    · have hrg : r ≠ g := fun he => by
                        subst he
                        rcases hI.own r (by simp) with h | h
                        · exact hx h
                        · omega
                      have hk := hI.keep r hr hx
                      refine ⟨by rw [hother r hrg]; exact hk.1, fun o => ?_⟩
                      have h6 : ¬ (r = g ∧ xs.length * i.size ≤ o ∧ o < xs.length * i.size + news.length) := fun h => hrg h.1
                      simp only [Φ', if_neg h6]; exact hk.2 o
                · exact hgrow (by omega)
        · simp at h
      · simp at h
    · simp at h
  · simp at h
end


theorem zeroCells_one (v : Value) (n : Nat) : Builtin.zeroCells #[v] n = (List.replicate n v).toArray := by
  unfold Builtin.zeroCells
  apply Array.ext
  · simp
  · intro j h1 h2
    simp [Nat.mod_one]

section
variable {P : Program} {w : World}
theorem appendz_room {t u ty e : TypeId} {i : TypeInfo} {k' ik ku : IntKind} (ht : P.underlying t = some (.slice e)) (hu : P.underlying u = some (.int ku)) (hi : P.info? e = some i) (hsz : i.size = 1) (hzv : i.zero = some (.int ik 0))
    {n cap : Nat} {m : Int} {g : Nat} {cur : Array Value} {el : TypeId} (hg : w.heap[g]? = some (.cells cur el (0, 0))) (hm : 0 < m) (hroom : n + m.toNat ≤ cap) (hfit : cap ≤ cur.size) (hb : m * i.bytes ≤ 281474976710656) (hm2 : m ≤ 281474976710656) :
    (Builtin.append_ #[t, u] ty #[.slice (some ⟨g, 0, none⟩) n cap, .int k' m]).run P w =
      .ok (.slice (some ⟨g, 0, none⟩) (n + m.toNat) cap) (w.setRow g (setRangeV cur.toList n (List.replicate m.toNat (.int ik 0))).toArray) := by
  have hst := run_storeCells_at P g n el (List.replicate m.toNat (.int ik 0)) 0 cur w hg (by simp; omega) (by intro v hv; rw [List.eq_of_mem_replicate hv]; rfl)
  simp only [Nat.add_zero] at hst
  have hwr : IntKind.i64.wrap m = m := by simp [IntKind.wrap, IntKind.bits, IntKind.signed]; omega
  have hneg : ¬ (m < 0) := by omega
  have hbig : ¬ ((281474976710656 : Int) < m * i.bytes) := by omega
  have hm0 : m.toNat ≠ 0 := by omega
  have hzc : Builtin.zeroCells (Value.int ik 0).cells m.toNat = (List.replicate m.toNat (Value.int ik 0)).toArray := zeroCells_one _ _
  simp [Builtin.append_, run_underlying ht, run_underlying hu, sizeOf, typeInfo, hi, hsz, asInt, asIntOf, hwr, hneg, hbig, hroom, hm0, zeroValue, hzv, hzc, Addr.add_lit, hst, setRangeV]

theorem appendz_grow {t u ty e : TypeId} {i : TypeInfo} {k' ik ku : IntKind} (ht : P.underlying t = some (.slice e)) (hu : P.underlying u = some (.int ku)) (hi : P.info? e = some i) (hsz : i.size = 1) (hzv : i.zero = some (.int ik 0))
    {n cap : Nat} {m : Int} (hm : 0 < m) (hbp : 0 < i.bytes) (b : Option Addr) (olds : List Value) (hro : ∀ w', w'.heap = w.heap → (Builtin.firstCells 1 n (.slice b n cap)).run P w' = .ok olds.toArray w')
    (hg : cap < n + m.toNat) (hfit : (n + m.toNat) * i.bytes ≤ 140737488355328) :
    (Builtin.append_ #[t, u] ty #[.slice b n cap, .int k' m]).run P w =
      .ok (.slice (some ⟨w.heap.size, 0, none⟩) (n + m.toNat) (grownCap w (n + m.toNat) cap e))
        (w.drew.alloc (.cells (olds ++ (List.replicate m.toNat (Value.int ik 0) ++ List.replicate (grownCap w (n + m.toNat) cap e - (n + m.toNat)) (Value.int ik 0))).toArray e)) := by
  have hle : n + m.toNat ≤ (n + m.toNat) * i.bytes := Nat.le_mul_of_pos_right _ hbp
  have hmb : m.toNat * i.bytes ≤ (n + m.toNat) * i.bytes := Nat.mul_le_mul_right _ (by omega)
  have hmi : m * i.bytes = ((m.toNat * i.bytes : Nat) : Int) := by
    rw [Int.natCast_mul, Int.toNat_of_nonneg (by omega)]
  have hwr : IntKind.i64.wrap m = m := by simp [IntKind.wrap, IntKind.bits, IntKind.signed]; omega
  have hneg : ¬ (m < 0) := by omega
  have hbig : ¬ ((281474976710656 : Int) < m * i.bytes) := by rw [hmi]; omega
  have hm0 : m.toNat ≠ 0 := by omega
  have hzc : ∀ q, Builtin.zeroCells (Value.int ik 0).cells q = (List.replicate q (Value.int ik 0)).toArray := fun q => zeroCells_one _ _
  have ho := hro w.drew rfl
  have hn : ¬ (n + m.toNat ≤ cap) := by omega
  have hn2 : ¬ ((9223372036854775807 : Int) < (n : Int) + (m.toNat : Int)) := by omega
  have h48 := growslice_fits hg hfit
  have h48' : ¬ (281474976710656 < Builtin.nextslicecap (n + m.toNat) cap * i.bytes) := by omega
  have hn3 : ¬ ((9223372036854775807 : Int) < (n : Int) + max m 0) := by omega
  simp [Builtin.append_, run_underlying ht, run_underlying hu, sizeOf, typeInfo, hi, hsz, asInt, asIntOf, hwr, hneg, hbig, hn, hn2, hn3, hm0, zeroValue, hzv, hzc, h48', Question.forced, ho, newRow, grownCap]
  congr 2
  apply Array.ext'
  simp

end

section
variable {P : Program} {E : Ent} {w : World} {Φ : Mem} {μ BF BH BS : List Nat} {tm : Array Value} {fr : Fr} {H : Hp}

theorem appendz_sound {t u : TypeId} {ku k' : IntKind} {s v : AV} {vs : Value} {m : Int} (hS : AR ⟨Φ, w.heap, μ⟩ tm s vs BS) (hF : FR ⟨Φ, w.heap, μ⟩ tm fr BF) (hH : HR ⟨Φ, w.heap, μ⟩ H μ BH)
    (hN : (BS ++ (BF ++ BH)).Nodup) (hI : Inv E w Φ μ (BS ++ (BF ++ BH))) (hu : P.underlying u = some (.int ku)) (h : appendZ P t s m = some v) (ty : TypeId) :
    ∃ y w', (Builtin.append_ #[t, u] ty #[vs, .int k' m]).run P w = .ok y w' ∧ VR E v fr H tm y w' := by
  unfold appendZ at h
  split at h
  · rename_i e sz xs ht
    split at h
    · rename_i ik i he hi
      split at h
      · rename_i hc
        obtain ⟨⟨hsz, hzi, hbp, rfl⟩, hm, hfit⟩ := hc
        obtain rfl := Option.some.inj h
        have hzv : i.zero = some (.int ik 0) := by
          unfold zIs at hzi
          split at hzi
          · rename_i k z hz
            simp only [Bool.and_eq_true, decide_eq_true_eq] at hzi
            rw [hz, hzi.1, hzi.2]
          · simp at hzi
        have hN' : (BF ++ BH).Nodup := (List.nodup_append.1 hN).2.1
        have hI' : Inv E w Φ μ (BF ++ BH) := hI.perm fun r hr => List.mem_append_right _ hr
        have hm0 : 0 < m.toNat := by omega
        have hle : m.toNat ≤ m.toNat * i.bytes := Nat.le_mul_of_pos_right _ hbp
        have hle2 : m.toNat * i.bytes ≤ (xs.length + m.toNat) * i.bytes := Nat.mul_le_mul_right _ (by omega)
        have hmi : m * i.bytes = ((m.toNat * i.bytes : Nat) : Int) := by
          rw [Int.natCast_mul, Int.toNat_of_nonneg (by omega)]
        have grown : ∀ (cap : Nat) (b : Option Addr) (olds : List Value), vs = .slice b xs.length cap → cap < xs.length + m.toNat → (∀ w', w'.heap = w.heap → (Builtin.firstCells 1 xs.length (.slice b xs.length cap)).run P w' = .ok olds.toArray w') →
            All2 (CR Φ) (flat xs) olds → (∀ y ∈ xs, y.cells.length = 1) →
            ∃ y w', (Builtin.append_ #[t, u] ty #[vs, .int k' m]).run P w = .ok y w' ∧ VR E (.zsl ik xs m.toNat) fr H tm y w' := by
          intro cap b olds hvs hcap hro holds hxlen
          subst hvs
          refine ⟨_, _, appendz_grow ht hu hi hsz hzv hm hbp b olds hro hcap (by omega), ?_⟩
          have hfl : (flat xs).length = xs.length := by rw [flat_length hxlen, Nat.mul_one]
          have hol : olds.length = xs.length := by rw [← holds.length, hfl]
          have hge := grownCap_ge w (xs.length + m.toNat) cap e
          refine VR.push (vs := (olds ++ (List.replicate m.toNat (Value.int ik 0) ++ List.replicate (grownCap w (xs.length + m.toNat) cap e - (xs.length + m.toNat)) (Value.int ik 0))).toArray) (el := e) (fz := (0, 0)) hF hH hN' hI' rfl
            (fun o => if o < xs.length then olds[o]? else none) ?_ [w.heap.size] (.inr rfl) ?_
          · intro o v hv
            split at hv
            · rename_i ho
              rw [List.getElem?_toArray, List.getElem?_append_left (by omega)]
              exact hv
            · simp at hv
          · refine ⟨w.heap.size, grownCap w (xs.length + m.toNat) cap e, rfl, ?_, hge, rfl, (olds ++ (List.replicate m.toNat (Value.int ik 0) ++ List.replicate (grownCap w (xs.length + m.toNat) cap e - (xs.length + m.toNat)) (Value.int ik 0))).toArray, e, ?_, ?_, ?_, ?_⟩
            · refine SlR.of_flat (vs := olds) hxlen ?_ ?_
              · rw [hfl, List.take_of_length_le (by omega)]
                exact holds.mono fun a b hab => CR.mono (sub_ext hI.wok _) hab
              · intro o v ho hv
                rw [hfl] at ho
                simp only [ext, if_true, if_pos ho]; exact hv
            · show (w.heap.push _)[w.heap.size]? = some _; simp only [Array.getElem?_push_size]
            · simp; omega
            · intro o ho
              simp [ext]; omega
            · intro o h1 h2
              rw [List.getElem?_toArray, List.getElem?_append_right (by omega), List.getElem?_append_left (by simp; omega), List.getElem?_replicate, if_pos (by omega)]
        rcases hS with ⟨rfl, rfl, rfl⟩ | ⟨a, cap, rfl, hsp, hsl, hcap, hown⟩
        · exact grown 0 none [] rfl (by simpa using hm0) (fun _ _ => rfl) .nil (by simp)
        · have hsl' : SlR Φ 1 xs a := hsl
          have hxlen : ∀ y ∈ xs, y.cells.length = 1 := fun y hy => by
            obtain ⟨j, hj⟩ := List.getElem?_of_mem hy
            exact (hsl'.2 j y hj).1
          have hgrow : cap < xs.length + m.toNat → ∃ y w', (Builtin.append_ #[t, u] ty #[.slice (some a) xs.length cap, .int k' m]).run P w = .ok y w' ∧ VR E (.zsl ik xs m.toNat) fr H tm y w' := by
            intro hlt
            obtain ⟨olds, h1, h2, h3, h4⟩ := cells_at (e := ⟨Φ, w.heap, μ⟩) (heap := w.heap) hI.wok hsl'
            refine grown cap (some a) olds rfl hlt (fun w' hw' => ?_) h1 hxlen
            have h4' : ∀ (j : Nat) (v : Value), olds[j]? = some v → w'.cell? (a.add j) = some v := fun j v hj => by
              have := h4 j v hj
              simpa [World.cell?, hw'] using this
            have := run_loadCells_list (P := P) w' a olds h4'
            rw [h2] at this
            exact this
          rcases hown with ⟨h1, h2⟩ | ⟨h1, h2, c, el, h3, h4, h5⟩
          · exact hgrow (by omega)
          · by_cases hroom : xs.length + m.toNat ≤ cap
            · subst h1
              obtain ⟨g, aoff, aspot⟩ := a
              obtain rfl : aoff = 0 := h2
              obtain rfl : aspot = none := hsl.1
              simp only [Nat.zero_add, Nat.mul_one] at h3 h4 h5
              refine ⟨_, _, appendz_room ht hu hi hsz hzv h3 hm hroom h4 (by rw [hmi]; omega) (by omega), ?_⟩
              have hg : g ∉ BF ++ BH := fun hm => (List.nodup_append.1 hN).2.2 g (by simp) g hm rfl
              have hrow := setRow_heap w g c (setRangeV c.toList xs.length (List.replicate m.toNat (Value.int ik 0))).toArray el (0, 0) h3
              have hother := fun k (hk : k ≠ g) => setRow_other w g k (setRangeV c.toList xs.length (List.replicate m.toNat (Value.int ik 0))).toArray hk
              have hget : ∀ o, (setRangeV c.toList xs.length (List.replicate m.toNat (Value.int ik 0))).toArray[o]? = if o < xs.length then c[o]? else if o < xs.length + m.toNat then some (Value.int ik 0) else c[o]? := by
                intro o
                rw [List.getElem?_toArray]
                unfold setRangeV
                have htl : (c.toList.take xs.length).length = xs.length := by simp; omega
                rw [List.getElem?_append, htl]
                split
                · rename_i ho; rw [List.getElem?_take, if_pos ho]; simp
                · rename_i ho
                  rw [List.getElem?_append]
                  split
                  · rename_i ho2; simp at ho2; rw [if_pos (by omega), List.getElem?_replicate, if_pos (by omega)]
                  · rename_i ho2
                    simp at ho2
                    rw [if_neg (by omega), List.getElem?_drop]
                    simp only [List.length_replicate]
                    rw [show xs.length + m.toNat + (o - xs.length - m.toNat) = o by omega]; simp
              have hstep : ∀ B, (∀ r ∈ B, r ∈ BF ++ BH) → Step ⟨Φ, w.heap, μ⟩ ⟨Φ, (w.setRow g (setRangeV c.toList xs.length (List.replicate m.toNat (Value.int ik 0))).toArray).heap, μ⟩ B := fun B hB =>
                ⟨Sub.refl _, fun _ _ h => h, fun r hr => ⟨hother r fun he => hg (he ▸ hB r hr), fun o => rfl⟩⟩
              refine ⟨Φ, μ, [g], BF, BH, ⟨g, cap, rfl, hsl', hroom, rfl, _, el, hrow, ?_, h5, ?_⟩, hF.step (hstep _ fun r hr => List.mem_append_left _ hr), hH.step (hstep _ fun r hr => List.mem_append_right _ hr), hN, ?_⟩
              · have : (setRangeV c.toList xs.length (List.replicate m.toNat (Value.int ik 0))).toArray.size = c.size := by
                  simp [setRangeV]; omega
                rw [this]; exact h4
              · intro o ho1 ho2
                rw [hget, if_neg (by omega), if_pos ho2]
              · refine ⟨?_, by rw [setRow_heap_eq]; exact hI.size, hI.sub, hI.mu, fun r hr hx => ?_, hI.own, hI.io.trans ⟨rfl, rfl, rfl⟩⟩
                · intro r o v hv
                  by_cases hrg : r = g
                  · subst hrg
                    refine ⟨_, el, (0, 0), hrow, ?_⟩
                    obtain ⟨c', el', fz', h7, h8⟩ := hI.wok r o v hv
                    rw [h3] at h7; cases Option.some.inj h7
                    have hlo : o < xs.length := by
                      rcases Nat.lt_or_ge o xs.length with h | h
                      · exact h
                      · rw [h5 o h] at hv; simp at hv
                    rw [hget, if_pos hlo]; exact h8
                  · obtain ⟨c', el', fz', h7, h8⟩ := hI.wok r o v hv
                    exact ⟨c', el', fz', by rw [hother r hrg]; exact h7, h8⟩
                · have hrg : r ≠ g := fun he => by
                    subst he
                    rcases hI.own r (by simp) with h | h
                    · exact hx h
                    · omega
                  have hk := hI.keep r hr hx
                  exact ⟨by rw [hother r hrg]; exact hk.1, hk.2⟩
            · exact hgrow (by omega)
      · simp at h
    · simp at h
  · simp at h

theorem append_sound {t : TypeId} {u : TypeId} {s x v : AV} {vs vx : Value} (hS : AR ⟨Φ, w.heap, μ⟩ tm s vs BS) (hF : FR ⟨Φ, w.heap, μ⟩ tm fr BF) (hH : HR ⟨Φ, w.heap, μ⟩ H μ BH)
    (hN : (BS ++ (BF ++ BH)).Nodup) (hI : Inv E w Φ μ (BS ++ (BF ++ BH))) (hx : AR ⟨Φ, w.heap, μ⟩ tm x vx []) (h : appendA P t s x (some u) = some v) (ty : TypeId) :
    ∃ y w', (Builtin.append_ #[t, u] ty #[vs, vx]).run P w = .ok y w' ∧ VR E v fr H tm y w' := by
  unfold appendA at h
  simp only at h
  split at h
  · rename_i ku k' n hu
    obtain ⟨hc, _⟩ := hx
    cases hc
    exact appendz_sound hS hF hH hN hI hu h ty
  · simp at h
  · exact appendS_sound hS hF hH hN hI hx h ty

end

end Go.AI
