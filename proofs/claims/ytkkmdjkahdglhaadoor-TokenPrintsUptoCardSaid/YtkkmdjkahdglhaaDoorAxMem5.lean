/- Appending. -/
import Derived.Test.YtkkmdjkahdglhaaDoorAxMem
import Derived.MapKept
namespace Go.AI
set_option linter.unusedVariables false
set_option linter.unusedSimpArgs false

section
variable {P : Program} {w : World}

/-- What the second argument of an append says: so many elements, these cells, wherever the memory is as it is. -/
structure Src (P : Program) (w : World) (t u : TypeId) (size m : Nat) (x : Value) (news : List Value) : Prop where
  len : ∀ w', (Builtin.lenOf x).run P w' = .ok m w'
  rd : ∀ w', w'.heap = w.heap → (Builtin.firstCells size m x).run P w' = .ok news.toArray w'
  ty : ∃ d, P.underlying u = some d ∧ ∀ k, d ≠ .int k
  cnt : news.length = m * size
  one : ∀ v ∈ news, v.oneCell' = true

theorem append_room {t u ty e : TypeId} {i : TypeInfo} (ht : P.underlying t = some (.slice e)) (hi : P.info? e = some i) {m n cap : Nat} {x : Value} {news : List Value} (hs : Src P w t u i.size m x news)
    {g : Nat} {cur : Array Value} {el : TypeId} (hg : w.heap[g]? = some (.cells cur el (0, 0))) (hroom : n + m ≤ cap) (hfit : n * i.size + news.length ≤ cur.size) :
    (Builtin.append_ #[t, u] ty #[.slice (some ⟨g, 0, none⟩) n cap, x]).run P w =
      .ok (.slice (some ⟨g, 0, none⟩) (n + m) cap) (w.setRow g (setRangeV cur.toList (n * i.size) news).toArray) := by
  obtain ⟨d, hu, hd⟩ := hs.ty
  have hst := run_storeCells_at P g (n * i.size) el news 0 cur w hg (by simpa using hfit) hs.one
  simp only [Nat.add_zero] at hst
  have hz : (match some d with | some (.int _) => true | _ => false) = false := by
    cases d <;> first | rfl | exact (hd _ rfl).elim
  have hz' : (d matches .int _) = false := by cases d <;> first | rfl | exact (hd _ rfl).elim
  have hl := hs.len
  have hr := hs.rd w rfl
  simp [Builtin.append_, run_underlying ht, run_underlying hu, sizeOf, typeInfo, hi, hl, hz', hroom, hr, Addr.add_lit, hst, setRangeV]

theorem append_none {t u ty e : TypeId} {i : TypeInfo} (ht : P.underlying t = some (.slice e)) (hi : P.info? e = some i) {n cap : Nat} {x : Value} (hs : Src P w t u i.size 0 x [])
    (b : Option Addr) (hle : n ≤ cap) : (Builtin.append_ #[t, u] ty #[.slice b n cap, x]).run P w = .ok (.slice b n cap) w := by
  obtain ⟨d, hu, hd⟩ := hs.ty
  have hz' : (d matches .int _) = false := by cases d <;> first | rfl | exact (hd _ rfl).elim
  have hl := hs.len
  have hr := hs.rd w rfl
  cases b with
  | none => simp [Builtin.append_, run_underlying ht, run_underlying hu, sizeOf, typeInfo, hi, hl, hz', hle, hr]
  | some a => simp [Builtin.append_, run_underlying ht, run_underlying hu, sizeOf, typeInfo, hi, hl, hz', hle, hr, storeCells]

theorem append_grow {t u ty e : TypeId} {i : TypeInfo} {z : Value} (ht : P.underlying t = some (.slice e)) (hi : P.info? e = some i) (hzv : i.zero = some z) {m n cap : Nat} {x : Value} {news : List Value} (hs : Src P w t u i.size m x news)
    (hb : 0 < i.bytes) (b : Option Addr) (olds : List Value) (hro : ∀ w', w'.heap = w.heap → (Builtin.firstCells i.size n (.slice b n cap)).run P w' = .ok olds.toArray w')
    (hg : cap < n + m) (hfit : (n + m) * i.bytes ≤ 140737488355328) :
    (Builtin.append_ #[t, u] ty #[.slice b n cap, x]).run P w =
      .ok (.slice (some ⟨w.heap.size, 0, none⟩) (n + m) (grownCap w (n + m) cap e))
        (w.drew.alloc (.cells (olds.toArray ++ news.toArray ++ Builtin.zeroCells z.cells (grownCap w (n + m) cap e - (n + m))) e)) := by
  obtain ⟨d, hu, hd⟩ := hs.ty
  have hz' : (d matches .int _) = false := by cases d <;> first | rfl | exact (hd _ rfl).elim
  have hl := hs.len
  have hr := hs.rd w.drew rfl
  have ho := hro w.drew rfl
  have hn : ¬ (n + m ≤ cap) := by omega
  have hle : n + m ≤ (n + m) * i.bytes := Nat.le_mul_of_pos_right _ hb
  have h63' : ¬ (9223372036854775807 < ((n : Int) + (m : Int))) := by omega
  have h48 := growslice_fits hg hfit
  have h48' : ¬ (281474976710656 < Builtin.nextslicecap (n + m) cap * i.bytes) := by omega
  simp [Builtin.append_, run_underlying ht, run_underlying hu, sizeOf, typeInfo, zeroValue, hi, hzv, hl, hz', hn, h63', h48', Question.forced, hr, ho, newRow, grownCap]
  congr 2
  apply Array.ext'
  simp

end

section
variable {P : Program} {E : Ent} {w : World} {Φ : Mem} {μ BF BH BS : List Nat} {tm : Array Value} {fr : Fr} {H : Hp}

theorem CR.oneCell {Φ : Mem} {x : DV} {v : Value} (h : CR Φ x v) : v.oneCell' = true := by cases h <;> rfl

theorem All2.mem {R : DV → Value → Prop} {xs : List DV} {vs : List Value} (h : All2 R xs vs) : ∀ v ∈ vs, ∃ x, R x v := by
  induction h with
  | nil => simp
  | cons h _ ih =>
    intro v hv
    rcases List.mem_cons.1 hv with rfl | hv
    · exact ⟨_, h⟩
    · exact ih v hv

theorem src_of (hI : WOK Φ w.heap) {t e : TypeId} {i : TypeInfo} (ht : P.underlying t = some (.slice e)) (hi : P.info? e = some i) {u : TypeId} {x : AV} {vx : Value} {sz : Nat} {ys : List DV}
    (hx : AR ⟨Φ, w.heap, μ⟩ tm x vx []) (h : appended P t (some u) x = some (sz, ys)) (hsz : sz = i.size ∨ ys = []) :
    ∃ news, Src P w t u i.size ys.length vx news ∧ All2 (CR Φ) (flat ys) news ∧ ∀ y ∈ ys, y.cells.length = i.size := by
  unfold appended at h
  simp only at h
  split at h
  · rename_i hut
    subst hut
    have hcr := elems_sound hx h
    rcases hcr.sl_inv with ⟨rfl, rfl⟩ | ⟨ad, cap, rfl, hcap, hsl⟩
    · exact ⟨[], ⟨fun _ => rfl, fun _ _ => rfl, ⟨_, ht, fun k => by simp⟩, by simp, by simp⟩, .nil, by simp⟩
    · have hsl' : SlR Φ i.size ys ad := by
        rcases hsz with rfl | rfl
        · exact hsl
        · exact SlR.nil _ hsl.1
      obtain ⟨vs, h1, h2, h3, h4⟩ := cells_at (e := ⟨Φ, w.heap, μ⟩) (heap := w.heap) hI hsl'
      refine ⟨vs, ⟨fun _ => rfl, fun w' hw' => ?_, ⟨_, ht, fun k => by simp⟩, h2, fun v hv => ?_⟩, h1, fun y hy => ?_⟩
      · have h4' : ∀ (j : Nat) (v : Value), vs[j]? = some v → w'.cell? (ad.add j) = some v := fun j v hj => by
          have := h4 j v hj
          simpa [World.cell?, hw'] using this
        have := run_loadCells_list (P := P) w' ad vs h4'
        rw [h2] at this
        exact this
      · obtain ⟨x, hx⟩ := h1.mem v hv
        exact hx.oneCell
      · obtain ⟨j, hj⟩ := List.getElem?_of_mem hy
        exact (hsl'.2 j y hj).1
  · rename_i hut
    split at h
    · rename_i b hu
      obtain ⟨rfl, rfl⟩ := Prod.mk.inj (Option.some.inj h)
      obtain ⟨hc, _⟩ := hx
      cases hc with
      | str _ bs hb =>
        subst hb
        have hlen : (ofBytes bs.data.toList).length = bs.size := by rw [size_data]; simp only [ofBytes, List.length_map]
        have hfl : flat (ofBytes bs.data.toList) = ofBytes bs.data.toList := by
          have : ∀ l : List UInt8, flat (ofBytes l) = ofBytes l := by
            intro l; induction l with
            | nil => rfl
            | cons c l ih => simp only [ofBytes, List.map_cons] at ih ⊢; rw [flat_cons, ih]; rfl
          exact this _
        by_cases hne : ofBytes bs.data.toList = []
        · have h0 : bs.size = 0 := by rw [← hlen, hne]; rfl
          refine ⟨[], ⟨fun w' => ?_, fun w' _ => ?_, ⟨_, hu, fun k => by simp⟩, by rw [hne]; simp, by simp⟩, by rw [hne]; exact .nil, by rw [hne]; simp⟩
          · rw [hne]; simp [Builtin.lenOf, h0]
          · have := Lib.run_firstCells_string (P := P) w' i.size bs
            rw [h0] at this
            rw [hne]
            have hsc : Lib.strCells bs = [] := List.eq_nil_of_length_eq_zero (by rw [Lib.strCells_length, h0])
            rw [hsc] at this
            exact this
        · have hsz' : 1 = i.size := hsz.resolve_right hne
          refine ⟨Lib.strCells bs, ⟨fun w' => by rw [hlen]; rfl, fun w' _ => ?_, ⟨_, hu, fun k => by simp⟩, ?_, Lib.strCells_oneCell bs⟩, ?_, ?_⟩
          · rw [hlen]; exact Lib.run_firstCells_string (P := P) w' i.size bs
          · rw [Lib.strCells_length, hlen, ← hsz', Nat.mul_one]
          · rw [hfl]
            refine All2.of_get (by rw [Lib.strCells_length, hlen]) fun j a b ha hb => ?_
            simp only [ofBytes, Lib.strCells, List.getElem?_map] at ha hb
            cases hg : bs.data.toList[j]? with
            | none => rw [hg] at ha; simp at ha
            | some c => rw [hg] at ha hb; simp at ha hb; subst ha; subst hb; exact .int _ _
          · intro y hy
            simp only [ofBytes, List.mem_map] at hy
            obtain ⟨c, _, rfl⟩ := hy
            exact hsz'
    · simp at h


theorem setRow_heap_eq {w : World} {g : Nat} {cs : Array Value} : (w.setRow g cs).heap.size = w.heap.size := by simp [World.setRow]

/-- What nobody writes grows by cells behind the end. -/
theorem appendS_sound {t : TypeId} {u : TypeId} {s x v : AV} {vs vx : Value} (hS : AR ⟨Φ, w.heap, μ⟩ tm s vs BS) (hF : FR ⟨Φ, w.heap, μ⟩ tm fr BF) (hH : HR ⟨Φ, w.heap, μ⟩ H μ BH)
    (hN : (BS ++ (BF ++ BH)).Nodup) (hI : Inv E w Φ μ (BS ++ (BF ++ BH))) (hx : AR ⟨Φ, w.heap, μ⟩ tm x vx []) (h : appendS P t s x (some u) = some v) (ty : TypeId) :
    ∃ y w', (Builtin.append_ #[t, u] ty #[vs, vx]).run P w = .ok y w' ∧ VR E v fr H tm y w' := by
  unfold appendS at h
  split at h
  · rename_i e sz xs ht
    split at h
    · rename_i i zc hi hzc
      obtain ⟨i', z, hi', hz, hzs, hcs, _⟩ := zeroCells_spec hzc
      rw [hi] at hi'; obtain rfl := Option.some.inj hi'
      split at h
      · rename_i sz2 ys hap
        split at h
        · rename_i hc
          obtain ⟨hsz, hsz2, hpos, hbp, hfit⟩ := hc
          obtain rfl := Option.some.inj h
          obtain ⟨news, hsrc, hnews, hylen⟩ := src_of (μ := μ) (tm := tm) hI.wok ht hi hx hap hsz2
          have hN' : (BF ++ BH).Nodup := (List.nodup_append.1 hN).2.1
          have hI' : Inv E w Φ μ (BF ++ BH) := hI.perm fun r hr => List.mem_append_right _ hr
          -- a new block, holding all
          have grown : ∀ (cap : Nat) (b : Option Addr) (olds : List Value), vs = .slice b xs.length cap → cap < xs.length + ys.length → (∀ w', w'.heap = w.heap → (Builtin.firstCells i.size xs.length (.slice b xs.length cap)).run P w' = .ok olds.toArray w') →
              All2 (CR Φ) (flat xs) olds → (∀ y ∈ xs, y.cells.length = i.size) →
              ∃ y w', (Builtin.append_ #[t, u] ty #[vs, vx]).run P w = .ok y w' ∧ VR E (.osl i.size (xs ++ ys)) fr H tm y w' := by
            intro cap b olds hvs hcap hro holds hxlen
            subst hvs
            refine ⟨_, _, append_grow ht hi hz hsrc hbp b olds hro hcap (by omega), ?_⟩
            have hall : ∀ y ∈ xs ++ ys, y.cells.length = i.size := fun y hy => (List.mem_append.1 hy).elim (hxlen y) (hylen y)
            have hfl : (flat (xs ++ ys)).length = (xs.length + ys.length) * i.size := by rw [flat_length hall, List.length_append]
            have hboth : All2 (CR Φ) (flat (xs ++ ys)) (olds ++ news) := by rw [flat_append]; exact holds.append hnews
            have hlen : (olds ++ news).length = (xs.length + ys.length) * i.size := by rw [← hboth.length, hfl]
            have hge := grownCap_ge w (xs.length + ys.length) cap e
            refine VR.push (vs := olds.toArray ++ news.toArray ++ Builtin.zeroCells z.cells (grownCap w (xs.length + ys.length) cap e - (xs.length + ys.length))) (el := e) (fz := (0, 0)) hF hH hN' hI' rfl
              (fun o => if o < (xs.length + ys.length) * i.size then (olds ++ news)[o]? else none) ?_ [w.heap.size] (.inr rfl) ?_
            · intro o v hv
              split at hv
              · rename_i ho
                rw [Array.getElem?_append_left (by simp; simp at hlen; omega)]
                simpa using hv
              · simp at hv
            · refine .inr ⟨⟨w.heap.size, 0, none⟩, grownCap w (xs.length + ys.length) cap e, by simp, hpos, ?_, by simpa using hge, ⟨rfl, rfl, olds.toArray ++ news.toArray ++ Builtin.zeroCells z.cells (grownCap w (xs.length + ys.length) cap e - (xs.length + ys.length)), e, ?_, ?_, ?_⟩⟩
              · refine SlR.of_flat (vs := olds ++ news) hall ?_ ?_
                · rw [hfl, List.take_of_length_le (by omega)]
                  exact hboth.mono fun a b hab => CR.mono (sub_ext hI.wok _) hab
                · intro o v ho hv
                  rw [hfl] at ho
                  simp only [ext, if_true, if_pos ho]; exact hv
              · show (w.heap.push _)[w.heap.size]? = some _; simp only [Array.getElem?_push_size]
              · have hsz3 : (Builtin.zeroCells z.cells (grownCap w (xs.length + ys.length) cap e - (xs.length + ys.length))).size = (grownCap w (xs.length + ys.length) cap e - (xs.length + ys.length)) * i.size := by rw [size_zeroCells, hzs]
                have h1 : olds.length + news.length = (xs.length + ys.length) * i.size := by simpa using hlen
                simp only [Array.size_append, List.size_toArray, hsz3, Nat.zero_add, h1, ← Nat.add_mul]
                exact Nat.mul_le_mul_right _ (by omega)
              · intro o ho
                simp [ext] at ho ⊢
                omega
          rcases hS with ⟨rfl, rfl, rfl⟩ | ⟨a, cap, rfl, hsp, hsl, hcap, hown⟩
          · -- nil
            by_cases hy : ys = []
            · subst hy
              have hn0 : news = [] := List.eq_nil_of_length_eq_zero (by have := hsrc.cnt; simpa using this)
              subst hn0
              exact ⟨_, w, append_none ht hi hsrc none (by simp), VR.pure hF hH hN' hI' (.inl ⟨rfl, rfl, rfl⟩)⟩
            · have hpos2 : 0 < ys.length := List.length_pos_iff.2 hy
              exact grown 0 none [] rfl (by simpa using hpos2) (fun _ _ => rfl) .nil (by simp)
          · obtain rfl : sz = i.size := hsz.resolve_right fun h => by omega
            have hsl' : SlR Φ i.size xs a := hsl
            have hxlen : ∀ y ∈ xs, y.cells.length = i.size := fun y hy => by
              obtain ⟨j, hj⟩ := List.getElem?_of_mem hy
              exact (hsl'.2 j y hj).1
            have hgrow : cap < xs.length + ys.length → ∃ y w', (Builtin.append_ #[t, u] ty #[.slice (some a) xs.length cap, vx]).run P w = .ok y w' ∧ VR E (.osl i.size (xs ++ ys)) fr H tm y w' := by
              intro hlt
              obtain ⟨olds, h1, h2, h3, h4⟩ := cells_at (e := ⟨Φ, w.heap, μ⟩) (heap := w.heap) hI.wok hsl'
              refine grown cap (some a) olds rfl hlt (fun w' hw' => ?_) h1 hxlen
              have h4' : ∀ (j : Nat) (v : Value), olds[j]? = some v → w'.cell? (a.add j) = some v := fun j v hj => by
                have := h4 j v hj
                simpa [World.cell?, hw'] using this
              have := run_loadCells_list (P := P) w' a olds h4'
              rw [h2] at this
              exact this
            by_cases hy : ys = []
            · subst hy
              have hn0 : news = [] := List.eq_nil_of_length_eq_zero (by have := hsrc.cnt; simpa using this)
              subst hn0
              refine ⟨_, w, append_none ht hi hsrc (some a) hcap, Φ, μ, BS, BF, BH, .inr ⟨a, cap, by simp, hpos, by simpa using hsl', by simpa using hcap, ?_⟩, hF, hH, hN, hI⟩
              obtain ⟨h1, h2, c, el, h3, h4, h5⟩ := hown
              exact ⟨h1, h2, c, el, h3, h4, by simpa using h5⟩
            · obtain ⟨h1, h2, c, el, h3, h4, h5⟩ := hown
              · by_cases hroom : xs.length + ys.length ≤ cap
                · subst h1
                  obtain ⟨g, aoff, aspot⟩ := a
                  obtain rfl : aoff = 0 := h2
                  obtain rfl : aspot = none := hsl.1
                  simp only [Nat.zero_add] at h4 h5
                  have hnl : news.length = ys.length * i.size := hsrc.cnt
                  have hmul : (xs.length + ys.length) * i.size ≤ cap * i.size := Nat.mul_le_mul_right _ hroom
                  have hfit2 : xs.length * i.size + news.length ≤ c.size := by rw [hnl, ← Nat.add_mul]; omega
                  refine ⟨_, _, append_room ht hi hsrc h3 hroom hfit2, ?_⟩
                  have hg : g ∉ BF ++ BH := fun hm => (List.nodup_append.1 hN).2.2 g (by simp) g hm rfl
                  have hrow := setRow_heap w g c (setRangeV c.toList (xs.length * i.size) news).toArray el (0, 0) h3
                  have hother := fun k (hk : k ≠ g) => setRow_other w g k (setRangeV c.toList (xs.length * i.size) news).toArray hk
                  have hget : ∀ o, (setRangeV c.toList (xs.length * i.size) news).toArray[o]? = if o < xs.length * i.size then c[o]? else if o < xs.length * i.size + news.length then news[o - xs.length * i.size]? else c[o]? := by
                    intro o
                    rw [List.getElem?_toArray]
                    unfold setRangeV
                    have htl : (c.toList.take (xs.length * i.size)).length = xs.length * i.size := by simp; omega
                    rw [List.getElem?_append, htl]
                    split
                    · rename_i ho; rw [List.getElem?_take, if_pos ho]; simp
                    · rename_i ho
                      rw [List.getElem?_append]
                      split
                      · rename_i ho2; rw [if_pos (by omega)]
                      · rename_i ho2
                        rw [if_neg (by omega), List.getElem?_drop]
                        rw [show xs.length * i.size + news.length + (o - xs.length * i.size - news.length) = o by omega]; simp
                  -- what nobody writes, from here on
                  let Φ' : Mem := fun r o => if r = g ∧ xs.length * i.size ≤ o ∧ o < xs.length * i.size + news.length then news[o - xs.length * i.size]? else Φ r o
                  have hsub : Sub Φ Φ' := fun r o v hv => by
                    have : ¬ (r = g ∧ xs.length * i.size ≤ o ∧ o < xs.length * i.size + news.length) := fun ⟨hr, hlo, _⟩ => by subst hr; rw [h5 o hlo] at hv; simp at hv
                    simp only [Φ', if_neg this]; exact hv
                  have hstep : ∀ B, (∀ r ∈ B, r ∈ BF ++ BH) → Step ⟨Φ, w.heap, μ⟩ ⟨Φ', (w.setRow g (setRangeV c.toList (xs.length * i.size) news).toArray).heap, μ⟩ B := fun B hB =>
                    ⟨hsub, fun _ _ h => h, fun r hr => by
                      have hne : r ≠ g := fun he => hg (he ▸ hB r hr)
                      exact ⟨hother r hne, fun o => by simp [Φ', hne]⟩⟩
                  have hall : ∀ y ∈ xs ++ ys, y.cells.length = i.size := fun y hy => (List.mem_append.1 hy).elim (hxlen y) (hylen y)
                  refine ⟨Φ', μ, [g], BF, BH, .inr ⟨⟨g, 0, none⟩, cap, by simp, hpos, ?_, by simpa using hroom, ⟨rfl, rfl, (setRangeV c.toList (xs.length * i.size) news).toArray, el, hrow, ?_, ?_⟩⟩,
                    hF.step (hstep _ fun r hr => List.mem_append_left _ hr), hH.step (hstep _ fun r hr => List.mem_append_right _ hr), hN, ?_⟩
                  · refine ⟨rfl, fun j x hj => ⟨hall x (List.mem_of_getElem? hj), fun k cc hk => ?_⟩⟩
                    rw [List.getElem?_append] at hj
                    split at hj
                    · obtain ⟨v, h6, h7⟩ := (hsl.2 j x hj).2 k cc hk
                      exact ⟨v, hsub _ _ _ h6, h7.mono hsub⟩
                    · rename_i hjl
                      have h6 := flat_get hylen hj hk
                      obtain ⟨v, h7, h8⟩ := hnews.get _ h6
                      refine ⟨v, ?_, h8.mono hsub⟩
                      have hlt := (List.getElem?_eq_some_iff.1 h7).1
                      have hjm : j * i.size = xs.length * i.size + (j - xs.length) * i.size := by rw [← Nat.add_mul]; congr 1; omega
                      have : (g = g ∧ xs.length * i.size ≤ 0 + j * i.size + k ∧ 0 + j * i.size + k < xs.length * i.size + news.length) := ⟨rfl, by omega, by omega⟩
                      simp only [Φ', if_pos this]
                      rw [show 0 + j * i.size + k - xs.length * i.size = (j - xs.length) * i.size + k by omega]
                      exact h7
                  · simp only [Nat.zero_add]
                    have : (setRangeV c.toList (xs.length * i.size) news).toArray.size = c.size := by
                      simp [setRangeV]; omega
                    rw [this]; exact h4
                  · intro o ho
                    simp only [Nat.zero_add, List.length_append, Nat.add_mul] at ho
                    have h6 : ¬ (g = g ∧ xs.length * i.size ≤ o ∧ o < xs.length * i.size + news.length) := fun h => by omega
                    simp only [Φ', if_neg h6]
                    exact h5 o (by omega)
                  · refine ⟨?_, by rw [setRow_heap_eq]; exact hI.size, hI.sub.trans hsub, hI.mu, fun r hr hx => ?_, hI.own, hI.io.trans ⟨rfl, rfl, rfl⟩⟩
                    · intro r o v hv
                      by_cases hrg : r = g
                      · subst hrg
                        refine ⟨_, el, (0, 0), hrow, ?_⟩
                        rw [hget]
                        by_cases h6 : (r = r ∧ xs.length * i.size ≤ o ∧ o < xs.length * i.size + news.length)
                        · simp only [Φ', if_pos h6] at hv
                          rw [if_neg (by omega), if_pos (by omega)]; exact hv
                        · simp only [Φ', if_neg h6] at hv
                          obtain ⟨c', el', fz', h7, h8⟩ := hI.wok r o v hv
                          rw [h3] at h7; cases Option.some.inj h7
                          have hlo : o < xs.length * i.size := by
                            rcases Nat.lt_or_ge o (xs.length * i.size) with h | h
                            · exact h
                            · rw [h5 o h] at hv; simp at hv
                          rw [if_pos hlo]; exact h8
                      · have h6 : ¬ (r = g ∧ xs.length * i.size ≤ o ∧ o < xs.length * i.size + news.length) := fun h => hrg h.1
                        simp only [Φ', if_neg h6] at hv
                        obtain ⟨c', el', fz', h7, h8⟩ := hI.wok r o v hv
                        exact ⟨c', el', fz', by rw [hother r hrg]; exact h7, h8⟩
                    · have hrg : r ≠ g := fun he => by
                        subst he
                        rcases hI.own r (by simp) with h | h
                        · exact hx h
                        · omega
                      have hk := hI.keep r hr hx
                      refine ⟨by rw [hother r hrg]; exact hk.1, fun o => ?_⟩
                      have h6 : ¬ (r = g ∧ xs.length * i.size ≤ o ∧ o < xs.length * i.size + news.length) := fun h => hrg h.1
                      simp only [Φ', if_neg h6]; exact hk.2 o
                · exact hgrow (by omega)
        · simp at h
      · simp at h
    · simp at h
  · simp at h
end


theorem zeroCells_one (v : Value) (n : Nat) : Builtin.zeroCells #[v] n = (List.replicate n v).toArray := by
  unfold Builtin.zeroCells
  apply Array.ext
  · simp
  · intro j h1 h2
    simp [Nat.mod_one]

section
variable {P : Program} {w : World}
theorem appendz_room {t u ty e : TypeId} {i : TypeInfo} {k' ik ku : IntKind} (ht : P.underlying t = some (.slice e)) (hu : P.underlying u = some (.int ku)) (hi : P.info? e = some i) (hsz : i.size = 1) (hzv : i.zero = some (.int ik 0))
    {n cap : Nat} {m : Int} {g : Nat} {cur : Array Value} {el : TypeId} (hg : w.heap[g]? = some (.cells cur el (0, 0))) (hm : 0 < m) (hroom : n + m.toNat ≤ cap) (hfit : cap ≤ cur.size) (hb : m * i.bytes ≤ 281474976710656) (hm2 : m ≤ 281474976710656) :
    (Builtin.append_ #[t, u] ty #[.slice (some ⟨g, 0, none⟩) n cap, .int k' m]).run P w =
      .ok (.slice (some ⟨g, 0, none⟩) (n + m.toNat) cap) (w.setRow g (setRangeV cur.toList n (List.replicate m.toNat (.int ik 0))).toArray) := by
  have hst := run_storeCells_at P g n el (List.replicate m.toNat (.int ik 0)) 0 cur w hg (by simp; omega) (by intro v hv; rw [List.eq_of_mem_replicate hv]; rfl)
  simp only [Nat.add_zero] at hst
  have hwr : IntKind.i64.wrap m = m := by simp [IntKind.wrap, IntKind.bits, IntKind.signed]; omega
  have hneg : ¬ (m < 0) := by omega
  have hbig : ¬ ((281474976710656 : Int) < m * i.bytes) := by omega
  have hm0 : m.toNat ≠ 0 := by omega
  have hzc : Builtin.zeroCells (Value.int ik 0).cells m.toNat = (List.replicate m.toNat (Value.int ik 0)).toArray := zeroCells_one _ _
  simp [Builtin.append_, run_underlying ht, run_underlying hu, sizeOf, typeInfo, hi, hsz, asInt, asIntOf, hwr, hneg, hbig, hroom, hm0, zeroValue, hzv, hzc, Addr.add_lit, hst, setRangeV]

theorem appendz_grow {t u ty e : TypeId} {i : TypeInfo} {k' ik ku : IntKind} (ht : P.underlying t = some (.slice e)) (hu : P.underlying u = some (.int ku)) (hi : P.info? e = some i) (hsz : i.size = 1) (hzv : i.zero = some (.int ik 0))
    {n cap : Nat} {m : Int} (hm : 0 < m) (hbp : 0 < i.bytes) (b : Option Addr) (olds : List Value) (hro : ∀ w', w'.heap = w.heap → (Builtin.firstCells 1 n (.slice b n cap)).run P w' = .ok olds.toArray w')
    (hg : cap < n + m.toNat) (hfit : (n + m.toNat) * i.bytes ≤ 140737488355328) :
    (Builtin.append_ #[t, u] ty #[.slice b n cap, .int k' m]).run P w =
      .ok (.slice (some ⟨w.heap.size, 0, none⟩) (n + m.toNat) (grownCap w (n + m.toNat) cap e))
        (w.drew.alloc (.cells (olds ++ (List.replicate m.toNat (Value.int ik 0) ++ List.replicate (grownCap w (n + m.toNat) cap e - (n + m.toNat)) (Value.int ik 0))).toArray e)) := by
  have hle : n + m.toNat ≤ (n + m.toNat) * i.bytes := Nat.le_mul_of_pos_right _ hbp
  have hmb : m.toNat * i.bytes ≤ (n + m.toNat) * i.bytes := Nat.mul_le_mul_right _ (by omega)
  have hmi : m * i.bytes = ((m.toNat * i.bytes : Nat) : Int) := by
    rw [Int.natCast_mul, Int.toNat_of_nonneg (by omega)]
  have hwr : IntKind.i64.wrap m = m := by simp [IntKind.wrap, IntKind.bits, IntKind.signed]; omega
  have hneg : ¬ (m < 0) := by omega
  have hbig : ¬ ((281474976710656 : Int) < m * i.bytes) := by rw [hmi]; omega
  have hm0 : m.toNat ≠ 0 := by omega
  have hzc : ∀ q, Builtin.zeroCells (Value.int ik 0).cells q = (List.replicate q (Value.int ik 0)).toArray := fun q => zeroCells_one _ _
  have ho := hro w.drew rfl
  have hn : ¬ (n + m.toNat ≤ cap) := by omega
  have hn2 : ¬ ((9223372036854775807 : Int) < (n : Int) + (m.toNat : Int)) := by omega
  have h48 := growslice_fits hg hfit
  have h48' : ¬ (281474976710656 < Builtin.nextslicecap (n + m.toNat) cap * i.bytes) := by omega
  have hn3 : ¬ ((9223372036854775807 : Int) < (n : Int) + max m 0) := by omega
  simp [Builtin.append_, run_underlying ht, run_underlying hu, sizeOf, typeInfo, hi, hsz, asInt, asIntOf, hwr, hneg, hbig, hn, hn2, hn3, hm0, zeroValue, hzv, hzc, h48', Question.forced, ho, newRow, grownCap]
  congr 2
  apply Array.ext'
  simp

end

section
variable {P : Program} {E : Ent} {w : World} {Φ : Mem} {μ BF BH BS : List Nat} {tm : Array Value} {fr : Fr} {H : Hp}

theorem appendz_sound {t u : TypeId} {ku k' : IntKind} {s v : AV} {vs : Value} {m : Int} (hS : AR ⟨Φ, w.heap, μ⟩ tm s vs BS) (hF : FR ⟨Φ, w.heap, μ⟩ tm fr BF) (hH : HR ⟨Φ, w.heap, μ⟩ H μ BH)
    (hN : (BS ++ (BF ++ BH)).Nodup) (hI : Inv E w Φ μ (BS ++ (BF ++ BH))) (hu : P.underlying u = some (.int ku)) (h : appendZ P t s m = some v) (ty : TypeId) :
    ∃ y w', (Builtin.append_ #[t, u] ty #[vs, .int k' m]).run P w = .ok y w' ∧ VR E v fr H tm y w' := by
  unfold appendZ at h
  split at h
  · rename_i e sz xs ht
    split at h
    · rename_i ik i he hi
      split at h
      · rename_i hc
        obtain ⟨⟨hsz, hzi, hbp, rfl⟩, hm, hfit⟩ := hc
        obtain rfl := Option.some.inj h
        have hzv : i.zero = some (.int ik 0) := by
          unfold zIs at hzi
          split at hzi
          · rename_i k z hz
            simp only [Bool.and_eq_true, decide_eq_true_eq] at hzi
            rw [hz, hzi.1, hzi.2]
          · simp at hzi
        have hN' : (BF ++ BH).Nodup := (List.nodup_append.1 hN).2.1
        have hI' : Inv E w Φ μ (BF ++ BH) := hI.perm fun r hr => List.mem_append_right _ hr
        have hm0 : 0 < m.toNat := by omega
        have hle : m.toNat ≤ m.toNat * i.bytes := Nat.le_mul_of_pos_right _ hbp
        have hle2 : m.toNat * i.bytes ≤ (xs.length + m.toNat) * i.bytes := Nat.mul_le_mul_right _ (by omega)
        have hmi : m * i.bytes = ((m.toNat * i.bytes : Nat) : Int) := by
          rw [Int.natCast_mul, Int.toNat_of_nonneg (by omega)]
        have grown : ∀ (cap : Nat) (b : Option Addr) (olds : List Value), vs = .slice b xs.length cap → cap < xs.length + m.toNat → (∀ w', w'.heap = w.heap → (Builtin.firstCells 1 xs.length (.slice b xs.length cap)).run P w' = .ok olds.toArray w') →
            All2 (CR Φ) (flat xs) olds → (∀ y ∈ xs, y.cells.length = 1) →
            ∃ y w', (Builtin.append_ #[t, u] ty #[vs, .int k' m]).run P w = .ok y w' ∧ VR E (.zsl ik xs m.toNat) fr H tm y w' := by
          intro cap b olds hvs hcap hro holds hxlen
          subst hvs
          refine ⟨_, _, appendz_grow ht hu hi hsz hzv hm hbp b olds hro hcap (by omega), ?_⟩
          have hfl : (flat xs).length = xs.length := by rw [flat_length hxlen, Nat.mul_one]
          have hol : olds.length = xs.length := by rw [← holds.length, hfl]
          have hge := grownCap_ge w (xs.length + m.toNat) cap e
          refine VR.push (vs := (olds ++ (List.replicate m.toNat (Value.int ik 0) ++ List.replicate (grownCap w (xs.length + m.toNat) cap e - (xs.length + m.toNat)) (Value.int ik 0))).toArray) (el := e) (fz := (0, 0)) hF hH hN' hI' rfl
            (fun o => if o < xs.length then olds[o]? else none) ?_ [w.heap.size] (.inr rfl) ?_
          · intro o v hv
            split at hv
            · rename_i ho
              rw [List.getElem?_toArray, List.getElem?_append_left (by omega)]
              exact hv
            · simp at hv
          · refine ⟨w.heap.size, grownCap w (xs.length + m.toNat) cap e, rfl, ?_, hge, rfl, (olds ++ (List.replicate m.toNat (Value.int ik 0) ++ List.replicate (grownCap w (xs.length + m.toNat) cap e - (xs.length + m.toNat)) (Value.int ik 0))).toArray, e, ?_, ?_, ?_, ?_⟩
            · refine SlR.of_flat (vs := olds) hxlen ?_ ?_
              · rw [hfl, List.take_of_length_le (by omega)]
                exact holds.mono fun a b hab => CR.mono (sub_ext hI.wok _) hab
              · intro o v ho hv
                rw [hfl] at ho
                simp only [ext, if_true, if_pos ho]; exact hv
            · show (w.heap.push _)[w.heap.size]? = some _; simp only [Array.getElem?_push_size]
            · simp; omega
            · intro o ho
              simp [ext]; omega
            · intro o h1 h2
              rw [List.getElem?_toArray, List.getElem?_append_right (by omega), List.getElem?_append_left (by simp; omega), List.getElem?_replicate, if_pos (by omega)]
        rcases hS with ⟨rfl, rfl, rfl⟩ | ⟨a, cap, rfl, hsp, hsl, hcap, hown⟩
        · exact grown 0 none [] rfl (by simpa using hm0) (fun _ _ => rfl) .nil (by simp)
        · have hsl' : SlR Φ 1 xs a := hsl
          have hxlen : ∀ y ∈ xs, y.cells.length = 1 := fun y hy => by
            obtain ⟨j, hj⟩ := List.getElem?_of_mem hy
            exact (hsl'.2 j y hj).1
          have hgrow : cap < xs.length + m.toNat → ∃ y w', (Builtin.append_ #[t, u] ty #[.slice (some a) xs.length cap, .int k' m]).run P w = .ok y w' ∧ VR E (.zsl ik xs m.toNat) fr H tm y w' := by
            intro hlt
            obtain ⟨olds, h1, h2, h3, h4⟩ := cells_at (e := ⟨Φ, w.heap, μ⟩) (heap := w.heap) hI.wok hsl'
            refine grown cap (some a) olds rfl hlt (fun w' hw' => ?_) h1 hxlen
            have h4' : ∀ (j : Nat) (v : Value), olds[j]? = some v → w'.cell? (a.add j) = some v := fun j v hj => by
              have := h4 j v hj
              simpa [World.cell?, hw'] using this
            have := run_loadCells_list (P := P) w' a olds h4'
            rw [h2] at this
            exact this
          obtain ⟨h1, h2, c, el, h3, h4, h5⟩ := hown
          · by_cases hroom : xs.length + m.toNat ≤ cap
            · subst h1
              obtain ⟨g, aoff, aspot⟩ := a
              obtain rfl : aoff = 0 := h2
              obtain rfl : aspot = none := hsl.1
              simp only [Nat.zero_add, Nat.mul_one] at h3 h4 h5
              refine ⟨_, _, appendz_room ht hu hi hsz hzv h3 hm hroom h4 (by rw [hmi]; omega) (by omega), ?_⟩
              have hg : g ∉ BF ++ BH := fun hm => (List.nodup_append.1 hN).2.2 g (by simp) g hm rfl
              have hrow := setRow_heap w g c (setRangeV c.toList xs.length (List.replicate m.toNat (Value.int ik 0))).toArray el (0, 0) h3
              have hother := fun k (hk : k ≠ g) => setRow_other w g k (setRangeV c.toList xs.length (List.replicate m.toNat (Value.int ik 0))).toArray hk
              have hget : ∀ o, (setRangeV c.toList xs.length (List.replicate m.toNat (Value.int ik 0))).toArray[o]? = if o < xs.length then c[o]? else if o < xs.length + m.toNat then some (Value.int ik 0) else c[o]? := by
                intro o
                rw [List.getElem?_toArray]
                unfold setRangeV
                have htl : (c.toList.take xs.length).length = xs.length := by simp; omega
                rw [List.getElem?_append, htl]
                split
                · rename_i ho; rw [List.getElem?_take, if_pos ho]; simp
                · rename_i ho
                  rw [List.getElem?_append]
                  split
                  · rename_i ho2; simp at ho2; rw [if_pos (by omega), List.getElem?_replicate, if_pos (by omega)]
                  · rename_i ho2
                    simp at ho2
                    rw [if_neg (by omega), List.getElem?_drop]
                    simp only [List.length_replicate]
                    rw [show xs.length + m.toNat + (o - xs.length - m.toNat) = o by omega]; simp
              have hstep : ∀ B, (∀ r ∈ B, r ∈ BF ++ BH) → Step ⟨Φ, w.heap, μ⟩ ⟨Φ, (w.setRow g (setRangeV c.toList xs.length (List.replicate m.toNat (Value.int ik 0))).toArray).heap, μ⟩ B := fun B hB =>
                ⟨Sub.refl _, fun _ _ h => h, fun r hr => ⟨hother r fun he => hg (he ▸ hB r hr), fun o => rfl⟩⟩
              refine ⟨Φ, μ, [g], BF, BH, ⟨g, cap, rfl, hsl', hroom, rfl, _, el, hrow, ?_, h5, ?_⟩, hF.step (hstep _ fun r hr => List.mem_append_left _ hr), hH.step (hstep _ fun r hr => List.mem_append_right _ hr), hN, ?_⟩
              · have : (setRangeV c.toList xs.length (List.replicate m.toNat (Value.int ik 0))).toArray.size = c.size := by
                  simp [setRangeV]; omega
                rw [this]; exact h4
              · intro o ho1 ho2
                rw [hget, if_neg (by omega), if_pos ho2]
              · refine ⟨?_, by rw [setRow_heap_eq]; exact hI.size, hI.sub, hI.mu, fun r hr hx => ?_, hI.own, hI.io.trans ⟨rfl, rfl, rfl⟩⟩
                · intro r o v hv
                  by_cases hrg : r = g
                  · subst hrg
                    refine ⟨_, el, (0, 0), hrow, ?_⟩
                    obtain ⟨c', el', fz', h7, h8⟩ := hI.wok r o v hv
                    rw [h3] at h7; cases Option.some.inj h7
                    have hlo : o < xs.length := by
                      rcases Nat.lt_or_ge o xs.length with h | h
                      · exact h
                      · rw [h5 o h] at hv; simp at hv
                    rw [hget, if_pos hlo]; exact h8
                  · obtain ⟨c', el', fz', h7, h8⟩ := hI.wok r o v hv
                    exact ⟨c', el', fz', by rw [hother r hrg]; exact h7, h8⟩
                · have hrg : r ≠ g := fun he => by
                    subst he
                    rcases hI.own r (by simp) with h | h
                    · exact hx h
                    · omega
                  have hk := hI.keep r hr hx
                  exact ⟨by rw [hother r hrg]; exact hk.1, hk.2⟩
            · exact hgrow (by omega)
      · simp at h
    · simp at h
  · simp at h

theorem append_sound {t : TypeId} {u : TypeId} {s x v : AV} {vs vx : Value} (hS : AR ⟨Φ, w.heap, μ⟩ tm s vs BS) (hF : FR ⟨Φ, w.heap, μ⟩ tm fr BF) (hH : HR ⟨Φ, w.heap, μ⟩ H μ BH)
    (hN : (BS ++ (BF ++ BH)).Nodup) (hI : Inv E w Φ μ (BS ++ (BF ++ BH))) (hx : AR ⟨Φ, w.heap, μ⟩ tm x vx []) (h : appendA P t s x (some u) = some v) (ty : TypeId) :
    ∃ y w', (Builtin.append_ #[t, u] ty #[vs, vx]).run P w = .ok y w' ∧ VR E v fr H tm y w' := by
  unfold appendA at h
  simp only at h
  split at h
  · rename_i ku k' n hu
    obtain ⟨hc, _⟩ := hx
    cases hc
    exact appendz_sound hS hF hH hN hI hu h ty
  · simp at h
  · exact appendS_sound hS hF hH hN hI hx h ty

end

end Go.AI

/- Loads and stores. -/
namespace Go.AI
set_option linter.unusedVariables false
set_option linter.unusedSimpArgs false

section
variable {P : Program} {w : World} {e : Env} {tm : Array Value}

theorem load_cells {t : TypeId} (hok : tyOK P t = true) {ad : Addr} {vs : List Value} (hl : vs.length = P.cellsOf t) (hc : ∀ (j : Nat) (v : Value), vs[j]? = some v → w.cell? (ad.add j) = some v) (hag : isAggB P t = true) :
    (loadVar t ad).run P w = .ok (.agg vs.toArray) w := by
  have := run_loadCells_list (P := P) w ad vs hc
  rw [hl] at this
  simp [loadVar, isAgg_run hok, hag, sizeOf_run hok, this]

theorem load_one {t : TypeId} (hok : tyOK P t = true) {ad : Addr} {v : Value} (hc : w.cell? ad = some v) (hag : isAggB P t = false) : (loadVar t ad).run P w = .ok v w := by
  simp [loadVar, isAgg_run hok, hag, hc]

theorem vp_load (hw : WOK e.Φ w.heap) {t : TypeId} {x : DV} {ad : Addr} (h : PtR e.Φ x ad) (hok : tyOK P t = true) (hlen : x.cells.length = P.cellsOf t) (hag : isAggB P t = isAggD x) :
    ∃ v, (Instr.loadAt t (.pointer (some ad))).run P w = .ok v w ∧ AR e tm (of1 x) v [] := by
  have hcell : ∀ (j : Nat) (c : DV), x.cells[j]? = some c → ∃ v, w.cell? (ad.add j) = some v ∧ CR e.Φ c v := by
    intro j c hj
    obtain ⟨v, h1, h2⟩ := h.2 j c hj
    obtain ⟨cc, el, fz, h3, h4⟩ := hw _ _ _ h1
    exact ⟨v, by rw [add_eq h.1]; simp [World.cell?, h3, h4], h2⟩
  cases x
  case agg cs =>
    have hag' : isAggB P t = true := hag
    simp only [DV.cells] at hcell hlen
    have hvs : ∃ vs : List Value, All2 (CR e.Φ) cs vs ∧ ∀ (j : Nat) (v : Value), vs[j]? = some v → w.cell? (ad.add j) = some v := by
      refine ⟨(List.range cs.length).map fun j => (w.cell? (ad.add j)).getD default, ?_, ?_⟩
      · refine All2.of_get (by simp) fun j c v hc hv => ?_
        obtain ⟨v', h1, h2⟩ := hcell j c hc
        have hlt := (List.getElem?_eq_some_iff.1 hc).1
        simp [hlt, h1] at hv
        subst hv; exact h2
      · intro j v hv
        have hlt : j < cs.length := by have := (List.getElem?_eq_some_iff.1 hv).1; simpa using this
        obtain ⟨v', h1, h2⟩ := hcell j cs[j] (by simp [hlt])
        simp [hlt, h1] at hv
        subst hv; exact h1
    obtain ⟨vs, h1, h2⟩ := hvs
    refine ⟨.agg vs.toArray, ?_, vs.toArray, rfl, ?_⟩
    · simp only [Instr.loadAt, Instr.sureAddr, Sem.run_bind, Sem.run_pure, Result.andThen_ok]
      exact load_cells hok (by rw [← h1.length]; exact hlen) h2 hag'
    · simp only
      have : ∀ {cs : List DV} {vs : List Value}, All2 (CR e.Φ) cs vs → All2O (AC e) (cs.map .d) vs [] := by
        intro cs vs h
        induction h with
        | nil => exact .nil
        | cons h _ ih => simpa using All2O.cons (R := AC e) (a := .d _) (B1 := []) ⟨h, rfl⟩ ih
      exact this h1
  all_goals
    have hag' : isAggB P t = false := hag
    obtain ⟨v, h1, h2⟩ := hcell 0 _ rfl
    refine ⟨v, ?_, h2, rfl⟩
    simp only [Instr.loadAt, Instr.sureAddr, Sem.run_bind, Sem.run_pure, Result.andThen_ok]
    exact load_one hok (by simpa [Addr.add] using h1) hag'

theorem dupC_cells_agg (cs : List AV) : (AV.agg cs).cells.map dupC = cs.map dupC := rfl

theorem blk_load (hw : w.heap = e.heap) {cs : List AV} {r : Nat} {B : List Nat} {t : TypeId} {off : Nat} {v : AV} (h : BlkR e cs r B) (hl : loadA P t cs off = some v) :
    ∃ x B1 B2, (Instr.loadAt t (.pointer (some ⟨r, off, none⟩))).run P w = .ok x w ∧ AR1 e v x B1 ∧ BlkR e (setRange cs off (v.cells.map dupC)) r B2 ∧ (B1 ++ B2).Perm B := by
  obtain ⟨vs, el, h1, h2, B', h3, rfl⟩ := h
  unfold loadA at hl
  cases hok : tyOK P t with
  | false => rw [hok] at hl; simp at hl
  | true =>
    rw [hok, cond_true] at hl
    unfold partA at hl
    have hcell : ∀ (j : Nat) (v : Value), vs[off + j]? = some v → w.cell? ((⟨r, off, none⟩ : Addr).add j) = some v := by
      intro j v hv
      rw [add_eq rfl]
      simp [World.cell?, hw, h1, hv]
    have hlen : cs.length = vs.size := by rw [h3.length]; simp
    have hrange : ∀ n, off + n ≤ cs.length → ∃ C1 D, All2O (AC e) ((cs.drop off).take n) ((vs.toList.drop off).take n) C1 ∧ All2O (AC e) (setRange cs off (((cs.drop off).take n).map dupC)) vs.toList D ∧ (C1 ++ D).Perm B' := by
      intro n hn
      obtain ⟨B1, B2, h4, h5, rfl⟩ := h3.drop off (by omega)
      obtain ⟨C1, C2, h6, h7, rfl⟩ := h5.drop n (by simp; omega)
      refine ⟨C1, B1 ++ ([] ++ C2), h6, ?_, ?_⟩
      · unfold setRange
        have hnl : (((cs.drop off).take n).map dupC).length = n := by simp; omega
        rw [hnl]
        have := h4.append (h6.dupC.append h7)
        rw [List.take_append_drop, List.take_append_drop] at this
        simpa [List.drop_drop, Nat.add_comm] using this
      · simp only [List.nil_append]
        rw [← List.append_assoc, ← List.append_assoc]
        exact List.Perm.append_right _ List.perm_append_comm
    cases hag : isAggB P t with
    | true =>
      rw [hag, cond_true] at hl
      split at hl
      · rename_i hle
        obtain rfl := Option.some.inj hl
        obtain ⟨C1, D, h4, h5, h6⟩ := hrange _ hle
        refine ⟨.agg ((vs.toList.drop off).take (P.cellsOf t)).toArray, C1, r :: D, ?_, ⟨_, rfl, h4⟩, ⟨vs, el, h1, h2, D, h5, rfl⟩, ?_⟩
        · simp only [Instr.loadAt, Instr.sureAddr, Sem.run_bind, Sem.run_pure, Result.andThen_ok]
          refine load_cells hok (by simp; omega) (fun j v hj => hcell j v ?_) hag
          rw [List.getElem?_take] at hj
          split at hj
          · rw [List.getElem?_drop] at hj; simpa using hj
          · simp at hj
        · exact (List.perm_middle).trans (List.Perm.cons r h6)
      · simp at hl
    | false =>
      rw [hag, cond_false] at hl
      replace hl : cs[off]? = some v := by split at hl <;> simp_all
      obtain ⟨hlt, hge⟩ := List.getElem?_eq_some_iff.1 hl
      have h1c : (cs.drop off).take 1 = [v] := by
        rw [List.drop_eq_getElem_cons hlt]; simp [hge]
      have hvlt : off < vs.size := by omega
      have h1v : (vs.toList.drop off).take 1 = [vs[off]] := by
        rw [List.drop_eq_getElem_cons (by simpa using hvlt)]; simp
      obtain ⟨C1, D, h4, h5, h6⟩ := hrange 1 (by omega)
      rw [h1c, h1v] at h4
      cases h4 with
      | cons ha hn =>
        cases hn
        rename_i B1
        have hvc : v.cells = [v] := by
          cases v <;> first | rfl | exact ha.elim
        rw [h1c] at h5
        refine ⟨vs[off], B1, r :: D, ?_, AR1.of_AC ha, ⟨vs, el, h1, h2, D, by rw [hvc]; exact h5, rfl⟩, ?_⟩
        · simp only [Instr.loadAt, Instr.sureAddr, Sem.run_bind, Sem.run_pure, Result.andThen_ok]
          exact load_one hok (by have := hcell 0 vs[off] (by simp [hvlt]); simpa [add_eq] using this) hag
        · simp only [List.append_nil] at h6
          exact (List.perm_middle).trans (List.Perm.cons r h6)

theorem setRange_head {α : Type} {cs us : List α} {off : Nat} (h : off + us.length ≤ cs.length) (h0 : 0 < off) : (cs.take off ++ (us ++ cs.drop (off + us.length)))[0]? = cs[0]? := by
  have : 0 < (cs.take off).length := by rw [List.length_take]; omega
  rw [List.getElem?_append_left this, List.getElem?_take, if_pos h0]

/-- A mark at the head stays or goes. -/
theorem load_tag {cs : List AV} {t : TypeId} {off : Nat} {v : AV} (hl : loadA P t cs off = some v) {T : TypeId} (h : (setRange cs off (v.cells.map dupC))[0]? = some (.bself T)) : cs[0]? = some (.bself T) := by
  have hd : ∀ a : AV, dupC a = .bself T → a = .bself T := by
    intro a ha
    cases a <;> first | exact ha | (simp [dupC] at ha; done) | skip
    rename_i s xs; rw [dupC_osl] at ha; split at ha <;> cases ha
  have key : ∀ us : List AV, (∀ i u, us[i]? = some u → cs[off + i]? = some u) → (setRange cs off (us.map dupC))[0]? = some (.bself T) → cs[0]? = some (.bself T) := by
    intro us hu h
    unfold setRange at h
    cases off with
    | zero =>
      cases us with
      | nil => simpa using h
      | cons u us =>
        have := hu 0 u rfl
        simp at h this
        rw [this, hd u h]
    | succ off =>
      cases cs with
      | nil => cases us with
        | nil => simp at h
        | cons u us => have := hu 0 u rfl; simp at this
      | cons c cs => simpa using h
  refine key v.cells ?_ h
  unfold loadA at hl
  cases hok : tyOK P t with
  | false => rw [hok] at hl; simp at hl
  | true =>
    rw [hok, cond_true] at hl
    unfold partA at hl
    cases hag : isAggB P t with
    | true =>
      rw [hag, cond_true] at hl
      split at hl
      · obtain rfl := Option.some.inj hl
        intro i u hi
        simp only [AV.cells] at hi
        rw [List.getElem?_take] at hi
        split at hi
        · rw [List.getElem?_drop] at hi; exact hi
        · cases hi
      · cases hl
    | false =>
      rw [hag, cond_false] at hl
      have hl' : cs[off]? = some v ∧ v.cells = [v] := by
        split at hl
        · cases hl
        · rename_i hne
          refine ⟨hl, ?_⟩
          cases v <;> first | rfl | exact (hne _ hl).elim
      intro i u hi
      rw [hl'.2] at hi
      cases i with
      | zero => simp at hi; subst hi; exact hl'.1
      | succ i => simp at hi

theorem blk_store (hw : w.heap = e.heap) {cs cs' : List AV} {r : Nat} {B BV : List Nat} {t : TypeId} {off : Nat} {v : AV} {x : Value} (h : BlkR e cs r B) (hv : AR e tm v x BV) (hs : storeA P t cs off v = some cs') :
    ∃ vs', (Instr.storeAt t (.pointer (some ⟨r, off, none⟩)) x).run P w = .ok () (w.setRow r vs') ∧
      ∃ el B', All2O (AC e) cs' vs'.toList B' ∧ (w.setRow r vs').heap[r]? = some (.cells vs' el (0, 0)) ∧ ∃ C, (r :: B' ++ C).Perm (B ++ BV) ∧
        ∀ T, cs'[0]? = some (.bself T) → cs[0]? = some (.bself T) ∧ ∀ us E, e.heap[r]? = some (.cells us E (0, 0)) → el = E ∧ vs'[0]? = us[0]? := by
  obtain ⟨vs, el, h1, h2, B', h3, rfl⟩ := h
  unfold storeA at hs
  split at hs
  · rename_i hc
    obtain ⟨hok, hlen, hle, hp⟩ := hc
    obtain rfl := Option.some.inj hs
    have hvc := (AR.to_AR1 hv hp).cells hp
    have hxl : x.cells.size = v.cells.length := by rw [hvc.length]; simp
    have hcl : cs.length = vs.size := by rw [h3.length]; simp
    obtain ⟨B'', C, h4, h5⟩ := h3.setRange hvc (off := off) hle
    have hone : ∀ u ∈ x.cells.toList, u.oneCell' = true := by
      have : ∀ {as : List AV} {us : List Value} {D : List Nat}, All2O (AC e) as us D → ∀ u ∈ us, u.oneCell' = true := by
        intro as us D h
        induction h with
        | nil => simp
        | cons ha _ ih =>
          rename_i a v' B1 as vs B2 _
          intro u hu
          rcases List.mem_cons.1 hu with rfl | hu
          · cases a
            case d y => exact ha.1.oneCell
            case osl sz xs => rcases ha with ⟨rfl, _⟩ | ⟨_, _, rfl, _⟩ <;> rfl
            case hp => obtain ⟨_, _, rfl, _⟩ := ha; rfl
            case vp => obtain ⟨_, rfl, _⟩ := ha; rfl
            case fn => obtain ⟨rfl, _⟩ := ha; rfl
            case nilp => obtain ⟨rfl, _⟩ := ha; rfl
            case nilf => obtain ⟨rfl, _⟩ := ha; rfl
            case nilm => obtain ⟨rfl, _⟩ := ha; rfl
            case mp => obtain ⟨_, _, rfl, _⟩ := ha; rfl
            case zsl => obtain ⟨_, _, rfl, _⟩ := ha; rfl
            case sref => obtain ⟨⟨_, _, _, rfl⟩, _⟩ := ha; rfl
            case bself => obtain ⟨⟨o, rfl⟩, _⟩ := ha; rfl
            all_goals exact ha.elim
          · exact ih u hu
      exact this hvc
    have hst := run_storeCells_at P r off el x.cells.toList 0 vs w (by rw [hw]; exact h1) (by simp; omega) hone
    refine ⟨(setRangeV vs.toList off x.cells.toList).toArray, ?_, el, B'', by simpa using h4, setRow_heap w r vs _ el (0, 0) (by rw [hw]; exact h1), C, ?_, ?_⟩
    · simp only [Instr.storeAt, Instr.sureAddr, Sem.run_bind, Sem.run_pure, Result.andThen_ok, storeVar, sizeOf_run hok]
      rw [if_neg (by omega)]
      rw [hst]
      simp [setRangeV]
    · simpa using List.Perm.cons r h5
    · intro T hT
      have hpl : ∀ u ∈ v.cells, plainC u = true := by
        intro u hu
        cases v
        case agg us => exact List.all_eq_true.1 hp u hu
        all_goals (simp only [AV.cells, List.mem_singleton] at hu; subst hu; exact hp)
      have hxl' : x.cells.toList.length = v.cells.length := by simpa using hxl
      have hcl' : cs.length = vs.toList.length := by simpa using hcl
      have hz : off = 0 → v.cells = [] := by
        intro h0
        subst h0
        cases hvc : v.cells with
        | nil => rfl
        | cons u us =>
          exfalso
          simp only [setRange, hvc] at hT
          simp at hT
          have := hpl u (by rw [hvc]; simp)
          rw [hT] at this; simp [plainC] at this
      have same : (setRange cs off v.cells)[0]? = cs[0]? ∧ (setRangeV vs.toList off x.cells.toList)[0]? = vs.toList[0]? := by
        by_cases h0 : 0 < off
        · exact ⟨setRange_head hle h0, setRange_head (by rw [hxl', ← hcl']; exact hle) h0⟩
        · have h0 : off = 0 := by omega
          have hv0 := hz h0
          have hx0 : x.cells.toList = [] := by
            have : x.cells.toList.length = 0 := by rw [hxl', hv0]; rfl
            exact List.length_eq_zero_iff.1 this
          subst h0
          rw [hv0, hx0]
          simp [setRange, setRangeV]
      refine ⟨by rw [← same.1]; exact hT, fun us E hus => ?_⟩
      rw [h1] at hus
      have := Option.some.inj hus
      injection this with e1 e2
      subst e1 e2
      refine ⟨rfl, ?_⟩
      have := same.2
      simpa using this
  · simp at hs

theorem loadH_some {t : TypeId} {cs : List AV} {off : Nat} {v : AV} (h : loadH P t cs off = some v) : noMap cs = true ∧ loadA P t cs off = some v := by
  unfold loadH at h
  cases hn : noMap cs <;> rw [hn] at h <;> simp_all

theorem storeH_some {t : TypeId} {cs cs' : List AV} {off : Nat} {v : AV} (h : storeH P t cs off v = some cs') : noMap cs = true ∧ storeA P t cs off v = some cs' := by
  unfold storeH at h
  cases hn : noMap cs <;> rw [hn] at h <;> simp_all

theorem HR.split {e : Env} : ∀ {H : Hp} {m B : List Nat} {b : Nat} {cs : List AV}, HR e H m B → H[b]? = some cs →
    ∃ r B1 B2, m[b]? = some r ∧ ObjR e cs r B1 ∧ (B1 ++ B2).Perm B ∧ ∀ (e' : Env) (cs' : List AV) (B' : List Nat), ObjR e' cs' r B' → Step e e' B2 → ∃ B'', HR e' (H.set b cs') m B'' ∧ B''.Perm (B' ++ B2)
  | [], _, _, _, _, _, h => by simp at h
  | c :: H, [], _, _, _, h, _ => h.elim
  | c :: H, r :: m, _, 0, cs, ⟨B1, B2, h1, h2, rfl⟩, hg => by
    simp at hg; subst hg
    refine ⟨r, B1, B2, rfl, h1, .rfl, fun e' cs' B' hb hs => ⟨B' ++ B2, ⟨B', B2, hb, h2.step hs, rfl⟩, .rfl⟩⟩
  | c :: H, r :: m, _, b + 1, cs, ⟨B1, B2, h1, h2, rfl⟩, hg => by
    obtain ⟨r', C1, C2, hm, hb, hp, hk⟩ := h2.split (b := b) (by simpa using hg)
    refine ⟨r', C1, B1 ++ C2, by simpa using hm, hb, ?_, fun e' cs' B' hb' hs => ?_⟩
    · refine List.Perm.trans ?_ (List.Perm.append_left B1 hp)
      rw [← List.append_assoc, ← List.append_assoc]
      exact List.Perm.append_right _ List.perm_append_comm
    · obtain ⟨B'', h3, h4⟩ := hk e' cs' B' hb' (hs.subset fun _ => List.mem_append_right _)
      refine ⟨B1 ++ B'', ⟨B1, B'', h1.step (hs.subset fun _ => List.mem_append_left _), h3, rfl⟩, ?_⟩
      refine (List.Perm.append_left B1 h4).trans ?_
      rw [← List.append_assoc, ← List.append_assoc]
      exact List.Perm.append_right _ List.perm_append_comm

end
end Go.AI

/- Calls, given what the callee does. -/
namespace Go.AI
set_option linter.unusedVariables false
set_option linter.unusedSimpArgs false

/-! ### Data are data in every environment -/

theorem CR.toD0 {e e' : Env} {a : AV} {v : Value} {B : List Nat} {x : DV} (hΦ : e'.Φ = e.Φ) (h : AC e a v B) (hx : Go.AI.toD0 a = some x) : AC e' (.d x) v [] :=
  ⟨by rw [hΦ]; exact CR.of_toD0 h hx, rfl⟩

theorem All2O.toDs {e e' : Env} (hΦ : e'.Φ = e.Φ) : ∀ {cs : List AV} {vs : List Value} {B : List Nat} {ds : List DV}, All2O (AC e) cs vs B → toDs cs = some ds → All2O (AC e') (ds.map .d) vs []
  | [], _, _, _, .nil, h => by simp [Go.AI.toDs] at h; subst h; exact .nil
  | a :: cs, _, _, _, .cons ha hr, h => by
    simp only [Go.AI.toDs] at h
    split at h
    · rename_i x xs h1 h2
      obtain rfl := Option.some.inj h
      simpa using All2O.cons (CR.toD0 hΦ ha h1) (All2O.toDs hΦ hr h2)
    · simp at h

theorem AR1.of1 {e e' : Env} (hΦ : e'.Φ = e.Φ) {a : AV} {v : Value} {B : List Nat} {x : DV} (h : AR1 e a v B) (hx : toDV1 a = some x) : AR1 e' (of1 x) v [] := by
  cases a
  case agg cs =>
    obtain ⟨vs, rfl, h⟩ := h
    simp only [toDV1] at hx
    cases hd : toDs cs with
    | none => rw [hd] at hx; simp at hx
    | some ds => rw [hd] at hx; simp at hx; subst hx; exact ⟨vs, rfl, h.toDs hΦ hd⟩
  case d y =>
    simp only [toDV1, toD0] at hx; obtain rfl := Option.some.inj hx
    have h' : AC e (.d y) v B := h
    have hc := h'.1
    have : Go.AI.of1 y = .d y := by cases hc <;> rfl
    rw [this]
    exact AR1.of_AC ⟨by rw [hΦ]; exact hc, rfl⟩
  case osl sz xs =>
    simp only [toDV1, toD0] at hx; obtain rfl := Option.some.inj hx
    exact AR1.of_AC (CR.toD0 (x := .sl sz xs) hΦ (show AC e (.osl sz xs) v B from h) rfl)
  all_goals (simp [toDV1, toD0] at hx; done)

theorem AR.ofDV {e e' : Env} {tm tm' : Array Value} (hΦ : e'.Φ = e.Φ) {a : AV} {v : Value} {B : List Nat} {x : DV} (h : AR e tm a v B) (hx : toDV a = some x) : AR e' tm' (ofDV x) v [] := by
  have fin : ∀ {a : AV}, AR1 e a v B → toDV1 a = some x → AR e' tm' (Go.AI.ofDV x) v [] := by
    intro a h' hx'
    have h2 := AR1.of1 (e' := e') hΦ h' hx'
    have hxt : ∀ ts, x ≠ .tup ts := by
      rintro ts rfl
      simp only [Go.AI.of1] at h2
      exact (nomatch (show CR e'.Φ (.tup ts) v from (show AC e' (.d (.tup ts)) v [] from h2).1))
    have : Go.AI.ofDV x = Go.AI.of1 x := by cases x <;> first | rfl | exact (hxt _ rfl).elim
    rw [this]
    exact AR.of_AR1 h2
  cases a
  case tup as =>
    obtain ⟨vs, rfl, h, _⟩ := h
    simp only [toDV] at hx
    cases hd : toDV1s as with
    | none => rw [hd] at hx; simp at hx
    | some ds =>
      rw [hd] at hx; simp at hx; subst hx
      refine ⟨vs, rfl, ?_, rfl⟩
      have : ∀ {as : List AV} {vs : List Value} {ds : List DV}, All2 (fun a v => AR1 e a v []) as vs → toDV1s as = some ds → All2 (fun a v => AR1 e' a v []) (ds.map of1) vs := by
        intro as vs ds h
        induction h generalizing ds with
        | nil => intro hd; simp [toDV1s] at hd; subst hd; exact .nil
        | cons ha _ ih =>
          intro hd
          simp only [toDV1s] at hd
          split at hd
          · rename_i x xs h1 h2
            obtain rfl := Option.some.inj hd
            exact .cons (AR1.of1 hΦ ha h1) (ih h2)
          · simp at hd
      exact this h hd
  case d y => exact fin (show AR1 e (.d y) v B from h) hx
  case osl sz xs => exact fin (show AR1 e (.osl sz xs) v B from h) hx
  case agg cs => exact fin (show AR1 e (.agg cs) v B from h) hx
  all_goals (simp [toDV, toDV1, toD0] at hx; done)

theorem AR.tm_any {e : Env} {tm tm' : Array Value} {a : AV} {v : Value} {B : List Nat} (h : AR e tm a v B) (hl : ∀ t o, a ≠ .lp t o) : AR e tm' a v B := by
  cases a
  case lp t o => exact (hl t o rfl).elim
  all_goals exact h

/-! ### Blocks that fall away -/

theorem AC.cut {e : Env} {n : Nat} {a : AV} {v : Value} {B : List Nat} (h : AC e a v B) (hb : below n a = true) : AC ⟨e.Φ, e.heap, e.μ.take n⟩ a v B := by
  cases a
  case hp b o =>
    obtain ⟨r, h1, h2⟩ := h
    simp [below] at hb
    exact ⟨r, by rw [List.getElem?_take, if_pos hb]; exact h1, h2⟩
  case mp b =>
    obtain ⟨r, h1, h2⟩ := h
    simp [below] at hb
    exact ⟨r, by rw [List.getElem?_take, if_pos hb]; exact h1, h2⟩
  case osl sz xs => exact h
  all_goals exact h

theorem All2O.cut {e : Env} {n : Nat} {cs : List AV} {vs : List Value} {B : List Nat} (h : All2O (AC e) cs vs B) (hb : cs.all (Go.AI.below n) = true) : All2O (AC ⟨e.Φ, e.heap, e.μ.take n⟩) cs vs B := by
  induction h with
  | nil => exact .nil
  | cons ha _ ih =>
    simp only [List.all_cons, Bool.and_eq_true] at hb
    exact .cons (ha.cut hb.1) (ih hb.2)

theorem AR1.cut {e : Env} {n : Nat} {a : AV} {v : Value} {B : List Nat} (h : AR1 e a v B) (hb : belowV1 n a = true) : AR1 ⟨e.Φ, e.heap, e.μ.take n⟩ a v B := by
  cases a
  case agg cs => obtain ⟨vs, hv, h⟩ := h; exact ⟨vs, hv, h.cut hb⟩
  all_goals exact AR1.of_AC (AC.cut (AR1.to_AC h (by simp)) hb)

theorem AR.cut {e : Env} {tm : Array Value} {n : Nat} {a : AV} {v : Value} {B : List Nat} (h : AR e tm a v B) (hb : belowV n a = true) : AR ⟨e.Φ, e.heap, e.μ.take n⟩ tm a v B := by
  cases a
  case tup as =>
    obtain ⟨vs, hv, h, hB⟩ := h
    simp only [belowV, List.all_eq_true] at hb
    refine ⟨vs, hv, ?_, hB⟩
    clear hv
    generalize vs.toList = us at h
    induction h with
    | nil => exact .nil
    | cons ha _ ih => exact .cons (AR1.cut ha (hb _ (by simp))) (ih fun x hx => hb x (List.mem_cons_of_mem _ hx))
  case agg cs => exact AR.of_AR1 (AR1.cut (a := .agg cs) h hb)
  case box => simp [belowV, belowV1, below] at hb
  case lp => simp [belowV, belowV1, below] at hb
  case undef => exact h
  case junk => exact h
  case d x => exact h
  case osl sz xs => exact h
  case hp b o => exact AC.cut (a := .hp b o) h hb
  case vp x => exact h
  case fn f => exact h
  case bself t => exact h
  case nilp => exact h
  case nilf => exact h
  case nilm => exact h
  case mp b => exact AC.cut (a := .mp b) h hb
  case mpb => exact h.elim
  case zsl => exact h
  case sref => exact h

theorem below_of0 {n : Nat} {a : AV} (h : below0 n a = true) : below n a = true := by
  cases a <;> simp_all [below0, below]

theorem EntR.cut {e : Env} {n : Nat} : ∀ {ks : List DV} {vs : List AV} {es : List MapEntry}, EntR e ks vs es → vs.all (fun v => v.cells.all (below0 n)) = true → EntR ⟨e.Φ, e.heap, e.μ.take n⟩ ks vs es
  | [], [], [], _, _ => trivial
  | k :: ks, v :: vs, x :: es, ⟨h1, h2, h3⟩, hb => by
    simp only [List.all_cons, Bool.and_eq_true] at hb
    refine ⟨h1, h2.cut ?_, h3.cut hb.2⟩
    have hb1 := hb.1
    cases v
    case agg cs =>
      simp only [belowV1, AV.cells, List.all_eq_true] at hb1 ⊢
      exact fun x hx => below_of0 (hb1 x hx)
    all_goals exact below_of0 (by simpa [AV.cells] using hb1)
  | [], _ :: _, _, h, _ => by cases h
  | [], [], _ :: _, h, _ => by cases h
  | _ :: _, [], _, h, _ => by cases h
  | _ :: _, _ :: _, [], h, _ => by cases h

theorem HR.cut {e : Env} {n : Nat} : ∀ {H : Hp} {m B : List Nat}, HR e H m B → H.all (fun cs => cs.all (below n)) = true → HR ⟨e.Φ, e.heap, e.μ.take n⟩ H m B
  | [], [], _, h, _ => h
  | cs :: H, r :: m, _, h, hb => by
    obtain ⟨B1, B2, ho, h4, rfl⟩ := h
    simp only [List.all_cons, Bool.and_eq_true] at hb
    rcases ho with ⟨⟨vs, el, h1, h2, B', h3, rfl⟩, htg⟩ | ⟨kd, ks, vs, rfl, es, cl, h1, h2, h3, h5, rfl⟩
    · exact ⟨_, B2, .inl ⟨⟨vs, el, h1, h2, B', h3.cut hb.1, rfl⟩, htg⟩, h4.cut hb.2, rfl⟩
    · refine ⟨_, B2, .inr ⟨kd, ks, vs, rfl, es, cl, h1, h2, h3.cut ?_, h5, rfl⟩, h4.cut hb.2, rfl⟩
      have := hb.1
      simpa [below] using this
  | [], _ :: _, _, h, _ => h.elim
  | _ :: _, [], _, h, _ => h.elim

theorem HR.take {e : Env} : ∀ {H : Hp} {m B : List Nat} (n : Nat), HR e H m B → ∃ B', HR e (H.take n) (m.take n) B' ∧ B'.Sublist B
  | [], [], _, n, h => ⟨[], by cases n <;> exact rfl, by rw [show _ = [] from h]; exact List.Sublist.refl _⟩
  | cs :: H, r :: m, _, 0, h => ⟨[], rfl, List.nil_sublist _⟩
  | cs :: H, r :: m, _, n + 1, ⟨B1, B2, h1, h2, rfl⟩ => by
    obtain ⟨B', h3, h4⟩ := h2.take n
    exact ⟨B1 ++ B', ⟨B1, B', h1, h3, rfl⟩, List.Sublist.append (List.Sublist.refl _) h4⟩
  | [], _ :: _, _, _, h => h.elim
  | _ :: _, [], _, _, h => h.elim

theorem HR.len {e : Env} : ∀ {H : Hp} {m B : List Nat}, HR e H m B → H.length = m.length
  | [], [], _, _ => rfl
  | cs :: H, r :: m, _, ⟨_, _, _, h, _⟩ => by simp [h.len]
  | [], _ :: _, _, h => h.elim
  | _ :: _, [], _, h => h.elim

/-! ### What a call does -/

def Post (w : World) (Φ : Mem) (μ BH : List Nat) (v : AV) (H : Hp) (x : Value) (w' : World) : Prop :=
  ∃ Φ' μ' BH', AR ⟨Φ', w'.heap, μ'⟩ #[] v x [] ∧ HR ⟨Φ', w'.heap, μ'⟩ H μ' BH' ∧ BH'.Nodup ∧ Inv ⟨w, Φ, BH, μ⟩ w' Φ' μ' BH'

def CallOK (P : Program) (glob : Nat → Option DV) (call : FuncId → List AV → Hp → Option (AV × Hp)) : Prop :=
  ∀ f as H v H', call f as H = some (v, H') → ∀ (w : World) (Φ : Mem) (μ BH : List Nat) (vals : List Value), WOK Φ w.heap → GOKH glob Φ w.heap BH →
    All2 (fun a x => AR1 ⟨Φ, w.heap, μ⟩ a x []) as vals → HR ⟨Φ, w.heap, μ⟩ H μ BH → BH.Nodup →
    Calls P f vals.toArray w fun e w' => ∃ x, e = .returned x ∧ Post w Φ μ BH v H' x w'

section
variable {P : Program} {E : Ent} {w : World} {Φ : Mem} {μ BF BH : List Nat} {tm : Array Value} {fr : Fr} {H : Hp} {cx : Cx}

theorem AR.not_lp_of {n : Nat} {a : AV} (h : belowV n a = true) : ∀ t o, a ≠ .lp t o := by rintro t o rfl; simp [belowV, belowV1, below] at h

theorem retA_not_lp {e : Env} {v : AV} {x : Value} (h : AR e #[] v x []) : ∀ t o, v ≠ .lp t o := by
  rintro t o rfl
  obtain ⟨r, h1, _⟩ := h
  simp at h1

theorem callA_sound (hP : CallOK P cx.glob cx.call) (hF : FR ⟨Φ, w.heap, μ⟩ tm fr BF) (hH : HR ⟨Φ, w.heap, μ⟩ H μ BH) (hN : (BF ++ BH).Nodup) (hI : Inv E w Φ μ (BF ++ BH)) (hg : GOKH cx.glob Φ w.heap (BF ++ BH))
    {f : FuncId} {as : List AV} {vals : List Value} {v : AV} {H' : Hp} {ft : Foot} (ha : All2 (fun a x => AR ⟨Φ, w.heap, μ⟩ tm a x []) as vals) (h : callA cx f as H = some (v, H', ft)) :
    Calls P f vals.toArray w fun e w' => ∃ x, e = .returned x ∧ VR E v fr H' tm x w' := by
  have hlt := own_both hF hH
  have hnd := List.nodup_append.1 hN
  unfold callA at h
  cases hiso : cx.iso f with
  | true =>
    rw [hiso, cond_true] at h
    split at h
    · rename_i ds hds
      split at h
      · rename_i v0 H0 hcall
        split at h
        · rename_i y hy
          obtain ⟨rfl, h2⟩ := Prod.mk.inj (Option.some.inj h)
          obtain ⟨rfl, rfl⟩ := Prod.mk.inj h2
          have hargs : All2 (fun a x => AR1 ⟨Φ, w.heap, []⟩ a x []) (ds.map of1) vals := by
            clear hcall h
            induction ha generalizing ds with
            | nil => simp [toDV1s] at hds; subst hds; exact .nil
            | @cons a _ _ _ ha1 _ ih =>
              simp only [toDV1s] at hds
              split at hds
              · rename_i x xs h1 h2
                obtain rfl := Option.some.inj hds
                refine .cons ?_ (ih xs h2)
                have hp : plain a = true := by
                  cases a
                  case agg cs =>
                    simp only [toDV1] at h1
                    have : ∀ {cs : List AV} {ds : List DV}, Go.AI.toDs cs = some ds → cs.all plainC = true := by
                      intro cs
                      induction cs with
                      | nil => simp
                      | cons c cs ih =>
                        intro ds hd
                        simp only [Go.AI.toDs] at hd
                        split at hd
                        · rename_i hc hcs
                          simp only [List.all_cons, Bool.and_eq_true]
                          refine ⟨?_, ih hcs⟩
                          cases c <;> first | rfl | (simp [toD0] at hc; done)
                        · simp at hd
                    cases hd : Go.AI.toDs cs with
                    | none => rw [hd] at h1; simp at h1
                    | some ds => exact this hd
                  all_goals first | rfl | (simp [toDV1, toD0] at h1; done)
                exact AR1.of1 (e := ⟨Φ, w.heap, μ⟩) (e' := ⟨Φ, w.heap, []⟩) rfl (AR.to_AR1 ha1 hp) h1
              · simp at hds
          refine (hP f _ _ _ _ hcall w Φ [] [] vals hI.wok (hg.weak (by simp)) hargs rfl List.nodup_nil).mono ?_
          rintro e w' ⟨x, rfl, Φ', μ', BH', hv, hH', hN', hI'⟩
          refine ⟨x, rfl, ?_⟩
          have hstep : ∀ B, (∀ r ∈ B, r ∈ BF ++ BH) → Step ⟨Φ, w.heap, μ⟩ ⟨Φ', w'.heap, μ⟩ B := fun B hB =>
            ⟨hI'.sub, fun _ _ h => h, fun r hr => hI'.keep r (hlt r (hB r hr)) (by simp)⟩
          refine VR.pure (hF.step (hstep _ fun r hr => List.mem_append_left _ hr)) (hH.step (hstep _ fun r hr => List.mem_append_right _ hr)) hN ?_ (AR.ofDV (e := ⟨Φ', w'.heap, μ'⟩) (e' := ⟨Φ', w'.heap, μ⟩) rfl hv hy)
          refine ⟨hI'.wok, Nat.le_trans hI.size hI'.size, hI.sub.trans hI'.sub, hI.mu, fun r hr hx => ?_, hI.own, hI.io.trans hI'.io⟩
          have h1 := hI.keep r hr hx
          have h2 := hI'.keep r (Nat.lt_of_lt_of_le hr hI.size) (by simp)
          exact ⟨by rw [h2.1]; exact h1.1, fun o => by rw [h2.2]; exact h1.2 o⟩
        · simp at h
      · simp at h
    · simp at h
  | false =>
    rw [hiso, cond_false] at h
    split at h
    · rename_i hpl
      split at h
      · rename_i v0 H0 hcall
        obtain ⟨rfl, h2⟩ := Prod.mk.inj (Option.some.inj h)
        obtain ⟨rfl, rfl⟩ := Prod.mk.inj h2
        have hargs : All2 (fun a x => AR1 ⟨Φ, w.heap, μ⟩ a x []) as vals := by
          clear hcall h
          induction ha with
          | nil => exact .nil
          | cons ha1 _ ih =>
            simp only [List.all_cons, Bool.and_eq_true] at hpl
            exact .cons (AR.to_AR1 ha1 hpl.1) (ih hpl.2)
        refine (hP f _ _ _ _ hcall w Φ μ BH vals hI.wok (hg.weak fun r hr => List.mem_append_right _ hr) hargs hH hnd.2.1).mono ?_
        rintro e w' ⟨x, rfl, Φ', μ', BH', hv, hH', hN', hI'⟩
        refine ⟨x, rfl, ?_⟩
        have hdis : ∀ r ∈ BF, r ∉ BH := fun r hr hr' => hnd.2.2 r hr r hr' rfl
        have hBH : ∀ r ∈ BH', r ∈ BH ∨ w.heap.size ≤ r := hI'.own
        -- the frame is kept, whatever the heap's blocks are called
        have hstep : ∀ m : List Nat, (∀ (b r : Nat), μ[b]? = some r → m[b]? = some r) → Step ⟨Φ, w.heap, μ⟩ ⟨Φ', w'.heap, m⟩ BF := fun m hm =>
          ⟨hI'.sub, hm, fun r hr => hI'.keep r (hF.own_lt r hr) (hdis r hr)⟩
        have hinv : ∀ (m C : List Nat), (∀ (b r : Nat), μ[b]? = some r → m[b]? = some r) → (∀ r ∈ C, r ∈ BH') → Inv E w' Φ' m (BF ++ C) := fun m C hm hC =>
          ⟨hI'.wok, Nat.le_trans hI.size hI'.size, hI.sub.trans hI'.sub, fun b r hb => hm b r (hI.mu b r hb), fun r hr hx => by
            have h1 := hI.keep r hr hx
            have hnb : r ∉ BH := fun hb => by
              rcases hI.own r (List.mem_append_right _ hb) with h | h
              · exact hx h
              · omega
            have h2 := hI'.keep r (Nat.lt_of_lt_of_le hr hI.size) hnb
            exact ⟨by rw [h2.1]; exact h1.1, fun o => by rw [h2.2]; exact h1.2 o⟩, fun r hr => by
            rcases List.mem_append.1 hr with hr | hr
            · exact hI.own r (List.mem_append_left _ hr)
            · rcases hBH r (hC r hr) with h | h
              · exact hI.own r (List.mem_append_right _ h)
              · exact .inr (Nat.le_trans hI.size h), hI.io.trans hI'.io⟩
        have hnod : ∀ C : List Nat, C.Sublist BH' → (BF ++ C).Nodup := fun C hC => by
          refine List.nodup_append.2 ⟨hnd.1, hN'.sublist hC, fun r hr r' hr' he => ?_⟩
          subst he
          rcases hBH r (hC.subset hr') with h | h
          · exact hdis r hr h
          · have := hF.own_lt r hr; simp at this; omega
        unfold gc
        split
        · rename_i hgc
          obtain ⟨hlen, hbv, hbh⟩ := hgc
          obtain ⟨C, h3, h4⟩ := hH'.take H.length
          have h5 := h3.cut (n := H.length) hbh
          have hmu : ∀ (b r : Nat), μ[b]? = some r → (μ'.take H.length)[b]? = some r := fun b r hb => by
            have hb' := (List.getElem?_eq_some_iff.1 hb).1
            rw [List.getElem?_take, if_pos (by rw [hH.len]; exact hb')]
            exact hI'.mu b r hb
          refine VR.pure (Φ := Φ') (μ := μ'.take H.length) (hF.step (hstep _ hmu)) h5 (hnod C h4) (hinv _ C hmu fun r hr => h4.subset hr) ?_
          exact (AR.cut hv hbv).tm_any (AR.not_lp_of hbv)
        · exact VR.pure (hF.step (hstep _ hI'.mu)) hH' (hnod BH' (List.Sublist.refl _)) (hinv _ BH' hI'.mu fun r hr => hr) (hv.tm_any (retA_not_lp hv))
      · simp at h
    · simp at h

end
end Go.AI

/- Maps of the shared heap. -/
namespace Go.AI
set_option linter.unusedVariables false
set_option linter.unusedSimpArgs false

def KK.fits : KK → TypeDesc → Prop
  | .str, .string => True
  | .int k, .int k' => k' = k
  | _, _ => False

theorem mapTy_some {P : Program} {t : TypeId} {kd : KK} {et : TypeId} (h : mapTy P t = some (kd, et)) : ∃ kt d, P.underlying t = some (.map kt et) ∧ P.underlying kt = some d ∧ kd.fits d := by
  unfold mapTy at h
  split at h
  · rename_i kt et' hu
    split at h
    · rename_i kd' hk
      simp only [Option.some.injEq, Prod.mk.injEq] at h
      obtain ⟨rfl, rfl⟩ := h
      unfold kkOf at hk
      split at hk
      · rename_i hd; obtain rfl := Option.some.inj hk; exact ⟨kt, _, hu, hd, trivial⟩
      · rename_i k hd; obtain rfl := Option.some.inj hk; exact ⟨kt, _, hu, hd, rfl⟩
      · simp at hk
    · simp at h
  · simp at h

theorem key_isKey {Φ : Mem} {kd : KK} {d : TypeDesc} (hf : kd.fits d) {k : DV} {kv : Value} (hh : kd.has k = true) (h : CR Φ k kv) : MapKept.IsKey d kv := by
  cases kd <;> cases d <;> simp [KK.fits] at hf <;> cases k <;> simp [KK.has] at hh <;> cases h
  · trivial
  · rename_i k1 k2 k3; subst hh; exact hf.symm ▸ rfl

theorem sameNow_key {Φ : Mem} {kd : KK} {d : TypeDesc} (hf : kd.fits d) {k k' : DV} {kv kv' : Value} (hh : kd.has k = true) (hh' : kd.has k' = true) (h : CR Φ k kv) (h' : CR Φ k' kv') :
    Instr.sameNow d kv kv' = some (eqK k k') ∧ (eqK k k' = true → kv' = kv) := by
  cases kd <;> cases d <;> simp [KK.fits] at hf <;> cases k <;> simp [KK.has] at hh <;> cases k' <;> simp [KK.has] at hh' <;> cases h <;> cases h'
  · rename_i s s' b hb b' hb'
    subst hb; subst hb'
    have hbb : (b == b') = decide (b.data.toList = b'.data.toList) := by
      by_cases he : b = b'
      · subst he; rw [(MapKept.bytes_beq b b).2 rfl]; simp
      · have h1 : (b == b') = false := by
          cases hq : b == b' with
          | false => rfl
          | true => exact absurd ((MapKept.bytes_beq b b').1 hq) he
        rw [h1]
        symm
        rw [decide_eq_false_iff_not]
        intro hd
        apply he
        obtain ⟨x⟩ := b
        obtain ⟨y⟩ := b'
        congr 1
        exact Array.ext' hd
    refine ⟨by simp only [Instr.sameNow, eqK, hbb], fun hq => ?_⟩
    simp only [eqK] at hq
    rw [← hbb] at hq
    rw [(MapKept.bytes_beq b b').1 hq]
  · rename_i k1 k2 k3 n k4 n'
    subst hh; subst hh'
    refine ⟨by simp only [Instr.sameNow, eqK, if_true]; congr 1, fun hq => ?_⟩
    simp [eqK] at hq
    rw [hq]

section
variable {P : Program} {E : Ent} {w : World} {tm : Array Value} {fr : Fr} {H : Hp} {e : Env}

def newEnt (kv y : Value) (x : MapEntry) : MapEntry := { x with key := kv, val := y }

theorem find_sound {kd : KK} {d : TypeDesc} (hf : kd.fits d) {k : DV} {kv : Value} (hk : kd.has k = true) (hkv : CR e.Φ k kv) : ∀ (ks : List DV) (vs : List AV) (es : List MapEntry) (i : Nat), EntR e ks vs es → ks.all kd.has = true →
    (findM k ks vs = none ∧ Instr.findNow d kv es i = some none ∧ ∀ v y b, AR1 e v y [] → EntR e (setK k ks) (setV k v ks vs) (es ++ [⟨kv, y, b⟩])) ∨
    ∃ v j x, findM k ks vs = some v ∧ Instr.findNow d kv es i = some (some (i + j, x.val)) ∧ es[j]? = some x ∧ AR1 e v x.val [] ∧ x.key = kv ∧
      ∀ v y, AR1 e v y [] → EntR e (setK k ks) (setV k v ks vs) (es.modify j (newEnt kv y))
  | [], [], [], i, _, _ => .inl ⟨rfl, rfl, fun v y b h => ⟨hkv, h, trivial⟩⟩
  | k' :: ks, v' :: vs, x :: es, i, ⟨h1, h2, h3⟩, ha => by
    simp only [List.all_cons, Bool.and_eq_true] at ha
    obtain ⟨hs, he⟩ := sameNow_key hf hk ha.1 hkv h1
    cases hq : eqK k k' with
    | true =>
      refine .inr ⟨v', 0, x, by simp [findM, hq], by simp [Instr.findNow, hs, hq], rfl, h2, he hq, fun v y hv => ?_⟩
      simp only [setK, setV, hq, cond_true, List.modify_zero_cons]
      exact ⟨hkv, hv, h3⟩
    | false =>
      rcases find_sound hf hk hkv ks vs es (i + 1) h3 ha.2 with ⟨a, b, c⟩ | ⟨v, j, x', a, b, c, d', e', g⟩
      · refine .inl ⟨by simp [findM, hq, a], by simp [Instr.findNow, hs, hq, b], fun v y b' hv => ?_⟩
        simp only [setK, setV, hq, cond_false]
        exact ⟨h1, h2, c v y b' hv⟩
      · refine .inr ⟨v, j + 1, x', by simp [findM, hq, a], ?_, by simpa using c, d', e', fun v y hv => ?_⟩
        · simp [Instr.findNow, hs, hq, b]; omega
        · simp only [setK, setV, hq, cond_false, List.modify_succ_cons]
          exact ⟨h1, h2, g v y hv⟩
  | [], _ :: _, _, _, h, _ => by cases h
  | [], [], _ :: _, _, h, _ => by cases h
  | _ :: _, [], _, _, h, _ => by cases h
  | _ :: _, _ :: _, [], _, h, _ => by cases h

theorem setK_has {kd : KK} {k : DV} (hk : kd.has k = true) : ∀ {ks : List DV}, ks.all kd.has = true → (setK k ks).all kd.has = true
  | [], _ => by simp [setK, hk]
  | x :: ks, h => by
    simp only [List.all_cons, Bool.and_eq_true] at h
    unfold setK
    cases eqK k x with
    | true => simp [hk, h.2]
    | false => simp only [cond_false, List.all_cons, Bool.and_eq_true]; exact ⟨h.1, setK_has hk h.2⟩

theorem AR1.dup {e : Env} {a : AV} {v : Value} {B : List Nat} (h : AR1 e a v B) : AR1 e (Go.AI.dup a) v [] := by
  cases a
  case agg cs => obtain ⟨vs, hv, h⟩ := h; exact ⟨vs, hv, h.dupC⟩
  case osl sz xs =>
    have := AC.dupC (a := .osl sz xs) h
    show AR1 e (Go.AI.dupC (.osl sz xs)) v []
    rw [dupC_osl] at this ⊢
    split at this <;> rename_i hz
    · rw [if_pos hz]; exact this
    · rw [if_neg hz]; exact this
  case d x => exact AC.dupC (e := e) (a := .d x) h
  case hp b o => exact AC.dupC (e := e) (a := .hp b o) h
  case vp x => exact AC.dupC (e := e) (a := .vp x) h
  case fn f => exact AC.dupC (e := e) (a := .fn f) h
  case nilp => exact AC.dupC (e := e) (a := .nilp) h
  case nilf => exact AC.dupC (e := e) (a := .nilf) h
  case nilm => exact AC.dupC (e := e) (a := .nilm) h
  case mp b => exact AC.dupC (e := e) (a := .mp b) h
  case zsl ik xs k => exact AC.dupC (e := e) (a := .zsl ik xs k) h
  case sref => exact AC.dupC (e := e) (a := .sref) h
  case bself t => exact AC.dupC (e := e) (a := .bself t) h
  all_goals exact h.elim

theorem zeroAV_sound {t : TypeId} {a : AV} (h : zeroAV P t = some a) : ∃ z, (zeroValue t).run P w = .ok z w ∧ ∀ e, AR1 e (dup a) z [] := by
  unfold zeroAV at h
  split at h
  · rename_i i hi
    split at h
    · rename_i cs hz
      refine ⟨_, zeroValue_run hi hz, fun e => AR1.dup (B := []) ?_⟩
      cases hoc : ofConsts cs.toList with
      | none => rw [hoc] at h; simp at h
      | some l => rw [hoc] at h; simp at h; subst h; exact ⟨cs, rfl, (All2O.ofConsts (e := e) hoc).fixCs⟩
    · rename_i z hna hz
      exact ⟨z, zeroValue_run hi hz, fun e => AR1.dup (B := []) (AR1.of_AC (AC.ofConst0 h))⟩
    · simp at h
  · simp at h

theorem ifpos {α : Type} {b : Bool} (h : b = true) {x y : α} : (bif b then x else y) = x := by rw [h]; rfl

theorem lookup_sound {t : TypeId} {kd : KK} {k : DV} {ks : List DV} {vs : List AV} {ck : Bool} {v : AV} {r : Nat} {B : List Nat} {kv : Value} (hw : w.heap = e.heap) (hm : MapR e kd ks vs r B) (hkv : CR e.Φ k kv)
    (h : lookupA P t kd k ks vs ck = some v) : ∃ x, (Instr.lookup t (.map (some r)) kv ck).run P w = .ok x w ∧ AR e tm v x [] := by
  unfold lookupA at h
  split at h
  · rename_i kd' et hty
    obtain ⟨kt, d, hu, hd, hf⟩ := mapTy_some hty
    split at h
    · rename_i hc
      obtain ⟨rfl, hk⟩ := hc
      obtain ⟨es, cl, h1, h2, h3, h4, rfl⟩ := hm
      have hkey := key_isKey hf hk hkv
      have hb : w.heap[r]? = some (.map es cl) := by rw [hw]; exact h1
      have hck := fun b => MapKept.run_checkKey (P := P) (w := w) hd hkey b 9999
      have hgo := MapKept.run_getObj_map (P := P) hb
      rcases find_sound hf hk hkv ks vs es.toList 0 h3 h4 with ⟨a, b, _⟩ | ⟨v', j, x, a, b, c, d', e', g⟩
      · rw [a] at h
        have hfk := MapKept.run_findKey (P := P) (w := w) hd b
        cases hz : zeroAV P et with
        | none => rw [hz] at h; simp at h
        | some z =>
          rw [hz] at h
          obtain rfl := Option.some.inj h
          obtain ⟨zv, hzr, hza⟩ := zeroAV_sound (w := w) hz
          cases ck with
          | true =>
            refine ⟨.tuple #[zv, .bool false], by simp [Instr.lookup, run_underlying hu, hgo, hck, hfk, hzr], #[zv, .bool false], rfl, .cons (hza e) (.cons ⟨.bool _, rfl⟩ .nil), rfl⟩
          | false => exact ⟨zv, by simp [Instr.lookup, run_underlying hu, hgo, hck, hfk, hzr], AR.of_AR1 (hza e)⟩
      · rw [a] at h
        have hfk := MapKept.run_findKey (P := P) (w := w) hd b
        obtain rfl := Option.some.inj h
        cases ck with
        | true => refine ⟨.tuple #[x.val, .bool true], by simp [Instr.lookup, run_underlying hu, hgo, hck, hfk], #[x.val, .bool true], rfl, .cons d' (.cons ⟨.bool _, rfl⟩ .nil), rfl⟩
        | false => exact ⟨x.val, by simp [Instr.lookup, run_underlying hu, hgo, hck, hfk], AR.of_AR1 d'⟩
    · simp at h
  · simp at h

/-- The world behind a map's new entry. -/
theorem setObj_world {Φ : Mem} {μ B : List Nat} {r : Nat} {ob ob' : Obj} {w' : World} (hI : Inv E w Φ μ B) (h1 : w.heap[r]? = some ob) (h2 : ∀ o, Φ r o = none) (hr : r ∈ B) (hw' : w'.heap = w.heap.setIfInBounds r ob') (hio : SameIO w w') :
    (∀ C, r ∉ C → Step ⟨Φ, w.heap, μ⟩ ⟨Φ, w'.heap, μ⟩ C) ∧ Inv E w' Φ μ B ∧ w'.heap[r]? = some ob' := by
  obtain ⟨hs, ho⟩ := MapKept.heap_set (o' := ob') h1
  refine ⟨fun C hC => ⟨Sub.refl _, fun _ _ h => h, fun q hq => ⟨by show w'.heap[q]? = _; rw [hw']; exact ho q (fun he => hC (he ▸ hq)), fun _ => rfl⟩⟩, ⟨?_, by rw [hw']; simpa using hI.size, hI.sub, hI.mu, fun q hq hx => ?_, hI.own, hI.io.trans hio⟩, by rw [hw']; exact hs⟩
  · intro q o v hv
    have hne : q ≠ r := fun he => by subst he; rw [h2 o] at hv; simp at hv
    obtain ⟨c, el', fz, h3, h4⟩ := hI.wok q o v hv
    exact ⟨c, el', fz, by rw [hw', ho q hne]; exact h3, h4⟩
  · have hne : q ≠ r := fun he => by
      subst he
      rcases hI.own q hr with h | h
      · exact hx h
      · omega
    have hk := hI.keep q hq hx
    exact ⟨by rw [hw', ho q hne]; exact hk.1, hk.2⟩

theorem mapUpdate_sound {Φ : Mem} {μ BF BH : List Nat} (hF : FR ⟨Φ, w.heap, μ⟩ tm fr BF) (hH : HR ⟨Φ, w.heap, μ⟩ H μ BH) (hN : (BF ++ BH).Nodup) (hI : Inv E w Φ μ (BF ++ BH))
    {t et : TypeId} {b : Nat} {kd : KK} {k : DV} {ks : List DV} {vs : List AV} {v : AV} {xv kv y : Value} (hx : AR ⟨Φ, w.heap, μ⟩ tm (.mp b) xv []) (hkv : CR Φ k kv) (hy : AR1 ⟨Φ, w.heap, μ⟩ v y [])
    (hg : H[b]? = some [.mpb kd ks vs]) (hty : mapTy P t = some (kd, et)) (hk : kd.has k = true) :
    ∃ w', (Instr.mapUpdate t xv kv y).run P w = .ok () w' ∧ VR E .undef fr (H.set b [.mpb kd (setK k ks) (setV k v ks vs)]) tm Go.undef w' := by
  obtain ⟨kt, d, hu, hd, hf⟩ := mapTy_some hty
  obtain ⟨r', hr', rfl, _⟩ := hx
  obtain ⟨r, B1, B2, hm, hb, hp, hup⟩ := hH.split hg
  simp only at hr'
  rw [hm] at hr'; obtain rfl := Option.some.inj hr'
  obtain ⟨es, cl, h1, h2, h3, h4, rfl⟩ := hb.map
  have hkey := key_isKey hf hk hkv
  have hgo := MapKept.run_getObj_map (P := P) h1
  have hck := MapKept.run_checkKey (P := P) (w := w) hd hkey false 9999
  have hrB : r ∈ BF ++ BH := List.mem_append_right _ (hp.subset (by simp))
  have hperm : (r :: (BF ++ B2)).Perm (BF ++ BH) := by
    have e1 : (r :: (BF ++ B2)).Perm (BF ++ (r :: B2)) := (List.perm_middle (a := r) (l₁ := BF) (l₂ := B2)).symm
    exact e1.trans (List.Perm.append_left BF hp)
  have hnd := List.nodup_cons.1 (hperm.nodup_iff.2 hN)
  have fin : ∀ {es' : Array MapEntry} {cl' : Nat} {w' : World}, w' = { w with heap := w.heap.setIfInBounds r (.map es' cl') } → EntR ⟨Φ, w.heap, μ⟩ (setK k ks) (setV k v ks vs) es'.toList →
      VR E .undef fr (H.set b [.mpb kd (setK k ks) (setV k v ks vs)]) tm Go.undef w' := by
    intro es' cl' w' hw' hent
    have hh : w'.heap = w.heap.setIfInBounds r (.map es' cl') := by rw [hw']
    obtain ⟨hstep, hinv, hnew⟩ := setObj_world (w' := w') hI h1 h2 hrB hh (by rw [hw']; exact ⟨rfl, rfl, rfl⟩)
    have hblk : ObjR ⟨Φ, w'.heap, μ⟩ [.mpb kd (setK k ks) (setV k v ks vs)] r [r] :=
      .inr ⟨kd, _, _, rfl, es', cl', hnew, h2, hent.step (hstep [] (by simp)), setK_has hk h4, rfl⟩
    obtain ⟨B'', h5, h6⟩ := hup ⟨Φ, w'.heap, μ⟩ _ _ hblk (hstep B2 fun hm => hnd.1 (by simp [hm]))
    have hp2 : (BF ++ B'').Perm (BF ++ BH) := List.Perm.append_left _ (h6.trans hp)
    exact ⟨Φ, μ, [], BF, B'', ⟨rfl, rfl⟩, hF.step (hstep BF fun hm => hnd.1 (by simp [hm])), h5, by simpa using hp2.nodup_iff.2 hN, by simpa using hinv.perm fun q hq => hp2.subset hq⟩
  rcases find_sound hf hk hkv ks vs es.toList 0 h3 h4 with ⟨a, c, g⟩ | ⟨v', j, x, a, c, hj, d', e', g⟩
  · have hfk := MapKept.run_findKey (P := P) (w := w) hd c
    refine ⟨_, by simp [Instr.mapUpdate, run_underlying hu, hgo, hck, hfk, MapKept.run_setObj_map _ h1]; rfl, fin rfl ?_⟩
    rw [Array.toList_push]
    exact g v y cl hy
  · have hfk := MapKept.run_findKey (P := P) (w := w) hd c
    have hold : ((es[j]?).map (·.key)).getD kv = kv := by
      have : es[j]? = some x := by simpa using hj
      simp [this, e']
    have hst := MapKept.run_keyThatStays (P := P) (w := w) hkey
    refine ⟨_, by simp [Instr.mapUpdate, run_underlying hu, hgo, hck, hfk, hold, hst, MapKept.run_setObj_map _ h1]; rfl, fin rfl ?_⟩
    simp only [Array.toList_modify, Nat.zero_add]
    exact g v y hy
end
end Go.AI
