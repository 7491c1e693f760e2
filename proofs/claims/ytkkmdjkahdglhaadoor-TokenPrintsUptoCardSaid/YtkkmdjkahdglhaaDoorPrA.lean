/- strings.Builder at this program: copyCheck, WriteByte, WriteString. -/
import Derived.Test.YtkkmdjkahdglhaaDoorTpShelf
import Derived.Lib.Walk
import Derived.Lib.Builder
import Derived.Lib.AppendStr
import Derived.Lib.UnsafeStr
import Derived.WalkKit
import Derived.Laws.Externs
import Derived.Laws.IdiomCopy
import Derived.BigCall
namespace Go.Proofs.PrA
open Go Go.Proofs Go.Shelf Go.RowKit
set_option linter.unusedVariables false
set_option linter.unusedSimpArgs false

theorem info43 : (Tryd.prog.info? 43).map (·.size) = some 2 := by kernel_rfl
theorem info5 : (Tryd.prog.info? 5).map (fun i => (i.zero, i.size, i.bytes)) = some (some (.int .u8 0), 1, 1) := by kernel_rfl
theorem lies43 : liesAt Tryd.prog Tryd.prog.depth 43 (2 / Tryd.prog.cellsOf 43) 0 43 1 = true := by kernel_rfl

/-- Blocks that are neither the builder nor its buffer stay. -/
def Kept (b : Nat) (w w' : World) : Prop :=
  ∀ k, k < w.heap.size → k ≠ b → (∀ p v, w.heap[b]? = some (.cells #[p, v] 43 (0, 0)) → v.ownBlock ≠ some k) → w'.heap[k]? = w.heap[k]?

/-- What a check leaves. -/
def Chk (b : Nat) (w w' : World) : Prop :=
  (∀ k, k ≠ b → w'.heap[k]? = w.heap[k]?) ∧ w'.heap.size = w.heap.size ∧ ∀ v, w'.heap[b]? = some (.cells #[.pointer (some ⟨b, 0, none⟩), v] 43 (0, 0)) → ∃ p, w.heap[b]? = some (.cells #[p, v] 43 (0, 0))

theorem setCell_other (w : World) (a : Addr) (v : Value) (k : Nat) (h : k ≠ a.block) : (w.setCell a v).heap[k]? = w.heap[k]? := by
  simp only [World.setCell, Array.getElem?_modify]
  rw [if_neg (fun e => h e.symm)]

abbrev self (b : Nat) : Value := .pointer (some ⟨b, 0, none⟩)

set_option maxHeartbeats 2000000 in
set_option maxRecDepth 100000 in
theorem check_used (b : Nat) (w : World) (h0 : w.cell? ⟨b, 0, none⟩ = some (self b)) :
    Calls Tryd.prog 24 #[self b] w fun e w' => e = .returned (.tuple #[]) ∧ w' = w := by
  obtain ⟨j, hj, _⟩ := Option.map_eq_some_iff.1 info43
  go_enter Tryd.func24, Tryd.ntmps24
  go_wp2
  rw [Lib.run_neq_ptr_same w _ Tryd.underlying41 hj]
  go_wp2
  go_end0
  exact ⟨rfl, rfl⟩

set_option maxHeartbeats 2000000 in
set_option maxRecDepth 100000 in
theorem check_fresh (b : Nat) (w : World) (h0 : w.cell? ⟨b, 0, none⟩ = some (.pointer none)) (hsh : w.shape? b = some (43, 2)) (hfz : w.frozen? ⟨b, 0, none⟩ = false) :
    Calls Tryd.prog 24 #[self b] w fun e w' => e = .returned (.tuple #[]) ∧ w' = w.setCell ⟨b, 0, none⟩ (self b) := by
  obtain ⟨j, hj, hjs⟩ := Option.map_eq_some_iff.1 info43
  go_enter Tryd.func24, Tryd.ntmps24
  go_wp2
  rw [Lib.run_to_unsafe w ⟨b, 0, none⟩ Tryd.underlying41 Tryd.underlying58 hj (by rw [hjs]; decide) hsh (Nat.zero_lt_succ 1)]
  simp only [Result.andThen]
  rw [Oper.upon_value]
  go_wp2
  rw [run_callFunc_extern Tryd.func31 (by kernel_rfl) (by kernel_rfl) (by kernel_rfl) (e := Extern.AbiNoEscape.same) (by kernel_rfl)]
  rw [Lib.run_noEscape]
  simp only [Result.andThen]
  rw [Oper.upon_value]
  go_wp2
  rw [Lib.run_from_unsafe w ⟨b, 0, none⟩ Tryd.underlying58 Tryd.underlying41 hj hsh lies43]
  simp only [Result.andThen]
  rw [Oper.upon_value]
  go_wp2
  go_end0
  exact ⟨rfl, rfl⟩

theorem check (B b : Nat) (bs : List Value) (w : World) (h : Lib.IsBuilder 43 5 B b bs w) :
    Calls Tryd.prog 24 #[self b] w fun e w' => e = .returned (.tuple #[]) ∧ (Lib.BuilderAt 43 5 B b (self b) bs w' ∧ Below B w w') ∧ Chk b w w' := by
  rcases h with h | h
  · refine (check_fresh b w h.cell0 h.shape h.frozen0).mono ?_
    rintro e w' ⟨rfl, rfl⟩
    refine ⟨rfl, ⟨h.used _, (Below.refl B w).setCell (p := ⟨b, 0, none⟩) h.1 _⟩, fun k hk => setCell_other w _ _ k hk, by simp [World.setCell], fun v hv => ?_⟩
    obtain ⟨_, u, hbk, _⟩ := h
    refine ⟨.pointer none, ?_⟩
    have : (w.setCell ⟨b, 0, none⟩ (self b)).heap[b]? = some (.cells #[self b, u] 43 (0, 0)) := by
      simp only [World.setCell, Array.getElem?_modify, if_true, hbk, Option.map_some]
      rfl
    rw [this] at hv
    have := Option.some.inj hv
    injection this with e1 e2
    have e3 : u = v := by simpa using e1
    rw [← e3]; exact hbk
  · refine (check_used b w h.cell0).mono ?_
    rintro e w' ⟨rfl, rfl⟩
    exact ⟨rfl, ⟨h, Below.refl B _⟩, fun k _ => rfl, rfl, fun v hv => ⟨_, hv⟩⟩

set_option maxHeartbeats 4000000 in
set_option maxRecDepth 100000 in
theorem writeString (B b : Nat) (bs : List Value) (s : ByteArray) (w : World) (h : Lib.IsBuilder 43 5 B b bs w) (hlen : bs.length + s.size ≤ 140737488355328) (hBw : B ≤ w.heap.size) :
    Calls Tryd.prog 18 #[self b, .string s] w fun e w' => e = .returned (.tuple #[.int .i64 s.size, .nilIface]) ∧ (Lib.BuilderAt 43 5 B b (self b) (bs ++ Lib.strCells s) w' ∧ Below B w w') ∧ Kept b w w' := by
  obtain ⟨i0, hi, hz0, hz1, hz2⟩ := info_parts info5
  go_enter Tryd.func18, Tryd.ntmps18
  go_wp2_with (go_at_call 24; refine (check B b bs _ h).mono ?_)
  rintro e w1 ⟨rfl, ⟨h1, hb1⟩, hchk⟩
  obtain ⟨hB, v, hbk, hown, hne⟩ := h1
  have c0 : w1.cell? ⟨b, 0, none⟩ = some (self b) := by rw [Lib.cell_of_heap hbk]; rfl
  have c1 : w1.cell? ⟨b, 1, none⟩ = some v := by rw [Lib.cell_of_heap hbk]; rfl
  go_wp2_with (at_builtin; refine Lib.wpList_append_own_string _ rfl _ _ 31 9 rfl B 5 i0 Tryd.underlying31 Tryd.underlying9 hi hz0 hz1 hz2 _ _ _ rfl hown s rfl ?c3 ?c4 ?c5 ?_)
  case c3 => unfold maxLen; omega
  case c4 => omega
  case c5 => have := hb1.size; omega
  intro v' w2 hown' hgrow _
  have hlt : b < w1.heap.size := by
    rcases Nat.lt_or_ge b w1.heap.size with h' | h'
    · exact h'
    · simp [Array.getElem?_eq_none h'] at hbk
  have hb2 : w2.heap[b]? = some (.cells #[self b, v] 43 (0, 0)) := by
    rw [hgrow.block b hlt (fun e => hne e.symm)]
    exact hbk
  have d0 : w2.cell? ⟨b, 0, none⟩ = some (self b) := by rw [Lib.cell_of_heap hb2]; rfl
  have d1 : w2.cell? ⟨b, 1, none⟩ = some v := by rw [Lib.cell_of_heap hb2]; rfl
  have f1 : w2.frozen? ⟨b, 1, none⟩ = false := Lib.frozen_of_heap hb2 1
  obtain ⟨ao, n', cap, rfl⟩ : ∃ ao n' cap, v' = .slice ao n' cap := by
    rcases hown'.2 with ⟨hv, _⟩ | ⟨g, cap, cur, hv, _⟩
    · exact ⟨_, _, _, hv⟩
    · exact ⟨_, _, _, hv⟩
  go_wp2
  go_ret2
  refine ⟨rfl, ⟨?_, ?_⟩, fun k hk hkb hkv => ?_⟩
  · exact Lib.BuilderAt.put (T := 43) (e := 5) hB hb2 (bs' := bs ++ Lib.strCells s) (by simpa [Lib.strCells_length] using hown') (by decide)
  · exact (hb1.grown hgrow (by have := hb1.size; omega) (fun k hk => (hown.lt k hk).1)).setCell (p := ⟨b, 1, none⟩) hB _
  · obtain ⟨hk1, hs1, hv1⟩ := hchk
    obtain ⟨p, hp⟩ := hv1 v hbk
    rw [setCell_other _ _ _ k hkb, hgrow.block k (by rw [hs1]; exact hk) (fun e => hkv p v hp e.symm), hk1 k hkb]

set_option maxHeartbeats 4000000 in
set_option maxRecDepth 100000 in
theorem writeByte (B b : Nat) (bs : List Value) (c : Int) (w : World) (h : Lib.IsBuilder 43 5 B b bs w) (hlen : bs.length + 1 ≤ 140737488355328) (hBw : B ≤ w.heap.size) :
    Calls Tryd.prog 17 #[self b, .int .u8 c] w fun e w' => e = .returned .nilIface ∧ (Lib.BuilderAt 43 5 B b (self b) (bs ++ [.int .u8 c]) w' ∧ Below B w w') ∧ Kept b w w' := by
  obtain ⟨i0, hi, hz0, hz1, hz2⟩ := info_parts info5
  go_enter Tryd.func17, Tryd.ntmps17
  go_wp2_with (go_at_call 24; refine (check B b bs _ h).mono ?_)
  rintro e w1 ⟨rfl, ⟨h1, hb1⟩, hchk⟩
  obtain ⟨hB, v, hbk, hown, hne⟩ := h1
  have c0 : w1.cell? ⟨b, 0, none⟩ = some (self b) := by rw [Lib.cell_of_heap hbk]; rfl
  have c1 : w1.cell? ⟨b, 1, none⟩ = some v := by rw [Lib.cell_of_heap hbk]; rfl
  go_wp2_with (at_builtin; refine wpList_append_own _ rfl _ _ 31 rfl B 5 i0 (.int .u8 0) 1 1 Tryd.underlying31 hi hz0 hz1 hz2 rfl (by decide) _ _ _ rfl (hown.alloc _) ⟨w1.heap.size, 0, none⟩ 1 1 [.int .u8 c] rfl rfl ?c1 ?c2 ?c3 ?c4 ?c5 ?_)
  case c1 =>
    intro j u hj
    match j, hj with
    | 0, hj => simp at hj; subst hj; simp [Addr.add]
  case c2 => intro u hu; simp at hu; subst hu; rfl
  case c3 => unfold maxLen; omega
  case c4 => omega
  case c5 => have := hb1.size; simp; omega
  intro v' w2 hown' hgrow _
  have hlt : b < w1.heap.size := by
    rcases Nat.lt_or_ge b w1.heap.size with h' | h'
    · exact h'
    · simp [Array.getElem?_eq_none h'] at hbk
  have hb2 : w2.heap[b]? = some (.cells #[self b, v] 43 (0, 0)) := by
    rw [hgrow.block b (by simp; omega) (fun e => hne e.symm), Lib.alloc_old w1 _ b hlt]
    exact hbk
  have d0 : w2.cell? ⟨b, 0, none⟩ = some (self b) := by rw [Lib.cell_of_heap hb2]; rfl
  have d1 : w2.cell? ⟨b, 1, none⟩ = some v := by rw [Lib.cell_of_heap hb2]; rfl
  have f1 : w2.frozen? ⟨b, 1, none⟩ = false := Lib.frozen_of_heap hb2 1
  obtain ⟨g, cap, rfl⟩ : ∃ g cap, v' = .slice (some ⟨g, 0, none⟩) (bs.length + 1) cap := by
    rcases hown'.2 with ⟨_, h0⟩ | ⟨g, cap, cur, hv, _⟩
    · omega
    · exact ⟨g, cap, hv⟩
  go_wp2
  go_ret
  refine ⟨rfl, ⟨?_, ?_⟩, fun k hk hkb hkv => ?_⟩
  · exact Lib.BuilderAt.put (T := 43) (e := 5) hB hb2 (bs' := bs ++ [.int .u8 c]) (by simpa using hown') (by decide)
  · exact ((hb1.alloc (by have := hb1.size; omega) _).grown hgrow (by have := hb1.size; simp; omega) (fun k hk => (hown.lt k hk).1)).setCell (p := ⟨b, 1, none⟩) hB _
  · obtain ⟨hk1, hs1, hv1⟩ := hchk
    obtain ⟨p, hp⟩ := hv1 v hbk
    rw [setCell_other _ _ _ k hkb, hgrow.block k (by simp; omega) (fun e => hkv p v hp e.symm), Lib.alloc_old w1 _ k (by rw [hs1]; exact hk), hk1 k hkb]
end Go.Proofs.PrA

/- token.Print, walked. -/
namespace Go.Proofs.PrA
open Go Go.Proofs Go.Shelf Go.RowKit
set_option linter.unusedVariables false
set_option linter.unusedSimpArgs false

structure Tk where
  kind : Int
  text : ByteArray
  value : Int
  off : Int

theorem AI_dropCons {α : Type} {l : List α} {n : Nat} {v : α} (h : l[n]? = some v) : l.drop n = v :: l.drop (n + 1) := by
  have hl := (List.getElem?_eq_some_iff.1 h).1
  rw [List.drop_eq_getElem_cons hl]; congr 1; exact (List.getElem?_eq_some_iff.1 h).2

theorem at_alloc {B b : Nat} {p : Value} {bs : List Value} {w : World} (h : Lib.BuilderAt 43 5 B b p bs w) (o : Obj) : Lib.BuilderAt 43 5 B b p bs (w.alloc o) := by
  have hlt := h.lt
  obtain ⟨hB, v, hbk, hown, hne⟩ := h
  exact ⟨hB, v, by rw [Lib.alloc_old w o b hlt]; exact hbk, hown.alloc _, hne⟩
theorem isB_alloc {B b : Nat} {bs : List Value} {w : World} (h : Lib.IsBuilder 43 5 B b bs w) (o : Obj) : Lib.IsBuilder 43 5 B b bs (w.alloc o) :=
  h.elim (fun h => .inl (at_alloc h o)) (fun h => .inr (at_alloc h o))

theorem kept_t {B b : Nat} {bs : List Value} {wr W1 : World} {o : Obj} (h : Lib.IsBuilder 43 5 B b bs wr) (k : Kept b (wr.alloc o) W1) : W1.heap[wr.heap.size]? = some o := by
  have hlt : b < wr.heap.size := h.elim (fun h => h.lt) (fun h => h.lt)
  rw [k wr.heap.size (by simp) (by omega) ?_]
  · show (wr.heap.push o)[wr.heap.size]? = some o
    simp
  · intro p v hv ho
    rw [Lib.alloc_old wr o b hlt] at hv
    have : ∃ p v, wr.heap[b]? = some (.cells #[p, v] 43 (0, 0)) ∧ ∀ k, v.ownBlock = some k → k < wr.heap.size := by
      rcases h with ⟨_, v, h1, h2, _⟩ | ⟨_, v, h1, h2, _⟩ <;> exact ⟨_, v, h1, fun k hk => (h2.lt k hk).2⟩
    obtain ⟨p', v', h1, h2⟩ := this
    rw [h1] at hv
    have := Option.some.inj hv
    injection this with e1 e2
    have e3 : p' = p ∧ v' = v := by simpa using e1
    rw [← e3.2] at ho
    exact absurd (h2 _ ho) (by omega)

theorem size_data (b : ByteArray) : b.data.toList.length = b.size := by cases b; rfl
theorem strCells_eq (b : ByteArray) : Lib.strCells b = Lib.byteCells b.data.toList := rfl
theorem grow_old (w : World) (k : Nat) (os : Array Obj) (b : Nat) (h : b < w.heap.size) : (Go.Sort.grow (w.drewN k) os).heap[b]? = w.heap[b]? := by
  show (w.heap ++ os)[b]? = w.heap[b]?
  rw [Array.getElem?_append_left h]
theorem below_grow {w w' : World} (h : Below w.heap.size w w') (k : Nat) (os : Array Obj) : Below w.heap.size w (Go.Sort.grow (w'.drewN k) os) :=
  h.trans ⟨rfl, rfl, rfl, by show w'.heap.size ≤ (w'.heap ++ os).size; simp, fun j hj => grow_old w' k os j (Nat.lt_of_lt_of_le hj h.size)⟩
theorem isB_grow {B b : Nat} {bs : List Value} {w : World} (h : Lib.IsBuilder 43 5 B b bs w) (k : Nat) (os : Array Obj) : Lib.IsBuilder 43 5 B b bs (Go.Sort.grow (w.drewN k) os) := by
  have key : ∀ p, Lib.BuilderAt 43 5 B b p bs w → Lib.BuilderAt 43 5 B b p bs (Go.Sort.grow (w.drewN k) os) := by
    intro p h
    have hlt := h.lt
    obtain ⟨hB, v, hbk, hown, hne⟩ := h
    refine ⟨hB, v, by rw [grow_old w k os b hlt]; exact hbk, ?_, hne⟩
    exact hown.kept (row := none) ⟨rfl, rfl, rfl, by simp [Go.Sort.grow, World.drewN], fun j hj _ => grow_old w k os j hj⟩ (by cases v.ownBlock with | none => exact .inl rfl | some x => exact .inr (by simp))
  exact h.elim (fun h => .inl (key _ h)) (fun h => .inr (key _ h))

/-- A token's text. -/
def one (t : Tk) : List UInt8 := if t.kind = 1 ∨ t.kind = 3 then t.text.data.toList else if t.kind = 2 then Lib.itoa (max t.value 0) else []
/-- The text of the tokens from place i on. -/
def rest : Nat → List Tk → List UInt8
  | _, [] => []
  | i, t :: r => (if 0 < i then [32] else []) ++ one t ++ rest (i + 1) r

set_option maxHeartbeats 8000000 in
set_option maxRecDepth 1000000 in
theorem print_walk (l : List Tk) (a : Addr) (cap : Nat) (w : World)
    (hlen : (rest 0 l).length ≤ 140737488355328) (hl : (l.length : Int) ≤ 9223372036854775807)
    (hw : ∀ wr, Below w.heap.size w wr → ∀ i t, l[i]? = some t → (wr.cell? (a.add (i * 4)) = some (.int .i64 t.kind) ∧ wr.cell? { block := (a.add (i * 4)).block, off := (a.add (i * 4)).off + 1 } = some (.string t.text) ∧ wr.cell? { block := (a.add (i * 4)).block, off := (a.add (i * 4)).off + 2 } = some (.int .i64 t.value) ∧ wr.cell? { block := (a.add (i * 4)).block, off := (a.add (i * 4)).off + 3 } = some (.int .i64 t.off)))
    (hv : ∀ t ∈ l, -9223372036854775808 ≤ t.value ∧ t.value ≤ 9223372036854775807)
    (htab : ∀ wr, Below w.heap.size w wr → Lib.TabIs Tryd.prog wr "internal/strconv.uint64pow10" .u64 Lib.pow10Tab) :
    Calls Tryd.prog 9 #[.slice (some a) l.length cap] w fun e w' => e = .returned (.string ⟨(rest 0 l).toArray⟩) ∧ Below w.heap.size w w' := by
  go_enter Tryd.func9, Tryd.ntmps9
  go_wp2
  go_loopw [8] (fun v wr => ∃ (i : Nat) (acc : List UInt8), i ≤ l.length ∧ v = .int .i64 (i : Int) ∧ Lib.IsBuilder 43 5 w.heap.size w.heap.size (Lib.byteCells acc) wr ∧ Below w.heap.size w wr ∧ acc ++ rest i (l.drop i) = rest 0 l) (fun v _ => l.length - (RowKit.intOf v).toNat)
  case atStart =>
    exact ⟨0, [], by omega, rfl, Lib.fresh_isBuilder 43 5 w, (Below.refl _ w).alloc (Nat.le_refl _) _, by simp⟩
  case round =>
    obtain ⟨i, acc, hi, rfl, hI, hbw, hacc⟩ := hrel
    by_cases hp : i < l.length
    · obtain ⟨t, ht⟩ : ∃ t, l[i]? = some t := ⟨l[i], List.getElem?_eq_getElem hp⟩
      obtain ⟨q0, q1, q2, q3⟩ := hw wr hbw i t ht
      have hsz := hbw.size
      have hilt : (i : Int) < l.length := by omega
      have hcells : Tryd.prog.cellsOf 38 = 4 := by kernel_rfl
      have hbyt : (Lib.byteCells acc).length = acc.length := Lib.byteCells_length _
      have hrest : rest i (l.drop i) = (if 0 < i then [32] else []) ++ one t ++ rest (i + 1) (l.drop (i + 1)) := by
        rw [show l.drop i = t :: l.drop (i + 1) from AI_dropCons ht]; rfl
      have hal := congrArg List.length hacc
      rw [hrest] at hal
      simp only [List.length_append] at hal
      have hI1 := isB_alloc hI (.cells #[.int .i64 t.kind, .string t.text, .int .i64 t.value, .int .i64 t.off] 38)
      have hbw1 : Below w.heap.size w (wr.alloc (.cells #[.int .i64 t.kind, .string t.text, .int .i64 t.value, .int .i64 t.off] 38)) := hbw.alloc hsz _
      have hvt := hv t (List.mem_of_getElem? ht)
      clear ht hw hv
      obtain ⟨tk, tt, tv, to⟩ := t
      dsimp only at hvt hI1 hbw1 q0 q1 q2 q3
      have hB1 : w.heap.size ≤ (wr.alloc (.cells #[.int .i64 tk, .string tt, .int .i64 tv, .int .i64 to] 38)).heap.size := hbw1.size
      by_cases h0 : 0 < i
      · have h0' : (0 : Int) < i := by omega
        rw [if_pos h0] at hal hrest
        simp only [List.length_cons, List.length_nil] at hal
        have hb : (Lib.byteCells acc).length + 1 ≤ 140737488355328 := by rw [hbyt]; omega
        by_cases k1 : tk = 1
        · subst k1
          have hone : one ⟨1, tt, tv, to⟩ = tt.data.toList := by simp [one]
          rw [hone] at hal hrest
          go_wp2_with (go_at_call 17; refine (writeByte w.heap.size w.heap.size _ 32 _ hI1 hb hB1).mono ?_)
          rintro e W1 ⟨rfl, ⟨h1, b1⟩, kp⟩
          have hblk := kept_t hI kp
          have hc0 : W1.cell? ⟨wr.heap.size, 0, none⟩ = some (.int .i64 1) := by rw [Lib.cell_of_heap hblk]; rfl
          have hc1 : W1.cell? ⟨wr.heap.size, 1, none⟩ = some (.string tt) := by rw [Lib.cell_of_heap hblk]; rfl
          have hc2 : W1.cell? ⟨wr.heap.size, 2, none⟩ = some (.int .i64 tv) := by rw [Lib.cell_of_heap hblk]; rfl
          have hI2 : Lib.IsBuilder 43 5 w.heap.size w.heap.size (Lib.byteCells (acc ++ [32])) W1 := by rw [Lib.byteCells_append]; exact Or.inr h1
          have hbw2 : Below w.heap.size w W1 := hbw1.trans b1
          have hlA : (Lib.byteCells (acc ++ [32])).length = acc.length + 1 := by rw [Lib.byteCells_length]; simp
          have hbs : (Lib.byteCells (acc ++ [32])).length + tt.size ≤ 140737488355328 := by rw [hlA, ← size_data tt]; omega
          go_wp2_with (go_at_call 18; refine (writeString w.heap.size w.heap.size _ tt _ hI2 hbs hbw2.size).mono ?_)
          rintro e W2 ⟨rfl, ⟨h2, b2⟩, _⟩
          go_wp2
          go_roundw
          case rel =>
            refine ⟨i + 1, (acc ++ [32]) ++ tt.data.toList, by omega, by simp, ?_, hbw2.trans b2, ?_⟩
            · rw [Lib.byteCells_append, ← strCells_eq]; exact Or.inr h2
            · rw [← hacc, hrest]; simp
          case measure => simp [RowKit.intOf]; omega
        by_cases k3 : tk = 3
        · subst k3
          have hone : one ⟨3, tt, tv, to⟩ = tt.data.toList := by simp [one]
          rw [hone] at hal hrest
          go_wp2_with (go_at_call 17; refine (writeByte w.heap.size w.heap.size _ 32 _ hI1 hb hB1).mono ?_)
          rintro e W1 ⟨rfl, ⟨h1, b1⟩, kp⟩
          have hblk := kept_t hI kp
          have hc0 : W1.cell? ⟨wr.heap.size, 0, none⟩ = some (.int .i64 3) := by rw [Lib.cell_of_heap hblk]; rfl
          have hc1 : W1.cell? ⟨wr.heap.size, 1, none⟩ = some (.string tt) := by rw [Lib.cell_of_heap hblk]; rfl
          have hc2 : W1.cell? ⟨wr.heap.size, 2, none⟩ = some (.int .i64 tv) := by rw [Lib.cell_of_heap hblk]; rfl
          have hI2 : Lib.IsBuilder 43 5 w.heap.size w.heap.size (Lib.byteCells (acc ++ [32])) W1 := by rw [Lib.byteCells_append]; exact Or.inr h1
          have hbw2 : Below w.heap.size w W1 := hbw1.trans b1
          have hlA : (Lib.byteCells (acc ++ [32])).length = acc.length + 1 := by rw [Lib.byteCells_length]; simp
          have hbs : (Lib.byteCells (acc ++ [32])).length + tt.size ≤ 140737488355328 := by rw [hlA, ← size_data tt]; omega
          go_wp2_with (go_at_call 18; refine (writeString w.heap.size w.heap.size _ tt _ hI2 hbs hbw2.size).mono ?_)
          rintro e W2 ⟨rfl, ⟨h2, b2⟩, _⟩
          go_wp2
          go_roundw
          case rel =>
            refine ⟨i + 1, (acc ++ [32]) ++ tt.data.toList, by omega, by simp, ?_, hbw2.trans b2, ?_⟩
            · rw [Lib.byteCells_append, ← strCells_eq]; exact Or.inr h2
            · rw [← hacc, hrest]; simp
          case measure => simp [RowKit.intOf]; omega
        by_cases k2 : tk = 2
        · subst k2
          have hone : one ⟨2, tt, tv, to⟩ = Lib.itoa (max tv 0) := by simp [one]
          rw [hone] at hal hrest
          go_wp2_with (go_at_call 17; refine (writeByte w.heap.size w.heap.size _ 32 _ hI1 hb hB1).mono ?_)
          rintro e W1 ⟨rfl, ⟨h1, b1⟩, kp⟩
          have hblk := kept_t hI kp
          have hc0 : W1.cell? ⟨wr.heap.size, 0, none⟩ = some (.int .i64 2) := by rw [Lib.cell_of_heap hblk]; rfl
          have hc1 : W1.cell? ⟨wr.heap.size, 1, none⟩ = some (.string tt) := by rw [Lib.cell_of_heap hblk]; rfl
          have hc2 : W1.cell? ⟨wr.heap.size, 2, none⟩ = some (.int .i64 tv) := by rw [Lib.cell_of_heap hblk]; rfl
          have hI2 : Lib.IsBuilder 43 5 w.heap.size w.heap.size (Lib.byteCells (acc ++ [32])) W1 := by rw [Lib.byteCells_append]; exact Or.inr h1
          have hbw2 : Below w.heap.size w W1 := hbw1.trans b1
          have hlA : (Lib.byteCells (acc ++ [32])).length = acc.length + 1 := by rw [Lib.byteCells_length]; simp
          have hbs : (Lib.byteCells (acc ++ [32])).length + (ByteArray.mk (Lib.itoa (max tv 0)).toArray).size ≤ 140737488355328 := by rw [hlA, ← size_data]; simp; omega
          have hm0 : -9223372036854775808 ≤ max tv 0 := by omega
          have hm1 : max tv 0 ≤ 9223372036854775807 := by omega
          go_wp2_with (go_at_call 19; refine (Tryd.strconv_Itoa (max tv 0) hm0 hm1 _ (htab _ hbw2)).mono ?_)
          rintro e W3 ⟨rfl, kk, os, rfl⟩
          have hI3 := isB_grow hI2 kk os
          have hbw3 : Below w.heap.size w (Go.Sort.grow (World.drewN W1 kk) os) := below_grow hbw2 kk os
          go_wp2_with (go_at_call 18; refine (writeString w.heap.size w.heap.size _ ⟨(Lib.itoa (max tv 0)).toArray⟩ _ hI3 hbs hbw3.size).mono ?_)
          rintro e W2 ⟨rfl, ⟨h2, b2⟩, _⟩
          go_wp2
          go_roundw
          case rel =>
            refine ⟨i + 1, (acc ++ [32]) ++ Lib.itoa (max tv 0), by omega, by simp, ?_, hbw3.trans b2, ?_⟩
            · rw [Lib.byteCells_append]; have := strCells_eq ⟨(Lib.itoa (max tv 0)).toArray⟩; simp only [List.toList_toArray] at this; rw [← this]; exact Or.inr h2
            · rw [← hacc, hrest]; simp
          case measure => simp [RowKit.intOf]; omega
        have hone : one ⟨tk, tt, tv, to⟩ = [] := by simp [one, k1, k2, k3]
        rw [hone] at hal hrest
        go_wp2_with (go_at_call 17; refine (writeByte w.heap.size w.heap.size _ 32 _ hI1 hb hB1).mono ?_)
        rintro e W1 ⟨rfl, ⟨h1, b1⟩, kp⟩
        have hblk := kept_t hI kp
        have hc0 : W1.cell? ⟨wr.heap.size, 0, none⟩ = some (.int .i64 tk) := by rw [Lib.cell_of_heap hblk]; rfl
        have hc1 : W1.cell? ⟨wr.heap.size, 1, none⟩ = some (.string tt) := by rw [Lib.cell_of_heap hblk]; rfl
        have hc2 : W1.cell? ⟨wr.heap.size, 2, none⟩ = some (.int .i64 tv) := by rw [Lib.cell_of_heap hblk]; rfl
        have hI2 : Lib.IsBuilder 43 5 w.heap.size w.heap.size (Lib.byteCells (acc ++ [32])) W1 := by rw [Lib.byteCells_append]; exact Or.inr h1
        have hbw2 : Below w.heap.size w W1 := hbw1.trans b1
        have hlA : (Lib.byteCells (acc ++ [32])).length = acc.length + 1 := by rw [Lib.byteCells_length]; simp
        go_wp2
        go_roundw
        case rel =>
          refine ⟨i + 1, (acc ++ [32]), by omega, by simp, hI2, hbw2, ?_⟩
          · rw [← hacc, hrest]; simp
        case measure => simp [RowKit.intOf]; omega
      · obtain rfl : i = 0 := by omega
        have ea : a.add (0 * 4) = a := by simp [Addr.add]
        rw [ea] at q0 q1 q2 q3
        rw [if_neg h0] at hal hrest
        clear h0
        simp only [List.length_nil] at hal
        by_cases k1 : tk = 1
        · subst k1
          have hone : one ⟨1, tt, tv, to⟩ = tt.data.toList := by simp [one]
          rw [hone] at hal hrest
          have hI2 := hI1
          have hbw2 := hbw1
          have hlA : (Lib.byteCells acc).length = acc.length := hbyt
          have hbs : (Lib.byteCells acc).length + tt.size ≤ 140737488355328 := by rw [hlA, ← size_data tt]; omega
          go_wp2_with (go_at_call 18; refine (writeString w.heap.size w.heap.size _ tt _ hI2 hbs hbw2.size).mono ?_)
          rintro e W2 ⟨rfl, ⟨h2, b2⟩, _⟩
          go_wp2
          go_roundw
          case rel =>
            refine ⟨0 + 1, acc ++ tt.data.toList, by omega, by simp, ?_, hbw2.trans b2, ?_⟩
            · rw [Lib.byteCells_append, ← strCells_eq]; exact Or.inr h2
            · rw [← hacc, hrest]; simp
          case measure => simp [RowKit.intOf]; omega
        by_cases k3 : tk = 3
        · subst k3
          have hone : one ⟨3, tt, tv, to⟩ = tt.data.toList := by simp [one]
          rw [hone] at hal hrest
          have hI2 := hI1
          have hbw2 := hbw1
          have hlA : (Lib.byteCells acc).length = acc.length := hbyt
          have hbs : (Lib.byteCells acc).length + tt.size ≤ 140737488355328 := by rw [hlA, ← size_data tt]; omega
          go_wp2_with (go_at_call 18; refine (writeString w.heap.size w.heap.size _ tt _ hI2 hbs hbw2.size).mono ?_)
          rintro e W2 ⟨rfl, ⟨h2, b2⟩, _⟩
          go_wp2
          go_roundw
          case rel =>
            refine ⟨0 + 1, acc ++ tt.data.toList, by omega, by simp, ?_, hbw2.trans b2, ?_⟩
            · rw [Lib.byteCells_append, ← strCells_eq]; exact Or.inr h2
            · rw [← hacc, hrest]; simp
          case measure => simp [RowKit.intOf]; omega
        by_cases k2 : tk = 2
        · subst k2
          have hone : one ⟨2, tt, tv, to⟩ = Lib.itoa (max tv 0) := by simp [one]
          rw [hone] at hal hrest
          have hI2 := hI1
          have hbw2 := hbw1
          have hlA : (Lib.byteCells acc).length = acc.length := hbyt
          have hbs : (Lib.byteCells acc).length + (ByteArray.mk (Lib.itoa (max tv 0)).toArray).size ≤ 140737488355328 := by rw [hlA, ← size_data]; simp; omega
          have hm0 : -9223372036854775808 ≤ max tv 0 := by omega
          have hm1 : max tv 0 ≤ 9223372036854775807 := by omega
          go_wp2_with (go_at_call 19; refine (Tryd.strconv_Itoa (max tv 0) hm0 hm1 _ (htab _ hbw2)).mono ?_)
          rintro e W3 ⟨rfl, kk, os, rfl⟩
          have hI3 := isB_grow hI2 kk os
          have hbw3 : Below w.heap.size w (Go.Sort.grow (World.drewN (wr.alloc (.cells #[.int .i64 2, .string tt, .int .i64 tv, .int .i64 to] 38)) kk) os) := below_grow hbw2 kk os
          go_wp2_with (go_at_call 18; refine (writeString w.heap.size w.heap.size _ ⟨(Lib.itoa (max tv 0)).toArray⟩ _ hI3 hbs hbw3.size).mono ?_)
          rintro e W2 ⟨rfl, ⟨h2, b2⟩, _⟩
          go_wp2
          go_roundw
          case rel =>
            refine ⟨0 + 1, acc ++ Lib.itoa (max tv 0), by omega, by simp, ?_, hbw3.trans b2, ?_⟩
            · rw [Lib.byteCells_append]; have := strCells_eq ⟨(Lib.itoa (max tv 0)).toArray⟩; simp only [List.toList_toArray] at this; rw [← this]; exact Or.inr h2
            · rw [← hacc, hrest]; simp
          case measure => simp [RowKit.intOf]; omega
        have hone : one ⟨tk, tt, tv, to⟩ = [] := by simp [one, k1, k2, k3]
        rw [hone] at hal hrest
        have hI2 := hI1
        have hbw2 := hbw1
        have hlA : (Lib.byteCells acc).length = acc.length := hbyt
        go_wp2
        go_roundw
        case rel =>
          refine ⟨0 + 1, acc, by omega, by simp, hI2, hbw2, ?_⟩
          · rw [← hacc, hrest]; simp
        case measure => simp [RowKit.intOf]; omega
    · have hil : i = l.length := by omega
      subst hil
      rw [List.drop_eq_nil_of_le (Nat.le_refl _)] at hacc
      have hacc' : acc = rest 0 l := by rw [← hacc]; simp [rest]
      clear hw hv hacc
      have hsz := hbw.size
      go_wp2_with (go_at_call 20; refine (Tryd.Builder_String_any w.heap.size w.heap.size acc _ hI hsz).mono ?_)
      rintro e W1 ⟨rfl, b1⟩
      go_wp2
      go_ret
      exact ⟨rfl, hbw.trans b1⟩

set_option maxHeartbeats 8000000 in
set_option maxRecDepth 1000000 in
theorem print_nil (w : World) : Calls Tryd.prog 9 #[.slice none 0 0] w fun e w' => e = .returned (.string ⟨#[]⟩) ∧ Below w.heap.size w w' := by
  go_enter Tryd.func9, Tryd.ntmps9
  go_wp2
  go_loopw [8] (fun v wr => v = .int .i64 0 ∧ Lib.IsBuilder 43 5 w.heap.size w.heap.size (Lib.byteCells []) wr ∧ Below w.heap.size w wr) (fun v _ => 0 - (RowKit.intOf v).toNat)
  case atStart =>
    exact ⟨rfl, Lib.fresh_isBuilder 43 5 w, (Below.refl _ w).alloc (Nat.le_refl _) _⟩
  case round =>
    obtain ⟨rfl, hI, hbw⟩ := hrel
    have hsz := hbw.size
    go_wp2_with (go_at_call 20; refine (Tryd.Builder_String_any w.heap.size w.heap.size [] _ hI hsz).mono ?_)
    rintro e W1 ⟨rfl, b1⟩
    go_wp2
    go_ret
    exact ⟨rfl, hbw.trans b1⟩
end Go.Proofs.PrA
