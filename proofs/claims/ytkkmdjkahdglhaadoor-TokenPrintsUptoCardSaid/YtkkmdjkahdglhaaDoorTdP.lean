/- token.Print, in sum. -/
import Derived.Test.YtkkmdjkahdglhaaDoorTdE
import Derived.Test.YtkkmdjkahdglhaaDoorPrA
import Derived.FnData
namespace Go.AI.TD
open Go Go.Proofs
set_option maxRecDepth 10000
set_option linter.unusedVariables false
set_option linter.unusedSimpArgs false

/-- A token's printed text. -/
def prT (t : Tok) : List UInt8 := if t.kind = 1 ∨ t.kind = 3 then t.text else if t.kind = 2 then Lib.itoa (max t.value 0) else []
def prR : Nat → List Tok → List UInt8
  | _, [] => []
  | i, t :: r => (if 0 < i then [32] else []) ++ prT t ++ prR (i + 1) r
/-- The text of tokens. -/
def prS (l : List Tok) : List UInt8 := prR 0 l
def inR (t : Tok) : Bool := decide (-9223372036854775808 ≤ t.value ∧ t.value ≤ 9223372036854775807)

def printT : FT
  | [.d (.sl 4 xs)], [] => .opt (unL unTok xs) fun l => .br (decide ((l.length : Int) ≤ 100000 ∧ ((prS l).length : Int) ≤ 70368744177664) && l.all inR) (.leaf (.d (.str (prS l)), [])) .fail
  | _, _ => .fail

def toTk (t : Tok) : PrA.Tk := ⟨t.kind, ⟨t.text.toArray⟩, t.value, t.pos⟩
theorem one_eq (t : Tok) : PrA.one (toTk t) = prT t := rfl
theorem rest_eq : ∀ (l : List Tok) (i : Nat), PrA.rest i (l.map toTk) = prR i l
  | [], _ => rfl
  | t :: r, i => by
    show (if 0 < i then [32] else []) ++ PrA.one (toTk t) ++ PrA.rest (i + 1) (r.map toTk) = _
    rw [rest_eq r (i + 1), one_eq]; rfl

theorem gp : Tryd.prog.globalNamed "internal/strconv.uint64pow10" = some 0 := by kernel_rfl

/-- What the laid variable gives the library. -/
theorem tab_of {Φ : Mem} {w : World} {X : List Nat} (hw : WOK Φ w.heap) (hg : GOKH gl Φ w.heap X) : Lib.TabIs Tryd.prog w "internal/strconv.uint64pow10" .u64 Lib.pow10Tab := by
  have h1 : gl 0 = some (.agg (Lib.pow10Tab.map fun n => .int .u64 n)) := rfl
  obtain ⟨_, hp⟩ := hg.1 0 _ h1
  obtain ⟨_, c, el, fz, h2, h3⟩ := hg.2 0 _ h1
  have h3' : c.size = 20 := h3
  unfold Lib.TabIs
  simp only [World.var?, gp, Option.bind_some, h2]
  congr 1
  refine Array.ext (by rw [h3']; rfl) fun i hi _ => ?_
  have hi20 : i < 20 := by rw [h3'] at hi; exact hi
  have hx : ((Lib.pow10Tab.map fun n => DV.int .u64 n))[i]? = some (.int .u64 (Lib.pow10Tab[i]'(by simpa [Lib.pow10Tab] using hi20))) := by
    rw [List.getElem?_map, List.getElem?_eq_getElem]; rfl
  obtain ⟨v, h4, h5⟩ := hp i _ hx
  simp only [Nat.zero_add] at h4
  obtain ⟨c', el', fz', h6, h7⟩ := hw 0 i v h4
  rw [h2] at h6
  have := Option.some.inj h6
  injection this with e1 e2 e3
  subst e1
  have h8 : c[i]? = some c[i] := Array.getElem?_eq_getElem hi
  rw [h8] at h7
  obtain rfl := Option.some.inj h7
  generalize c[i] = v at h5
  cases h5
  simp

theorem ok_print : FnOK Tryd.prog gl 9 printT := by
  refine ⟨⟨_, Tryd.func9, rfl⟩, fun ar H v H' h w Φ μ BH vals hwok hgl ha hH hN => ?_⟩
  unfold printT at h
  split at h
  · rename_i xs
    obtain ⟨l, hl, h⟩ := Tr.opt_some h
    rcases Tr.br_some h with ⟨h1, h2⟩ | ⟨_, h2⟩
    · obtain ⟨rfl, rfl⟩ := Prod.mk.inj (Tr.leaf_some h2)
      simp only [Bool.and_eq_true, decide_eq_true_eq] at h1
      obtain ⟨⟨h3, h4⟩, h5⟩ := h1
      have hx := unL_inv unTok_ok hl
      have fin : ∀ {s : ByteArray} {e : Ending} {w' : World}, s.data.toList = prS l → (e = .returned (.string s) ∧ RowKit.Below w.heap.size w w') → ∃ x, e = .returned x ∧ Post w Φ μ BH (.d (.str (prS l))) [] x w' := by
        rintro s e w' hs ⟨rfl, hb⟩
        have hμ : μ = [] := by
          cases μ with
          | nil => rfl
          | cons => exact hH.elim
        subst hμ
        have hBH : BH = [] := hH
        subst hBH
        refine ⟨_, rfl, Φ, [], [], ⟨.str _ _ hs, rfl⟩, rfl, List.nodup_nil, ?_, hb.size, Sub.refl _, fun b r hb => by simp at hb, fun r hr _ => ⟨hb.block r hr, fun _ => rfl⟩, fun r hr => by simp at hr, ⟨hb.os, hb.tape, hb.output⟩⟩
        intro r o v hv
        obtain ⟨c, el, fz, h6, h7⟩ := hwok r o v hv
        exact ⟨c, el, fz, by rw [hb.block r (Array.getElem?_eq_some_iff.1 h6).1]; exact h6, h7⟩
      cases ha with
      | cons hv hr =>
        cases hr
        rename_i vx
        obtain ⟨hcr, _⟩ := hv
        rcases hcr.sl_inv with ⟨rfl, rfl⟩ | ⟨a, cap, rfl, hcap, hsl⟩
        · have hl0 : l = [] := by
            have : unL unTok [] = some l := hl
            simp [unL] at this; exact this
          refine (PrA.print_nil w).mono fun e w' he => fin ?_ he
          rw [hl0]; rfl
        · have hlen : xs.length = (l.map toTk).length := by rw [hx]; simp
          rw [hlen]
          refine (PrA.print_walk (l.map toTk) a cap w ?_ ?_ ?_ ?_ ?_).mono fun e w' he => fin ?_ he
          · rw [rest_eq]; show (prS l).length ≤ _; omega
          · simp; omega
          · intro wr hb i t ht
            rw [List.getElem?_map] at ht
            cases hli : l[i]? with
            | none => rw [hli] at ht; cases ht
            | some t0 =>
              rw [hli] at ht
              obtain rfl := Option.some.inj ht
              have hxi : xs[i]? = some (encTok t0) := by rw [hx, List.getElem?_map, hli]; rfl
              obtain ⟨_, hc⟩ := hsl.2 i _ hxi
              have rd : ∀ (j : Nat) (y : DV) (u : Value), (encTok t0).cells[j]? = some y → (∀ u', CR Φ y u' → u' = u) → wr.cell? { block := a.block, off := a.off + i * 4 + j } = some u := by
                intro j y u hj hu
                obtain ⟨u', h6, h7⟩ := hc j y hj
                obtain ⟨c, el, fz, h8, h9⟩ := hwok _ _ _ h6
                have hlt := (Array.getElem?_eq_some_iff.1 h8).1
                have h10 : wr.heap[a.block]? = some (.cells c el fz) := by rw [hb.block _ hlt]; exact h8
                rw [← hu u' h7, Lib.cell_of_heap h10]
                exact h9
              have hsp := hsl.1
              have ha4 : a.add (i * 4) = { block := a.block, off := a.off + i * 4 } := add_eq hsp _
              rw [ha4]
              refine ⟨?_, ?_, ?_, ?_⟩
              · exact rd 0 (.int .i64 t0.kind) _ rfl (by rintro _ ⟨⟩; rfl)
              · exact rd 1 (.str t0.text) _ rfl (by
                  intro u' hu
                  cases hu with
                  | str _ b hb2 =>
                    cases b with
                    | mk d => exact congrArg (fun z => Value.string ⟨z⟩) (by rw [← hb2]))
              · exact rd 2 (.int .i64 t0.value) _ rfl (by rintro _ ⟨⟩; rfl)
              · exact rd 3 (.int .i64 t0.pos) _ rfl (by rintro _ ⟨⟩; rfl)
          · intro t ht
            obtain ⟨t0, h6, rfl⟩ := List.mem_map.1 ht
            have := List.all_eq_true.1 h5 t0 h6
            simp only [inR, decide_eq_true_eq] at this
            exact this
          · intro wr hb
            refine tab_of (Φ := Φ) (X := []) ?_ ?_
            · intro r o v hv
              obtain ⟨c, el, fz, h6, h7⟩ := hwok r o v hv
              exact ⟨c, el, fz, by rw [hb.block r (Array.getElem?_eq_some_iff.1 h6).1]; exact h6, h7⟩
            · refine ⟨hgl.1, fun g x hx => ⟨by simp, ?_⟩⟩
              obtain ⟨_, c, el, fz, h6, h7⟩ := hgl.2 g x hx
              exact ⟨c, el, fz, by rw [hb.block g (Array.getElem?_eq_some_iff.1 h6).1]; exact h6, h7⟩
          · show (PrA.rest 0 (l.map toTk)).toArray.toList = prS l
            rw [rest_eq]; rfl
    · exact Tr.fail_some h2
  · exact Tr.fail_some h
end Go.AI.TD

/- Tokens and their texts, plainly. -/
namespace Go.AI.TD
open Go Go.Proofs
set_option maxRecDepth 10000
set_option linter.unusedVariables false
set_option linter.unusedSimpArgs false

/-! ### Numbers -/

def dec (n : Nat) : List UInt8 := if h : n = 0 then [] else dec (n / 10) ++ [UInt8.ofNat (48 + n % 10)]
termination_by n
decreasing_by omega
theorem dec_zero : dec 0 = [] := by rw [dec]; rfl
theorem dec_pos {n : Nat} (h : n ≠ 0) : dec n = dec (n / 10) ++ [UInt8.ofNat (48 + n % 10)] := by rw [dec, dif_neg h]
theorem dec_lib : ∀ (n : Nat), n ≠ 0 → Lib.decDigits n = dec n := by
  intro n
  induction n using Nat.strongRecOn with
  | _ n ih =>
    intro h
    by_cases h10 : n < 10
    · rw [Lib.decDigits_one h10, dec_pos h, show n / 10 = 0 by omega, dec_zero, show n % 10 = n by omega]; rfl
    · rw [Lib.decDigits, dif_neg h10, dec_pos h, ih (n / 10) (by omega) (by omega)]
theorem accum_app : ∀ (l : List UInt8) (v : Int) (b : UInt8), accum v (l ++ [b]) = (accum v l).bind fun u => if (9223372036854775807 - ((b.toNat : Int) - 48)) / 10 < u then none else some (u * 10 + ((b.toNat : Int) - 48))
  | [], v, b => by simp [accum]
  | c :: l, v, b => by
    simp only [List.cons_append, accum]
    split
    · rfl
    · exact accum_app l _ b
theorem snoc_ind {P : List UInt8 → Prop} (h0 : P []) (h1 : ∀ l b, P l → P (l ++ [b])) (l : List UInt8) : P l := by
  have : ∀ n (l : List UInt8), l.length = n → P l := by
    intro n
    induction n with
    | zero => intro l hl; rw [List.length_eq_zero_iff.1 hl]; exact h0
    | succ n ih =>
      intro l hl
      have hne : l ≠ [] := by intro h; rw [h] at hl; simp at hl
      obtain ⟨l', b, rfl⟩ : ∃ l' b, l = l' ++ [b] := ⟨l.dropLast, l.getLast hne, (List.dropLast_concat_getLast hne).symm⟩
      exact h1 _ _ (ih _ (by simpa using hl))
  exact this _ l rfl
/-- Digits without a zero ahead are their number's. -/
theorem dec_of_accum (p : List UInt8) : p.all isDig = true → p.head? ≠ some 48 → ∀ v, accum 0 p = some v → 0 ≤ v ∧ dec v.toNat = p ∧ (p ≠ [] → v ≠ 0) := by
  induction p using snoc_ind with
  | h0 => intro _ _ v h; simp [accum] at h; subst h; exact ⟨by omega, dec_zero, by simp⟩
  | h1 l b ih =>
    intro hd hh v hv
    rw [List.all_append, Bool.and_eq_true] at hd
    have hb : isDig b = true := by simpa using hd.2
    have hbi := dig_in hb
    rw [accum_app] at hv
    cases hl : accum 0 l with
    | none => rw [hl] at hv; simp at hv
    | some u =>
      rw [hl] at hv
      simp only [Option.bind_some] at hv
      split at hv
      · cases hv
      · obtain rfl := Option.some.inj hv
        have hhl : l.head? ≠ some 48 := by
          cases l with
          | nil => simp
          | cons c r => simpa using hh
        obtain ⟨h1, h2, h3⟩ := ih hd.1 hhl u hl
        obtain ⟨u, rfl⟩ := Int.eq_ofNat_of_zero_le h1
        have hz : ((u : Int) * 10 + ((b.toNat : Int) - 48)) ≠ 0 := by
          by_cases hln : l = []
          · subst hln
            intro he
            have : b.toNat = 48 := by omega
            exact hh (by simp; exact UInt8.toNat_inj.1 (by rw [this]; rfl))
          · have := h3 hln; omega
        refine ⟨by omega, ?_, fun _ => hz⟩
        have e1 : ((u : Int) * 10 + ((b.toNat : Int) - 48)).toNat = u * 10 + (b.toNat - 48) := by omega
        rw [e1, dec_pos (by omega), show (u * 10 + (b.toNat - 48)) / 10 = u by omega, show (u * 10 + (b.toNat - 48)) % 10 = b.toNat - 48 by omega]
        rw [show dec u = l from by simpa using h2]
        congr 2
        rw [show 48 + (b.toNat - 48) = b.toNat by omega]
        simp

theorem itoa_of {p : List UInt8} {v : Int} (hd : p.all isDig = true) (hne : p ≠ []) (hh : p.head? = some 48 → p = [48]) (hv : accum 0 p = some v) : Lib.itoa (max v 0) = p ∧ 0 ≤ v := by
  by_cases h48 : p.head? = some 48
  · rw [hh h48] at hv ⊢
    have : v = 0 := by simp [accum] at hv; omega
    subst this
    exact ⟨by decide +kernel, by omega⟩
  · obtain ⟨h1, h2, h3⟩ := dec_of_accum p hd h48 v hv
    have hz := h3 hne
    refine ⟨?_, h1⟩
    unfold Lib.itoa
    rw [if_neg (by omega), show (max v 0).toNat = v.toNat by omega, dec_lib _ (by omega), h2]

theorem accum_le : ∀ (p : List UInt8) (u v : Int), p.all isDig = true → 0 ≤ u → u ≤ 9223372036854775807 → accum u p = some v → v ≤ 9223372036854775807
  | [], u, v, _, _, h, hv => by simp [accum] at hv; omega
  | b :: p, u, v, hd, h0, h, hv => by
    simp only [List.all_cons, Bool.and_eq_true] at hd
    have hb := dig_in hd.1
    simp only [accum] at hv
    split at hv
    · cases hv
    · exact accum_le p _ v hd.2 (by omega) (by omega) hv

/-! ### One token, whatever comes behind it -/

/-- A byte that ends every token. -/
def safeB (b : UInt8) : Bool := !isWord b && !decide (b = 61) && !decide (b = 38) && !decide (b = 124)

/-- What may come behind a token that was read ahead of h. -/
def Fits (h : Option UInt8) (q : List UInt8) : Prop := q = [] ∨ q.head? = h ∨ ∃ b, q.head? = some b ∧ safeB b = true

theorem pre_take {p : UInt8 → Bool} : ∀ (s : List UInt8), (s.take (pre p s)).all p = true ∧ ∀ b, (s.drop (pre p s)).head? = some b → p b = false
  | [] => ⟨rfl, by simp [pre]⟩
  | c :: r => by
    cases h : p c with
    | false => rw [pre_no h]; exact ⟨rfl, fun b hb => by simp at hb; subst hb; exact h⟩
    | true =>
      rw [pre_yes h]
      have := pre_take (p := p) r
      rw [List.take_succ_cons, List.drop_succ_cons]
      exact ⟨by simp [h, this.1], this.2⟩
theorem pre_app {p : UInt8 → Bool} : ∀ {l q : List UInt8}, l.all p = true → (∀ b, q.head? = some b → p b = false) → pre p (l ++ q) = l.length
  | [], [], _, _ => rfl
  | [], b :: q, _, h => by rw [List.nil_append, pre_no (h b rfl)]; rfl
  | c :: l, q, h, hq => by
    simp only [List.all_cons, Bool.and_eq_true] at h
    rw [List.cons_append, pre_yes h.1, pre_app h.2 hq, List.length_cons]

theorem fits_not {p : UInt8 → Bool} {h : Option UInt8} {q : List UInt8} (hf : Fits h q) (hh : ∀ b, h = some b → p b = false) (hs : ∀ b, safeB b = true → p b = false) : ∀ b, q.head? = some b → p b = false := by
  intro b hb
  rcases hf with rfl | h1 | ⟨b', h1, h2⟩
  · cases hb
  · exact hh b (by rw [← h1]; exact hb)
  · rw [h1] at hb
    obtain rfl := Option.some.inj hb
    exact hs _ h2
theorem safe_word {b : UInt8} (h : safeB b = true) : isWord b = false := by simp [safeB] at h; exact h.1.1.1
theorem word_dig {b : UInt8} (h : isWord b = false) : isDig b = false := by simp [isWord] at h; exact h.2

theorem one_let {c : UInt8} {r : List UInt8} (hl : isLet c = true) (he : (oneRes (c :: r)).er = 0) : pre isWord (c :: r) ≤ 16 ∧ oneRes (c :: r) = ⟨1, (c :: r).take (pre isWord (c :: r)), 0, pre isWord (c :: r), 0⟩ := by
  simp only [oneRes, hl, if_true] at he ⊢
  by_cases hn : 16 < pre isWord (c :: r)
  · rw [if_pos hn] at he; simp at he
  · rw [if_neg hn]; exact ⟨by omega, rfl⟩
theorem one_dig {c : UInt8} {r : List UInt8} (hl : isLet c = false) (hd : isDig c = true) (he : (oneRes (c :: r)).er = 0) :
    ∃ v, accum 0 ((c :: r).take (numLen (c :: r))) = some v ∧ wordAt (c :: r) (numLen (c :: r)) = false ∧ oneRes (c :: r) = ⟨2, [], v, numLen (c :: r), 0⟩ := by
  simp only [oneRes, hl, hd, if_true, Bool.false_eq_true, if_false] at he ⊢
  unfold numRes at he ⊢
  by_cases hw : wordAt (c :: r) (numLen (c :: r)) = true
  · rw [if_pos hw] at he; simp at he
  · rw [if_neg hw] at he ⊢
    cases ha : accum 0 ((c :: r).take (numLen (c :: r))) with
    | none => rw [ha] at he; simp at he
    | some v => exact ⟨v, rfl, by simpa using hw, rfl⟩
theorem one_sign {c : UInt8} {r : List UInt8} (hl : isLet c = false) (hd : isDig c = false) (he : (oneRes (c :: r)).er = 0) :
    signLen (c :: r) ≠ 0 ∧ oneRes (c :: r) = ⟨3, (c :: r).take (signLen (c :: r)).toNat, 0, signLen (c :: r), 0⟩ := by
  simp only [oneRes, hl, hd, Bool.false_eq_true, if_false] at he ⊢
  by_cases h0 : signLen (c :: r) = 0
  · rw [if_pos h0] at he; simp at he
  · rw [if_neg h0]; exact ⟨h0, rfl⟩

theorem b61 {b : UInt8} (h : ¬ b = 61) : ¬ (b.toNat : Int) = 61 := fun e => h (UInt8.toNat_inj.1 (by show b.toNat = 61; omega))

/-- What a token's text is, and that it is read again. -/
structure Stable (s : List UInt8) (t : TR) : Prop where
  text : prT ⟨t.kd, t.tx, t.vl, 0⟩ = s.take t.ln.toNat
  range : -9223372036854775808 ≤ t.vl ∧ t.vl ≤ 9223372036854775807
  again : ∀ q, Fits ((s.drop t.ln.toNat).head?) q → oneRes (s.take t.ln.toNat ++ q) = t

theorem one_stable {c : UInt8} {r : List UInt8} (he : (oneRes (c :: r)).er = 0) : Stable (c :: r) (oneRes (c :: r)) := by
  cases hl : isLet c with
  | true =>
    obtain ⟨hn, e⟩ := one_let hl he
    have hp := pre_take (p := isWord) (c :: r)
    have h1 := pre_yes (s := r) (isWord_of_let hl)
    have hle := pre_le isWord (c :: r)
    have hlen : ((c :: r).take (pre isWord (c :: r))).length = pre isWord (c :: r) := by rw [List.length_take]; omega
    rw [e]
    refine ⟨by simp [prT], by simp, fun q hq => ?_⟩
    simp only [Int.toNat_natCast] at hq ⊢
    have hpre := pre_app hp.1 (fits_not hq hp.2 fun b => safe_word)
    rw [hlen] at hpre
    have hw : (c :: r).take (pre isWord (c :: r)) = c :: r.take (pre isWord r) := by rw [h1, List.take_succ_cons]
    have htk : ((c :: r).take (pre isWord (c :: r)) ++ q).take (pre isWord (c :: r)) = (c :: r).take (pre isWord (c :: r)) := by
      rw [List.take_append_of_le_length (by omega), List.take_of_length_le (by omega)]
    generalize pre isWord (c :: r) = n at *
    rw [hw] at hpre htk ⊢
    rw [List.cons_append] at hpre htk ⊢
    simp only [oneRes, hl, if_true, hpre, if_neg (show ¬ 16 < n by omega), htk]
  | false =>
    cases hd : isDig c with
    | true =>
      obtain ⟨v, ha, hw, e⟩ := one_dig hl hd he
      have hn := lead_le (s := c :: r) (by simp)
      have h1 : 1 ≤ numLen (c :: r) := by unfold numLen; omega
      have hdg := take_digs rfl hd (s := c :: r)
      have hlen : ((c :: r).take (numLen (c :: r))).length = numLen (c :: r) := by rw [List.length_take]; omega
      have hcons : (c :: r).take (numLen (c :: r)) = c :: r.take (lead (c :: r) r) := by unfold numLen; rw [Nat.add_comm 1, List.take_succ_cons]; rfl
      have hhead : ((c :: r).take (numLen (c :: r))).head? = some 48 → (c :: r).take (numLen (c :: r)) = [48] := by
        intro h
        rw [hcons] at h ⊢
        simp at h
        subst h
        simp [lead]
      have hi := itoa_of hdg (by rw [hcons]; simp) hhead ha
      have hv := accum_le _ 0 v hdg (by omega) (by omega) ha
      rw [e]
      refine ⟨by simp [prT, hi.1], ⟨by dsimp only; omega, hv⟩, fun q hq => ?_⟩
      simp only [Int.toNat_natCast] at hq ⊢
      have hq' : ∀ b, q.head? = some b → isWord b = false := by
        refine fits_not hq ?_ fun b => safe_word
        intro b hb
        have : (c :: r)[numLen (c :: r)]? = some b := by rw [← hb, List.head?_drop]
        simpa [wordAt, this] using hw
      have hnl : numLen ((c :: r).take (numLen (c :: r)) ++ q) = numLen (c :: r) := by
        have hgen : lead (c :: (r.take (lead (c :: r) r) ++ q)) (r.take (lead (c :: r) r) ++ q) = lead (c :: r) r := by
          unfold lead
          by_cases h48 : (c :: r).head? = some 48
          · have : (c :: (r.take (if (c :: r).head? = some 48 then 0 else pre isDig r) ++ q)).head? = some 48 := by simpa using h48
            rw [if_pos h48] at this ⊢
            rw [if_pos (by simpa using h48)]
          · rw [if_neg h48, if_neg (by simpa using h48)]
            rw [pre_app (pre_take (p := isDig) r).1 (fun b hb => word_dig (hq' b hb)), List.length_take]
            have := pre_le isDig r
            omega
        rw [hcons]
        show 1 + lead (c :: (r.take (lead (c :: r) r) ++ q)) (r.take (lead (c :: r) r) ++ q) = 1 + lead (c :: r) r
        rw [hgen]
      have hwa : wordAt ((c :: r).take (numLen (c :: r)) ++ q) (numLen (c :: r)) = false := by
        unfold wordAt
        rw [List.getElem?_append_right (by omega), hlen, Nat.sub_self]
        cases q with
        | nil => rfl
        | cons b q => exact hq' b rfl
      have htk : ((c :: r).take (numLen (c :: r)) ++ q).take (numLen (c :: r)) = (c :: r).take (numLen (c :: r)) := by
        rw [List.take_append_of_le_length (by omega), List.take_of_length_le (by omega)]
      generalize numLen (c :: r) = n at *
      have ho : oneRes ((c :: r).take n ++ q) = numRes ((c :: r).take n ++ q) := by
        rw [hcons, List.cons_append]; simp only [oneRes, hl, hd, Bool.false_eq_true, if_false, if_true]
      rw [ho]
      unfold numRes
      rw [hnl, hwa, htk, ha]; rfl
    | false =>
      obtain ⟨h0, e⟩ := one_sign hl hd he
      have hle := signLen_le c r
      rw [e]
      refine ⟨by simp [prT], by simp, fun q hq => ?_⟩
      dsimp only at hq ⊢
      have hcn := c.toNat_lt
      cases r with
      | nil =>
        have h1 : signLen [c] = 1 := by simp at hle; omega
        rw [h1] at hq ⊢
        have hs : signLen (c :: q) = 1 := by
          cases q with
          | nil => exact h1
          | cons b q =>
            have hb : safeB b = true := by
              rcases hq with h | h | ⟨b', h2, h3⟩
              · cases h
              · simp at h
              · simp at h2; subst h2; exact h3
            simp only [safeB, Bool.and_eq_true, Bool.not_eq_true', decide_eq_false_iff_not] at hb
            have n1 : ¬ (b.toNat : Int) = 61 := b61 hb.1.1.2
            simp only [signLen, second, signI] at h1 ⊢
            revert h1
            repeat' split
            all_goals (intro h1; first | rfl | omega)
        show oneRes (c :: q) = _
        simp only [oneRes, hl, hd, Bool.false_eq_true, if_false, hs]
        simp
      | cons d r =>
        by_cases h2 : signLen (c :: d :: r) = 2
        · rw [h2] at hq ⊢
          have hs : signLen (c :: d :: q) = 2 := by simpa only [signLen, second] using h2
          show oneRes (c :: d :: q) = _
          simp only [oneRes, hl, hd, Bool.false_eq_true, if_false, hs]
          simp
        · have h1 : signLen (c :: d :: r) = 1 := by
            simp only [signLen, second, signI] at h0 h2 ⊢
            revert h0 h2
            repeat' split
            all_goals (intro h0 h2; omega)
          rw [h1] at hq ⊢
          have hs : signLen (c :: q) = 1 := by
            cases q with
            | nil =>
              simp only [signLen, second, signI] at h1 ⊢
              revert h1
              repeat' split
              all_goals (intro h1; first | rfl | omega)
            | cons b q =>
              rcases hq with h | h | ⟨b', h3, h4⟩
              · cases h
              · simp at h; subst h; simpa only [signLen, second] using h1
              · simp at h3; subst h3
                simp only [safeB, Bool.and_eq_true, Bool.not_eq_true', decide_eq_false_iff_not] at h4
                have n1 : ¬ (b.toNat : Int) = 61 := b61 h4.1.1.2
                simp only [signLen, second, signI] at h1 ⊢
                revert h1
                repeat' split
                all_goals (intro h1; first | rfl | omega)
          show oneRes (c :: q) = _
          simp only [oneRes, hl, hd, Bool.false_eq_true, if_false, hs]
          simp
end Go.AI.TD

/- What a scan gives, plainly: places, cuts, and texts that are read again. -/
namespace Go.AI.TD
open Go Go.Proofs
set_option maxRecDepth 10000
set_option linter.unusedVariables false
set_option linter.unusedSimpArgs false

theorem prT_pos (t : Tok) (p : Int) : prT ⟨t.kind, t.text, t.value, p⟩ = prT t := rfl

/-- Tokens that lie in a text, one behind the other. -/
def Chain (s : List UInt8) : Int → List Tok → Prop
  | _, [] => True
  | i, t :: r => i ≤ t.pos ∧ t.pos + (prT t).length ≤ s.length ∧ prT t ≠ [] ∧ (s.drop t.pos.toNat).take (prT t).length = prT t ∧ inR t = true ∧ Chain s (t.pos + (prT t).length) r

theorem Chain.mono {s : List UInt8} {i j : Int} {l : List Tok} (h : Chain s i l) (hij : j ≤ i) : Chain s j l := by
  cases l with
  | nil => trivial
  | cons t r => exact ⟨by have := h.1; omega, h.2⟩

theorem take_ln {c : UInt8} {r : List UInt8} (he : (oneRes (c :: r)).er = 0) : (prT ⟨(oneRes (c :: r)).kd, (oneRes (c :: r)).tx, (oneRes (c :: r)).vl, 0⟩).length = (oneRes (c :: r)).ln.toNat ∧ ((oneRes (c :: r)).ln.toNat : Int) = (oneRes (c :: r)).ln ∧ 1 ≤ (oneRes (c :: r)).ln.toNat ∧ (oneRes (c :: r)).ln.toNat ≤ (c :: r).length := by
  have h1 := (one_stable he).text
  have h2 := one_len c r he
  rw [h1, List.length_take]
  omega

theorem scanF_chain : ∀ (k : Nat) (s : List UInt8) (i : Nat) (s0 : List UInt8), s0.drop i = s → i + s.length ≤ s0.length → s.length < k → (scanF k s i).2.2 = 0 → Chain s0 i (scanF k s i).1
  | 0, s, i, s0, _, _, h, _ => absurd h (by omega)
  | k + 1, [], i, s0, _, _, _, _ => trivial
  | k + 1, c :: r, i, s0, hd, hl, hk, he => by
    simp only [List.length_cons] at hl hk
    have hdr : ∀ n, s0.drop (i + n) = (c :: r).drop n := fun n => by rw [← hd, List.drop_drop]
    cases hb : isBlank c with
    | true =>
      rw [scanF_blank hb] at he ⊢
      exact (scanF_chain k r (i + 1) s0 (by rw [hdr 1]; rfl) (by omega) (by omega) he).mono (by omega)
    | false =>
      by_cases h1 : (c.toNat : Int) = 35
      · rw [scanF_note hb h1] at he ⊢
        have h3 : pre notNl (c :: r) ≤ (c :: r).length := pre_le _ _
        have h4 : 1 ≤ pre notNl (c :: r) := by rw [pre_yes (by simp [notNl, h1])]; omega
        simp only [List.length_cons] at h3
        refine (scanF_chain k ((c :: r).drop (pre notNl (c :: r))) (i + pre notNl (c :: r)) s0 (hdr _) ?_ ?_ (by exact_mod_cast he)).mono (by omega)
        · rw [List.length_drop, List.length_cons]; omega
        · rw [List.length_drop, List.length_cons]; omega
      · by_cases h2 : (oneRes (c :: r)).er = 0
        · rw [scanF_tok hb h1 h2] at he ⊢
          obtain ⟨g1, g2, g3, g4⟩ := take_ln h2
          have hs := one_stable h2
          simp only [List.length_cons] at g4
          have hi : (i : Int) + (oneRes (c :: r)).ln = ((i + (oneRes (c :: r)).ln.toNat : Nat) : Int) := by omega
          rw [hi] at he ⊢
          refine ⟨by simp, ?_, ?_, ?_, ?_, ?_⟩
          · rw [prT_pos ⟨_, _, _, 0⟩ i, g1]; dsimp only; omega
          · rw [prT_pos ⟨_, _, _, 0⟩ i, hs.text]
            intro h
            have := congrArg List.length h
            rw [List.length_take] at this
            simp only [List.length_cons, List.length_nil] at this
            omega
          · rw [prT_pos ⟨_, _, _, 0⟩ i, g1, hs.text]
            dsimp only
            rw [Int.toNat_natCast, hd]
          · simpa [inR] using hs.range
          · rw [prT_pos ⟨_, _, _, 0⟩ i, g1]
            dsimp only
            have := scanF_chain k ((c :: r).drop (oneRes (c :: r)).ln.toNat) (i + (oneRes (c :: r)).ln.toNat) s0 (hdr _) (by rw [List.length_drop, List.length_cons]; omega) (by rw [List.length_drop, List.length_cons]; omega) he
            exact this.mono (by omega)
        · rw [scanF_err hb h1 h2] at he; exact absurd he h2

theorem scan_ok {s : List UInt8} (h : (scan s).2.2 = 0) : (s.length : Int) ≤ 4096 ∧ (scanF (s.length + 1) s 0).2.2 = 0 ∧ scan s = ((scanF (s.length + 1) s 0).1, 0, 0) := by
  unfold scan at h ⊢
  by_cases hl : 4096 < (s.length : Int)
  · rw [if_pos hl] at h; simp at h
  · rw [if_neg hl] at h ⊢
    by_cases he : (scanF (s.length + 1) s 0).2.2 = 0
    · rw [if_pos he]; exact ⟨by omega, he, rfl⟩
    · rw [if_neg he] at h; exact absurd h he
theorem scan_chain {s : List UInt8} (h : (scan s).2.2 = 0) : Chain s 0 (scan s).1 := by
  obtain ⟨_, h1, h2⟩ := scan_ok h
  rw [h2]
  exact scanF_chain (s.length + 1) s 0 s rfl (by omega) (by omega) h1

/-! ### Cuts -/

/-- The text up to a token's place, or behind it, has the tokens ahead. -/
theorem scanF_cut : ∀ (k : Nat) (s : List UInt8) (i : Nat), s.length < k → (scanF k s i).2.2 = 0 → ∀ (n : Nat) (t : Tok), (scanF k s i).1[n]? = some t →
    (i : Int) ≤ t.pos ∧ (∀ k', (t.pos - i).toNat < k' → scanF k' (s.take (t.pos - i).toNat) i = ((scanF k s i).1.take n, 0, 0)) ∧
    (∀ k', (t.pos - i).toNat + (prT t).length < k' → scanF k' (s.take ((t.pos - i).toNat + (prT t).length)) i = ((scanF k s i).1.take (n + 1), 0, 0))
  | 0, s, i, h, _, _, _, _ => absurd h (by omega)
  | k + 1, [], i, _, _, n, t, ht => by simp [scanF] at ht
  | k + 1, c :: r, i, hk, he, n, t, ht => by
    simp only [List.length_cons] at hk
    cases hb : isBlank c with
    | true =>
      rw [scanF_blank hb] at he ht ⊢
      have ih := scanF_cut k r (i + 1) (by omega) (by exact_mod_cast he) n t (by exact_mod_cast ht)
      obtain ⟨h1, h2, h3⟩ := ih
      have e : (t.pos - (i : Int)).toNat = (t.pos - ((i + 1 : Nat) : Int)).toNat + 1 := by omega
      refine ⟨by omega, fun k' hk' => ?_, fun k' hk' => ?_⟩
      · rw [e] at hk' ⊢
        obtain ⟨k'', rfl⟩ : ∃ x, k' = x + 1 := ⟨k' - 1, by omega⟩
        rw [List.take_succ_cons, scanF_blank hb]
        exact_mod_cast h2 k'' (by omega)
      · rw [e] at hk' ⊢
        obtain ⟨k'', rfl⟩ : ∃ x, k' = x + 1 := ⟨k' - 1, by omega⟩
        rw [Nat.add_right_comm, List.take_succ_cons, scanF_blank hb]
        exact_mod_cast h3 k'' (by omega)
    | false =>
      by_cases h1 : (c.toNat : Int) = 35
      · rw [scanF_note hb h1] at he ht ⊢
        have h3 : pre notNl (c :: r) ≤ (c :: r).length := pre_le _ _
        have h4 : 1 ≤ pre notNl (c :: r) := by rw [pre_yes (by simp [notNl, h1])]; omega
        have hp := pre_take (p := notNl) (c :: r)
        simp only [List.length_cons] at h3
        generalize hm : pre notNl (c :: r) = m at *
        have hlen : ((c :: r).drop m).length = r.length + 1 - m := by rw [List.length_drop, List.length_cons]
        obtain ⟨g1, g2, g3⟩ := scanF_cut k ((c :: r).drop m) (i + m) (by omega) (by exact_mod_cast he) n t (by exact_mod_cast ht)
        have e : (t.pos - (i : Int)).toNat = m + (t.pos - ((i + m : Nat) : Int)).toNat := by omega
        have key : ∀ a k', m + a < k' → scanF k' ((c :: r).take (m + a)) i = scanF (k' - 1) (((c :: r).drop m).take a) ((i + m : Nat) : Int) := by
          intro a k' hk'
          obtain ⟨k'', rfl⟩ : ∃ x, k' = x + 1 := ⟨k' - 1, by omega⟩
          have ht : (c :: r).take (m + a) = (c :: r).take m ++ ((c :: r).drop m).take a := by
            rw [List.take_add]
          have hcm : (c :: r).take (m + a) = c :: r.take (m + a - 1) := by
            obtain ⟨x, hx⟩ : ∃ x, m + a = x + 1 := ⟨m + a - 1, by omega⟩
            rw [hx, List.take_succ_cons]; rfl
          have hpre : pre notNl ((c :: r).take (m + a)) = m := by
            rw [ht, pre_app hp.1, List.length_take, List.length_cons]
            · omega
            · intro b hb
              cases a with
              | zero => simp at hb
              | succ a =>
                refine hp.2 b ?_
                cases hdr : (c :: r).drop m with
                | nil => rw [hdr] at hb; simp at hb
                | cons x y => rw [hdr] at hb; simpa using hb
          have hdrop : ((c :: r).take (m + a)).drop m = ((c :: r).drop m).take a := by
            rw [List.drop_take]; congr 1; omega
          rw [hcm] at hpre hdrop ⊢
          rw [scanF_note hb h1, hpre, hdrop]
          congr 1
        refine ⟨by omega, fun k' hk' => ?_, fun k' hk' => ?_⟩
        · rw [e] at hk' ⊢
          rw [key _ k' hk']
          exact_mod_cast g2 (k' - 1) (by omega)
        · rw [e, Nat.add_assoc] at hk' ⊢
          rw [key _ k' hk']
          exact_mod_cast g3 (k' - 1) (by omega)
      · by_cases h2 : (oneRes (c :: r)).er = 0
        · rw [scanF_tok hb h1 h2] at he ht ⊢
          obtain ⟨g1, g2, g3, g4⟩ := take_ln h2
          have hs := one_stable h2
          simp only [List.length_cons] at g4
          have hi : (i : Int) + (oneRes (c :: r)).ln = ((i + (oneRes (c :: r)).ln.toNat : Nat) : Int) := by omega
          have hln : (((oneRes (c :: r)).ln.toNat : Nat) : Int) = (oneRes (c :: r)).ln := g2
          generalize hL : (oneRes (c :: r)).ln.toNat = L at *
          -- a token, then what is left of the rest
          have key : ∀ a k', L + a < k' → scanF k' ((c :: r).take (L + a)) i =
              (⟨(oneRes (c :: r)).kd, (oneRes (c :: r)).tx, (oneRes (c :: r)).vl, i⟩ :: (scanF (k' - 1) (((c :: r).drop L).take a) ((i + L : Nat) : Int)).1, (scanF (k' - 1) (((c :: r).drop L).take a) ((i + L : Nat) : Int)).2) := by
            intro a k' hk'
            obtain ⟨k'', rfl⟩ : ∃ x, k' = x + 1 := ⟨k' - 1, by omega⟩
            have ht : (c :: r).take (L + a) = (c :: r).take L ++ ((c :: r).drop L).take a := by rw [List.take_add]
            have hone : oneRes ((c :: r).take (L + a)) = oneRes (c :: r) := by
              rw [ht]
              have hag := hs.again (((c :: r).drop L).take a)
              rw [hL] at hag
              refine hag ?_
              cases a with
              | zero => exact .inl (by simp)
              | succ a =>
                cases hdr : (c :: r).drop L with
                | nil => exact .inl (by simp)
                | cons x y => exact .inr (.inl (by simp))
            have hcm : (c :: r).take (L + a) = c :: r.take (L + a - 1) := by
              obtain ⟨x, hx⟩ : ∃ x, L + a = x + 1 := ⟨L + a - 1, by omega⟩
              rw [hx, List.take_succ_cons]; rfl
            have hdrop : ((c :: r).take (L + a)).drop L = ((c :: r).drop L).take a := by
              rw [List.drop_take]; congr 1; omega
            rw [hcm] at hone hdrop ⊢
            rw [scanF_tok hb h1 (by rw [hone]; exact h2), hone, hL, hdrop, hi]
            rfl
          cases n with
          | zero =>
            simp only [List.getElem?_cons_zero, Option.some.injEq] at ht
            subst ht
            dsimp only
            rw [prT_pos ⟨_, _, _, 0⟩ i, g1, show ((i : Int) - i).toNat = 0 by omega]
            refine ⟨Int.le_refl _, fun k' hk' => ?_, fun k' hk' => ?_⟩
            · obtain ⟨k'', rfl⟩ : ∃ x, k' = x + 1 := ⟨k' - 1, by omega⟩
              rfl
            · rw [Nat.zero_add] at hk' ⊢
              have := key 0 k' hk'
              rw [Nat.add_zero] at this
              rw [this]
              obtain ⟨k'', rfl⟩ : ∃ x, k' = x + 1 + 1 := ⟨k' - 2, by omega⟩
              simp [scanF]
          | succ n =>
            simp only [List.getElem?_cons_succ] at ht
            rw [hi] at he ht ⊢
            have hlen : ((c :: r).drop L).length = r.length + 1 - L := by rw [List.length_drop, List.length_cons]
            obtain ⟨q1, q2, q3⟩ := scanF_cut k ((c :: r).drop L) (i + L) (by omega) he n t ht
            have e : (t.pos - (i : Int)).toNat = L + (t.pos - ((i + L : Nat) : Int)).toNat := by omega
            refine ⟨by omega, fun k' hk' => ?_, fun k' hk' => ?_⟩
            · rw [e] at hk' ⊢
              rw [key _ k' hk', q2 (k' - 1) (by omega)]
              rfl
            · rw [e, Nat.add_assoc] at hk' ⊢
              rw [key _ k' hk', q3 (k' - 1) (by omega)]
              rfl
        · rw [scanF_err hb h1 h2] at he; exact absurd he h2
end Go.AI.TD

/- Tokens that were read come back from a text that is woven of them. -/
namespace Go.AI.TD
open Go Go.Proofs
set_option maxRecDepth 10000
set_option linter.unusedVariables false
set_option linter.unusedSimpArgs false

theorem succ_of {n k : Nat} (h : n < k) : ∃ x, k = x + 1 := ⟨k - 1, by omega⟩

/-- What may come behind any token. -/
def Ends (q : List UInt8) : Prop := q = [] ∨ ∃ b, q.head? = some b ∧ safeB b = true

/-- A token that is read again. -/
structure Good (t : Tok) : Prop where
  range : inR t = true
  read : ∃ c r, prT t = c :: r ∧ isBlank c = false ∧ ¬ (c.toNat : Int) = 35 ∧ ∀ q, Ends q → oneRes (c :: r ++ q) = ⟨t.kind, t.text, t.value, (prT t).length, 0⟩

theorem scanF_good : ∀ (k : Nat) (s : List UInt8) (i : Int), ∀ t ∈ (scanF k s i).1, Good t
  | 0, _, _, t, h => by simp [scanF] at h
  | k + 1, [], _, t, h => by simp [scanF] at h
  | k + 1, c :: r, i, t, h => by
    cases hb : isBlank c with
    | true => rw [scanF_blank hb] at h; exact scanF_good k r _ t h
    | false =>
      by_cases h1 : (c.toNat : Int) = 35
      · rw [scanF_note hb h1] at h; exact scanF_good k _ _ t h
      · by_cases h2 : (oneRes (c :: r)).er = 0
        · rw [scanF_tok hb h1 h2] at h
          rcases List.mem_cons.1 h with rfl | h
          · obtain ⟨g1, g2, g3, g4⟩ := take_ln h2
            have hs := one_stable h2
            have ht := hs.text
            have ha := hs.again
            refine ⟨by simpa [inR] using hs.range, ?_⟩
            rw [prT_pos ⟨_, _, _, 0⟩ i, g1, g2]
            obtain ⟨n, hn⟩ : ∃ n, (oneRes (c :: r)).ln.toNat = n + 1 := ⟨(oneRes (c :: r)).ln.toNat - 1, by omega⟩
            rw [hn, List.take_succ_cons] at ht ha
            refine ⟨c, r.take n, ht, hb, h1, fun q hq => ?_⟩
            rw [ha q (by rcases hq with h | h; exact .inl h; exact .inr (.inr h))]
            show oneRes (c :: r) = ⟨_, _, _, _, 0⟩
            rw [← h2]
          · exact scanF_good k _ _ t h
        · rw [scanF_err hb h1 h2] at h; simp at h
theorem scan_good (s : List UInt8) : ∀ t ∈ (scan s).1, Good t := by
  intro t h
  unfold scan at h
  split at h
  · simp at h
  · split at h
    · exact scanF_good _ _ _ t h
    · simp at h

/-- What a scan passes by. -/
def Skip (f : List UInt8) : Prop := ∀ s i k, (f ++ s).length < k → ∃ k' j, s.length < k' ∧ scanF k (f ++ s) i = scanF k' s j

theorem skip_nil : Skip [] := fun s i k h => ⟨k, i, h, rfl⟩
theorem skip_blank {b : UInt8} {f : List UInt8} (hb : isBlank b = true) (hf : Skip f) : Skip (b :: f) := by
  intro s i k h
  obtain ⟨k', rfl⟩ : ∃ x, k = x + 1 := succ_of h
  rw [List.cons_append, scanF_blank hb]
  exact hf s _ k' (by simp at h ⊢; omega)
theorem skip_note {n : List UInt8} {f : List UInt8} (hn : n.all notNl = true) (hf : Skip (10 :: f)) : Skip (35 :: (n ++ 10 :: f)) := by
  intro s i k h
  obtain ⟨k', rfl⟩ : ∃ x, k = x + 1 := succ_of h
  have hp : pre notNl ((35 : UInt8) :: (n ++ 10 :: f) ++ s) = n.length + 1 := by
    have := pre_app (p := notNl) (l := 35 :: n) (q := 10 :: f ++ s) (by simp [hn]; decide) (by intro b hb; simp at hb; subst hb; decide)
    simpa using this
  have hd : ((35 : UInt8) :: (n ++ 10 :: f) ++ s).drop (n.length + 1) = 10 :: f ++ s := by
    simp
  have h35 : isBlank 35 = false := by decide
  have := scanF_note (k := k') (c := 35) (r := n ++ 10 :: f ++ s) (i := i) h35 (by decide)
  rw [show (35 : UInt8) :: (n ++ 10 :: f ++ s) = 35 :: (n ++ 10 :: f) ++ s from rfl, hp, hd] at this
  rw [this]
  exact hf s _ k' (by simp at h ⊢; omega)

/-- Tokens, and what stands behind each. -/
def weave : List (Tok × List UInt8) → List UInt8
  | [] => []
  | (t, f) :: r => prT t ++ (f ++ weave r)
/-- .. each well apart from the next. -/
def Apart : List (Tok × List UInt8) → Prop
  | [] => True
  | (t, f) :: r => Good t ∧ Skip f ∧ Ends (f ++ weave r) ∧ Apart r

theorem scanF_weave : ∀ (l : List (Tok × List UInt8)) (k : Nat) (i : Int), Apart l → (weave l).length < k → (scanF k (weave l) i).2.2 = 0 ∧ sameToks (l.map (·.1)) (scanF k (weave l) i).1 = true
  | [], k, i, _, h => by
    obtain ⟨k', rfl⟩ : ∃ x, k = x + 1 := succ_of h
    exact ⟨rfl, rfl⟩
  | (t, f) :: l, k, i, ⟨hg, hf, he, hl⟩, h => by
    obtain ⟨k', rfl⟩ : ∃ x, k = x + 1 := succ_of h
    obtain ⟨c, r, h1, h2, h3, h4⟩ := hg.read
    have h5 := h4 _ he
    simp only [weave] at h ⊢
    have hlen : (prT t).length = r.length + 1 := by rw [h1]; rfl
    have e : prT t ++ (f ++ weave l) = c :: (r ++ (f ++ weave l)) := by rw [h1]; rfl
    rw [e] at h ⊢
    rw [List.cons_append] at h5
    rw [scanF_tok h2 h3 (by rw [h5]), h5]
    dsimp only
    have hd : (c :: (r ++ (f ++ weave l))).drop ((prT t).length : Int).toNat = f ++ weave l := by
      rw [Int.toNat_natCast, hlen, List.drop_succ_cons, List.drop_left]
    rw [hd]
    obtain ⟨k2, j, h6, h7⟩ := hf (weave l) (i + ((prT t).length : Int)) k' (by simp at h ⊢; omega)
    rw [h7]
    obtain ⟨h8, h9⟩ := scanF_weave l k2 j hl h6
    refine ⟨h8, ?_⟩
    simp [sameToks, sameTok, h9]

theorem scan_of {s : List UInt8} (hl : (s.length : Int) ≤ 4096) (h : (scanF (s.length + 1) s 0).2.2 = 0) : scan s = ((scanF (s.length + 1) s 0).1, 0, 0) := by
  unfold scan
  rw [if_neg (by omega), if_pos h]

theorem scan_weave {l : List (Tok × List UInt8)} {f : List UInt8} (hf : Skip f) (h : Apart l) (hl : ((f ++ weave l).length : Int) ≤ 4096) : (scan (f ++ weave l)).2.2 = 0 ∧ sameToks (l.map (·.1)) (scan (f ++ weave l)).1 = true := by
  obtain ⟨k', j, h1, h2⟩ := hf (weave l) 0 ((f ++ weave l).length + 1) (by omega)
  obtain ⟨h3, h4⟩ := scanF_weave l k' j h h1
  rw [← h2] at h3 h4
  rw [scan_of hl h3]
  exact ⟨rfl, h4⟩

/-! ### The printed form -/
def gaps : List Tok → List (Tok × List UInt8)
  | [] => []
  | [t] => [(t, [])]
  | t :: u :: r => (t, [32]) :: gaps (u :: r)
theorem gaps_map : ∀ l, (gaps l).map (·.1) = l
  | [] => rfl
  | [t] => rfl
  | t :: u :: r => by rw [gaps, List.map_cons, gaps_map (u :: r)]
theorem gaps_text : ∀ (l : List Tok) (n : Nat), prR (n + 1) l = (if l = [] then [] else [32]) ++ weave (gaps l)
  | [], _ => rfl
  | [t], n => by simp [prR, gaps, weave]
  | t :: u :: r, n => by
    rw [gaps, weave, prR, gaps_text (u :: r) (n + 1)]
    simp
theorem prS_weave (l : List Tok) : prS l = weave (gaps l) := by
  cases l with
  | nil => rfl
  | cons t r =>
    cases r with
    | nil => simp [prS, prR, gaps, weave]
    | cons u r =>
      rw [prS, prR, gaps, weave, gaps_text (u :: r) 0]
      simp
theorem skip_space : Skip [32] := skip_blank (by decide) skip_nil
theorem gaps_apart : ∀ (l : List Tok), (∀ t ∈ l, Good t) → Apart (gaps l)
  | [], _ => trivial
  | [t], h => ⟨h t (by simp), skip_nil, .inl rfl, trivial⟩
  | t :: u :: r, h => ⟨h t (by simp), skip_space, .inr ⟨32, rfl, by decide⟩, gaps_apart (u :: r) fun x hx => h x (List.mem_cons_of_mem _ hx)⟩

theorem back {l : List Tok} (h : ∀ t ∈ l, Good t) (hl : ((prS l).length : Int) ≤ 4096) : (scan (prS l)).2.2 = 0 ∧ sameToks l (scan (prS l)).1 = true := by
  rw [prS_weave] at hl ⊢
  have := scan_weave skip_nil (gaps_apart l h) hl
  rwa [gaps_map, List.nil_append] at this

/-! ### Lengths -/
theorem Chain.length : ∀ {l : List Tok} {s : List UInt8} {i : Int}, Chain s i l → i ≤ s.length → ∀ n, ((prR n l).length : Int) ≤ 2 * (s.length - i) ∧ (l.length : Int) ≤ s.length - i
  | [], s, i, _, hi, n => by simp [prR]; omega
  | t :: r, s, i, ⟨h1, h2, h3, h4, h5, h6⟩, hi, n => by
    obtain ⟨h7, h8⟩ := Chain.length h6 h2 (n + 1)
    have h9 : 1 ≤ (prT t).length := by
      cases hp : prT t with
      | nil => exact absurd hp h3
      | cons => simp
    rw [prR, List.length_append, List.length_append, List.length_cons]
    refine ⟨?_, by omega⟩
    split <;> simp <;> omega
theorem Chain.all : ∀ {l : List Tok} {s : List UInt8} {i : Int}, Chain s i l → l.all inR = true
  | [], _, _, _ => rfl
  | t :: r, s, i, ⟨h1, h2, h3, h4, h5, h6⟩ => by rw [List.all_cons, h5, h6.all]; rfl
end Go.AI.TD
