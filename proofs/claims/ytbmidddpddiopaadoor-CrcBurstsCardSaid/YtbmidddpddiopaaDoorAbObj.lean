/- The abstract machine: objects of one's own that change in place; what else stays. -/
import Derived.Test.YtbmidddpddiopaaDoorAbDraw
set_option linter.unusedVariables false
set_option linter.unusedSimpArgs false
namespace Go.Proofs.AbM
open Go.RowKit
/-- h' has all that h has, as it was, but for the blocks of S. -/
def Kp (S : Nat → Prop) (h h' : Hp) : Prop := h.length ≤ h'.length ∧ ∀ i, i < h.length → ¬ S i → h'[i]? = h[i]?
theorem Kp.refl (S : Nat → Prop) (h : Hp) : Kp S h h := ⟨Nat.le_refl _, fun _ _ _ => rfl⟩
theorem Kp.mono {S T : Nat → Prop} {h h' : Hp} (k : Kp S h h') (hs : ∀ i, i < h.length → S i → T i) : Kp T h h' := ⟨k.1, fun i hi hn => k.2 i hi fun hh => hn (hs i hi hh)⟩
theorem Kp.trans {S : Nat → Prop} {h h1 h2 : Hp} (a : Kp S h h1) (b : Kp S h1 h2) : Kp S h h2 := ⟨Nat.le_trans a.1 b.1, fun i hi hn => (b.2 i (Nat.lt_of_lt_of_le hi a.1) hn).trans (a.2 i hi hn)⟩
theorem Kp.of_ext {S : Nat → Prop} {h h' : Hp} (e : Ext h h') : Kp S h h' := ⟨e.length, fun i hi _ => by rw [List.getElem?_eq_getElem hi]; exact e.get (List.getElem?_eq_getElem hi)⟩
theorem Kp.ext {S : Nat → Prop} {h h' : Hp} (k : Kp S h h') (hs : ∀ i, i < h.length → ¬ S i) : Ext h h' := by
  refine List.prefix_iff_getElem?.2 fun i hi => ?_
  rw [k.2 i hi (hs i hi), List.getElem?_eq_getElem hi]
theorem Kp.push {S : Nat → Prop} (h : Hp) (b : Blk) : Kp S h (h ++ [b]) := .of_ext (Ext.push h b)
theorem Kp.set {S : Nat → Prop} (h : Hp) {j : Nat} (hj : S j) (b : Blk) : Kp S h (h.set j b) := ⟨by simp, fun i hi hn => by
  rw [List.getElem?_set_ne]
  rintro rfl
  exact hn hj⟩
theorem Kp.setj (h : Hp) (j : Nat) (b : Blk) : Kp (· = j) h (h.set j b) := Kp.set (S := (· = j)) h rfl b
/-- Behind an older heap all may change that is not of it. -/
theorem Kp.up {S T : Nat → Prop} {h0 h h' : Hp} (a : Kp T h0 h) (k : Kp S h h') (hs : ∀ i, i < h0.length → S i → T i) : Kp T h0 h' := ⟨Nat.le_trans a.1 k.1, fun i hi hn => (k.2 i (Nat.lt_of_lt_of_le hi a.1) fun hh => hn (hs i hi hh)).trans (a.2 i hi hn)⟩
theorem Ext.up {S : Nat → Prop} {h0 h h' : Hp} (a : Ext h0 h) (k : Kp S h h') (hs : ∀ i, S i → h0.length ≤ i) : Ext h0 h' := ((Kp.of_ext (S := fun _ => False) a).up k fun i hi hh => by have := hs i hh; omega).ext fun _ _ h => h
theorem Kp.get {S : Nat → Prop} {h h' : Hp} (k : Kp S h h') {j : Nat} {b : Blk} (hn : ¬ S j) (hj : h[j]? = some b) : h'[j]? = some b := by rw [k.2 j (List.getElem?_eq_some_iff.1 hj).1 hn]; exact hj
section
variable {P : Program} {W0 : World} {h : Hp} {K : Value → Hp → Prop}
def offS (S : Nat → Prop) (W0 : World) (v : Value) : Prop := ∀ j o n c, v = .slice (some ⟨W0.heap.size + j, o, none⟩) n c → ¬ S j
theorem rd_kp {S : Nat → Prop} {h h' : Hp} (k : Kp S h h') {a : Addr} (hn : ¬ a.block < W0.heap.size → ¬ S (a.block - W0.heap.size)) {v : Value} (hv : rd W0 h a = some v) : rd W0 h' a = some v := by
  unfold rd at hv ⊢
  split
  · rename_i hlt; rw [if_pos hlt] at hv; exact hv
  · rename_i hlt
    rw [if_neg hlt] at hv
    split
    · rename_i hs; rw [if_pos hs] at hv; cases hv
    · rename_i hs
      rw [if_neg hs] at hv
      cases hj : h[a.block - W0.heap.size]? with
      | none => rw [hj] at hv; cases hv
      | some b => rw [k.get (hn hlt) hj]; rw [hj] at hv; exact hv
theorem rds_kp {S : Nat → Prop} {h h' : Hp} (k : Kp S h h') {a : Addr} (hn : ¬ a.block < W0.heap.size → ¬ S (a.block - W0.heap.size)) : ∀ (n i : Nat) (vs : List Value), rds W0 h a i n = some vs → rds W0 h' a i n = some vs
  | 0, i, vs, hv => hv
  | n + 1, i, vs, hv => by
    simp only [rds] at hv ⊢
    obtain ⟨v, h1, h2⟩ := Option.bind_eq_some_iff.1 hv
    obtain ⟨us, h3, rfl⟩ := Option.map_eq_some_iff.1 h2
    rw [rd_kp k (by rw [add_blk]; exact hn) h1, Option.bind_some, rds_kp k hn n _ us h3]; rfl
theorem SlG.kp {S : Nat → Prop} {h h' : Hp} (k : Kp S h h') {α : Type} {sz : Nat} {E : α → List Value → Prop} {v : Value} {xs : List α} (hs : SlG W0 h sz E v xs) (ho : offS S W0 v) : SlG W0 h' sz E v xs := by
  obtain ⟨a, c, rfl, ha, hr⟩ := hs
  refine ⟨a, c, rfl, ha, fun i x hx => ?_⟩
  obtain ⟨ad, vs, rfl, h1, h2⟩ := hr i x hx
  refine ⟨ad, vs, rfl, rds_kp k ?_ _ _ _ h1, h2⟩
  rw [add_blk]
  intro hlt
  rcases ha with ⟨h0, _⟩ | ⟨_, h0, _⟩ | ⟨ad', he, hsp, _, _⟩
  · cases h0
  · rw [List.eq_nil_of_length_eq_zero h0] at hx; simp at hx
  · cases he
    obtain ⟨bl, o, sp⟩ := ad
    simp only at hsp hlt
    subst hsp
    exact ho (bl - W0.heap.size) o _ _ (by congr 3; omega)
theorem Own.kp {S : Nat → Prop} {h h' : Hp} (k : Kp S h h') {e : TypeId} {sz n : Nat} {v : Value} {cs : List Value} (ho : Own W0 h e sz v n cs) (hn : ∀ j, ownAt W0 v j → ¬ S j) : Own W0 h' e sz v n cs := by
  cases ho with
  | nil => exact .nil
  | blk hj hl => exact .blk (k.get (hn _ ⟨_, _, rfl⟩) hj) hl
theorem Own.slice {e : TypeId} {sz n : Nat} {v : Value} {cs : List Value} (ho : Own W0 h e sz v n cs) : ∃ a c, v = .slice a n c := by cases ho <;> exact ⟨_, _, rfl⟩
theorem Own.set {e : TypeId} {sz n : Nat} {v : Value} {cs : List Value} (ho : Own W0 h e sz v n cs) {j : Nat} {b : Blk} (hn : ¬ ownAt W0 v j) : Own W0 (h.set j b) e sz v n cs := ho.kp (Kp.setj h j b) (fun i hi hh => by subst hh; exact hn hi)
/-- The cells of an own block. -/
def blkO (h : Hp) (j : Nat) : Option (TypeId × List Value) := match h[j]? with | some (.cells e xs) => some (e, xs) | _ => none
theorem blkO_iff {j : Nat} {e : TypeId} {xs : List Value} : blkO h j = some (e, xs) ↔ h[j]? = some (.cells e xs) := by
  unfold blkO
  split
  · rename_i e' xs' hh; simp [hh]
  · rename_i hh
    constructor
    · intro h; cases h
    · intro h; exact (hh e xs h).elim
theorem blkO_lt {j : Nat} (hj : (blkO h j).isSome = true) : j < h.length := by
  obtain ⟨⟨e, xs⟩, hh⟩ := Option.isSome_iff_exists.1 hj
  exact (List.getElem?_eq_some_iff.1 (blkO_iff.1 hh)).1
theorem blkO_set {j : Nat} {e : TypeId} {xs : List Value} (hj : (blkO h j).isSome = true) : blkO (h.set j (.cells e xs)) j = some (e, xs) := by
  rw [blkO_iff, List.getElem?_set_self (blkO_lt hj)]
theorem blkO_new {e : TypeId} {xs : List Value} : blkO (h ++ [.cells e xs]) h.length = some (e, xs) := by rw [blkO_iff]; simp
theorem blkO_push {j : Nat} {b : Blk} (hj : (blkO h j).isSome = true) : blkO (h ++ [b]) j = blkO h j := by
  unfold blkO; rw [List.getElem?_append_left (blkO_lt hj)]
theorem blkO_kp {S : Nat → Prop} {h h' : Hp} (k : Kp S h h') {j : Nat} {q : TypeId × List Value} (hn : ¬ S j) (hj : blkO h j = some q) : blkO h' j = some q := by
  obtain ⟨e, xs⟩ := q
  exact blkO_iff.2 (k.get hn (blkO_iff.1 hj))
theorem rd_blk {j o : Nat} : rd W0 h ⟨W0.heap.size + j, o, none⟩ = (blkO h j).bind fun q => q.2[o]? := by
  cases hb : blkO h j with
  | some q => obtain ⟨e, xs⟩ := q; rw [rd_own (blkO_iff.1 hb)]; rfl
  | none =>
    unfold rd
    rw [if_neg (by show ¬ W0.heap.size + j < W0.heap.size; omega)]
    simp only [Option.isSome_none, Bool.false_eq_true, if_false, Nat.add_sub_cancel_left]
    unfold blkO at hb
    split at hb
    · cases hb
    · rename_i hh
      split
      · rename_i e xs hq; exact (hh e xs hq).elim
      · rfl
def offO (P : Program) (s : TypeId) (f : Nat) : Option Nat :=
  match P.underlying s with
  | some (.struct fs) => match fs[f]? with
    | some fd => match szO P fd.type with | some (_ + 1) => some fd.offset | _ => none
    | none => none
  | _ => none
theorem wField_eq {s : TypeId} {b o f : Nat} : wField P s (.pointer (some ⟨b, o, none⟩)) f h K ↔ ∃ k, offO P s f = some k ∧ K (.pointer (some ⟨b, o + k, none⟩)) h := by
  unfold wField offO
  constructor
  · rintro ⟨fs, fd, n, ad, h1, h2, h3, h4, h5, h6⟩
    cases h5
    obtain ⟨n, rfl⟩ := Nat.exists_eq_succ_of_ne_zero h4
    refine ⟨fd.offset, ?_, by rw [add_at] at h6; exact h6⟩
    simp only [h1, h2, h3]
  · rintro ⟨k, h1, h2⟩
    split at h1
    · rename_i fs hu
      split at h1
      · rename_i fd hf
        split at h1
        · rename_i n hs
          cases h1
          exact ⟨fs, fd, n + 1, _, hu, hf, hs, by omega, rfl, by rw [add_at]; exact h2⟩
        · cases h1
      · cases h1
    · cases h1
theorem wLoad_f {t : TypeId} {a : Addr} (hg : isAggO P t = some false) : wLoad P W0 t (.pointer (some a)) h K ↔ ∃ v, rd W0 h a = some v ∧ K v h := by
  unfold wLoad
  constructor
  · rintro ⟨ad, he, g, h1, h2, h3⟩
    cases he
    rw [hg] at h1
    cases h1
    exact h3 rfl
  · intro hk
    exact ⟨a, rfl, false, hg, (fun e => by cases e), fun _ => hk⟩
theorem wLoad_t {t : TypeId} {a : Addr} (hg : isAggO P t = some true) : wLoad P W0 t (.pointer (some a)) h K ↔ ∃ n, szO P t = some n ∧ ∃ cs, rds W0 h a 0 n = some cs ∧ K (.agg cs.toArray) h := by
  unfold wLoad
  constructor
  · rintro ⟨ad, he, g, h1, h2, h3⟩
    cases he
    rw [hg] at h1
    cases h1
    obtain ⟨n, cs, a, b, c⟩ := h2 rfl
    exact ⟨n, a, cs, b, c⟩
  · rintro ⟨n, a1, cs, b, c⟩
    exact ⟨a, rfl, true, hg, (fun _ => ⟨n, cs, a1, b, c⟩), fun e => by cases e⟩
theorem wStore_one {t : TypeId} {v : Value} {j o : Nat} (hv : v.oneCell' = true) (hz : szO P t = some 1) : wStore P W0 t (.pointer (some ⟨W0.heap.size + j, o, none⟩)) v h K ↔ ∃ q, blkO h j = some q ∧ o < q.2.length ∧ K undef (h.set j (.cells q.1 (q.2.set o v))) := by
  have hc : v.cells = #[v] := by cases v <;> first | rfl | simp [Value.oneCell'] at hv
  have hset : ∀ xs : List Value, o < xs.length → setCells xs o [v] = xs.set o v := by
    intro xs ho
    unfold setCells
    rw [List.set_eq_take_append_cons_drop, if_pos ho]
    simp
  constructor
  · rintro ⟨j', o', e, xs, he, h1, h2, h3, h4, h5⟩
    injection he with he
    injection he with he
    injection he with he1 he2
    obtain rfl : j' = j := by omega
    subst he2
    rw [hc] at h1 h3 h5
    have h3' : o < xs.length := by simp at h3; omega
    refine ⟨(e, xs), blkO_iff.2 h2, h3', ?_⟩
    rw [← hset xs h3']
    exact h5
  · rintro ⟨⟨e, xs⟩, h1, h2, h3⟩
    refine ⟨j, o, e, xs, rfl, by rw [hc]; exact hz, blkO_iff.1 h1, by rw [hc]; simp at h2 ⊢; omega, ?_, ?_⟩
    · rw [hc]; simpa using hv
    · rw [hc]; rw [hset xs h2]; exact h3
theorem one_slice (a : Option Addr) (n c : Nat) : (Value.slice a n c).oneCell' = true := rfl
theorem one_int (k : IntKind) (n : Int) : (Value.int k n).oneCell' = true := rfl
theorem one_bool (b : Bool) : (Value.bool b).oneCell' = true := rfl
theorem one_ptr (a : Option Addr) : (Value.pointer a).oneCell' = true := rfl
theorem one_string (s : ByteArray) : (Value.string s).oneCell' = true := rfl
theorem wStore_int {t : TypeId} {k : IntKind} {x : Int} {j o : Nat} (hz : szO P t = some 1) : wStore P W0 t (.pointer (some ⟨W0.heap.size + j, o, none⟩)) (.int k x) h K ↔ ∃ q, blkO h j = some q ∧ o < q.2.length ∧ K undef (h.set j (.cells q.1 (q.2.set o (.int k x)))) := wStore_one rfl hz
theorem wStore_bool {t : TypeId} {b : Bool} {j o : Nat} (hz : szO P t = some 1) : wStore P W0 t (.pointer (some ⟨W0.heap.size + j, o, none⟩)) (.bool b) h K ↔ ∃ q, blkO h j = some q ∧ o < q.2.length ∧ K undef (h.set j (.cells q.1 (q.2.set o (.bool b)))) := wStore_one rfl hz
theorem wStore_slice {t : TypeId} {a : Option Addr} {n c : Nat} {j o : Nat} (hz : szO P t = some 1) : wStore P W0 t (.pointer (some ⟨W0.heap.size + j, o, none⟩)) (.slice a n c) h K ↔ ∃ q, blkO h j = some q ∧ o < q.2.length ∧ K undef (h.set j (.cells q.1 (q.2.set o (.slice a n c)))) := wStore_one rfl hz
theorem wStore_ptr {t : TypeId} {a : Option Addr} {j o : Nat} (hz : szO P t = some 1) : wStore P W0 t (.pointer (some ⟨W0.heap.size + j, o, none⟩)) (.pointer a) h K ↔ ∃ q, blkO h j = some q ∧ o < q.2.length ∧ K undef (h.set j (.cells q.1 (q.2.set o (.pointer a)))) := wStore_one rfl hz
theorem wStore_string {t : TypeId} {s : ByteArray} {j o : Nat} (hz : szO P t = some 1) : wStore P W0 t (.pointer (some ⟨W0.heap.size + j, o, none⟩)) (.string s) h K ↔ ∃ q, blkO h j = some q ∧ o < q.2.length ∧ K undef (h.set j (.cells q.1 (q.2.set o (.string s)))) := wStore_one rfl hz
/-- A pointer or a slice against nil. -/
theorem wBin_pnil {t e : TypeId} {x y : Operand} {p : Option Addr} {K : Value → Prop} (hu : P.underlying t = some (.pointer e)) (hK : K (.bool p.isNone)) : wBin P .eql t x y (.pointer p) (.pointer none) K := .inr (.inr ⟨p, e, rfl, rfl, hu, .inl ⟨rfl, hK⟩⟩)
theorem wBin_pnot {t e : TypeId} {x y : Operand} {p : Option Addr} {K : Value → Prop} (hu : P.underlying t = some (.pointer e)) (hK : K (.bool !p.isNone)) : wBin P .neq t x y (.pointer p) (.pointer none) K := .inr (.inr ⟨p, e, rfl, rfl, hu, .inr ⟨rfl, hK⟩⟩)
theorem wBin_snil {t e : TypeId} {x y : Operand} {p : Option Addr} {n c : Nat} {K : Value → Prop} (hu : P.underlying t = some (.slice e)) (hK : K (.bool p.isNone)) : wBin P .eql t x y (.slice p n c) (.slice none 0 0) K := .inr (.inl ⟨p, n, c, e, rfl, rfl, hu, .inl ⟨rfl, hK⟩⟩)
theorem wBin_snot {t e : TypeId} {x y : Operand} {p : Option Addr} {n c : Nat} {K : Value → Prop} (hu : P.underlying t = some (.slice e)) (hK : K (.bool !p.isNone)) : wBin P .neq t x y (.slice p n c) (.slice none 0 0) K := .inr (.inl ⟨p, n, c, e, rfl, rfl, hu, .inr ⟨rfl, hK⟩⟩)
theorem SlG.okA {α : Type} {sz : Nat} {E : α → List Value → Prop} {a : Option Addr} {n c : Nat} {xs : List α} (hs : SlG W0 h sz E (.slice a n c) xs) : n = xs.length ∧ (a.isNone = true → xs = []) := by
  obtain ⟨a', c', he, ha, hr⟩ := hs
  cases he
  refine ⟨rfl, fun hn => ?_⟩
  cases a with
  | none => exact List.eq_nil_of_length_eq_zero (by rcases ha with ⟨_, h0, _⟩ | ⟨_, h0, _⟩ | ⟨_, h0, _⟩ <;> first | exact h0 | cases h0)
  | some a => cases hn
/-- An element of one cell: its place, and what is there. -/
theorem wIxAddr_sl {α : Type} {f : α → Value} {t e : TypeId} {v : Value} {k : IntKind} {xs : List α} (hu : P.underlying t = some (.slice e)) (hz : szO P e = some 1) (hs : SlG W0 h 1 (E1 f) v xs) {i : Nat} (hi : i < xs.length)
    (hK : ∀ ad, rd W0 h ad = some (f (xs[i]'hi)) → K (.pointer (some ad)) h) : wIxAddr P t v (.int k i) h K := by
  obtain ⟨a, c, rfl⟩ := hs.len
  obtain ⟨ad, rfl, hr⟩ := hs.get1 (List.getElem?_eq_getElem hi)
  exact ⟨k, i, rfl, .inl ⟨e, ad, xs.length, c, 1, hu, rfl, hz, by omega, by omega, hK _ (by simpa using hr)⟩⟩
theorem wIxAddr_own {t e : TypeId} {j o n c : Nat} {k : IntKind} {i : Nat} (hu : P.underlying t = some (.slice e)) (hz : szO P e = some 1) (hi : i < n) (hK : K (.pointer (some ⟨W0.heap.size + j, o + i, none⟩)) h) : wIxAddr P t (.slice (some ⟨W0.heap.size + j, o, none⟩) n c) (.int k i) h K :=
  ⟨k, i, rfl, .inl ⟨e, _, n, c, 1, hu, rfl, hz, by omega, by omega, by rw [add_at]; simpa using hK⟩⟩
/-- An element of one cell, read. -/
theorem wLoad_rd {t : TypeId} {a : Addr} {v : Value} (hg : isAggO P t = some false) (hr : rd W0 h a = some v) (hK : K v h) : wLoad P W0 t (.pointer (some a)) h K := (wLoad_f hg).2 ⟨v, hr, hK⟩
/-- What comes behind, not yet looked at. -/
def lk (K : Fr → Hp → Prop) (ρ : Fr) (h : Hp) : Prop := K ρ h
theorem lk_out {K : Fr → Hp → Prop} {ρ : Fr} {h : Hp} (hk : K ρ h) : lk K ρ h := hk
theorem thenA_lk (K : Fr → Hp → Prop) {Q : Exit → Fr → Hp → Prop} {ρ : Fr} : thenA K Q .normal ρ h = lk K ρ h := propext Iff.rfl
def isSl : Option TypeDesc → Bool
  | some (.slice _) => true
  | _ => false
def isStr : Option TypeDesc → Bool
  | some .string => true
  | _ => false
theorem isSl_sl (e : TypeId) : isSl (some (.slice e)) = true := rfl
theorem isStr_str : isStr (some .string) = true := rfl
theorem wLen_sl {t : TypeId} {a : Option Addr} {n c : Nat} (hu : isSl (P.underlying t) = true) : wLen P t (.slice a n c) h K ↔ K (.int .i64 n) h := by
  cases hd : P.underlying t with
  | none => rw [hd] at hu; cases hu
  | some d =>
    rw [hd] at hu
    cases d <;> try (cases hu)
    rw [wLen_slice hd]
theorem wLen_str {t : TypeId} {s : ByteArray} (hu : isStr (P.underlying t) = true) : wLen P t (.string s) h K ↔ K (.int .i64 s.size) h := by
  cases hd : P.underlying t with
  | none => rw [hd] at hu; cases hu
  | some d =>
    rw [hd] at hu
    cases d <;> try (cases hu)
    rw [wLen_string hd]
theorem wConv_str {src dst e : TypeId} {v : Value} {ns : List Int} (h1 : P.underlying src = some (.slice e)) (h2 : P.underlying e = some (.int .u8)) (h3 : P.underlying dst = some .string) (hs : SlG W0 h 1 (E1 (.int .u8)) v ns) (hne : ns ≠ []) (hK : K (.string (strN ns)) h) : wConv P W0 src dst v h K := by
  obtain ⟨a, c, rfl⟩ := hs.len
  cases a with
  | none => exact (hne (hs.okA.2 rfl)).elim
  | some a =>
    refine .inr (.inl ⟨e, h1, h2, h3, a, _, _, ns, rfl, ?_, hs.all1, hK⟩)
    obtain ⟨a', c', he, ha, hr⟩ := hs
    cases he
    rcases ha with ⟨h0, _⟩ | ⟨_, h0, _⟩ | ⟨ad, he, h0, _⟩
    · cases h0
    · exact .inl h0
    · cases he; exact .inr h0
theorem wSc_pb {b : Bool} {K : Value → Prop} : wSc P (pure (.bool b)) K ↔ K (.bool b) := wSc_pure (fun W => rfl) rfl
theorem wSc_pi {k : IntKind} {x : Int} {K : Value → Prop} : wSc P (pure (.int k x)) K ↔ K (.int k x) := wSc_pure (fun W => rfl) rfl
/-! ### Steps, so that what is behind is not looked at -/
def gsN (ops : Array Oper) (j n : Nat) : Nat := match (ops[j]?).bind (·.dst) with | some d => d | none => n
def isB (w : Bool) : Value → Bool
  | .bool t => match w with | true => t | false => !t
  | _ => false
def isBl : Value → Bool
  | .bool _ => true
  | _ => false
theorem isBl_b (t : Bool) : isBl (.bool t) = true := rfl
theorem isBl_iff {v : Value} : isBl v = true ↔ ∃ t, v = .bool t := by cases v <;> simp [isBl]
theorem isB_t (t : Bool) : isB true (.bool t) = t := rfl
theorem isB_f (t : Bool) : isB false (.bool t) = !t := rfl
theorem isB_iff {w : Bool} {v : Value} : isB w v = true ↔ v = .bool w := by
  unfold isB
  split
  · rename_i t
    cases w <;> cases t <;> simp
  · rename_i hn
    constructor
    · intro h; cases h
    · intro h; exact (hn _ h).elim
def pk (c x y : Value) : Value := if isB true c = true then x else y
theorem pk_t (x y : Value) : pk (.bool true) x y = x := rfl
theorem pk_f (x y : Value) : pk (.bool false) x y = y := rfl
theorem pk_b (t a b : Bool) : pk (.bool t) (.bool a) (.bool b) = .bool (bif t then a else b) := by cases t <;> rfl
variable {A : FuncId → List Value → Hp → (Value → Hp → Prop) → Prop} {n : Nat} {ops : Array Oper} {rest : List Oper} {ρ : Fr} {KF : Fr → Hp → Prop} {Q : Exit → Fr → Hp → Prop}
theorem gsN_eq (ops : Array Oper) (j n : Nat) : gsN ops j n = (match (ops[j]?).bind (·.dst) with | some d => d | none => n) := rfl
theorem wops_nil : wops P W0 A n ops [] KF ρ h = KF ρ h := propext Iff.rfl
/-- What is behind an operation, not yet looked at: it opens when the value is known. -/
def lw (P : Program) (W0 : World) (A : FuncId → List Value → Hp → (Value → Hp → Prop) → Prop) (n : Nat) (ops : Array Oper) (rest : List Oper) (KF : Fr → Hp → Prop) (ρ : Fr) (h : Hp) : Prop := wops P W0 A n ops rest KF ρ h
theorem lw_out {d : Nat} {v : Value} (hk : wops P W0 A n ops rest KF (upd ρ d v) h) : lw P W0 A n ops rest KF (put ρ (some d) v) h := hk
theorem lw_out0 {v : Value} (hk : wops P W0 A n ops rest KF ρ h) : lw P W0 A n ops rest KF (put ρ none v) h := hk
theorem lw_int {d : Nat} {k : IntKind} {x : Int} : lw P W0 A n ops rest KF (put ρ (some d) (.int k x)) h = wops P W0 A n ops rest KF (upd ρ d (.int k x)) h := propext Iff.rfl
theorem lw_bool {d : Nat} {b : Bool} : lw P W0 A n ops rest KF (put ρ (some d) (.bool b)) h = wops P W0 A n ops rest KF (upd ρ d (.bool b)) h := propext Iff.rfl
theorem lw_ptr {d : Nat} {a : Option Addr} : lw P W0 A n ops rest KF (put ρ (some d) (.pointer a)) h = wops P W0 A n ops rest KF (upd ρ d (.pointer a)) h := propext Iff.rfl
theorem lw_slice {d l c : Nat} {a : Option Addr} : lw P W0 A n ops rest KF (put ρ (some d) (.slice a l c)) h = wops P W0 A n ops rest KF (upd ρ d (.slice a l c)) h := propext Iff.rfl
theorem lw_string {d : Nat} {s : ByteArray} : lw P W0 A n ops rest KF (put ρ (some d) (.string s)) h = wops P W0 A n ops rest KF (upd ρ d (.string s)) h := propext Iff.rfl
theorem lw_agg {d : Nat} {xs : Array Value} : lw P W0 A n ops rest KF (put ρ (some d) (.agg xs)) h = wops P W0 A n ops rest KF (upd ρ d (.agg xs)) h := propext Iff.rfl
theorem lw_tuple {d : Nat} {xs : Array Value} : lw P W0 A n ops rest KF (put ρ (some d) (.tuple xs)) h = wops P W0 A n ops rest KF (upd ρ d (.tuple xs)) h := propext Iff.rfl
theorem lw_func {d : Nat} {f : Fn} {xs ys : Array Value} : lw P W0 A n ops rest KF (put ρ (some d) (.func f xs ys)) h = wops P W0 A n ops rest KF (upd ρ d (.func f xs ys)) h := propext Iff.rfl
theorem lw_undef {d : Nat} : lw P W0 A n ops rest KF (put ρ (some d) undef) h = wops P W0 A n ops rest KF (upd ρ d undef) h := propext Iff.rfl
theorem lw_none {v : Value} : lw P W0 A n ops rest KF (put ρ none v) h = wops P W0 A n ops rest KF ρ h := propext Iff.rfl
theorem wops_n {dst : Option Tmp} {op : Op} {type : TypeId} {pos : String} {after : Array Edge} : wops P W0 A n ops (⟨dst, op, type, pos, after, none⟩ :: rest) KF ρ h = (dstOk n dst ∧ wop P W0 A ⟨dst, op, type, pos, after, none⟩ ρ h fun v h' => lw P W0 A n ops rest KF (put ρ dst v) h') := propext Iff.rfl
theorem wops_mv {d : Nat} {x : Operand} {type : TypeId} {pos : String} {after : Array Edge} : wops P W0 A n ops (⟨some d, .move x, type, pos, after, none⟩ :: rest) KF ρ h = (d < n ∧ okO W0.heap.size x ∧ wops P W0 A n ops rest KF (upd ρ d (evo ρ x)) h) := propext Iff.rfl
theorem wops_as {d : Nat} {x : Operand} {type : TypeId} {pos : String} {after : Array Edge} : wops P W0 A n ops (⟨some d, .assign x, type, pos, after, none⟩ :: rest) KF ρ h = (d < n ∧ okO W0.heap.size x ∧ wops P W0 A n ops rest KF (upd ρ d (evo ρ x)) h) := propext Iff.rfl
/-- What holds between two parts. -/
theorem awp_mid {d : Nat} {a b : Code} (R : Fr → Hp → Prop) (ha : awp P W0 (AC P W0 d) n a (thenA R Q) ρ h) (hb : ∀ ρ h, R ρ h → awp P W0 (AC P W0 d) n b Q ρ h) : awp P W0 (AC P W0 d) n (.seq a b) Q ρ h :=
  awp_mono (AC_mono d) a (fun e ρ h => thenA_mono hb (fun _ _ _ hh => hh) e ρ h) ha
theorem wop_pick {dst : Option Tmp} {c x y : Operand} {type : TypeId} {pos : String} {after : Array Edge} {g : Option (Nat × Bool)} : wop P W0 A ⟨dst, .pick c x y, type, pos, after, g⟩ ρ h K = (okO W0.heap.size c ∧ okO W0.heap.size x ∧ okO W0.heap.size y ∧ isBl (evo ρ c) = true ∧ K (pk (evo ρ c) (evo ρ x) (evo ρ y)) h) := by
  rw [wop]
  apply propext
  refine and_congr_right fun _ => and_congr_right fun _ => and_congr_right fun _ => ?_
  constructor
  · rintro ⟨t, ht, k1, k2⟩
    refine ⟨isBl_iff.2 ⟨t, ht⟩, ?_⟩
    rw [ht]
    cases t with
    | true => exact k1 rfl
    | false => exact k2 rfl
  · rintro ⟨hb, hh⟩
    obtain ⟨t, ht⟩ := isBl_iff.1 hb
    rw [ht] at hh
    refine ⟨t, ht, fun e => ?_, fun e => ?_⟩
    · subst e; exact hh
    · subst e; exact hh
theorem wops_pk {d : Nat} {c x y : Operand} {type : TypeId} {pos : String} {after : Array Edge} : wops P W0 A n ops (⟨some d, .pick c x y, type, pos, after, none⟩ :: rest) KF ρ h = (d < n ∧ okO W0.heap.size c ∧ okO W0.heap.size x ∧ okO W0.heap.size y ∧ isBl (evo ρ c) = true ∧ wops P W0 A n ops rest KF (upd ρ d (pk (evo ρ c) (evo ρ x) (evo ρ y))) h) := by
  rw [wops_n, wop_pick]; rfl
theorem awp_cond_ite {c : Operand} {x y : Code} : awp P W0 A n (.cond c x y) Q ρ h = (okO W0.heap.size c ∧ isBl (evo ρ c) = true ∧ if isB true (evo ρ c) = true then awp P W0 A n x Q ρ h else awp P W0 A n y Q ρ h) := by
  rw [awp]
  apply propext
  refine and_congr_right fun _ => ?_
  constructor
  · rintro ⟨t, ht, k1, k2⟩
    refine ⟨isBl_iff.2 ⟨t, ht⟩, ?_⟩
    rw [ht]
    cases t with
    | true => rw [if_pos (isB_iff.2 rfl)]; exact k1 rfl
    | false => rw [if_neg (by simp [isB])]; exact k2 rfl
  · rintro ⟨hb, hh⟩
    obtain ⟨t, ht⟩ := isBl_iff.1 hb
    rw [ht] at hh
    refine ⟨t, ht, fun e => ?_, fun e => ?_⟩
    · rw [if_pos (isB_iff.2 (by rw [e]))] at hh; exact hh
    · rw [if_neg (by simp [isB, e])] at hh; exact hh
end
end Go.Proofs.AbM
