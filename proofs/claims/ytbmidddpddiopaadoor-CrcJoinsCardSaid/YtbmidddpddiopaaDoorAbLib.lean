/- The abstract machine: slices that are read, slices of one's own, and the rules for the operations on them. -/
import Derived.Test.YtbmidddpddiopaaDoorAbSimp
set_option linter.unusedVariables false
set_option linter.unusedSimpArgs false
namespace Go.Proofs.AbM
open Go.RowKit

/-- A function's results, one by one. -/
def resK (P : Program) (W0 : World) (rs : List ResultVar) (ρ : Fr) (h : Hp) (K : List Value → Prop) : Prop :=
  match rs with
  | [] => K []
  | .tmp t :: rs => resK P W0 rs ρ h fun vs => K (ρ t :: vs)
  | .cell a t :: rs => wLoad P W0 t (ρ a) h fun u _ => resK P W0 rs ρ h fun vs => K (u :: vs)
def bodyR (P : Program) (W0 : World) (rs : List ResultVar) (K : Value → Hp → Prop) (e : Exit) (ρ : Fr) (h : Hp) : Prop :=
  match e with
  | .normal | .ret => resK P W0 rs ρ h fun vs => K (oneOf vs) h
  | _ => False
section
variable {P : Program} {W0 : World} {ρ : Fr} {h : Hp} {K : Value → Hp → Prop}
theorem resK_nil (K : List Value → Prop) : resK P W0 [] ρ h K = K [] := propext Iff.rfl
theorem resK_tmp (t : Nat) (rs : List ResultVar) (K : List Value → Prop) : resK P W0 (.tmp t :: rs) ρ h K = resK P W0 rs ρ h fun vs => K (ρ t :: vs) := propext Iff.rfl
theorem resK_cell (a : Nat) (t : TypeId) (rs : List ResultVar) (K : List Value → Prop) : resK P W0 (.cell a t :: rs) ρ h K = wLoad P W0 t (ρ a) h fun u _ => resK P W0 rs ρ h fun vs => K (u :: vs) := propext Iff.rfl
theorem oneOf_one (v : Value) : oneOf [v] = v := rfl
theorem oneOf_nil : oneOf [] = .tuple #[] := rfl
theorem oneOf_more (v u : Value) (vs : List Value) : oneOf (v :: u :: vs) = .tuple (v :: u :: vs).toArray := rfl
theorem resK_res : ∀ {rs : List ResultVar} {K : List Value → Prop}, resK P W0 rs ρ h K → ∃ vs, resO P W0 rs ρ h vs ∧ K vs
  | [], K, hk => ⟨[], trivial, hk⟩
  | .tmp t :: rs, K, hk => by
    obtain ⟨vs, h1, h2⟩ := resK_res (rs := rs) (K := fun vs => K (ρ t :: vs)) hk
    exact ⟨ρ t :: vs, ⟨rfl, h1⟩, h2⟩
  | .cell a t :: rs, K, hk => by
    obtain ⟨ad, he, g, hg, k1, k2⟩ := hk
    cases g with
    | true =>
      obtain ⟨n, cs, q1, q2, q3⟩ := k1 rfl
      obtain ⟨vs, h1, h2⟩ := resK_res (rs := rs) (K := fun vs => K (.agg cs.toArray :: vs)) q3
      exact ⟨.agg cs.toArray :: vs, ⟨⟨ad, he, true, hg, fun _ => ⟨n, cs, q1, q2, rfl⟩, fun e => by cases e⟩, h1⟩, h2⟩
    | false =>
      obtain ⟨v, q1, q2⟩ := k2 rfl
      obtain ⟨vs, h1, h2⟩ := resK_res (rs := rs) (K := fun vs => K (v :: vs)) q2
      exact ⟨v :: vs, ⟨⟨ad, he, false, hg, (fun e => by cases e), fun _ => ⟨v, q1, rfl⟩⟩, h1⟩, h2⟩
theorem bodyR_ret (rs : List ResultVar) : bodyR P W0 rs K .ret ρ h = resK P W0 rs ρ h fun vs => K (oneOf vs) h := propext Iff.rfl
theorem bodyR_normal (rs : List ResultVar) : bodyR P W0 rs K .normal ρ h = resK P W0 rs ρ h fun vs => K (oneOf vs) h := propext Iff.rfl
theorem AC_go {d : Nat} {f : FuncId} {args : List Value} {fn : Func} {c : Code} {n : Nat} {rs : Array ResultVar} (hf : P.funcs[f]? = some fn) (hb : fn.body = some c) (hn : (fn.name == "runtime.NumGoroutine") = false) (hnt : fn.ntmps = n) (hr : fn.results = rs) (hl : Nat.ble args.length n = true)
    (hw : ∀ Q : Exit → Fr → Hp → Prop, (∀ ρ h, bodyR P W0 rs.toList K .ret ρ h → Q .ret ρ h) → (∀ ρ h, bodyR P W0 rs.toList K .ret ρ h → Q .normal ρ h) → awp P W0 (AC P W0 d) n c Q (initF args) h) : AC P W0 (d + 1) f args h K := by
  subst hnt
  subst hr
  refine .inr ⟨fn, c, hf, hb, hn, Nat.le_of_ble_eq_true hl, hw _ (fun ρ h hb => ?_) (fun ρ h hb => ?_)⟩
  · exact resK_res hb
  · exact resK_res hb
theorem callee_eq {f : FuncId} {a b : Array Value} {p : FuncId → Array Value → Array Value → Prop} : (∃ g xs ys, Value.func (.func f) a b = .func (.func g) xs ys ∧ p g xs ys) = p f a b := by
  apply propext
  constructor
  · rintro ⟨g, xs, ys, he, hp⟩
    cases he
    exact hp
  · exact fun hp => ⟨_, _, _, rfl, hp⟩
def intK : Option TypeDesc → Option IntKind
  | some (.int k) => some k
  | _ => none
theorem intK_int (k : IntKind) : intK (some (.int k)) = some k := rfl
theorem wConv_num {src dst : TypeId} {k : IntKind} {a : Int} (hs : (intK (P.underlying src)).isSome = true) (hd : (intK (P.underlying dst)).isSome = true) : wConv P W0 src dst (.int k a) h K = (∃ kd, intK (P.underlying dst) = some kd ∧ K (.int kd (kd.wrap a)) h) := by
  cases h1 : P.underlying src with
  | none => rw [h1] at hs; cases hs
  | some d1 =>
    cases h2 : P.underlying dst with
    | none => rw [h2] at hd; cases hd
    | some d2 =>
      rw [h1] at hs
      rw [h2] at hd
      cases d1 <;> try (cases hs)
      cases d2 <;> try (cases hd)
      apply propext
      rw [wConv_int h1 h2]
      simp [intK]
theorem wLen_slice {t e : TypeId} (hu : P.underlying t = some (.slice e)) (a : Option Addr) (n c : Nat) : wLen P t (.slice a n c) h K = K (.int .i64 n) h := by simp [wLen, hu]
theorem wLen_string {t : TypeId} (hu : P.underlying t = some .string) (s : ByteArray) : wLen P t (.string s) h K = K (.int .i64 s.size) h := by simp [wLen, hu]

/-! ### What is read -/
/-- A slice's shape. -/
def okA (B : Nat) (a : Option Addr) (n c : Nat) : Prop := (a = none ∧ n = 0 ∧ c = 0) ∨ (a = some emptyAt ∧ n = 0 ∧ c = 0) ∨ ∃ ad, a = some ad ∧ ad.spot = none ∧ n ≤ c ∧ (ad.block < B ∨ c = n)
/-- A slice whose elements, of sz cells each, are as E tells. -/
def SlG (W0 : World) (h : Hp) {α : Type} (sz : Nat) (E : α → List Value → Prop) (v : Value) (xs : List α) : Prop :=
  ∃ a c, v = .slice a xs.length c ∧ okA W0.heap.size a xs.length c ∧ ∀ (i : Nat) (x : α), xs[i]? = some x → ∃ ad vs, a = some ad ∧ rds W0 h (ad.add (i * sz)) 0 sz = some vs ∧ E x vs
/-- Elements of one cell. -/
def E1 {α : Type} (f : α → Value) (x : α) (vs : List Value) : Prop := vs = [f x]
abbrev SlI (W0 : World) (h : Hp) (k : IntKind) (v : Value) (xs : List Int) : Prop := SlG W0 h 1 (E1 (.int k)) v xs
theorem rds_one (a : Addr) : rds W0 h a 0 1 = (rd W0 h a).map fun v => [v] := by
  have : a.add 0 = a := by unfold Addr.add; rfl
  simp only [rds, this]
  cases rd W0 h a <;> rfl
theorem SlG.nil {α : Type} (sz : Nat) (E : α → List Value → Prop) : SlG W0 h sz E (.slice none 0 0) [] := ⟨none, 0, rfl, .inl ⟨rfl, rfl, rfl⟩, fun i x hx => by simp at hx⟩
theorem SlG.len {α : Type} {sz : Nat} {E : α → List Value → Prop} {v : Value} {xs : List α} (hs : SlG W0 h sz E v xs) : ∃ a c, v = .slice a xs.length c := by obtain ⟨a, c, rfl, _⟩ := hs; exact ⟨a, c, rfl⟩
theorem SlG.get1 {α : Type} {f : α → Value} {a : Option Addr} {n c : Nat} {xs : List α} (hs : SlG W0 h 1 (E1 f) (.slice a n c) xs) {i : Nat} {x : α} (hx : xs[i]? = some x) : ∃ ad, a = some ad ∧ rd W0 h (ad.add i) = some (f x) := by
  obtain ⟨a', c', he, _, hr⟩ := hs
  cases he
  obtain ⟨ad, vs, rfl, h1, h2⟩ := hr i x hx
  rw [rds_one, Nat.mul_one] at h1
  obtain ⟨v, hv, rfl⟩ := Option.map_eq_some_iff.1 h1
  injection h2 with h2
  subst h2
  exact ⟨ad, rfl, hv⟩
/-- h' has all that h has, as it was. -/
def Ext (h h' : Hp) : Prop := h <+: h'
theorem Ext.refl (h : Hp) : Ext h h := List.prefix_rfl
theorem Ext.trans {h h1 h2 : Hp} (a : Ext h h1) (b : Ext h1 h2) : Ext h h2 := List.IsPrefix.trans a b
theorem Ext.push (h : Hp) (b : Blk) : Ext h (h ++ [b]) := List.prefix_append _ _
theorem Ext.get {h h' : Hp} (e : Ext h h') {j : Nat} {b : Blk} (hj : h[j]? = some b) : h'[j]? = some b := prefix_get e hj
theorem Ext.length {h h' : Hp} (e : Ext h h') : h.length ≤ h'.length := List.IsPrefix.length_le e
/-- What lies behind h's blocks may be written. -/
theorem Ext.set {h h' : Hp} (e : Ext h h') {j : Nat} (hj : h.length ≤ j) (b : Blk) : Ext h (h'.set j b) := by
  obtain ⟨t, rfl⟩ := e
  rw [List.set_append_right _ _ hj]
  exact List.prefix_append _ _
theorem rd_ext {h h' : Hp} (e : Ext h h') {a : Addr} {v : Value} (hv : rd W0 h a = some v) : rd W0 h' a = some v := by
  unfold rd at hv ⊢
  split
  · rename_i hlt; rw [if_pos hlt] at hv; exact hv
  · rename_i hlt
    rw [if_neg hlt] at hv
    split
    · rename_i hs; rw [if_pos hs] at hv; cases hv
    · rename_i hs
      rw [if_neg hs] at hv
      cases hj : h[a.block - W0.heap.size]? with
      | none => rw [hj] at hv; cases hv
      | some b => rw [e.get hj]; rw [hj] at hv; exact hv
theorem rds_ext {h h' : Hp} (e : Ext h h') {a : Addr} : ∀ (k i : Nat) (vs : List Value), rds W0 h a i k = some vs → rds W0 h' a i k = some vs
  | 0, i, vs, hv => hv
  | k + 1, i, vs, hv => by
    simp only [rds] at hv ⊢
    obtain ⟨v, h1, h2⟩ := Option.bind_eq_some_iff.1 hv
    obtain ⟨us, h3, rfl⟩ := Option.map_eq_some_iff.1 h2
    rw [rd_ext e h1, Option.bind_some, rds_ext e k _ us h3]; rfl
theorem SlG.ext {h h' : Hp} (e : Ext h h') {α : Type} {sz : Nat} {E : α → List Value → Prop} {v : Value} {xs : List α} (hs : SlG W0 h sz E v xs) : SlG W0 h' sz E v xs := by
  obtain ⟨a, c, rfl, ha, hr⟩ := hs
  refine ⟨a, c, rfl, ha, fun i x hx => ?_⟩
  obtain ⟨ad, vs, rfl, h1, h2⟩ := hr i x hx
  exact ⟨ad, vs, rfl, rds_ext e _ _ _ h1, h2⟩
theorem SlG.imp {α : Type} {sz : Nat} {E E' : α → List Value → Prop} {v : Value} {xs : List α} (hs : SlG W0 h sz E v xs) (hE : ∀ x vs, E x vs → E' x vs) : SlG W0 h sz E' v xs := by
  obtain ⟨a, c, rfl, ha, hr⟩ := hs
  refine ⟨a, c, rfl, ha, fun i x hx => ?_⟩
  obtain ⟨ad, vs, rfl, h1, h2⟩ := hr i x hx
  exact ⟨ad, vs, rfl, h1, hE _ _ h2⟩
/-- All cells of a slice, one behind the other. -/
theorem rds_append {a : Addr} : ∀ (k i l : Nat) (vs ws : List Value), rds W0 h a i k = some vs → rds W0 h a (i + k) l = some ws → rds W0 h a i (k + l) = some (vs ++ ws)
  | 0, i, l, vs, ws, h1, h2 => by simp only [rds, Option.some.injEq] at h1; subst h1; simpa using h2
  | k + 1, i, l, vs, ws, h1, h2 => by
    simp only [rds] at h1
    obtain ⟨v, e1, e2⟩ := Option.bind_eq_some_iff.1 h1
    obtain ⟨us, e3, rfl⟩ := Option.map_eq_some_iff.1 e2
    have := rds_append k (i + 1) l us ws e3 (by rwa [show i + 1 + k = i + (k + 1) by omega])
    rw [show k + 1 + l = (k + l) + 1 by omega]
    simp only [rds, e1, Option.bind_some, this]; rfl
theorem add_add' (a : Addr) (i j : Nat) : (a.add i).add j = a.add (i + j) := by
  unfold Addr.add
  by_cases h1 : i = 0 <;> by_cases h2 : j = 0 <;> simp [h1, h2, Nat.add_assoc]
theorem rds_shift {a : Addr} (m : Nat) : ∀ (k i : Nat), rds W0 h (a.add m) i k = rds W0 h a (m + i) k
  | 0, i => rfl
  | k + 1, i => by simp only [rds, add_add', rds_shift m k, Nat.add_assoc]
theorem SlG.all {α : Type} {sz : Nat} {f : α → List Value} {a : Addr} {n c : Nat} {xs : List α} (hs : SlG W0 h sz (fun x vs => vs = f x) (.slice (some a) n c) xs) : ∀ k, k ≤ xs.length → rds W0 h a 0 (k * sz) = some ((xs.take k).flatMap f)
  | 0, _ => by simp [rds]
  | k + 1, hk => by
    obtain ⟨a', c', he, _, hr⟩ := id hs
    cases he
    obtain ⟨ad, vs, e1, h1, h2⟩ := hr k xs[k] (List.getElem?_eq_getElem (by omega))
    cases e1
    subst h2
    rw [rds_shift] at h1
    have := rds_append (k * sz) 0 sz _ _ (SlG.all hs k (by omega)) (by rwa [Nat.zero_add])
    rw [Nat.add_mul, Nat.one_mul, this, List.take_succ_eq_append_getElem (by omega), List.flatMap_append]
    simp
theorem flatMap_one {α : Type} (f : α → Value) (xs : List α) : xs.flatMap (fun x => [f x]) = xs.map f := by induction xs <;> simp_all
theorem SlG.all1 {α : Type} {f : α → Value} {a : Addr} {n c : Nat} {xs : List α} (hs : SlG W0 h 1 (E1 f) (.slice (some a) n c) xs) : rds W0 h a 0 xs.length = some (xs.map f) := by
  have := SlG.all (f := fun x => [f x]) (hs.imp fun x vs hE => hE) xs.length (Nat.le_refl _)
  rwa [Nat.mul_one, List.take_length, flatMap_one] at this

/-! ### What is one's own -/
/-- A row of one's own: nil, or a block. -/
inductive Own (W0 : World) (h : Hp) (e : TypeId) (sz : Nat) : Value → Nat → List Value → Prop
  | nil : Own W0 h e sz (.slice none 0 0) 0 []
  | blk {j n : Nat} {cs : List Value} : h[j]? = some (.cells e cs) → cs.length = n * sz → Own W0 h e sz (.slice (some ⟨W0.heap.size + j, 0, none⟩) n n) n cs
/-- .. of which block. -/
def ownAt (W0 : World) (v : Value) (j : Nat) : Prop := ∃ n c, v = .slice (some ⟨W0.heap.size + j, 0, none⟩) n c
theorem rd_own {j o : Nat} {e : TypeId} {cs : List Value} (hj : h[j]? = some (.cells e cs)) : rd W0 h ⟨W0.heap.size + j, o, none⟩ = cs[o]? := by
  unfold rd
  rw [if_neg (by show ¬ W0.heap.size + j < W0.heap.size; omega)]
  simp [hj]
theorem rds_own {j : Nat} {e : TypeId} {cs : List Value} (hj : h[j]? = some (.cells e cs)) : ∀ (k o i : Nat), o + i + k ≤ cs.length → rds W0 h ⟨W0.heap.size + j, o, none⟩ i k = some ((cs.drop (o + i)).take k)
  | 0, o, i, _ => by simp [rds]
  | k + 1, o, i, hl => by
    simp only [rds, add_at, rd_own hj]
    rw [List.getElem?_eq_getElem (by omega), Option.bind_some, rds_own hj k o (i + 1) (by omega)]
    rw [List.drop_eq_getElem_cons (show o + i < cs.length by omega), List.take_succ_cons]
    rfl
theorem Own.sl {α : Type} {e : TypeId} {sz n : Nat} {v : Value} {f : α → List Value} {xs : List α} (ho : Own W0 h e sz v n (xs.flatMap f)) (hn : n = xs.length) (hf : ∀ x ∈ xs, (f x).length = sz) : SlG W0 h sz (fun x vs => vs = f x) v xs := by
  subst hn
  generalize hm : xs.length = m at ho
  generalize hc : xs.flatMap f = cs at ho
  cases ho with
  | nil => exact ⟨none, 0, by rw [hm], .inl ⟨rfl, hm, rfl⟩, fun i x hx => by rw [List.eq_nil_of_length_eq_zero hm] at hx; simp at hx⟩
  | blk hj hl =>
    rename_i j
    refine ⟨_, _, by rw [hm], .inr (.inr ⟨_, rfl, rfl, by omega, .inr hm.symm⟩), fun i x hx => ⟨_, _, rfl, ?_, rfl⟩⟩
    have hi := (List.getElem?_eq_some_iff.1 hx).1
    rw [add_at, Nat.zero_add]
    have hle : (i + 1) * sz ≤ cs.length := by rw [hl]; exact Nat.mul_le_mul_right _ (by omega)
    rw [rds_own hj sz (i * sz) 0 (by rw [Nat.add_mul] at hle; omega)]
    congr 1
    rw [Nat.add_zero, ← hc]
    have key : ∀ (l : List α) (i : Nat) (x : α), l[i]? = some x → (∀ y ∈ l, (f y).length = sz) → ((l.flatMap f).drop (i * sz)).take sz = f x := by
      intro l
      induction l with
      | nil => intro i x hx; simp at hx
      | cons y l ih =>
        intro i x hx hf
        cases i with
        | zero =>
          simp only [List.getElem?_cons_zero, Option.some.injEq] at hx
          subst hx
          rw [Nat.zero_mul, List.drop_zero, List.flatMap_cons, List.take_append_of_le_length (by rw [hf y (by simp)]; exact Nat.le_refl _), List.take_of_length_le (by rw [hf y (by simp)]; exact Nat.le_refl _)]
        | succ i =>
          have hy := hf y (by simp)
          rw [List.flatMap_cons, show (i + 1) * sz = (f y).length + i * sz by rw [hy, Nat.add_mul]; omega, List.drop_append]
          rw [List.drop_eq_nil_of_le (by omega), List.nil_append, Nat.add_sub_cancel_left]
          exact ih i x (by simpa using hx) (fun z hz => hf z (by simp [hz]))
    exact key xs i x hx hf
theorem Own.sl1 {α : Type} {e : TypeId} {v : Value} {n : Nat} {f : α → Value} {xs : List α} (ho : Own W0 h e 1 v n (xs.map f)) : SlG W0 h 1 (E1 f) v xs := by
  have hn : n = xs.length := by
    generalize hc : xs.map f = cs at ho
    have := congrArg List.length hc
    rw [List.length_map] at this
    cases ho with
    | nil => simpa using this.symm
    | blk hj hl => omega
  exact Own.sl (f := fun x => [f x]) (by rw [flatMap_one]; exact ho) hn (fun x _ => rfl)
theorem Own.ext {h h' : Hp} (ex : Ext h h') {e : TypeId} {sz n : Nat} {v : Value} {cs : List Value} (ho : Own W0 h e sz v n cs) : Own W0 h' e sz v n cs := by
  cases ho with
  | nil => exact .nil
  | blk hj hl => exact .blk (ex.get hj) hl

/-! ### Rules -/
/-- A slice type of elements of one cell. -/
structure SlT (P : Program) (t e : TypeId) (z : Value) (b : Nat) : Prop where
  und : P.underlying t = some (.slice e)
  sz : szO P e = some 1
  bytes : bytesO P e = some b
  zero : zeroO P e = some z
  clo : clo 2 z = true
  one : z.oneCell' = true
variable {t e : TypeId} {z : Value} {b : Nat}
theorem SlT.cells (T : SlT P t e z b) : z.cells = #[z] := by
  have := T.one
  cases z <;> first | rfl | simp [Value.oneCell'] at this
theorem clo_four : ∀ {n : Nat} {v : Value}, clo n v = true → clo (n + 1) v = true := by
  intro n
  induction n with
  | zero => intro v hv; simp [clo] at hv
  | succ n ih =>
    intro v hv
    cases v with
    | agg xs => simp only [clo, List.all_eq_true] at hv ⊢; exact fun x hx => ih (hv x hx)
    | tuple xs => simp only [clo, List.all_eq_true] at hv ⊢; exact fun x hx => ih (hv x hx)
    | func fn xs ys => simp only [clo, Bool.and_eq_true, List.all_eq_true] at hv ⊢; exact ⟨fun x hx => ih (hv.1 x hx), fun x hx => ih (hv.2 x hx)⟩
    | pointer a => cases a <;> exact hv
    | slice a _ _ => cases a <;> exact hv
    | map a => cases a <;> exact hv
    | chan a => cases a <;> exact hv
    | _ => exact hv
theorem wMake_one (T : SlT P t e z b) {k k' : IntKind} {n : Nat} (hb : b * n ≤ 140737488355328) (hn : n ≤ 140737488355328) (hK : K (.slice (some ⟨W0.heap.size + h.length, 0, none⟩) n n) (h ++ [.cells e (List.replicate n z)])) : wMake P W0 t (.int k n) (.int k' n) h K :=
  ⟨k, k', n, e, z, b, rfl, rfl, T.und, T.zero, T.sz, T.one, T.clo, T.bytes, hb, hn, hK⟩
theorem fill_ones {place : Nat → Option (Nat × Nat)} (hp : ∀ i, place i = some (i, 1)) : ∀ (vs : List Value) (off : Nat) (cs : Array Value), (∀ v ∈ vs, v.oneCell' = true) → off + vs.length ≤ cs.size → Instr.fill place cs ((vs.zipIdx off).map fun (v, i) => (i, v)) = some (cs.toList.take off ++ vs ++ cs.toList.drop (off + vs.length)).toArray
  | [], off, cs, _, _ => by simp [Instr.fill]
  | v :: vs, off, cs, h1, hl => by
    simp only [List.length_cons] at hl
    have hv : v.cells = #[v] := by
      have := h1 v (by simp)
      cases v <;> first | rfl | simp [Value.oneCell'] at this
    simp only [List.zipIdx_cons, List.map_cons, Instr.fill, hp, hv]
    rw [if_neg (by simp; omega)]
    have ih := fill_ones hp vs (off + 1) (cs.setIfInBounds off v) (fun u hu => h1 u (by simp [hu])) (by simp; omega)
    have he : (#[v] : Array Value).zipIdx.foldl (fun cs (c, j) => cs.setIfInBounds (off + j) c) cs = cs.setIfInBounds off v := rfl
    rw [he]
    refine ih.trans ?_
    congr 2
    simp only [Array.toList_setIfInBounds, List.length_cons]
    have h1 : (cs.toList.set off v).take (off + 1) = cs.toList.take off ++ [v] := by
      rw [List.take_succ_eq_append_getElem (by simp; omega)]
      simp [List.take_set_of_le]
    have h2 : (cs.toList.set off v).drop (off + 1 + vs.length) = cs.toList.drop (off + (vs.length + 1)) := by
      rw [List.drop_set, if_pos (by omega)]
      congr 1; omega
    rw [h1, h2]; simp
/-- A literal of elements of one cell. -/
theorem wBuildS_ones (T : SlT P t e z b) {len : Nat} {parts : List (Nat × Value)} (vs : List Value) (hp : parts = (vs.zipIdx 0).map fun (v, i) => (i, v)) (hl : vs.length = len) (hm : len ≤ 16777216) (h1 : ∀ v ∈ vs, v.oneCell' = true)
    (hK : K (.slice (some ⟨W0.heap.size + h.length, 0, none⟩) len len) (h ++ [.cells e vs])) : wBuildS P W0 t len parts h K := by
  refine ⟨e, 1, z, vs.toArray, T.und, T.sz, by omega, by omega, T.zero, clo_four (clo_four T.clo), by rw [T.cells]; rfl, by rw [T.cells]; simpa using T.one, ?_, by simpa using h1, by simpa using hK⟩
  rw [hp, fill_ones (fun i => by rw [Nat.mul_one]) vs 0 _ h1 (by simp; omega)]
  congr 1
  simp [hl]
/-- append of a slice that is read, or of a string's bytes, onto a row of one's own. -/
theorem wAppend_own {t' : TypeId} (T : SlT P t e z b) {s x : Value} {l n : Nat} {cs vs : List Value} (hs : Own W0 h e 1 s l cs) (hn : newsO P W0 t' 1 x h n vs) (hb : (l + n) * b ≤ 140737488355328) (hl : l + n ≤ 140737488355328)
    (hK : ∀ v h', Own W0 h' e 1 v (l + n) (cs ++ vs) → (∀ h0, Ext h0 h → (∀ j, ownAt W0 s j → h0.length ≤ j) → Ext h0 h') → (∀ j, ownAt W0 v j → h.length ≤ j) → (∀ i, i < h.length → ¬ ownAt W0 s i → h'[i]? = h[i]?) → h.length ≤ h'.length → K v h') : wAppend P W0 t t' s x h K := by
  have hvl : vs.length = n := by
    cases x with
    | slice a q c => cases a with
      | none => obtain ⟨_, _, rfl, rfl⟩ := hn; rfl
      | some a =>
        obtain ⟨_, rfl, _, hr⟩ := hn
        have : ∀ (k i : Nat) (vs : List Value), rds W0 h a i k = some vs → vs.length = k := by
          intro k
          induction k with
          | zero => intro i vs hv; simp [rds] at hv; subst hv; rfl
          | succ k ih =>
            intro i vs hv
            simp only [rds] at hv
            obtain ⟨v, e1, e2⟩ := Option.bind_eq_some_iff.1 hv
            obtain ⟨us, e3, rfl⟩ := Option.map_eq_some_iff.1 e2
            simp [ih _ _ e3]
        rw [Nat.mul_one] at hr
        exact this _ _ _ hr
    | string s => obtain ⟨_, _, rfl, rfl⟩ := hn; simp only [u8s, List.length_map, Array.length_toList]; rfl
    | _ => exact hn.elim
  refine ⟨e, 1, b, n, vs, z, T.und, T.sz, by omega, T.bytes, T.zero, by rw [T.cells]; rfl, hn, ?_⟩
  cases hs with
  | nil =>
    refine .inl ⟨rfl, by simpa using hb, by simpa using hl, fun h0 => ?_, fun h0 => ?_⟩
    · subst h0
      have : vs = [] := List.eq_nil_of_length_eq_zero hvl
      subst this
      exact hK _ h .nil (fun h0 e _ => e) (fun j ⟨_, _, he⟩ => by cases he) (fun _ _ _ => rfl) (Nat.le_refl _)
    · refine hK _ _ ?_ (fun h0 e _ => e.trans (Ext.push _ _)) ?_ (fun i hi _ => List.getElem?_append_left hi) (by simp)
      · rw [Nat.zero_add, List.nil_append]
        exact .blk (by simp) (by omega)
      · rintro j ⟨_, _, he⟩
        injection he with he
        injection he with he
        injection he with he
        omega
  | blk hj hc =>
    rename_i j
    have hjl := (List.getElem?_eq_some_iff.1 hj).1
    refine .inr ⟨j, l, cs, rfl, hj, hc, hb, hl, hK _ _ ?_ ?_ ?_ ?_ (by simp)⟩
    · refine .blk ?_ (by rw [List.length_append, hc, hvl]; omega)
      rw [List.getElem?_append_right (by simp), List.length_set, Nat.sub_self]; rfl
    · exact fun h0 e1 e2 => (e1.set (e2 j ⟨l, l, rfl⟩) .dead).trans (Ext.push _ _)
    · rintro i ⟨_, _, he⟩
      injection he with he
      injection he with he
      injection he with he
      omega
    · intro i hi hne
      rw [List.getElem?_append_left (by simpa using hi), List.getElem?_set_ne]
      rintro rfl
      exact hne ⟨l, l, rfl⟩
theorem newsO_sl {α : Type} {t' e' : TypeId} {f : α → Value} {v : Value} {xs : List α} (hu : P.underlying t' = some (.slice e')) (hs : SlG W0 h 1 (E1 f) v xs) : newsO P W0 t' 1 v h xs.length (xs.map f) := by
  obtain ⟨a, c, rfl, ha, hr⟩ := id hs
  cases a with
  | none =>
    have h0 : xs.length = 0 := by rcases ha with ⟨_, h0, _⟩ | ⟨h0, _⟩ | ⟨_, h0, _⟩ <;> first | exact h0 | cases h0
    rw [List.eq_nil_of_length_eq_zero h0]
    exact ⟨⟨_, hu⟩, rfl, rfl, rfl⟩
  | some a =>
    refine ⟨⟨_, hu⟩, rfl, ?_, by rw [Nat.mul_one]; exact hs.all1⟩
    rcases ha with ⟨h0, _⟩ | ⟨_, h0, _⟩ | ⟨ad, h0, h1, _⟩
    · cases h0
    · exact .inl h0
    · cases h0; exact .inr h1
/-- .. of a literal that was just made. -/
theorem newsO_new {t' e' : TypeId} {vs : List Value} {n : Nat} (hu : P.underlying t' = some (.slice e')) (hn : vs.length = n) : newsO P W0 t' 1 (.slice (some ⟨W0.heap.size + h.length, 0, none⟩) n n) (h ++ [.cells e vs]) n vs := by
  refine ⟨⟨_, hu⟩, rfl, .inr rfl, ?_⟩
  rw [Nat.mul_one]
  have hj : (h ++ [Blk.cells e vs])[h.length]? = some (.cells e vs) := by simp
  rw [rds_own hj n 0 0 (by omega)]
  simp [← hn]
theorem SlG.drop_take {α : Type} {sz : Nat} {E : α → List Value → Prop} {a : Option Addr} {n c : Nat} {xs : List α} (hz : 0 < sz) (hs : SlG W0 h sz E (.slice a n c) xs) (hu : P.underlying t = some (.slice e)) (hsz : szO P e = some sz) {lo hi : Option Value} {l r : Int} (h1 : bnd 0 lo l) (h2 : bnd n hi r) (h3 : 0 ≤ l) (h4 : l ≤ r) (h5 : r ≤ n)
    (hK : ∀ v, SlG W0 h sz E v ((xs.take r.toNat).drop l.toNat) → K v h) : wSlice P W0 t (.slice a n c) lo hi h K := by
  obtain ⟨a', c', he, ha, hr⟩ := hs
  cases he
  refine ⟨e, sz, hu, hsz, hz, l, r, h1, h2, h3, h4, ?_⟩
  have hlen : ((xs.take r.toNat).drop l.toNat).length = (r - l).toNat := by rw [List.length_drop, List.length_take]; omega
  rcases ha with ⟨rfl, h0, rfl⟩ | ⟨rfl, h0, rfl⟩ | ⟨ad, rfl, hsp, hnc, hor⟩
  · have hx := List.eq_nil_of_length_eq_zero h0
    subst hx
    have hr0 : r = 0 := by simp at h5; omega
    have hl0 : l = 0 := by omega
    subst hr0; subst hl0
    refine ⟨by omega, hK _ ?_⟩
    exact SlG.nil sz E
  · have hx := List.eq_nil_of_length_eq_zero h0
    subst hx
    have hr0 : r = 0 := by simp at h5; omega
    have hl0 : l = 0 := by omega
    subst hr0; subst hl0
    refine .inr (.inr ⟨rfl, rfl, rfl, by omega, hK _ ?_⟩)
    exact ⟨_, _, rfl, .inr (.inl ⟨rfl, rfl, rfl⟩), fun i x hx => by simp at hx⟩
  · have hel : ∀ (i : Nat) (x : α), ((xs.take r.toNat).drop l.toNat)[i]? = some x → ∃ vs, rds W0 h ((ad.add (l.toNat * sz)).add (i * sz)) 0 sz = some vs ∧ E x vs := by
      intro i x hx
      rw [List.getElem?_drop, List.getElem?_take] at hx
      split at hx
      · obtain ⟨ad', vs, e1, e2, e3⟩ := hr _ x hx
        cases e1
        refine ⟨vs, ?_, e3⟩
        rw [add_add', ← Nat.add_mul]; exact e2
      · cases hx
    by_cases hb : ad.block < W0.heap.size
    · refine .inl ⟨hb, hsp, by omega, hK _ ?_⟩
      refine ⟨_, _, by rw [hlen], .inr (.inr ⟨_, rfl, ?_, by omega, .inl ?_⟩), fun i x hx => ?_⟩
      · split
        · exact hsp
        · unfold Addr.add; split <;> first | exact hsp | rfl
      · split
        · exact hb
        · rw [add_blk]; exact hb
      · have hi := (List.getElem?_eq_some_iff.1 hx).1
        obtain ⟨vs, e1, e2⟩ := hel i x hx
        refine ⟨_, vs, rfl, ?_, e2⟩
        rw [if_neg (by omega)]; exact e1
    · have hc := hor.resolve_left hb
      subst hc
      obtain ⟨bl, o, sp⟩ := ad
      simp only at hsp hb
      subst hsp
      refine .inr (.inl ⟨bl - W0.heap.size, o, by congr 1; omega, rfl, h5, fun hlt => hK _ ?_, fun heq => hK _ ?_⟩)
      · refine ⟨_, _, by rw [hlen], .inr (.inr ⟨_, rfl, rfl, by omega, .inr hlen.symm⟩), fun i x hx => ?_⟩
        obtain ⟨vs, e1, e2⟩ := hel i x hx
        refine ⟨_, vs, rfl, ?_, e2⟩
        rw [add_at] at e1
        rwa [show W0.heap.size + (bl - W0.heap.size) = bl by omega]
      · have h0 : ((xs.take r.toNat).drop l.toNat) = [] := List.eq_nil_of_length_eq_zero (by rw [hlen]; omega)
        rw [h0]
        exact ⟨_, _, rfl, .inr (.inl ⟨rfl, rfl, rfl⟩), fun i x hx => by simp at hx⟩
end
end Go.Proofs.AbM
