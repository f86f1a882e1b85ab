/- The abstract machine: code, calls; and that the program follows it. -/
import Derived.Test.YtbmidddpddiopaaDoorAbMach
set_option linter.unusedVariables false
set_option linter.unusedSimpArgs false
namespace Go.Proofs.AbM
open Go.RowKit

/-- The slots of a frame, and what stands in them. -/
def FR (B : Nat) (m : List (Nat × Nat)) (n : Nat) (ρ : Fr) (a : Act) : Prop := a.tmps.size = n ∧ a.defers = [] ∧ ∀ i, VR B m (ρ i) (a.tmps.getD i undef)
def put (ρ : Fr) (d : Option Nat) (v : Value) : Fr := match d with | some d => upd ρ d v | none => ρ
def dstOk (n : Nat) : Option Nat → Prop | some d => d < n | none => True
theorem FR.mono {B n : Nat} {m m' : List (Nat × Nat)} {ρ : Fr} {a : Act} (h : FR B m n ρ a) (hm : m <+: m') : FR B m' n ρ a := ⟨h.1, h.2.1, fun i => (h.2.2 i).mono hm⟩
theorem FR.put {B n : Nat} {m : List (Nat × Nat)} {ρ : Fr} {a : Act} {d : Option Nat} {v v' : Value} (h : FR B m n ρ a) (hd : dstOk n d) (hv : VR B m v v') : FR B m n (AbM.put ρ d v) (a.put d v') := by
  cases d with
  | none => exact h
  | some d =>
    refine ⟨by simpa [Act.put] using h.1, h.2.1, fun i => ?_⟩
    simp only [AbM.put, upd, Act.put]
    simp only [dstOk] at hd
    by_cases hi : i = d
    · subst hi
      simp [h.1, hd, hv]
    · rw [if_neg hi]
      have := h.2.2 i
      rw [Array.getD_eq_getD_getElem?] at this ⊢
      rwa [Array.getElem?_setIfInBounds_ne (Ne.symm hi)]
theorem FR.ev {B n : Nat} {m : List (Nat × Nat)} {ρ : Fr} {a : Act} (h : FR B m n ρ a) {x : Operand} (hx : okO B x) : VR B m (evo ρ x) (a.eval x) := by
  cases x with
  | tmp t => exact h.2.2 t
  | const v => exact VR.clo 4 v hx
  | global g => exact .atom (by simpa [evo, lowA, okO] using hx)
  | func f => exact VR.clo 2 _ rfl
theorem FR.evs {B n : Nat} {m : List (Nat × Nat)} {ρ : Fr} {a : Act} (h : FR B m n ρ a) : ∀ {xs : List Operand}, okOs B xs → VRs B m (xs.map (evo ρ)) (xs.map a.eval)
  | [], _ => VRs.nil
  | x :: xs, hx => VRs.cons (h.ev (hx x (by simp))) (FR.evs h (fun y hy => hx y (by simp [hy])))

section
variable (P : Program) (W0 : World) (AC : FuncId → List Value → Hp → (Value → Hp → Prop) → Prop)
/-- The operations of a region, one behind the other. -/
def wops (n : Nat) (ops : Array Oper) : List Oper → (Fr → Hp → Prop) → Fr → Hp → Prop
  | [], K, ρ, h => K ρ h
  | o :: rest, K, ρ, h => dstOk n o.dst ∧
    match o.guard with
    | none => wop P W0 AC o ρ h (fun v h' => wops n ops rest K (put ρ o.dst v) h')
    | some (j, want) => ∃ d t, (ops[j]?).bind (·.dst) = some d ∧ d < n ∧ (ρ d = .bool t ∨ (ρ d = undef ∧ t ≠ want)) ∧ (t = want → wop P W0 AC o ρ h (fun v h' => wops n ops rest K (put ρ o.dst v) h')) ∧ (t ≠ want → wops n ops rest K (put ρ o.dst undef) h)
/-- One operation of a region. -/
def wop1 (n : Nat) (ops : Array Oper) (o : Oper) (K : Fr → Hp → Prop) (ρ : Fr) (h : Hp) : Prop := wops P W0 AC n ops [o] K ρ h
/-- The operations of a region in any order that its edges allow. -/
def wany (n : Nat) (ops : Array Oper) (K : Fr → Hp → Prop) : Nat → Array Bool → Fr → Hp → Prop
  | 0, listed, ρ, h => Region.ready .any ops listed = [] ∧ K ρ h
  | fuel + 1, listed, ρ, h => (Region.ready .any ops listed = [] → K ρ h) ∧ ∀ i ∈ Region.ready .any ops listed, ∃ o, ops[i]? = some o ∧ wop1 P W0 AC n ops o (wany n ops K fuel (listed.setIfInBounds i true)) ρ h
def thenA (next : Fr → Hp → Prop) (Q : Exit → Fr → Hp → Prop) : Exit → Fr → Hp → Prop
  | .normal, ρ, h => next ρ h
  | e, ρ, h => Q e ρ h
def inBlockA (id : Nat) (Q : Exit → Fr → Hp → Prop) : Exit → Fr → Hp → Prop
  | .exit id', ρ, h => if id' = id then Q .normal ρ h else Q (.exit id') ρ h
  | e, ρ, h => Q e ρ h
def awp (n : Nat) : Code → (Exit → Fr → Hp → Prop) → Fr → Hp → Prop
  | .skip, Q, ρ, h => Q .normal ρ h
  | .region _ ops false, Q, ρ, h => wops P W0 AC n ops ops.toList (Q .normal) ρ h
  | .region _ ops true, Q, ρ, h => P.follows .mixedOrders = true ∧ wany P W0 AC n ops (Q .normal) ops.size (Array.replicate ops.size false) ρ h
  | .seq a b, Q, ρ, h => awp n a (thenA (awp n b Q) Q) ρ h
  | .cond c x y, Q, ρ, h => okO W0.heap.size c ∧ ∃ t, evo ρ c = .bool t ∧ (t = true → awp n x Q ρ h) ∧ (t = false → awp n y Q ρ h)
  | .block id c, Q, ρ, h => awp n c (inBlockA id Q) ρ h
  | .loop c, Q, ρ, h => ∃ (I : Nat → Fr → Hp → Prop) (k : Nat), I k ρ h ∧ ∀ k ρ h, I k ρ h → awp n c (thenA (fun ρ' h' => ∃ k', k' < k ∧ I k' ρ' h') Q) ρ h
  | .exit id, Q, ρ, h => Q (.exit id) ρ h
  | .ret, Q, ρ, h => Q .ret ρ h
  | _, _, _, _ => False
/-- A function's results. -/
def resO (P : Program) (W0 : World) (rs : List ResultVar) (ρ : Fr) (h : Hp) (vs : List Value) : Prop :=
  match rs, vs with
  | [], [] => True
  | .tmp t :: rs, v :: vs => v = ρ t ∧ resO P W0 rs ρ h vs
  | .cell a t :: rs, v :: vs => wLoad P W0 t (ρ a) h (fun u _ => u = v) ∧ resO P W0 rs ρ h vs
  | _, _ => False
def oneOf : List Value → Value
  | [v] => v
  | vs => .tuple vs.toArray
def bodyQ (fn : Func) (K : Value → Hp → Prop) (e : Exit) (ρ : Fr) (h : Hp) : Prop :=
  match e with
  | .normal | .ret => ∃ vs, resO P W0 fn.results.toList ρ h vs ∧ K (oneOf vs) h
  | _ => False
def initF (args : List Value) : Fr := fun i => args.getD i undef
theorem initF_nil (i : Nat) : initF [] i = undef := rfl
theorem initF_cons (v : Value) (vs : List Value) (i : Nat) : initF (v :: vs) i = if i = 0 then v else initF vs (i - 1) := by cases i <;> simp [initF]
end
/-- What a call brings, told of the worlds themselves (for what the machine does not walk). -/
def FX (P : Program) (W0 : World) (f : FuncId) (args : List Value) (h : Hp) (K : Value → Hp → Prop) : Prop :=
  ∀ (m : List (Nat × Nat)) (args' : Array Value) (W : World), Rel P W0 m h W → VRs W0.heap.size m args args'.toList →
    (∃ fn, P.funcs[f]? = some fn ∧ fn.body.isSome = true ∧ (fn.name == "runtime.NumGoroutine") = false) ∧
    Calls P f args' W fun e W' => ∃ v v' h' m', e = .returned v' ∧ K v h' ∧ m <+: m' ∧ Rel P W0 m' h' W' ∧ VR W0.heap.size m' v v'
theorem FX.mono {P : Program} {W0 : World} {f : FuncId} {args : List Value} {h : Hp} {K K' : Value → Hp → Prop} (hk : ∀ v h, K v h → K' v h) (hx : FX P W0 f args h K) : FX P W0 f args h K' := fun m args' W R hr =>
  ⟨(hx m args' W R hr).1, (hx m args' W R hr).2.mono fun _ _ ⟨v, v', h', m', a, b, c, d, e⟩ => ⟨v, v', h', m', a, hk _ _ b, c, d, e⟩⟩
/-- What a call asks, down to a depth of calls. -/
def AC (P : Program) (W0 : World) : Nat → FuncId → List Value → Hp → (Value → Hp → Prop) → Prop
  | 0, _, _, _, _ => False
  | d + 1, f, args, h, K => FX P W0 f args h K ∨ ∃ fn c, P.funcs[f]? = some fn ∧ fn.body = some c ∧ (fn.name == "runtime.NumGoroutine") = false ∧ args.length ≤ fn.ntmps ∧ awp P W0 (AC P W0 d) fn.ntmps c (bodyQ P W0 fn K) (initF args) h

/-! ### Soundness -/
section
variable {P : Program} {W0 : World} {A : FuncId → List Value → Hp → (Value → Hp → Prop) → Prop}
def Sound (P : Program) (W0 : World) (A : FuncId → List Value → Hp → (Value → Hp → Prop) → Prop) : Prop :=
  ∀ f args h K, A f args h K → ∀ m args' W, Rel P W0 m h W → VRs W0.heap.size m args args'.toList →
    (∃ fn, P.funcs[f]? = some fn ∧ fn.body.isSome = true ∧ (fn.name == "runtime.NumGoroutine") = false) ∧
    Calls P f args' W fun e W' => ∃ v v' h' m', e = .returned v' ∧ K v h' ∧ m <+: m' ∧ Rel P W0 m' h' W' ∧ VR W0.heap.size m' v v'
theorem Rel.tick {m : List (Nat × Nat)} {h : Hp} {W : World} (R : Rel P W0 m h W) {j b c : Nat} {s : ByteArray} {pos pos' : Nat} (hj : h[j]? = some (.iter s pos)) (hm : m[j]? = some (b, c)) (hb : W.heap[b]? = some (.stringIter s pos)) :
    Rel P W0 m (h.set j (.iter s pos')) { W with heap := W.heap.setIfInBounds b (.stringIter s pos') } := by
  have hjl := (List.getElem?_eq_some_iff.1 hj).1
  have hat := R.at_ j b c hm
  have hold : ∀ k, k ≠ b → (W.heap.setIfInBounds b (.stringIter s pos'))[k]? = W.heap[k]? := fun k hk => Array.getElem?_setIfInBounds_ne (Ne.symm hk)
  have hnew : (W.heap.setIfInBounds b (.stringIter s pos'))[b]? = some (.stringIter s pos') := by simp [hat.2]
  have key : ∀ k : Nat, (∃ x, (h.set j (.iter s pos'))[k]? = some x ∧ x ≠ .dead) → ∃ x, h[k]? = some x ∧ x ≠ .dead := by
    rintro k ⟨x, hx, hne⟩
    rw [List.getElem?_set] at hx
    by_cases he : j = k
    · subst he; exact ⟨_, hj, by simp⟩
    · simp only [he, if_false] at hx; exact ⟨x, hx, hne⟩
  refine ⟨by simp [R.len], R.below.trans ⟨rfl, rfl, rfl, by simp, fun k hk => hold k (by omega)⟩, fun j' b' c' hj' => by simpa using R.at_ j' b' c' hj', fun j' e' ys hj' => ?_, fun j' s' p hj' => ?_, fun j1 j2 b' c1 c2 h1' h2' hd hd' => R.inj j1 j2 b' c1 c2 h1' h2' (key _ hd) (key _ hd')⟩
  · rw [List.getElem?_set] at hj'
    by_cases he : j = j'
    · subst he; simp only [if_true, hjl] at hj'; cases hj'
    · simp only [he, if_false] at hj'
      obtain ⟨b2, c2, cur2, fr2, i, g1, g2, g3⟩ := R.blk j' e' ys hj'
      refine ⟨b2, c2, cur2, fr2, i, g1, (hold b2 ?_).trans g2, g3⟩
      rintro rfl
      exact he (R.inj j j' b2 c c2 hm g1 ⟨_, hj, by simp⟩ ⟨_, hj', by simp⟩)
  · rw [List.getElem?_set] at hj'
    by_cases he : j = j'
    · subst he; simp only [if_true, hjl] at hj'; cases hj'
      exact ⟨b, c, hm, hnew⟩
    · simp only [he, if_false] at hj'
      obtain ⟨b2, c2, g1, g2⟩ := R.itr j' s' p hj'
      refine ⟨b2, c2, g1, (hold b2 ?_).trans g2⟩
      rintro rfl
      exact he (R.inj j j' b2 c c2 hm g1 ⟨_, hj, by simp⟩ ⟨_, hj', by simp⟩)
theorem op_sim (hA : Sound P W0 A) {o : Oper} {ρ : Fr} {h : Hp} {K : Value → Hp → Prop} {n : Nat} {m : List (Nat × Nat)} {W : World} {a : Act} (R : Rel P W0 m h W) (F : FR W0.heap.size m n ρ a) (hw : wop P W0 A o ρ h K)
    {next : Act → World → Prop} {Q : Exit → Act → World → Prop} (hn : ∀ v h' m' v' W', K v h' → m <+: m' → Rel P W0 m' h' W' → VR W0.heap.size m' v v' → next (a.put o.dst v') W') : o.wp P a W next Q := by
  -- an operation that ends in a value
  have val : ∀ (s : Sem Value), execOp a.eval o = (do pure (Next.value (← s))) → Sim P W0 m W s K → o.wp P a W next Q := by
    intro s hs hsim
    obtain ⟨v, h', m', v', W', hK, hm, hR, hv, hr⟩ := hsim
    unfold Oper.wp
    rw [hs]
    simp only [Sem.run_bind, hr, Result.andThen_ok, Sem.run_pure]
    exact hn v h' m' v' W' hK hm hR hv
  have evs : ∀ xs : List Operand, okOs W0.heap.size xs → VRs W0.heap.size m (xs.map (evo ρ)) (xs.map a.eval) := fun xs hx => F.evs hx
  unfold wop at hw
  split at hw
  · rename_i x hop
    exact val (pure (a.eval x)) (by simp [execOp, hop]) ⟨_, h, m, _, W, hw.2, List.prefix_rfl, R, F.ev hw.1, rfl⟩
  · rename_i x hop
    exact val (pure (a.eval x)) (by simp [execOp, hop]) ⟨_, h, m, _, W, hw.2, List.prefix_rfl, R, F.ev hw.1, rfl⟩
  · rename_i c x y hop
    obtain ⟨h1, h2, h3, t, ht, k1, k2⟩ := hw
    have hc := F.ev h1
    rw [ht] at hc
    have hc' := hc.bool_inv
    refine val (do pure (if ← asBool (a.eval c) then a.eval x else a.eval y)) (by simp [execOp, hop]) ?_
    cases t with
    | true => exact ⟨_, h, m, _, W, k1 rfl, List.prefix_rfl, R, F.ev h2, by simp [hc', asBool]⟩
    | false => exact ⟨_, h, m, _, W, k2 rfl, List.prefix_rfl, R, F.ev h3, by simp [hc', asBool]⟩
  · rename_i e hop
    obtain ⟨z, hz, hcl, hw⟩ := hw
    obtain ⟨v, h', m', v', W', hK, hm, hR, hv, hr⟩ := box_sim R (VR.clo 4 z hcl) hw
    refine val (Instr.alloc e true (.tuple #[])) (by simp [execOp, hop]) ⟨v, h', m', v', W', hK, hm, hR, hv, ?_⟩
    simp only [Instr.box, newVar, Sem.run_bind] at hr
    simp only [Instr.alloc, Sem.run_bind, run_zeroValue hz, Result.andThen_ok, newVar]
    exact hr
  · rename_i e x hop
    exact val _ (by simp [execOp, hop]) (box_sim R (F.ev hw.1) hw.2)
  · rename_i t parts hop
    refine val (Instr.build t (parts.map fun (i, x) => (i, a.eval x))) (by simp [execOp, hop]) ?_
    have hp : PRs m W0.heap.size (parts.toList.map fun (i, x) => (i, evo ρ x)) (parts.toList.map fun (i, x) => (i, a.eval x)) := by
      refine ⟨by simp, fun i p p' g1 g2 => ?_⟩
      simp only [List.getElem?_map] at g1 g2
      obtain ⟨q, hq, rfl⟩ := Option.map_eq_some_iff.1 g1
      rw [hq] at g2
      cases g2
      exact ⟨rfl, F.ev (hw.1 q.2 (List.mem_map.2 ⟨q, List.mem_of_getElem? hq, rfl⟩))⟩
    have := build_sim R hp hw.2
    have hmm : (parts.toList.map fun p => (p.1, a.eval p.2)).toArray = parts.map fun p => (p.1, a.eval p.2) := by apply Array.ext'; simp
    exact hmm ▸ this
  · rename_i t len parts hop
    refine val (Instr.buildSlice t len (parts.map fun (i, x) => (i, a.eval x))) (by simp [execOp, hop]) ?_
    have hp : PRs m W0.heap.size (parts.toList.map fun (i, x) => (i, evo ρ x)) (parts.toList.map fun (i, x) => (i, a.eval x)) := by
      refine ⟨by simp, fun i p p' g1 g2 => ?_⟩
      simp only [List.getElem?_map] at g1 g2
      obtain ⟨q, hq, rfl⟩ := Option.map_eq_some_iff.1 g1
      rw [hq] at g2
      cases g2
      exact ⟨rfl, F.ev (hw.1 q.2 (List.mem_map.2 ⟨q, List.mem_of_getElem? hq, rfl⟩))⟩
    have := buildS_sim R hp hw.2
    have hmm : (parts.toList.map fun p => (p.1, a.eval p.2)).toArray = parts.map fun p => (p.1, a.eval p.2) := by apply Array.ext'; simp
    exact hmm ▸ this
  · rename_i t x hop
    exact val _ (by simp [execOp, hop]) (load_sim R (F.ev hw.1) hw.2)
  · rename_i t x y hop
    obtain ⟨h', m', W', hK, hm, hR, hr⟩ := store_sim R (F.ev hw.1) (F.ev hw.2.1) hw.2.2
    unfold Oper.wp
    simp only [execOp, hop, Sem.run_bind, hr, Result.andThen_ok, Sem.run_pure]
    exact hn undef h' m' undef W' hK hm hR VR.undef
  · rename_i x hop
    obtain ⟨h1, h2, hK⟩ := hw
    have hx := F.ev h1
    unfold Oper.wp
    rcases h2 with ⟨ad, hv⟩ | ⟨f, xs, ys, hv⟩
    · rw [hv] at hx
      obtain ⟨ad', he, _⟩ := hx.ptr_inv
      simp only [execOp, hop, he, Sem.run_pure]
      rw [he] at hx
      exact hn _ h m _ W hK List.prefix_rfl R (by rw [hv]; exact hx)
    · rw [hv] at hx
      obtain ⟨xs', ys', he, _⟩ := hx.func_inv
      simp only [execOp, hop, he, Sem.run_pure]
      rw [he] at hx
      exact hn _ h m _ W hK List.prefix_rfl R (by rw [hv]; exact hx)
  · rename_i op xT x y yT hop
    exact val _ (by simp [execOp, hop]) (bin_sim R (F.ev hw.1) (F.ev hw.2.1) hw.2.2)
  · rename_i op xT x hop
    refine val (Op.unary op (a.eval x)) (by simp [execOp, hop]) ?_
    rw [VR.clo_eq 3 (F.ev hw.1) hw.2.1]
    exact sc_sim R hw.2.2
  · rename_i src dst x hop
    exact val _ (by simp [execOp, hop]) (conv_sim R (F.ev hw.1) hw.2)
  · rename_i fn xs ys hop
    refine val (Instr.makeFunc fn (xs.map a.eval) (ys.map a.eval)) (by simp [execOp, hop]) ⟨_, h, m, _, W, hw.2.2, List.prefix_rfl, R, ?_, rfl⟩
    have h1 := evs _ hw.1
    have h2 := evs _ hw.2.1
    refine .func (by simp) (fun i v v' g1 g2 => h1.2 i v v' (by simpa using g1) (by simpa using g2)) (by simp) (fun i v v' g1 g2 => h2.2 i v v' (by simpa using g1) (by simpa using g2))
  · rename_i t l c hop
    exact val _ (by simp [execOp, hop]) (make_sim R (F.ev hw.1) (F.ev hw.2.1) hw.2.2)
  · rename_i t x lo hi hop
    refine val (Instr.sliceAt t (a.eval x) (lo.map a.eval) (hi.map a.eval) none) (by simp [execOp, hop]) (slice_sim R (F.ev hw.1) ?_ ?_ hw.2.2)
    · cases lo with
      | none => exact .inl ⟨rfl, rfl⟩
      | some y => exact .inr ⟨_, _, rfl, rfl, F.ev (hw.2.1 y (by simp))⟩
    · cases hi with
      | none => exact .inl ⟨rfl, rfl⟩
      | some y => exact .inr ⟨_, _, rfl, rfl, F.ev (hw.2.1 y (by simp))⟩
  · rename_i s x f hop
    exact val _ (by simp [execOp, hop]) (field_sim R (F.ev hw.1) hw.2)
  · rename_i s x f hop
    exact val _ (by simp [execOp, hop]) (fieldV_sim R (F.ev hw.1) hw.2)
  · rename_i t x ix hop
    exact val _ (by simp [execOp, hop]) (ixAddr_sim R (F.ev hw.1) (F.ev hw.2.1) hw.2.2)
  · rename_i t x ix hop
    exact val _ (by simp [execOp, hop]) (ix_sim R (F.ev hw.1) (F.ev hw.2.1) hw.2.2)
  · rename_i x i hop
    obtain ⟨h1, vs, v, he, hi, hK⟩ := hw
    have hx := F.ev h1
    rw [he] at hx
    obtain ⟨ws, he', hws⟩ := hx.tup_inv
    obtain ⟨v', g1, g2⟩ := hws.get (i := i) (by simpa using hi)
    refine val (Instr.extract (a.eval x) i) (by simp [execOp, hop]) ⟨v, h, m, v', W, hK, List.prefix_rfl, R, g2, ?_⟩
    have g1' : ws[i]? = some v' := by simpa using g1
    simp [Instr.extract, he', g1']
  · rename_i t x hop
    obtain ⟨h1, s, hu, he, hK⟩ := hw
    have hx := F.ev h1
    rw [he] at hx
    have he' := hx.string_inv
    refine val (Instr.range t (a.eval x)) (by simp [execOp, hop]) ⟨_, _, m ++ [(W.heap.size, 0)], .pointer (some ⟨W.heap.size, 0, none⟩), { W with heap := W.heap.push (.stringIter s 0) }, hK, List.prefix_append _ _, ?_, new_ptr R 0, ?_⟩
    · exact R.push (.stringIter s 0) 0 _ (fun e xs he => by cases he) (fun s' p he => by cases he; rfl)
    · rw [he']
      simp [Instr.range, run_under hu]
  · rename_i x hop
    obtain ⟨h1, j, s, pos, he, hj, k1, k2⟩ := hw
    have hx := F.ev h1
    rw [he] at hx
    obtain ⟨a', he', har⟩ := hx.ptr_inv
    obtain ⟨b, c, rfl, hm⟩ := har.own
    obtain ⟨b', c', g1, g2⟩ := R.itr j s pos hj
    rw [hm] at g1; cases g1
    have hblt := (R.at_ j b c hm)
    by_cases hp : pos < s.size
    · refine val (Instr.next (a.eval x) true o.type) (by simp [execOp, hop]) ⟨_, _, m, _, { W with heap := W.heap.setIfInBounds b (.stringIter s (pos + (Utf8.decode s pos).2)) }, k1 hp, List.prefix_rfl, ?_, VR.clo 2 _ (by simp [clo]), ?_⟩
      · exact R.tick hj hm g2
      · rw [he']
        simp [Instr.next, getObj, setObj, Sem.run, g2, hp, goInt]
    · refine val (Instr.next (a.eval x) true o.type) (by simp [execOp, hop]) ⟨_, _, m, _, W, k2 hp, List.prefix_rfl, R, VR.clo 2 _ (by simp [clo]), ?_⟩
      rw [he']
      simp [Instr.next, getObj, Sem.run, g2, hp]
  · rename_i c hop
    obtain ⟨h0, hw⟩ := hw
    have hargs : VRs W0.heap.size m (c.args.toList.map (evo ρ)) (c.args.map a.eval).toList := by
      simp only [Array.toList_map]; exact evs _ h0
    have hmap : ∀ xs : List Operand, okOs W0.heap.size xs → (∀ x ∈ xs, clo 3 (evo ρ x) = true) → xs.map a.eval = xs.map (evo ρ) := by
      intro xs hx hc
      refine List.map_congr_left fun x hxm => ?_
      exact VR.clo_eq 3 (F.ev (hx x hxm)) (hc x hxm)
    have hmapA : (∀ x ∈ c.args.toList, clo 3 (evo ρ x) = true) → c.args.map a.eval = c.args.map (evo ρ) := by
      intro hc
      apply Array.ext'
      simp only [Array.toList_map]
      exact hmap _ h0 hc
    split at hw
    · rename_i hcal
      split at hw
      · rename_i x t hax hat
        have ha : c.args = #[x] := by apply Array.ext'; simpa using hax
        have ht : c.argTypes = #[t] := by apply Array.ext'; simpa using hat
        refine val (Builtin.len_ c.argTypes o.type #[a.eval x]) (by simp [execOp, hop, resolve, hcal, invoke, builtin, ha]) (len_sim R (by rw [ht]; rfl) (F.ev (h0 x (by rw [hax]; simp))) hw)
      · exact hw.elim
    · rename_i hcal
      split at hw
      · rename_i s x t t' hax hat
        have ha : c.args = #[s, x] := by apply Array.ext'; simpa using hax
        have ht : c.argTypes = #[t, t'] := by apply Array.ext'; simpa using hat
        refine val (Builtin.append_ #[t, t'] o.type #[a.eval s, a.eval x]) (by simp [execOp, hop, resolve, hcal, invoke, builtin, ha, ht]) (append_sim R (F.ev (h0 s (by rw [hax]; simp))) (F.ev (h0 x (by rw [hax]; simp))) hw)
      · exact hw.elim
    · rename_i hcal
      refine val (Builtin.min_ c.argTypes o.type (c.args.map a.eval)) (by simp [execOp, hop, resolve, hcal, invoke, builtin]) ?_
      rw [hmapA hw.1]
      exact sc_sim R hw.2
    · rename_i hcal
      refine val (Builtin.max_ c.argTypes o.type (c.args.map a.eval)) (by simp [execOp, hop, resolve, hcal, invoke, builtin]) ?_
      rw [hmapA hw.1]
      exact sc_sim R hw.2
    · rename_i f hcal
      obtain ⟨h1, g, xs, ys, he, hw⟩ := hw
      have hf := F.ev h1
      rw [he] at hf
      obtain ⟨xs', ys', he', hxs, hys⟩ := hf.func_inv
      have hall : VRs W0.heap.size m (xs.toList ++ c.args.toList.map (evo ρ) ++ ys.toList) ((xs' ++ c.args.map a.eval) ++ ys').toList := by
        simp only [Array.toList_append]
        exact (hxs.append hargs).append hys
      obtain ⟨⟨fn, hfn, hb, hnm⟩, hcalls⟩ := hA g _ h K hw m _ W R hall
      unfold Oper.wp
      have hrun : (execOp a.eval o).run P W = .ok (.enter g ((xs' ++ c.args.map a.eval) ++ ys')) W := by
        obtain ⟨cc, hcc⟩ := Option.isSome_iff_exists.1 hb
        have hnm' : fn.name ≠ "runtime.NumGoroutine" := by simpa using hnm
        simp [execOp, hop, resolve, hcal, he', Deferred.ofValue, invoke, callFunc, hfn, hnm', hcc]
      rw [hrun]
      refine Calls.mono hcalls ?_
      rintro e W' ⟨v, v', h', m', rfl, hK, hm, hR, hv⟩
      exact hn v h' m' v' W' hK hm hR hv
    · exact hw.elim
  · exact hw.elim
theorem yielded_eq {B n : Nat} {m : List (Nat × Nat)} {ρ : Fr} {a : Act} {ops : Array Oper} {j d : Nat} {b : Bool} (F : FR B m n ρ a) (hd : (ops[j]?).bind (·.dst) = some d) (hn : d < n) (hv : ρ d = .bool b) : yielded ops a.tmps j = some b := by
  have h := F.2.2 d
  rw [hv] at h
  have h' := h.bool_inv
  rw [Array.getD_eq_getD_getElem?] at h'
  have hs : d < a.tmps.size := by rw [F.1]; exact hn
  rw [Array.getElem?_eq_getElem hs] at h'
  unfold yielded
  rw [hd]
  simp only [Option.bind_some, Array.getElem?_eq_getElem hs]
  simp only [Option.getD_some] at h'
  rw [h']
theorem yielded_undef {B n : Nat} {m : List (Nat × Nat)} {ρ : Fr} {a : Act} {ops : Array Oper} {j d : Nat} (F : FR B m n ρ a) (hd : (ops[j]?).bind (·.dst) = some d) (hn : d < n) (hv : ρ d = undef) : yielded ops a.tmps j = none := by
  have h := F.2.2 d
  rw [hv] at h
  obtain ⟨ys, h', _⟩ := VR.tup_inv h
  rw [Array.getD_eq_getD_getElem?] at h'
  have hs : d < a.tmps.size := by rw [F.1]; exact hn
  rw [Array.getElem?_eq_getElem hs] at h'
  unfold yielded
  rw [hd]
  simp only [Option.bind_some, Array.getElem?_eq_getElem hs]
  simp only [Option.getD_some] at h'
  rw [h']
/-- One operation, as the world's region does it. -/
theorem step_sim (hA : Sound P W0 A) {n : Nat} {ops : Array Oper} {o : Oper} {rest : List Oper} {K : Fr → Hp → Prop} {ρ : Fr} {h : Hp} {m : List (Nat × Nat)} {W : World} {a : Act} (R : Rel P W0 m h W) (F : FR W0.heap.size m n ρ a) (hw : wops P W0 A n ops (o :: rest) K ρ h) {i : Nat} (hi : ops[i]? = some o)
    {next : Act → World → Prop} {Q : Exit → Act → World → Prop} (hn : ∀ ρ' h' m' a' W', wops P W0 A n ops rest K ρ' h' → m <+: m' → Rel P W0 m' h' W' → FR W0.heap.size m' n ρ' a' → next a' W') : wpOp P ops Q i next a W := by
  unfold wpOp
  simp only [hi]
  unfold wops at hw
  obtain ⟨hd, hw⟩ := hw
  cases hg : o.guard with
  | none =>
    simp only [hg] at hw
    rw [if_pos (by simp [Region.wanted, hg])]
    exact .inl (op_sim hA R F hw fun v h' m' v' W' hK hm hR hv => hn _ h' m' _ W' hK hm hR ((F.mono hm).put hd hv))
  | some g =>
    obtain ⟨j, want⟩ := g
    simp only [hg] at hw
    obtain ⟨d, t, h1, h2, h3, k1, k2⟩ := hw
    rcases h3 with h3 | ⟨h3, h4⟩
    case inr =>
      have hy := yielded_undef F h1 h2 h3
      rw [if_neg (by simp [Region.wanted, hg, hy])]
      exact hn _ h m _ W (k2 h4) List.prefix_rfl R (F.put hd VR.undef)
    have hy := yielded_eq F h1 h2 h3
    by_cases ht : t = want
    · rw [if_pos (by simp [Region.wanted, hg, hy, ht])]
      exact .inl (op_sim hA R F (k1 ht) fun v h' m' v' W' hK hm hR hv => hn _ h' m' _ W' hK hm hR ((F.mono hm).put hd hv))
    · rw [if_neg (by simp [Region.wanted, hg, hy, ht])]
      exact hn _ h m _ W (k2 ht) List.prefix_rfl R (F.put hd VR.undef)
theorem ops_sim (hA : Sound P W0 A) {n : Nat} {ops : Array Oper} {K : Fr → Hp → Prop} {Q : Exit → Act → World → Prop} : ∀ (l : List Nat) (os : List Oper) (ρ : Fr) (h : Hp) (m : List (Nat × Nat)) (W : World) (a : Act), l.map (fun i => ops[i]?) = os.map some → Rel P W0 m h W → FR W0.heap.size m n ρ a → wops P W0 A n ops os K ρ h →
    (∀ ρ' h' m' a' W', K ρ' h' → m <+: m' → Rel P W0 m' h' W' → FR W0.heap.size m' n ρ' a' → Q .normal a' W') → wpOps P ops Q l a W
  | [], os, ρ, h, m, W, a, hl, R, F, hw, hQ => by
    have : os = [] := by cases os <;> first | rfl | simp at hl
    subst this
    exact hQ ρ h m a W hw List.prefix_rfl R F
  | i :: l, os, ρ, h, m, W, a, hl, R, F, hw, hQ => by
    cases os with
    | nil => simp at hl
    | cons o os =>
      simp only [List.map_cons, List.cons.injEq] at hl
      rw [wpOps_cons]
      refine step_sim hA R F hw hl.1 fun ρ' h' m' a' W' hK hm hR hF => ?_
      exact ops_sim hA l os ρ' h' m' W' a' hl.2 hR hF hK fun ρ2 h2 m2 a2 W2 k1 k2 k3 k4 => hQ ρ2 h2 m2 a2 W2 k1 (hm.trans k2) k3 k4
theorem any_sim (hA : Sound P W0 A) {n : Nat} {ops : Array Oper} {K : Fr → Hp → Prop} {Q : Exit → Act → World → Prop} : ∀ (fuel : Nat) (listed : Array Bool) (ρ : Fr) (h : Hp) (m : List (Nat × Nat)) (W : World) (a : Act), Rel P W0 m h W → FR W0.heap.size m n ρ a → wany P W0 A n ops K fuel listed ρ h →
    (∀ ρ' h' m' a' W', K ρ' h' → m <+: m' → Rel P W0 m' h' W' → FR W0.heap.size m' n ρ' a' → Q .normal a' W') → wpAny P .any ops Q fuel listed a W
  | 0, listed, ρ, h, m, W, a, R, F, hw, hQ => ⟨hw.1, hQ ρ h m a W hw.2 List.prefix_rfl R F⟩
  | fuel + 1, listed, ρ, h, m, W, a, R, F, hw, hQ => by
    refine ⟨fun he => hQ ρ h m a W (hw.1 he) List.prefix_rfl R F, fun i hi => ?_⟩
    obtain ⟨o, ho, hw1⟩ := hw.2 i hi
    refine step_sim hA R F hw1 ho fun ρ' h' m' a' W' hK hm hR hF => ?_
    exact any_sim hA fuel _ ρ' h' m' W' a' hR hF hK fun ρ2 h2 m2 a2 W2 k1 k2 k3 k4 => hQ ρ2 h2 m2 a2 W2 k1 (hm.trans k2) k3 k4
theorem wp_loop_rel {c : Code} {Q : Exit → Act → World → Prop} (I : Nat → Act → World → Prop) {k : Nat} {a : Act} {w : World} (h₀ : I k a w)
    (round : ∀ k a w, I k a w → c.wp P (Exit.then (fun a' w' => ∃ k', k' < k ∧ I k' a' w') Q) a w) : (Code.loop c).wp P Q a w := by
  intro b kk cs
  have key : ∀ n a w, I n a w → ∃ e a' w', Q e a' w' ∧ Arrives P (lone (b.at a (.code c :: .inLoop c :: kk)) cs w) b kk cs e a' w' := by
    intro n
    induction n using Nat.strongRecOn with
    | _ n ih =>
      intro a w hI
      obtain ⟨e, a₁, w₁, hq, harr⟩ := round n a w hI b (.inLoop c :: kk) cs
      cases e with
      | normal =>
        obtain ⟨k', hlt, hI₁⟩ := hq
        obtain ⟨e₂, a₂, w₂, hq₂, harr₂⟩ := ih k' hlt a₁ w₁ hI₁
        exact ⟨e₂, a₂, w₂, hq₂, .of_steps (Steps.trans harr (.one step_inLoop)) harr₂⟩
      | exit id => exact ⟨_, a₁, w₁, hq, .pass (x := .inLoop c) rfl (fun _ _ => .inl (by simp)) harr⟩
      | goto l => exact ⟨_, a₁, w₁, hq, .pass (x := .inLoop c) rfl (fun _ _ => .inl (by simp)) harr⟩
      | ret => exact ⟨_, a₁, w₁, hq, .pass (x := .inLoop c) rfl (fun _ _ => .inl (by simp)) harr⟩
      | panic ch => exact ⟨_, a₁, w₁, hq, .pass (x := .inLoop c) rfl (fun _ _ => .inl (by simp)) harr⟩
      | outgrown => exact ⟨_, a₁, w₁, hq, .pass (x := .inLoop c) rfl (fun _ _ => .inl (by simp)) harr⟩
  obtain ⟨e, a', w', hq, harr⟩ := key k a w h₀
  exact ⟨e, a', w', hq, .of_steps (.one step_loop) harr⟩
theorem code_sim (hA : Sound P W0 A) {n : Nat} : ∀ (c : Code) (Q : Exit → Fr → Hp → Prop) (ρ : Fr) (h : Hp), awp P W0 A n c Q ρ h → ∀ (m : List (Nat × Nat)) (W : World) (a : Act), Rel P W0 m h W → FR W0.heap.size m n ρ a →
    ∀ Q' : Exit → Act → World → Prop, (∀ e ρ' h' m' a' W', Q e ρ' h' → m <+: m' → Rel P W0 m' h' W' → FR W0.heap.size m' n ρ' a' → Q' e a' W') → c.wp P Q' a W := by
  intro c
  induction c with
  | skip => intro Q ρ h hw m W a R F Q' hQ; exact wp_skip (hQ _ ρ h m a W hw List.prefix_rfl R F)
  | region id ops draw =>
    intro Q ρ h hw m W a R F Q' hQ
    cases draw with
    | false =>
      refine wp_region (ops_sim hA _ ops.toList ρ h m W a ?_ R F hw fun ρ' h' m' a' W' => hQ .normal ρ' h' m' a' W')
      apply List.ext_getElem?
      intro i
      simp only [List.getElem?_map]
      rcases Nat.lt_or_ge i ops.size with hi | hi
      · simp [hi]
      · simp [hi]
    | true =>
      exact wp_region_any hw.1 (any_sim hA _ _ ρ h m _ a R.drew F hw.2 fun ρ' h' m' a' W' => hQ .normal ρ' h' m' a' W')
  | seq x y ihx ihy =>
    intro Q ρ h hw m W a R F Q' hQ
    refine wp_seq (ihx _ ρ h hw m W a R F _ fun e ρ' h' m' a' W' hq hm hR hF => ?_)
    cases e with
    | normal => exact ihy Q ρ' h' hq m' W' a' hR hF Q' fun e2 ρ2 h2 m2 a2 W2 k1 k2 k3 k4 => hQ e2 ρ2 h2 m2 a2 W2 k1 (hm.trans k2) k3 k4
    | exit id => exact hQ _ _ _ _ _ _ hq hm hR hF
    | goto l => exact hQ _ _ _ _ _ _ hq hm hR hF
    | ret => exact hQ _ _ _ _ _ _ hq hm hR hF
    | panic ch => exact hQ _ _ _ _ _ _ hq hm hR hF
    | outgrown => exact hQ _ _ _ _ _ _ hq hm hR hF
  | cond c x y ihx ihy =>
    intro Q ρ h hw m W a R F Q' hQ
    obtain ⟨hc, t, ht, k1, k2⟩ := hw
    have hv := F.ev hc
    rw [ht] at hv
    refine wp_cond_split hv.bool_inv (fun h1 => ihx Q ρ h (k1 h1) m W a R F Q' hQ) (fun h1 => ihy Q ρ h (k2 h1) m W a R F Q' hQ)
  | block id c ih =>
    intro Q ρ h hw m W a R F Q' hQ
    refine wp_block (ih _ ρ h hw m W a R F _ fun e ρ' h' m' a' W' hq hm hR hF => ?_)
    cases e with
    | exit id' =>
      simp only [inBlockA] at hq
      simp only [Exit.inBlock]
      split at hq
      · rename_i he; rw [if_pos he]; exact hQ _ _ _ _ _ _ hq hm hR hF
      · rename_i he; rw [if_neg he]; exact hQ _ _ _ _ _ _ hq hm hR hF
    | normal => exact hQ _ _ _ _ _ _ hq hm hR hF
    | goto l => exact hQ _ _ _ _ _ _ hq hm hR hF
    | ret => exact hQ _ _ _ _ _ _ hq hm hR hF
    | panic ch => exact hQ _ _ _ _ _ _ hq hm hR hF
    | outgrown => exact hQ _ _ _ _ _ _ hq hm hR hF
  | loop c ih =>
    intro Q ρ h hw m W a R F Q' hQ
    obtain ⟨I, k, h0, hr⟩ := hw
    refine wp_loop_rel (fun k a W => ∃ ρ h m', m <+: m' ∧ Rel P W0 m' h W ∧ FR W0.heap.size m' n ρ a ∧ I k ρ h) (k := k) ⟨ρ, h, m, List.prefix_rfl, R, F, h0⟩ ?_
    rintro k a W ⟨ρ, h, m1, hm1, R, F, hI⟩
    refine ih _ ρ h (hr k ρ h hI) m1 W a R F _ fun e ρ' h' m' a' W' hq hm hR hF => ?_
    cases e with
    | normal => obtain ⟨k', hk, hI'⟩ := hq; exact ⟨k', hk, ρ', h', m', hm1.trans hm, hR, hF, hI'⟩
    | exit id => exact hQ _ _ _ _ _ _ hq (hm1.trans hm) hR hF
    | goto l => exact hQ _ _ _ _ _ _ hq (hm1.trans hm) hR hF
    | ret => exact hQ _ _ _ _ _ _ hq (hm1.trans hm) hR hF
    | panic ch => exact hQ _ _ _ _ _ _ hq (hm1.trans hm) hR hF
    | outgrown => exact hQ _ _ _ _ _ _ hq (hm1.trans hm) hR hF
  | exit id => intro Q ρ h hw m W a R F Q' hQ; exact wp_exit (hQ _ ρ h m a W hw List.prefix_rfl R F)
  | ret => intro Q ρ h hw m W a R F Q' hQ; exact wp_ret (hQ _ ρ h m a W hw List.prefix_rfl R F)
  | _ => intro Q ρ h hw; exact hw.elim
def resF (tmps : Array Value) : ResultVar → Sem Value
  | .tmp t => pure (tmps.getD t undef)
  | .cell a t => do loadVar t (← asAddr (tmps.getD a undef))
theorem results_eq (fn : Func) (tmps : Array Value) : results fn tmps = (do let vs ← fn.results.mapM (resF tmps); pure (if h : vs.size = 1 then vs[0] else .tuple vs)) := by
  unfold results
  congr 1
theorem res_sim {n : Nat} {m : List (Nat × Nat)} {W : World} {a : Act} {ρ : Fr} {h : Hp} (R : Rel P W0 m h W) (F : FR W0.heap.size m n ρ a) : ∀ (rs : List ResultVar) (vs : List Value), resO P W0 rs ρ h vs →
    ∃ vs', (rs.mapM (resF a.tmps)).run P W = .ok vs' W ∧ VRs W0.heap.size m vs vs'
  | [], vs, hr => by cases vs <;> first | exact ⟨[], rfl, VRs.nil⟩ | exact hr.elim
  | r :: rs, [], hr => by cases r <;> exact hr.elim
  | .tmp t :: rs, v :: vs, hr => by
    obtain ⟨rfl, hr⟩ := hr
    obtain ⟨vs', h1, h2⟩ := res_sim R F rs vs hr
    refine ⟨_ :: vs', ?_, VRs.cons (F.2.2 t) h2⟩
    rw [List.mapM_cons]
    simp only [resF, Sem.run_bind, Sem.run_pure, Result.andThen_ok, h1]
  | .cell p t :: rs, v :: vs, hr => by
    obtain ⟨hl, hr⟩ := hr
    obtain ⟨vs', h1, h2⟩ := res_sim R F rs vs hr
    obtain ⟨u, v', hK, hv, ad', he, hrun⟩ := loadVar_run R (F.2.2 p) hl
    subst hK
    refine ⟨v' :: vs', ?_, VRs.cons hv h2⟩
    rw [List.mapM_cons]
    have hr1 : (resF a.tmps (.cell p t)).run P W = .ok v' W := by
      simp only [resF, he, asAddr, Sem.run_bind, Sem.run_pure, Result.andThen_ok, hrun]
    simp only [Sem.run_bind, hr1, Sem.run_pure, Result.andThen_ok, h1]
theorem AC_sound : ∀ d, Sound P W0 (AC P W0 d)
  | 0 => fun f args h K hc => hc.elim
  | d + 1 => by
    intro f args h K hc m args' W R hargs
    rcases hc with hx | ⟨fn, c, hf, hb, hnm, hlen, hw⟩
    · exact hx m args' W R hargs
    refine ⟨⟨fn, hf, by rw [hb]; rfl, hnm⟩, ?_⟩
    have hal : args.length = args'.size := by simpa using hargs.1
    have F : FR W0.heap.size m fn.ntmps (initF args) { tmps := args' ++ Array.replicate (fn.ntmps - args'.size) undef, defers := [] } := by
      refine ⟨by simp; omega, rfl, fun i => ?_⟩
      simp only [initF, Array.getD_eq_getD_getElem?]
      rcases Nat.lt_or_ge i args.length with hi | hi
      · rw [Array.getElem?_append_left (by omega)]
        obtain ⟨v', h1, h2⟩ := hargs.get (List.getElem?_eq_getElem hi)
        have h1' : args'[i]? = some v' := by simpa using h1
        rw [h1']
        simp only [Option.getD_some]
        rw [List.getD_eq_getElem?_getD, List.getElem?_eq_getElem hi]
        exact h2
      · rw [Array.getElem?_append_right (by omega), List.getD_eq_getElem?_getD, List.getElem?_eq_none hi, Array.getElem?_replicate]
        split <;> exact VR.undef
    refine calls_of_wp hf hb (code_sim (AC_sound d) c _ _ h hw m W _ R F _ fun e ρ' h' m' a' W' hq hm hR hF => ?_)
    have key : (∃ vs, resO P W0 fn.results.toList ρ' h' vs ∧ K (oneOf vs) h') → a'.defers = [] ∧ ∃ v, (results fn a'.tmps).run P W' = .ok v W' ∧ ∃ v0 v' h2 m2, Ending.returned v = .returned v' ∧ K v0 h2 ∧ m <+: m2 ∧ Rel P W0 m2 h2 W' ∧ VR W0.heap.size m2 v0 v' := by
      rintro ⟨vs, hrs, hK⟩
      obtain ⟨vs', h1, h2⟩ := res_sim hR hF fn.results.toList vs hrs
      refine ⟨hF.2.1, (if h : vs'.toArray.size = 1 then vs'.toArray[0] else .tuple vs'.toArray), ?_, oneOf vs, _, h', m', rfl, hK, hm, hR, ?_⟩
      · rw [results_eq, Array.mapM_eq_mapM_toList]
        simp only [Sem.run_bind, Sem.run_map, h1, Result.andThen_ok, Sem.run_pure]
      · cases vs with
        | nil =>
          have : vs' = [] := List.eq_nil_of_length_eq_zero h2.1.symm
          subst this
          exact .tup rfl fun i v v' hh => by simp at hh
        | cons v vs =>
          obtain ⟨v', vs'', rfl, g1, g2⟩ := h2.head
          cases vs with
          | nil =>
            have : vs'' = [] := List.eq_nil_of_length_eq_zero g2.1.symm
            subst this
            exact g1
          | cons u us =>
            obtain ⟨u', us', rfl, g3, g4⟩ := g2.head
            rw [dif_neg (by simp)]
            exact .tup (by simp [g4.1]) fun i w w' e1 e2 => h2.2 i w w' (by simpa using e1) (by simpa using e2)
    cases e with
    | normal => exact key hq
    | ret => exact key hq
    | exit id => exact hq.elim
    | goto l => exact hq.elim
    | panic ch => exact hq.elim
    | outgrown => exact hq.elim
/-- WHAT THE MACHINE TELLS OF A CALL HOLDS OF THE PROGRAM. -/
theorem calls_of {d : Nat} {f : FuncId} {args : Array Value} {K : Value → Hp → Prop} (hc : AC P W0 d f args.toList [] K) (hlow : ∀ v ∈ args.toList, VR W0.heap.size [] v v) :
    Calls P f args W0 fun e W' => ∃ v v' h' m', e = .returned v' ∧ K v h' ∧ VR W0.heap.size m' v v' ∧ Below W0.heap.size W0 W' := by
  have := (AC_sound d f args.toList [] K hc [] args W0 (Rel.refl P W0) ⟨rfl, fun i v v' h1 h2 => by rw [h1] at h2; cases h2; exact hlow v (List.mem_of_getElem? h1)⟩).2
  exact this.mono fun e W' ⟨v, v', h', m', he, hK, _, hR, hv⟩ => ⟨v, v', h', m', he, hK, hv, hR.below⟩
end
end Go.Proofs.AbM
