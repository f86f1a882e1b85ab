/- The abstract machine's operations, and that a world's operation follows them. -/
import Derived.Test.YtbmidddpddiopaaDoorAbCore
set_option linter.unusedVariables false
set_option linter.unusedSimpArgs false
namespace Go.Proofs.AbM
open Go.RowKit

/-! ### What an operation asks -/
def evo (ρ : Fr) : Operand → Value
  | .tmp t => ρ t
  | .const v => v
  | .global g => .pointer (some ⟨g, 0, none⟩)
  | .func f => .func (.func f) #[] #[]
def okO (B : Nat) : Operand → Prop
  | .tmp _ => True
  | .const v => clo 4 v = true
  | .global g => g < B
  | .func _ => True
def okOs (B : Nat) (xs : List Operand) : Prop := ∀ x ∈ xs, okO B x
def isAggO (P : Program) (t : TypeId) : Option Bool := (P.underlying t).map fun | .struct _ | .array _ _ => true | _ => false
def szO (P : Program) (t : TypeId) : Option Nat := (P.info? t).map (·.size)
def zeroO (P : Program) (t : TypeId) : Option Value := (P.info? t).bind (·.zero)
def bytesO (P : Program) (t : TypeId) : Option Nat := (P.info? t).map (·.bytes)
/-- An operation that looks at no memory. -/
def wSc (P : Program) (s : Sem Value) (K : Value → Prop) : Prop := ∃ v, clo 3 v = true ∧ (∀ W : World, s.run P W = .ok v W) ∧ K v
def setCells (xs : List Value) (o : Nat) (vs : List Value) : List Value := xs.take o ++ vs ++ xs.drop (o + vs.length)
/-- A part of a struct's or an array's cells. -/
def partO (P : Program) (t : TypeId) (cs : Array Value) (off : Nat) : Option Value :=
  match isAggO P t with
  | some true => (szO P t).map fun n => .agg (cs.extract off (off + n))
  | some false => cs[off]?
  | none => none
def strN (ns : List Int) : ByteArray := ⟨(ns.map fun n => UInt8.ofNat n.toNat).toArray⟩
def u8s (s : ByteArray) : List Value := s.data.toList.map fun b => .int .u8 b.toNat

section
variable (P : Program) (W0 : World)
def wLoad (t : TypeId) (va : Value) (h : Hp) (K : Value → Hp → Prop) : Prop :=
  ∃ ad, va = .pointer (some ad) ∧ ∃ g, isAggO P t = some g ∧
    (g = true → ∃ n cs, szO P t = some n ∧ rds W0 h ad 0 n = some cs ∧ K (.agg cs.toArray) h) ∧ (g = false → ∃ v, rd W0 h ad = some v ∧ K v h)
def wStore (t : TypeId) (va v : Value) (h : Hp) (K : Value → Hp → Prop) : Prop :=
  ∃ j o e xs, va = .pointer (some ⟨W0.heap.size + j, o, none⟩) ∧ szO P t = some v.cells.size ∧ h[j]? = some (.cells e xs) ∧ o + v.cells.size ≤ xs.length ∧
    (∀ c ∈ v.cells.toList, c.oneCell' = true) ∧ K undef (h.set j (.cells e (setCells xs o v.cells.toList)))
def wBox (e : TypeId) (v : Value) (h : Hp) (K : Value → Hp → Prop) : Prop :=
  szO P e = some v.cells.size ∧ (∀ c ∈ v.cells.toList, c.oneCell' = true) ∧ K (.pointer (some ⟨W0.heap.size + h.length, 0, none⟩)) (h ++ [.cells e v.cells.toList])
def wField (s : TypeId) (va : Value) (f : Nat) (h : Hp) (K : Value → Hp → Prop) : Prop :=
  ∃ fs fd n ad, P.underlying s = some (.struct fs) ∧ fs[f]? = some fd ∧ szO P fd.type = some n ∧ n ≠ 0 ∧ va = .pointer (some ad) ∧ K (.pointer (some (ad.add fd.offset))) h
def wFieldV (s : TypeId) (v : Value) (f : Nat) (h : Hp) (K : Value → Hp → Prop) : Prop :=
  ∃ fs fd cs u, P.underlying s = some (.struct fs) ∧ fs[f]? = some fd ∧ v = .agg cs ∧ partO P fd.type cs fd.offset = some u ∧ K u h
def wIxAddr (t : TypeId) (x ix : Value) (h : Hp) (K : Value → Hp → Prop) : Prop :=
  ∃ k i, ix = .int k i ∧ ((∃ e a n c sz, P.underlying t = some (.slice e) ∧ x = .slice (some a) n c ∧ szO P e = some sz ∧ 0 ≤ i ∧ i < n ∧ K (.pointer (some (a.add (i.toNat * sz)))) h) ∨
    (∃ e a n sz, P.underlying t = some (.array n e) ∧ x = .pointer (some a) ∧ szO P e = some sz ∧ 0 ≤ i ∧ i < n ∧ K (.pointer (some (a.add (i.toNat * sz)))) h))
def wIx (t : TypeId) (x ix : Value) (h : Hp) (K : Value → Hp → Prop) : Prop :=
  ∃ k i, ix = .int k i ∧ 0 ≤ i ∧ ((∃ e cs n sz u, P.underlying t = some (.array n e) ∧ x = .agg cs ∧ szO P e = some sz ∧ i < n ∧ partO P e cs (i.toNat * sz) = some u ∧ K u h) ∨
    (∃ s b, P.underlying t = some .string ∧ x = .string s ∧ s[i.toNat]? = some b ∧ K (.int .u8 b.toNat) h))
/-- A bound of a cut. -/
def bnd (d : Int) : Option Value → Int → Prop
  | none, i => i = d
  | some (.int _ n), i => i = n
  | _, _ => False
def wSlice (t : TypeId) (x : Value) (lo hi : Option Value) (h : Hp) (K : Value → Hp → Prop) : Prop :=
  match x with
  | .string s => P.underlying t = some .string ∧ ∃ l r : Int, bnd 0 lo l ∧ bnd s.size hi r ∧ 0 ≤ l ∧ l ≤ r ∧ r ≤ s.size ∧ K (.string (s.extract l.toNat r.toNat)) h
  | .slice a n c => ∃ e sz, P.underlying t = some (.slice e) ∧ szO P e = some sz ∧ 0 < sz ∧ ∃ l r : Int, bnd 0 lo l ∧ bnd n hi r ∧ 0 ≤ l ∧ l ≤ r ∧
    match a with
    | none => r ≤ c ∧ K (.slice none (r - l).toNat (c - l.toNat)) h
    | some a => (a.block < W0.heap.size ∧ a.spot = none ∧ r ≤ c ∧ K (.slice (some (if (c : Int) = l then a else a.add (l.toNat * sz))) (r - l).toNat (c - l.toNat)) h) ∨
      (∃ j o, a = ⟨W0.heap.size + j, o, none⟩ ∧ c = n ∧ r ≤ n ∧ (l < r → K (.slice (some ⟨W0.heap.size + j, o + l.toNat * sz, none⟩) (r - l).toNat (r - l).toNat) h) ∧ (l = r → K (.slice (some emptyAt) 0 0) h)) ∨
      (a = emptyAt ∧ n = 0 ∧ c = 0 ∧ r ≤ 0 ∧ K (.slice (some emptyAt) 0 0) h)
  | _ => False
def wMake (t : TypeId) (l c : Value) (h : Hp) (K : Value → Hp → Prop) : Prop :=
  ∃ (k k' : IntKind) (n : Nat) (e : TypeId) (z : Value) (by_ : Nat), l = .int k n ∧ c = .int k' n ∧ P.underlying t = some (.slice e) ∧ zeroO P e = some z ∧ szO P e = some 1 ∧ z.oneCell' = true ∧ clo 2 z = true ∧ bytesO P e = some by_ ∧ by_ * n ≤ 140737488355328 ∧ n ≤ 140737488355328 ∧
    K (.slice (some ⟨W0.heap.size + h.length, 0, none⟩) n n) (h ++ [.cells e (List.replicate n z)])
def wBuild (t : TypeId) (parts : List (Nat × Value)) (h : Hp) (K : Value → Hp → Prop) : Prop :=
  ∃ z, zeroO P t = some z ∧ clo 4 z = true ∧
    ((∃ (fs : Array Field) (places : List (Nat × Nat)) (cells : Array Value), P.underlying t = some (.struct fs) ∧ (fs.toList.map fun f => (szO P f.type).map fun n => (f.offset, n)) = places.map some ∧ Instr.fill (places.toArray[·]?) z.cells parts = some cells ∧ K (.agg cells) h) ∨
     (∃ n e sz cells, P.underlying t = some (.array n e) ∧ szO P e = some sz ∧ Instr.fill (fun i => some (i * sz, sz)) z.cells parts = some cells ∧ K (.agg cells) h))
def wBuildS (t : TypeId) (len : Nat) (parts : List (Nat × Value)) (h : Hp) (K : Value → Hp → Prop) : Prop :=
  ∃ e sz z cells, P.underlying t = some (.slice e) ∧ szO P e = some sz ∧ 0 < sz ∧ len * sz ≤ 16777216 ∧ zeroO P e = some z ∧ clo 4 z = true ∧ z.cells.size = sz ∧ (∀ c ∈ z.cells.toList, c.oneCell' = true) ∧
    Instr.fill (fun i => some (i * sz, sz)) ((Array.range (len * sz)).map (z.cells[· % z.cells.size]!)) parts = some cells ∧ (∀ c ∈ cells.toList, c.oneCell' = true) ∧
    K (.slice (some ⟨W0.heap.size + h.length, 0, none⟩) len len) (h ++ [.cells e cells.toList])
/-- What an append takes. -/
def newsO (t' : TypeId) (sz : Nat) (x : Value) (h : Hp) (n : Nat) (vs : List Value) : Prop :=
  match x with
  | .slice none l _ => (∃ e, P.underlying t' = some (.slice e)) ∧ l = 0 ∧ n = 0 ∧ vs = []
  | .slice (some a) l _ => (∃ e, P.underlying t' = some (.slice e)) ∧ n = l ∧ (l = 0 ∨ a.spot = none) ∧ rds W0 h a 0 (l * sz) = some vs
  | .string s => P.underlying t' = some .string ∧ sz = 1 ∧ n = s.size ∧ vs = u8s s
  | _ => False
def wAppend (t t' : TypeId) (s x : Value) (h : Hp) (K : Value → Hp → Prop) : Prop :=
  ∃ e sz by_ n vs z, P.underlying t = some (.slice e) ∧ szO P e = some sz ∧ 0 < sz ∧ bytesO P e = some by_ ∧ zeroO P e = some z ∧ z.cells.size = sz ∧ newsO P W0 t' sz x h n vs ∧
    ((s = .slice none 0 0 ∧ n * by_ ≤ 140737488355328 ∧ n ≤ 140737488355328 ∧ (n = 0 → K (.slice none 0 0) h) ∧ (n ≠ 0 → K (.slice (some ⟨W0.heap.size + h.length, 0, none⟩) n n) (h ++ [.cells e vs]))) ∨
     (∃ j l xs, s = .slice (some ⟨W0.heap.size + j, 0, none⟩) l l ∧ h[j]? = some (.cells e xs) ∧ xs.length = l * sz ∧ (l + n) * by_ ≤ 140737488355328 ∧ l + n ≤ 140737488355328 ∧
      K (.slice (some ⟨W0.heap.size + h.length, 0, none⟩) (l + n) (l + n)) (h.set j .dead ++ [.cells e (xs ++ vs)])))
def wLen (t : TypeId) (x : Value) (h : Hp) (K : Value → Hp → Prop) : Prop :=
  match x with
  | .string s => P.underlying t = some .string ∧ K (.int .i64 s.size) h
  | .slice _ n _ => (∃ e, P.underlying t = some (.slice e)) ∧ K (.int .i64 n) h
  | _ => ∃ n e, (P.underlying t = some (.array n e) ∧ (∃ cs, x = .agg cs)) ∧ K (.int .i64 n) h
def wConv (src dst : TypeId) (x : Value) (h : Hp) (K : Value → Hp → Prop) : Prop :=
  (clo 3 x = true ∧ wSc P (convert src dst x) (fun v => K v h)) ∨
  (∃ e, P.underlying src = some (.slice e) ∧ P.underlying e = some (.int .u8) ∧ P.underlying dst = some .string ∧ ∃ a n c ns, x = .slice (some a) n c ∧ (n = 0 ∨ a.spot = none) ∧ rds W0 h a 0 n = some (ns.map (.int .u8)) ∧ K (.string (strN ns)) h) ∨
  (∃ e s, P.underlying src = some .string ∧ P.underlying dst = some (.slice e) ∧ P.underlying e = some (.int .u8) ∧ szO P e = some 1 ∧ x = .string s ∧ s.size ≤ 140737488355328 ∧ K (.slice (some ⟨W0.heap.size + h.length, 0, none⟩) s.size s.size) (h ++ [.cells e (u8s s)])) ∨
  (∃ e j o n e' xs, src = dst ∧ P.underlying dst = some (.slice e) ∧ P.underlying e = some (.int .u8) ∧ x = .slice (some ⟨W0.heap.size + j, o, none⟩) n n ∧ h[j]? = some (.cells e' xs) ∧ K x h)
def wBin (op : BinOp) (xT : TypeId) (x y : Operand) (a b : Value) (K : Value → Prop) : Prop :=
  (clo 3 a = true ∧ clo 3 b = true ∧ wSc P (do eqGuard op xT x y a b; binOp op xT a b) K) ∨
  (∃ p n c e, a = .slice p n c ∧ b = .slice none 0 0 ∧ P.underlying xT = some (.slice e) ∧ ((op = .eql ∧ K (.bool p.isNone)) ∨ (op = .neq ∧ K (.bool (!p.isNone))))) ∨
  (∃ p e, a = .pointer p ∧ b = .pointer none ∧ P.underlying xT = some (.pointer e) ∧ ((op = .eql ∧ K (.bool p.isNone)) ∨ (op = .neq ∧ K (.bool (!p.isNone)))))

variable (AC : FuncId → List Value → Hp → (Value → Hp → Prop) → Prop)
def wop (o : Oper) (ρ : Fr) (h : Hp) (K : Value → Hp → Prop) : Prop :=
  match o.op with
  | .move x | .assign x => okO W0.heap.size x ∧ K (evo ρ x) h
  | .pick c x y => okO W0.heap.size c ∧ okO W0.heap.size x ∧ okO W0.heap.size y ∧ ∃ t, evo ρ c = .bool t ∧ (t = true → K (evo ρ x) h) ∧ (t = false → K (evo ρ y) h)
  | .alloc e => ∃ z, zeroO P e = some z ∧ clo 4 z = true ∧ wBox P W0 e z h K
  | .box e x => okO W0.heap.size x ∧ wBox P W0 e (evo ρ x) h K
  | .build t parts => okOs W0.heap.size (parts.toList.map (·.2)) ∧ wBuild P t (parts.toList.map fun (i, x) => (i, evo ρ x)) h K
  | .buildSlice t len parts => okOs W0.heap.size (parts.toList.map (·.2)) ∧ wBuildS P W0 t len (parts.toList.map fun (i, x) => (i, evo ρ x)) h K
  | .load t x => okO W0.heap.size x ∧ wLoad P W0 t (evo ρ x) h K
  | .store t x y => okO W0.heap.size x ∧ okO W0.heap.size y ∧ wStore P W0 t (evo ρ x) (evo ρ y) h K
  | .nilCheck x => okO W0.heap.size x ∧ ((∃ a, evo ρ x = .pointer (some a)) ∨ ∃ f xs ys, evo ρ x = .func (.func f) xs ys) ∧ K (evo ρ x) h
  | .binOp op xT x y _ => okO W0.heap.size x ∧ okO W0.heap.size y ∧ wBin P op xT x y (evo ρ x) (evo ρ y) (fun v => K v h)
  | .unOp op _ x => okO W0.heap.size x ∧ clo 3 (evo ρ x) = true ∧ wSc P (Op.unary op (evo ρ x)) (fun v => K v h)
  | .convert src dst x => okO W0.heap.size x ∧ wConv P W0 src dst (evo ρ x) h K
  | .makeFunc fn xs ys => okOs W0.heap.size xs.toList ∧ okOs W0.heap.size ys.toList ∧ K (.func fn (xs.map (evo ρ)) (ys.map (evo ρ))) h
  | .makeSlice t l c => okO W0.heap.size l ∧ okO W0.heap.size c ∧ wMake P W0 t (evo ρ l) (evo ρ c) h K
  | .slice t x lo hi none => okO W0.heap.size x ∧ okOs W0.heap.size (lo.toList ++ hi.toList) ∧ wSlice P W0 t (evo ρ x) (lo.map (evo ρ)) (hi.map (evo ρ)) h K
  | .fieldAddr s x f => okO W0.heap.size x ∧ wField P s (evo ρ x) f h K
  | .field s x f => okO W0.heap.size x ∧ wFieldV P s (evo ρ x) f h K
  | .indexAddr t x ix => okO W0.heap.size x ∧ okO W0.heap.size ix ∧ wIxAddr P t (evo ρ x) (evo ρ ix) h K
  | .index t x ix => okO W0.heap.size x ∧ okO W0.heap.size ix ∧ wIx P t (evo ρ x) (evo ρ ix) h K
  | .extract x i => okO W0.heap.size x ∧ ∃ vs v, evo ρ x = .tuple vs ∧ vs[i]? = some v ∧ K v h
  | .range t x => okO W0.heap.size x ∧ ∃ s, P.underlying t = some .string ∧ evo ρ x = .string s ∧ K (.pointer (some ⟨W0.heap.size + h.length, 0, none⟩)) (h ++ [.iter s 0])
  | .next x true => okO W0.heap.size x ∧ ∃ j s pos, evo ρ x = .pointer (some ⟨W0.heap.size + j, 0, none⟩) ∧ h[j]? = some (.iter s pos) ∧
      (pos < s.size → K (.tuple #[.bool true, .int .i64 pos, .int .i32 (Utf8.decode s pos).1]) (h.set j (.iter s (pos + (Utf8.decode s pos).2)))) ∧ (¬ pos < s.size → K (.tuple #[.bool false]) h)
  | .call c => okOs W0.heap.size c.args.toList ∧
    match c.callee with
    | .builtin .len => match c.args.toList, c.argTypes.toList with | [x], [t] => wLen P t (evo ρ x) h K | _, _ => False
    | .builtin .append => match c.args.toList, c.argTypes.toList with | [s, x], [t, t'] => wAppend P W0 t t' (evo ρ s) (evo ρ x) h K | _, _ => False
    | .builtin .min => (∀ x ∈ c.args.toList, clo 3 (evo ρ x) = true) ∧ wSc P (Builtin.min_ c.argTypes o.type (c.args.map (evo ρ))) (fun v => K v h)
    | .builtin .max => (∀ x ∈ c.args.toList, clo 3 (evo ρ x) = true) ∧ wSc P (Builtin.max_ c.argTypes o.type (c.args.map (evo ρ))) (fun v => K v h)
    | .value f => okO W0.heap.size f ∧ ∃ g xs ys, evo ρ f = .func (.func g) xs ys ∧ AC g (xs.toList ++ c.args.toList.map (evo ρ) ++ ys.toList) h K
    | _ => False
  | _ => False
end
end Go.Proofs.AbM
