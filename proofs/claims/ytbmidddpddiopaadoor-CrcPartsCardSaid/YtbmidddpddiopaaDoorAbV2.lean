/- The machine of values: what an operation asks. -/
import Derived.Test.YtbmidddpddiopaaDoorAbV1
set_option linter.unusedVariables false
set_option linter.unusedSimpArgs false
namespace Go.Proofs.AbM
open Go.RowKit
def ofV : Nat → Value → AV
  | 0, v => .sc v
  | n + 1, v => match v with
    | .agg cs => .agg (cs.toList.map (ofV n))
    | .slice none 0 0 => .isl true 0 []
    | v => .sc v
def cloV : Nat → Value → Bool
  | 0, _ => false
  | n + 1, v => match v with
    | .agg cs => cs.toList.all (cloV n)
    | v => scV v
theorem cloV_clo : ∀ (n : Nat) (v : Value), cloV n v = true → clo n v = true
  | 0, _, h => by simp [cloV] at h
  | n + 1, v, h => by
    cases v with
    | agg cs =>
      simp only [cloV, clo, List.all_eq_true] at h ⊢
      exact fun x hx => cloV_clo n x (h x hx)
    | _ => simp only [cloV] at h; exact scV_clo h n
theorem ofV_rel {W0 : World} {C : Cx} : ∀ (n : Nat) (v : Value), cloV n v = true → RV W0 C (ofV n v) v
  | 0, _, h => by simp [cloV] at h
  | n + 1, v, h => by
    cases v with
    | agg cs =>
      simp only [cloV, List.all_eq_true] at h
      refine .agg (by simp) fun i c u h1 h2 => ?_
      rw [List.getElem?_map] at h1
      have h2' : cs.toList[i]? = some u := by simpa using h2
      rw [h2'] at h1
      cases h1
      exact ofV_rel n u (h u (List.mem_of_getElem? h2'))
    | slice a l c =>
      have hs : scV (.slice a l c) = true := by simpa only [cloV] using h
      simp only [ofV]
      split
      · rename_i he; cases he
      · rename_i he; cases he
        exact .isl (us := []) (.inl ⟨rfl, rfl, rfl⟩) rfl rfl (fun i u hu => by simp at hu) (fun i c u hu => by simp at hu)
      · exact .sc hs
    | _ => simp only [cloV] at h; exact .sc h
theorem ofV_parts : ∀ (n : Nat) (v : Value), (ofV n v).parts = true
  | 0, v => rfl
  | n + 1, v => by
    simp only [ofV]; split <;> rfl
def evv (G : Nat → AV) (ρ : VF) : Operand → AV
  | .tmp t => ρ t
  | .const v => ofV 4 v
  | .global g => G g
  | .func f => .fn (.func f) [] []
def vok (G : Nat → AV) : Operand → Prop
  | .tmp _ => True
  | .const v => cloV 4 v = true
  | .global g => (G g).one = true
  | .func _ => True
def voks (G : Nat → AV) (xs : List Operand) : Prop := ∀ x ∈ xs, vok G x
/-- What the globals' blocks hold. -/
def GOk (W0 : World) (G : Nat → AV) : Prop := ∀ g, (G g).one = true → g < W0.heap.size ∧ ∀ C, RV W0 C (G g) (.pointer (some ⟨g, 0, none⟩))
def FV (W0 : World) (C : Cx) (ρ : VF) (ρ1 : Fr) : Prop := ∀ i, RV W0 C (ρ i) (ρ1 i)
def putV (ρ : VF) (d : Option Nat) (v : AV) : VF := match d with | some d => updV ρ d v | none => ρ
section
variable {W0 : World} {C C' : Cx} {ρ : VF} {ρ1 : Fr} {G : Nat → AV}
theorem FV.mono (e : C.le C') (F : FV W0 C ρ ρ1) : FV W0 C' ρ ρ1 := fun i => (F i).mono e
theorem FV.put (F : FV W0 C ρ ρ1) {v : AV} {u : Value} (h : RV W0 C v u) (d : Option Nat) : FV W0 C (putV ρ d v) (AbM.put ρ1 d u) := by
  intro i
  cases d with
  | none => exact F i
  | some d =>
    simp only [putV, AbM.put, updV, upd]
    split
    · exact h
    · exact F i
theorem FV.ev (F : FV W0 C ρ ρ1) (hG : GOk W0 G) {x : Operand} (hx : vok G x) : RV W0 C (evv G ρ x) (evo ρ1 x) ∧ okO W0.heap.size x := by
  cases x with
  | tmp t => exact ⟨F t, trivial⟩
  | const v => exact ⟨ofV_rel 4 v hx, cloV_clo 4 v hx⟩
  | global g => exact ⟨(hG g hx).2 C, (hG g hx).1⟩
  | func f => exact ⟨.fn rfl (fun i c u h => by simp at h) rfl (fun i c u h => by simp at h), trivial⟩
theorem FV.evs (F : FV W0 C ρ ρ1) (hG : GOk W0 G) : ∀ {xs : List Operand}, voks G xs → RVs W0 C (xs.map (evv G ρ)) (xs.map (evo ρ1)) ∧ okOs W0.heap.size xs
  | [], _ => ⟨RVs.nil, fun x hx => by simp at hx⟩
  | x :: xs, h => by
    obtain ⟨h1, h2⟩ := F.ev hG (h x (by simp))
    obtain ⟨h3, h4⟩ := FV.evs F hG (xs := xs) (fun y hy => h y (by simp [hy]))
    refine ⟨RVs.cons h1 h3, fun y hy => ?_⟩
    rcases List.mem_cons.1 hy with rfl | hy
    · exact h2
    · exact h4 y hy
end

section
variable (P : Program)
def vRead (t : TypeId) (cs : List AV) (off : Nat) (K : AV → Prop) : Prop :=
  ∃ g, isAggO P t = some g ∧ (g = true → ∃ n, szO P t = some n ∧ off + n ≤ cs.length ∧ K (.agg ((cs.drop off).take n))) ∧ (g = false → ∃ v, cs[off]? = some v ∧ K v)
def vLoad (t : TypeId) (va : AV) (h : VH) (K : AV → VH → Prop) : Prop :=
  match va with
  | .op j off => ∃ e cs, h j = some (.cells e false cs) ∧ vRead P t cs off fun v => K v h
  | .ip cs off => vRead P t cs off fun v => K v h
  | _ => False
def vStore (t : TypeId) (va v : AV) (h : VH) (K : AV → VH → Prop) : Prop :=
  match va with
  | .op j o => ∃ e cs, h j = some (.cells e false cs) ∧ v.parts = true ∧ szO P t = some v.cells.length ∧ o + v.cells.length ≤ cs.length ∧ v.cells.all AV.one = true ∧ K .junk (hset h j (.cells e false (setV cs o v.cells)))
  | _ => False
def vBox (e : TypeId) (v : AV) (h : VH) (K : AV → VH → Prop) : Prop :=
  v.parts = true ∧ szO P e = some v.cells.length ∧ v.cells.all AV.one = true ∧ ∀ j, h j = none → K (.op j 0) (hset h j (.cells e false v.cells))
/-- A type's zero, as cells. -/
def zcO (e : TypeId) : Option (List AV) :=
  match zeroO P e with
  | some z => if cloV 4 z = true ∧ szO P e = some (ofV 4 z).cells.length ∧ (ofV 4 z).cells.all AV.one = true then some (ofV 4 z).cells else none
  | none => none
def vAlloc (e : TypeId) (h : VH) (K : AV → VH → Prop) : Prop := ∃ zs, zcO P e = some zs ∧ ∀ j, h j = none → K (.op j 0) (hset h j (.cells e false zs))
def vField (s : TypeId) (va : AV) (f : Nat) (h : VH) (K : AV → VH → Prop) : Prop :=
  ∃ fs fd n, P.underlying s = some (.struct fs) ∧ fs[f]? = some fd ∧ szO P fd.type = some n ∧ n ≠ 0 ∧
    match va with
    | .op j off => (∃ e cs, h j = some (.cells e false cs)) ∧ K (.op j (off + fd.offset)) h
    | .ip cs off => K (.ip cs (off + fd.offset)) h
    | _ => False
def partV (t : TypeId) (cs : List AV) (off : Nat) : Option AV :=
  match isAggO P t with
  | some true => (szO P t).map fun n => .agg ((cs.drop off).take n)
  | some false => cs[off]?
  | none => none
def vFieldV (s : TypeId) (v : AV) (f : Nat) (h : VH) (K : AV → VH → Prop) : Prop :=
  ∃ fs fd cs u, P.underlying s = some (.struct fs) ∧ fs[f]? = some fd ∧ v = .agg cs ∧ partV P fd.type cs fd.offset = some u ∧ K u h
def vIxAddr (t : TypeId) (x ix : AV) (h : VH) (K : AV → VH → Prop) : Prop :=
  ∃ k i, ix = .sc (.int k i) ∧ 0 ≤ i ∧ ∃ e sz, szO P e = some sz ∧
    match x with
    | .isl _ n cs => P.underlying t = some (.slice e) ∧ i < n ∧ K (.ip cs (i.toNat * sz)) h
    | .own j off n => P.underlying t = some (.slice e) ∧ i < n ∧ (∃ e' nl cs, h j = some (.cells e' nl cs)) ∧ K (.op j (off + i.toNat * sz)) h
    | .op j off => ∃ n, P.underlying t = some (.array n e) ∧ i < n ∧ (∃ e' cs, h j = some (.cells e' false cs)) ∧ K (.op j (off + i.toNat * sz)) h
    | .ip cs off => ∃ n, P.underlying t = some (.array n e) ∧ i < n ∧ K (.ip cs (off + i.toNat * sz)) h
    | _ => False
def vIx (t : TypeId) (x ix : AV) (h : VH) (K : AV → VH → Prop) : Prop :=
  ∃ k i, ix = .sc (.int k i) ∧ 0 ≤ i ∧
    match x with
    | .agg cs => ∃ e n sz u, P.underlying t = some (.array n e) ∧ szO P e = some sz ∧ i < n ∧ partV P e cs (i.toNat * sz) = some u ∧ K u h
    | .sc (.string s) => ∃ b, P.underlying t = some .string ∧ s[i.toNat]? = some b ∧ K (.sc (.int .u8 b.toNat)) h
    | _ => False
def bndV (d : Int) : Option AV → Int → Prop
  | none, i => i = d
  | some (.sc (.int _ n)), i => i = n
  | _, _ => False
def vSlice (t : TypeId) (x : AV) (lo hi : Option AV) (h : VH) (K : AV → VH → Prop) : Prop :=
  match x with
  | .sc (.string s) => P.underlying t = some .string ∧ ∃ l r : Int, bndV 0 lo l ∧ bndV s.size hi r ∧ 0 ≤ l ∧ l ≤ r ∧ r ≤ s.size ∧ K (.sc (.string (s.extract l.toNat r.toNat))) h
  | .isl nl n cs => ∃ e sz, P.underlying t = some (.slice e) ∧ szO P e = some sz ∧ 0 < sz ∧ ∃ l r : Int, bndV 0 lo l ∧ bndV n hi r ∧ 0 ≤ l ∧ l ≤ r ∧ r ≤ n ∧ K (.isl nl (r - l).toNat ((cs.drop (l.toNat * sz)).take ((r - l).toNat * sz))) h
  | .own j o n => ∃ e sz e' nl cs, P.underlying t = some (.slice e) ∧ szO P e = some sz ∧ 0 < sz ∧ h j = some (.cells e' nl cs) ∧ ∃ l r : Int, bndV 0 lo l ∧ bndV n hi r ∧ 0 ≤ l ∧ l ≤ r ∧ r ≤ n ∧
      (l < r → K (.own j (o + l.toNat * sz) (r - l).toNat) h) ∧ (l = r → K (.isl nl 0 []) h)
  | _ => False
def vMake (t : TypeId) (l c : AV) (h : VH) (K : AV → VH → Prop) : Prop :=
  ∃ (k k' : IntKind) (n : Nat) (e : TypeId) (z : Value) (by_ : Nat), l = .sc (.int k n) ∧ c = .sc (.int k' n) ∧ P.underlying t = some (.slice e) ∧ zeroO P e = some z ∧ szO P e = some 1 ∧ scV z = true ∧ bytesO P e = some by_ ∧ by_ * n ≤ 140737488355328 ∧ n ≤ 140737488355328 ∧
    ((∀ j, h j = none → K (.own j 0 n) (hset h j (.cells e false (List.replicate n (ofV 4 z))))) ∨ K (.isl false n (List.replicate n (ofV 4 z))) h)
def vfold (off : Nat) (vs acc : List AV) : List AV := (vs.zipIdx 0).foldl (fun a p => a.set (off + p.2) p.1) acc
def vfill (place : Nat → Option (Nat × Nat)) (cs : List AV) : List (Nat × AV) → Option (List AV)
  | [] => some cs
  | (i, v) :: rest => match place i with
    | none => none
    | some (off, sz) => if v.parts = true ∧ v.cells.length = sz ∧ off + v.cells.length ≤ cs.length then vfill place (vfold off v.cells cs) rest else none
def placesO (P : Program) : List Field → Option (List (Nat × Nat))
  | [] => some []
  | f :: fs => match szO P f.type, placesO P fs with | some n, some ps => some ((f.offset, n) :: ps) | _, _ => none
/-- A struct's, an array's zero, and the places of its parts. -/
def bldO (t : TypeId) : Option (List AV × List (Nat × Nat)) :=
  match zeroO P t with
  | some z => match cloV 4 z with
    | true => match P.underlying t with
      | some (.struct fs) => (placesO P fs.toList).map fun ps => ((ofV 4 z).cells, ps)
      | some (.array n e) => (szO P e).map fun sz => ((ofV 4 z).cells, (List.range n).map fun i => (i * sz, sz))
      | _ => none
    | false => none
  | none => none
def vBuild (t : TypeId) (parts : List (Nat × AV)) (h : VH) (K : AV → VH → Prop) : Prop :=
  ∃ q, bldO P t = some q ∧ ∃ cells, vfill (q.2[·]?) q.1 parts = some cells ∧ K (.agg cells) h
def vBuild0 (t : TypeId) (parts : List (Nat × AV)) (h : VH) (K : AV → VH → Prop) : Prop :=
  ∃ z, zeroO P t = some z ∧ cloV 4 z = true ∧
    ((∃ (fs : Array Field) (places : List (Nat × Nat)) (cells : List AV), P.underlying t = some (.struct fs) ∧ (fs.toList.map fun f => (szO P f.type).map fun n => (f.offset, n)) = places.map some ∧ vfill (places.toArray[·]?) (ofV 4 z).cells parts = some cells ∧ K (.agg cells) h) ∨
     (∃ n e sz cells, P.underlying t = some (.array n e) ∧ szO P e = some sz ∧ vfill (fun i => some (i * sz, sz)) (ofV 4 z).cells parts = some cells ∧ K (.agg cells) h))
def vBuildS (t : TypeId) (len : Nat) (parts : List (Nat × AV)) (h : VH) (K : AV → VH → Prop) : Prop :=
  ∃ e sz z cells, P.underlying t = some (.slice e) ∧ szO P e = some sz ∧ 0 < sz ∧ len * sz ≤ 16777216 ∧ zeroO P e = some z ∧ cloV 4 z = true ∧ (ofV 4 z).cells.length = sz ∧ (ofV 4 z).cells.all AV.one = true ∧
    vfill (fun i => some (i * sz, sz)) ((List.range (len * sz)).map fun i => (ofV 4 z).cells.getD (i % sz) .junk) parts = some cells ∧ cells.all AV.one = true ∧
    ((∀ j, h j = none → K (.own j 0 len) (hset h j (.cells e false cells))) ∨ K (.isl false len cells) h)
def vNews (t' : TypeId) (sz : Nat) (x : AV) (h : VH) (n : Nat) (vs : List AV) : Prop :=
  match x with
  | .isl _ n' cs => (∃ e, P.underlying t' = some (.slice e)) ∧ n = n' ∧ cs.length = n * sz ∧ vs = cs
  | .own j o n' => (∃ e, P.underlying t' = some (.slice e)) ∧ n = n' ∧ ∃ e nl cs, h j = some (.cells e nl cs) ∧ o + n * sz ≤ cs.length ∧ vs = (cs.drop o).take (n * sz)
  | .sc (.string s) => P.underlying t' = some .string ∧ sz = 1 ∧ n = s.size ∧ vs = (u8s s).map .sc
  | _ => False
def vAppend (t t' : TypeId) (s x : AV) (h : VH) (K : AV → VH → Prop) : Prop :=
  ∃ e sz by_ n vs z, P.underlying t = some (.slice e) ∧ szO P e = some sz ∧ 0 < sz ∧ bytesO P e = some by_ ∧ zeroO P e = some z ∧ z.cells.size = sz ∧ vNews P t' sz x h n vs ∧
    match s with
    | .isl true 0 _ => n * by_ ≤ 140737488355328 ∧ n ≤ 140737488355328 ∧ (n = 0 → K (.isl true 0 []) h) ∧ (n ≠ 0 → ∀ j, h j = none → K (.own j 0 n) (hset h j (.cells e false vs)))
    | .own j 0 l => ∃ nl cs, h j = some (.cells e nl cs) ∧ cs.length = l * sz ∧ (l + n) * by_ ≤ 140737488355328 ∧ l + n ≤ 140737488355328 ∧
        ∀ j', hdel h j j' = none → K (.own j' 0 (l + n)) (hset (hdel h j) j' (.cells e (nl && n == 0) (cs ++ vs)))
    | _ => False
def vLen (t : TypeId) (x : AV) (h : VH) (K : AV → VH → Prop) : Prop :=
  match x with
  | .sc (.string s) => P.underlying t = some .string ∧ K (.sc (.int .i64 s.size)) h
  | .isl _ n _ => (∃ e, P.underlying t = some (.slice e)) ∧ K (.sc (.int .i64 n)) h
  | .own j _ n => (∃ e, P.underlying t = some (.slice e)) ∧ (∃ e nl cs, h j = some (.cells e nl cs)) ∧ K (.sc (.int .i64 n)) h
  | .agg _ => ∃ n e, P.underlying t = some (.array n e) ∧ K (.sc (.int .i64 n)) h
  | _ => False
def vConv (src dst : TypeId) (x : AV) (h : VH) (K : AV → VH → Prop) : Prop :=
  match x with
  | .sc v => wSc P (convert src dst v) (fun u => scV u = true ∧ K (.sc u) h) ∨
    (∃ e s, P.underlying src = some .string ∧ P.underlying dst = some (.slice e) ∧ P.underlying e = some (.int .u8) ∧ szO P e = some 1 ∧ v = .string s ∧ s.size ≤ 140737488355328 ∧
      ((∀ j, h j = none → K (.own j 0 s.size) (hset h j (.cells e false ((u8s s).map .sc)))) ∨ K (.isl false s.size ((u8s s).map .sc)) h))
  | .isl nl n cs => ∃ e ns, P.underlying src = some (.slice e) ∧ P.underlying e = some (.int .u8) ∧ P.underlying dst = some .string ∧ cs = ns.map (fun x => .sc (.int .u8 x)) ∧ ns.length = n ∧ K (.sc (.string (strN ns))) h
  | .own j o n => (∃ e ns e' nl cs, P.underlying src = some (.slice e) ∧ P.underlying e = some (.int .u8) ∧ P.underlying dst = some .string ∧ h j = some (.cells e' nl cs) ∧ (cs.drop o).take n = ns.map (fun x => .sc (.int .u8 x)) ∧ ns.length = n ∧ K (.sc (.string (strN ns))) h) ∨
    (src = dst ∧ ∃ e e' cs, P.underlying dst = some (.slice e) ∧ P.underlying e = some (.int .u8) ∧ h j = some (.cells e' false cs) ∧ (K (.own j o n) h ∨ (o = 0 ∧ K (.isl false n cs) (hdel h j))))
  | _ => False
def isNilV (h : VH) : AV → Option Bool
  | .isl nl _ _ => some nl
  | .own j _ _ => match h j with | some (.cells _ nl _) => some nl | _ => none
  | .op j _ => match h j with | some (.cells _ false _) => some false | _ => none
  | .ip _ _ => some false
  | .sc (.pointer none) => some true
  | _ => none
/-- The cells of an own block. -/
def blkV (h : VH) (j : Nat) : Option (TypeId × List AV) := match h j with | some (.cells e false cs) => some (e, cs) | _ => none
def okNil (h : VH) : AV → Bool
  | .op j _ => (blkV h j).isSome
  | .ip _ _ => true
  | .fn (.func _) _ _ => true
  | _ => false
def isSlV : AV → Bool
  | .isl _ _ _ | .own _ _ _ => true
  | _ => false
def vBin (op : BinOp) (xT : TypeId) (x y : Operand) (a b : AV) (h : VH) (K : AV → Prop) : Prop :=
  (∃ u w, a = .sc u ∧ b = .sc w ∧ wSc P (do eqGuard op xT x y u w; binOp op xT u w) (fun r => scV r = true ∧ K (.sc r))) ∨
  (∃ us ws : List Value, a = .agg (us.map .sc) ∧ b = .agg (ws.map .sc) ∧ wSc P (do eqGuard op xT x y (.agg us.toArray) (.agg ws.toArray); binOp op xT (.agg us.toArray) (.agg ws.toArray)) (fun r => scV r = true ∧ K (.sc r))) ∨
  (∃ q e, isNilV h a = some q ∧ ((isSlV a = true ∧ b = .isl true 0 [] ∧ P.underlying xT = some (.slice e)) ∨ (isSlV a = false ∧ b = .sc (.pointer none) ∧ P.underlying xT = some (.pointer e))) ∧ ((op = .eql ∧ K (.sc (.bool q))) ∨ (op = .neq ∧ K (.sc (.bool (!q))))))

variable (G : Nat → AV) (A : FuncId → List AV → VH → (AV → VH → Prop) → Prop)
/-- A row of one's own, read as what it holds. -/
inductive Bz (h : VH) : AV → AV → Prop
  | refl (v : AV) : Bz h v v
  | own {j n : Nat} {e : TypeId} {nl : Bool} {cs cs' : List AV} : h j = some (.cells e nl cs) → cs.length = cs'.length → (∀ (i : Nat) (c c' : AV), cs[i]? = some c → cs'[i]? = some c' → Bz h c c') → Bz h (.own j 0 n) (.isl nl n cs')
  | cut {j off n : Nat} {e : TypeId} {cs cs' : List AV} : h j = some (.cells e false cs) → (∀ (i : Nat) (c' : AV), cs'[i]? = some c' → cs[off + i]? = some c') → Bz h (.own j off n) (.isl false n cs')
  | op {j off : Nat} {e : TypeId} {cs cs' : List AV} : h j = some (.cells e false cs) → cs.length = cs'.length → (∀ (i : Nat) (c c' : AV), cs[i]? = some c → cs'[i]? = some c' → Bz h c c') → Bz h (.op j off) (.ip cs' off)
/-- A closed value. -/
def clA : Nat → AV → Bool
  | _, .sc _ => true
  | n + 1, .agg cs => cs.all (clA n)
  | n + 1, .tup cs => cs.all (clA n)
  | _, _ => false
/-- A call: as it is; or one that only looks at what is the caller's, and tells a closed value. -/
def vCall (g : FuncId) (as : List AV) (h : VH) (K : AV → VH → Prop) : Prop :=
  A g as h K ∨ ∃ as', as.length = as'.length ∧ (∀ (i : Nat) (c c' : AV), as[i]? = some c → as'[i]? = some c' → Bz h c c') ∧ A g as' (fun _ => none) (fun v _ => clA 4 v = true ∧ K v h)
def isScO : AV → Option Value
  | .sc v => some v
  | _ => none
def vop (o : Oper) (ρ : VF) (h : VH) (K : AV → VH → Prop) : Prop :=
  match o.op with
  | .move x | .assign x => vok G x ∧ K (evv G ρ x) h
  | .pick c x y => vok G c ∧ vok G x ∧ vok G y ∧ ∃ t, evv G ρ c = .sc (.bool t) ∧ (t = true → K (evv G ρ x) h) ∧ (t = false → K (evv G ρ y) h)
  | .alloc e => vAlloc P e h K
  | .box e x => vok G x ∧ vBox P e (evv G ρ x) h K
  | .build t parts => voks G (parts.toList.map (·.2)) ∧ vBuild P t (parts.toList.map fun (i, x) => (i, evv G ρ x)) h K
  | .buildSlice t len parts => voks G (parts.toList.map (·.2)) ∧ vBuildS P t len (parts.toList.map fun (i, x) => (i, evv G ρ x)) h K
  | .load t x => vok G x ∧ vLoad P t (evv G ρ x) h K
  | .store t x y => vok G x ∧ vok G y ∧ vStore P t (evv G ρ x) (evv G ρ y) h K
  | .nilCheck x => vok G x ∧ okNil h (evv G ρ x) = true ∧ K (evv G ρ x) h
  | .binOp op xT x y _ => vok G x ∧ vok G y ∧ vBin P op xT x y (evv G ρ x) (evv G ρ y) h (fun v => K v h)
  | .unOp op _ x => vok G x ∧ ∃ v, evv G ρ x = .sc v ∧ wSc P (Op.unary op v) (fun u => scV u = true ∧ K (.sc u) h)
  | .convert src dst x => vok G x ∧ vConv P src dst (evv G ρ x) h K
  | .makeFunc fn xs ys => voks G xs.toList ∧ voks G ys.toList ∧ K (.fn fn (xs.toList.map (evv G ρ)) (ys.toList.map (evv G ρ))) h
  | .makeSlice t l c => vok G l ∧ vok G c ∧ vMake P t (evv G ρ l) (evv G ρ c) h K
  | .slice t x lo hi none => vok G x ∧ voks G (lo.toList ++ hi.toList) ∧ vSlice P t (evv G ρ x) (lo.map (evv G ρ)) (hi.map (evv G ρ)) h K
  | .fieldAddr s x f => vok G x ∧ vField P s (evv G ρ x) f h K
  | .field s x f => vok G x ∧ vFieldV P s (evv G ρ x) f h K
  | .indexAddr t x ix => vok G x ∧ vok G ix ∧ vIxAddr P t (evv G ρ x) (evv G ρ ix) h K
  | .index t x ix => vok G x ∧ vok G ix ∧ vIx P t (evv G ρ x) (evv G ρ ix) h K
  | .extract x i => vok G x ∧ ∃ vs v, evv G ρ x = .tup vs ∧ vs[i]? = some v ∧ K v h
  | .range t x => vok G x ∧ ∃ s, P.underlying t = some .string ∧ evv G ρ x = .sc (.string s) ∧ ∀ j, h j = none → K (.op j 0) (hset h j (.iter s 0))
  | .next x true => vok G x ∧ ∃ j s pos, evv G ρ x = .op j 0 ∧ h j = some (.iter s pos) ∧
      (pos < s.size → K (.tup [.sc (.bool true), .sc (.int .i64 pos), .sc (.int .i32 (Utf8.decode s pos).1)]) (hset h j (.iter s (pos + (Utf8.decode s pos).2)))) ∧ (¬ pos < s.size → K (.tup [.sc (.bool false)]) h)
  | .call c => voks G c.args.toList ∧
    match c.callee with
    | .builtin .len => match c.args.toList, c.argTypes.toList with | [x], [t] => vLen P t (evv G ρ x) h K | _, _ => False
    | .builtin .append => match c.args.toList, c.argTypes.toList with | [s, x], [t, t'] => vAppend P t t' (evv G ρ s) (evv G ρ x) h K | _, _ => False
    | .builtin .min => ∃ vs : List Value, c.args.toList.map (evv G ρ) = vs.map .sc ∧ wSc P (Builtin.min_ c.argTypes o.type vs.toArray) (fun u => scV u = true ∧ K (.sc u) h)
    | .builtin .max => ∃ vs : List Value, c.args.toList.map (evv G ρ) = vs.map .sc ∧ wSc P (Builtin.max_ c.argTypes o.type vs.toArray) (fun u => scV u = true ∧ K (.sc u) h)
    | .value f => vok G f ∧ ∃ g xs ys, evv G ρ f = .fn (.func g) xs ys ∧ vCall A g (xs ++ c.args.toList.map (evv G ρ) ++ ys) h K
    | _ => False
  | _ => False
end
end Go.Proofs.AbM
