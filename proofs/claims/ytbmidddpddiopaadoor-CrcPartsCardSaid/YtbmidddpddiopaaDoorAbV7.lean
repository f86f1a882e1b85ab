/- The machine of values: rules by which a proof steps through code, and rewriting of what single operations ask. -/
import Derived.Test.YtbmidddpddiopaaDoorAbV6
set_option linter.unusedVariables false
set_option linter.unusedSimpArgs false
namespace Go.Proofs.AbM
open Go.RowKit
section
variable {P : Program} {G : Nat → AV} {A : FuncId → List AV → VH → (AV → VH → Prop) → Prop} {n : Nat} {Q : Exit → VF → VH → Prop} {ρ : VF} {h : VH} {K : AV → VH → Prop} {KF : VF → VH → Prop} {ops : Array Oper} {rest : List Oper}
theorem VC_go {d : Nat} {f : FuncId} {as : List AV} {fn : Func} {c : Code} {n : Nat} {rs : Array ResultVar} (hf : P.funcs[f]? = some fn) (hb : fn.body = some c) (hn : (fn.name == "runtime.NumGoroutine") = false) (hnt : fn.ntmps = n) (hr : fn.results = rs) (hl : Nat.ble as.length n = true)
    (hw : ∀ Q : Exit → VF → VH → Prop, (∀ ρ h, resKV P rs.toList ρ h (fun vs h => FrK K (oneV vs) h) → Q .ret ρ h) → (∀ ρ h, resKV P rs.toList ρ h (fun vs h => FrK K (oneV vs) h) → Q .normal ρ h) → vawp P G (VC P G d) n c Q (initV as) h) : VC P G (d + 1) f as h K := by
  subst hnt
  subst hr
  exact .inr ⟨fn, c, hf, hb, hn, Nat.le_of_ble_eq_true hl, hw _ (fun ρ h hb => hb) (fun ρ h hb => hb)⟩
/-! ### Code -/
def okC (G : Nat → AV) (c : Operand) : Prop := vok G c
def isBV (w : Bool) : AV → Bool
  | .sc (.bool t) => match w with | true => t | false => !t
  | _ => false
def isBlV : AV → Bool
  | .sc (.bool _) => true
  | _ => false
theorem isBlV_b (t : Bool) : isBlV (.sc (.bool t)) = true := rfl
def isGdV : AV → Bool
  | .sc (.bool _) => true
  | .tup [] => true
  | _ => false
theorem isGdV_b (t : Bool) : isGdV (.sc (.bool t)) = true := rfl
theorem isGdV_u : isGdV (.tup []) = true := rfl
theorem isBV_u (w : Bool) : isBV w (.tup []) = false := rfl
theorem isGdV_iff {v : AV} : isGdV v = true ↔ (∃ t, v = .sc (.bool t)) ∨ v = .tup [] := by
  constructor
  · intro hh
    unfold isGdV at hh
    split at hh
    · exact .inl ⟨_, rfl⟩
    · exact .inr rfl
    · cases hh
  · rintro (⟨t, rfl⟩ | rfl) <;> rfl
theorem isBV_t (t : Bool) : isBV true (.sc (.bool t)) = t := rfl
theorem isBV_f (t : Bool) : isBV false (.sc (.bool t)) = !t := rfl
theorem isBlV_iff {v : AV} : isBlV v = true ↔ ∃ t, v = .sc (.bool t) := by
  constructor
  · intro hh
    unfold isBlV at hh
    split at hh
    · exact ⟨_, rfl⟩
    · cases hh
  · rintro ⟨t, rfl⟩; rfl
theorem isBV_iff {w : Bool} {v : AV} : isBV w v = true ↔ v = .sc (.bool w) := by
  unfold isBV
  split
  · rename_i t
    cases w <;> cases t <;> simp
  · rename_i hn
    constructor
    · intro h; cases h
    · intro h; exact (hn _ h).elim
theorem vawp_skip_eq : vawp P G A n .skip Q ρ h = Q .normal ρ h := propext Iff.rfl
theorem vawp_seq_eq (a b : Code) : vawp P G A n (.seq a b) Q ρ h = vawp P G A n a (thenV (vawp P G A n b Q) Q) ρ h := propext Iff.rfl
theorem vawp_region_eq (id : Nat) (ops : Array Oper) : vawp P G A n (.region id ops false) Q ρ h = vops P G A n ops ops.toList (Q .normal) ρ h := propext Iff.rfl
theorem vawp_block_eq (id : Nat) (c : Code) : vawp P G A n (.block id c) Q ρ h = vawp P G A n c (inBlockV id Q) ρ h := propext Iff.rfl
theorem vawp_exit_eq (id : Nat) : vawp P G A n (.exit id) Q ρ h = Q (.exit id) ρ h := propext Iff.rfl
theorem vawp_ret_eq : vawp P G A n .ret Q ρ h = Q .ret ρ h := propext Iff.rfl
theorem vawp_cond_ite {c : Operand} {x y : Code} : vawp P G A n (.cond c x y) Q ρ h = (vok G c ∧ isBlV (evv G ρ c) = true ∧ if isBV true (evv G ρ c) = true then vawp P G A n x Q ρ h else vawp P G A n y Q ρ h) := by
  rw [vawp]
  apply propext
  refine and_congr_right fun _ => ?_
  constructor
  · rintro ⟨t, ht, k1, k2⟩
    refine ⟨isBlV_iff.2 ⟨t, ht⟩, ?_⟩
    rw [ht]
    cases t with
    | true => rw [if_pos (isBV_iff.2 rfl)]; exact k1 rfl
    | false => rw [if_neg (by simp [isBV])]; exact k2 rfl
  · rintro ⟨hb, hh⟩
    obtain ⟨t, ht⟩ := isBlV_iff.1 hb
    rw [ht] at hh
    refine ⟨t, ht, fun e => ?_, fun e => ?_⟩
    · rw [if_pos (isBV_iff.2 (by rw [e]))] at hh; exact hh
    · rw [if_neg (by simp [isBV, e])] at hh; exact hh
theorem vawp_loop {c : Code} (I : Nat → VF → VH → Prop) {k : Nat} (h0 : I k ρ h) (hr : ∀ k ρ h, I k ρ h → vawp P G A n c (thenV (fun ρ' h' => ∃ k', k' < k ∧ I k' ρ' h') Q) ρ h) : vawp P G A n (.loop c) Q ρ h := ⟨I, k, h0, hr⟩
/-- What holds between two parts. -/
theorem vawp_mid {a b : Code} (R : VF → VH → Prop) (ha : ∀ K : VF → VH → Prop, (∀ ρ h, R ρ h → K ρ h) → vawp P G A n a (thenV K Q) ρ h) (hb : ∀ ρ h, R ρ h → vawp P G A n b Q ρ h) : vawp P G A n (.seq a b) Q ρ h := ha _ hb
theorem vawp_midG {a b : Code} (R : VF → VH → Prop) (ha : ∀ K : VF → VH → Prop, (∀ ρ h, R ρ h → Gst K ρ h) → vawp P G A n a (thenV K Q) ρ h) (hb : ∀ ρ h, R ρ h → Gst (vawp P G A n b Q) ρ h) : vawp P G A n (.seq a b) Q ρ h := ha _ hb
theorem Gst.nowV {c : Code} (hw : vawp P G A n c Q ρ h) : Gst (vawp P G A n c Q) ρ h := .now hw
theorem thenV_ret (K : VF → VH → Prop) : thenV K Q .ret ρ h = Q .ret ρ h := propext Iff.rfl
theorem thenV_exit (K : VF → VH → Prop) (id : Nat) : thenV K Q (.exit id) ρ h = Q (.exit id) ρ h := propext Iff.rfl
theorem thenV_normal (K : VF → VH → Prop) : thenV K Q .normal ρ h = Gst K ρ h := propext Iff.rfl
theorem inBlockV_normal (id : Nat) : inBlockV id Q .normal ρ h = Q .normal ρ h := propext Iff.rfl
theorem inBlockV_ret (id : Nat) : inBlockV id Q .ret ρ h = Q .ret ρ h := propext Iff.rfl
theorem inBlockV_exit (id id' : Nat) : inBlockV id Q (.exit id') ρ h = if id' = id then Q .normal ρ h else Q (.exit id') ρ h := propext Iff.rfl
/-- A region that draws, in the text's own order. -/
theorem pickO_all (ops : Array Oper) : pickO ops (List.range ops.size) = ops.toList := by
  have key : ∀ k, k ≤ ops.size → pickO ops (List.range k) = ops.toList.take k := by
    intro k
    induction k with
    | zero => intro _; rfl
    | succ k ih =>
      intro hk
      have : pickO ops (List.range k ++ [k]) = pickO ops (List.range k) ++ pickO ops [k] := by unfold pickO; rw [List.filterMap_append]
      rw [List.range_succ, this, ih (by omega), List.take_succ_eq_append_getElem (show k < ops.toList.length by rw [Array.length_toList]; omega)]
      congr 1
      unfold pickO
      simp [Array.getElem?_eq_getElem (show k < ops.size by omega)]
  rw [key _ (Nat.le_refl _), ← Array.length_toList, List.take_length]
theorem vawp_draw {id : Nat} {ops : Array Oper} (hm : P.follows .mixedOrders = true) (hok : okDraw P ops (List.range ops.size) = true) (hw : vops P G A n ops ops.toList (Q .normal) ρ h) : vawp P G A n (.region id ops true) Q ρ h := ⟨hm, .inl ⟨_, hok, by rw [pickO_all]; exact hw⟩⟩
theorem vawp_drawO {id : Nat} {ops : Array Oper} (ord : List Nat) (hm : P.follows .mixedOrders = true) (hok : okDraw P ops ord = true) (hw : vops P G A n ops (pickO ops ord) (Q .normal) ρ h) : vawp P G A n (.region id ops true) Q ρ h := ⟨hm, .inl ⟨ord, hok, hw⟩⟩
/-- .. in all orders. -/
theorem vawp_any {id : Nat} {ops : Array Oper} (k : Nat) (hm : P.follows .mixedOrders = true) (hk : ops.size = k) (hw : vany P G A n ops (Q .normal) k (Array.replicate k false) ρ h) : vawp P G A n (.region id ops true) Q ρ h := ⟨hm, .inr (by rw [hk]; exact hw)⟩
theorem vany_end {fuel : Nat} {l : Array Bool} (hr : Region.ready .any ops l = []) (hw : KF ρ h) : vany P G A n ops KF fuel l ρ h := by
  cases fuel with
  | zero => exact ⟨hr, hw⟩
  | succ f => exact ⟨fun _ => hw, fun i hi => by rw [hr] at hi; cases hi⟩
theorem vany_one {fuel : Nat} {l : Array Bool} (i : Nat) {o : Oper} (hr : Region.ready .any ops l = [i]) (ho : ops[i]? = some o) (hw : vops P G A n ops [o] (vany P G A n ops KF fuel (l.setIfInBounds i true)) ρ h) : vany P G A n ops KF (fuel + 1) l ρ h :=
  ⟨fun e => (by rw [hr] at e; cases e), fun j hj => by rw [hr, List.mem_singleton] at hj; subst hj; exact ⟨o, ho, hw⟩⟩
theorem vany_two {fuel : Nat} {l : Array Bool} (i j : Nat) {o o' : Oper} (hr : Region.ready .any ops l = [i, j]) (ho : ops[i]? = some o) (ho' : ops[j]? = some o') (hw : vops P G A n ops [o] (vany P G A n ops KF fuel (l.setIfInBounds i true)) ρ h) (hw' : vops P G A n ops [o'] (vany P G A n ops KF fuel (l.setIfInBounds j true)) ρ h) : vany P G A n ops KF (fuel + 1) l ρ h :=
  ⟨fun e => (by rw [hr] at e; cases e), fun k hk => by
    rw [hr] at hk
    simp only [List.mem_cons, List.not_mem_nil, or_false] at hk
    rcases hk with rfl | rfl
    · exact ⟨o, ho, hw⟩
    · exact ⟨o', ho', hw'⟩⟩
theorem vany_three {fuel : Nat} {l : Array Bool} (i j m : Nat) {o o' o'' : Oper} (hr : Region.ready .any ops l = [i, j, m]) (ho : ops[i]? = some o) (ho' : ops[j]? = some o') (ho'' : ops[m]? = some o'') (hw : vops P G A n ops [o] (vany P G A n ops KF fuel (l.setIfInBounds i true)) ρ h) (hw' : vops P G A n ops [o'] (vany P G A n ops KF fuel (l.setIfInBounds j true)) ρ h) (hw'' : vops P G A n ops [o''] (vany P G A n ops KF fuel (l.setIfInBounds m true)) ρ h) : vany P G A n ops KF (fuel + 1) l ρ h :=
  ⟨fun e => (by rw [hr] at e; cases e), fun k hk => by
    rw [hr] at hk
    simp only [List.mem_cons, List.not_mem_nil, or_false] at hk
    rcases hk with rfl | rfl | rfl
    · exact ⟨o, ho, hw⟩
    · exact ⟨o', ho', hw'⟩
    · exact ⟨o'', ho'', hw''⟩⟩
theorem resKV_nil {K : List AV → VH → Prop} : resKV P [] ρ h K = K [] h := propext Iff.rfl
theorem resKV_tmp {t : Nat} {rs : List ResultVar} {K : List AV → VH → Prop} : resKV P (.tmp t :: rs) ρ h K = resKV P rs ρ h fun vs h => K (ρ t :: vs) h := propext Iff.rfl
theorem resKV_cell {a : Nat} {t : TypeId} {rs : List ResultVar} {K : List AV → VH → Prop} : resKV P (.cell a t :: rs) ρ h K = vLoad P t (ρ a) h fun u h' => resKV P rs ρ h' fun vs h'' => K (u :: vs) h'' := propext Iff.rfl
theorem oneV_one (v : AV) : oneV [v] = v := rfl
theorem oneV_nil : oneV [] = .tup [] := rfl
theorem oneV_more (v u : AV) (vs : List AV) : oneV (v :: u :: vs) = .tup (v :: u :: vs) := rfl
theorem initV_nil (i : Nat) : initV [] i = .junk := rfl
theorem initV_cons (v : AV) (vs : List AV) (i : Nat) : initV (v :: vs) i = if i = 0 then v else initV vs (i - 1) := by cases i <;> simp [initV]
/-! ### Slots -/
theorem updV_at (ρ : VF) (d : Nat) (v : AV) (j : Nat) : updV ρ d v j = if j = d then v else ρ j := Eq.trans rfl rfl
theorem evv_tmp (ρ : VF) (t : Nat) : evv G ρ (.tmp t) = ρ t := Eq.trans rfl rfl
theorem evv_func (ρ : VF) (f : Nat) : evv G ρ (.func f) = .fn (.func f) [] [] := Eq.trans rfl rfl
theorem evv_global (ρ : VF) (g : Nat) : evv G ρ (.global g) = G g := Eq.trans rfl rfl
theorem evv_int (ρ : VF) (k : IntKind) (x : Int) : evv G ρ (.const (.int k x)) = .sc (.int k x) := Eq.trans rfl rfl
theorem evv_bool (ρ : VF) (b : Bool) : evv G ρ (.const (.bool b)) = .sc (.bool b) := Eq.trans rfl rfl
theorem evv_str (ρ : VF) (s : ByteArray) : evv G ρ (.const (.string s)) = .sc (.string s) := Eq.trans rfl rfl
theorem evv_snil (ρ : VF) : evv G ρ (.const (.slice none 0 0)) = .isl true 0 [] := Eq.trans rfl rfl
theorem evv_pnil (ρ : VF) : evv G ρ (.const (.pointer none)) = .sc (.pointer none) := Eq.trans rfl rfl
theorem evv_agg (ρ : VF) (vs : Array Value) : evv G ρ (.const (.agg vs)) = .agg (vs.toList.map (ofV 3)) := Eq.trans rfl rfl
theorem ofV3_int (k : IntKind) (x : Int) : ofV 3 (.int k x) = .sc (.int k x) := rfl
theorem ofV3_bool (b : Bool) : ofV 3 (.bool b) = .sc (.bool b) := rfl
theorem ofV3_str (s : ByteArray) : ofV 3 (.string s) = .sc (.string s) := rfl
theorem ofV3_snil : ofV 3 (.slice none 0 0) = .isl true 0 [] := rfl
theorem ofV3_pnil : ofV 3 (.pointer none) = .sc (.pointer none) := rfl
theorem vok_tmp (t : Nat) : vok G (.tmp t) = True := propext Iff.rfl
theorem vok_func (f : Nat) : vok G (.func f) = True := propext Iff.rfl
theorem vok_global (g : Nat) : vok G (.global g) = ((G g).one = true) := propext Iff.rfl
theorem vok_int (k : IntKind) (x : Int) : vok G (.const (.int k x)) = True := eq_true rfl
theorem vok_bool (b : Bool) : vok G (.const (.bool b)) = True := eq_true rfl
theorem vok_str (s : ByteArray) : vok G (.const (.string s)) = True := eq_true rfl
theorem vok_snil : vok G (.const (.slice none 0 0)) = True := eq_true rfl
theorem vok_pnil : vok G (.const (.pointer none)) = True := eq_true rfl
theorem vok_agg (vs : Array Value) : vok G (.const (.agg vs)) = (vs.toList.all (cloV 3) = true) := propext Iff.rfl
theorem cloV3_int (k : IntKind) (x : Int) : cloV 3 (.int k x) = true := rfl
theorem cloV3_bool (b : Bool) : cloV 3 (.bool b) = true := rfl
theorem cloV3_str (s : ByteArray) : cloV 3 (.string s) = true := rfl
theorem cloV3_snil : cloV 3 (.slice none 0 0) = true := rfl
theorem cloV3_pnil : cloV 3 (.pointer none) = true := rfl
theorem voks_nil : voks G [] = True := eq_true fun x hx => by simp at hx
theorem voks_cons (x : Operand) (xs : List Operand) : voks G (x :: xs) = (vok G x ∧ voks G xs) := by simp [voks]
theorem scV_int (k : IntKind) (x : Int) : scV (.int k x) = true := rfl
theorem scV_bool (b : Bool) : scV (.bool b) = true := rfl
theorem scV_str (s : ByteArray) : scV (.string s) = true := rfl
/-! ### Steps, so that what is behind is not looked at -/
def lwV (P : Program) (G : Nat → AV) (A : FuncId → List AV → VH → (AV → VH → Prop) → Prop) (n : Nat) (ops : Array Oper) (rest : List Oper) (KF : VF → VH → Prop) (ρ : VF) (h : VH) : Prop := vops P G A n ops rest KF ρ h
theorem lwV_out {d : Nat} {v : AV} (hk : vops P G A n ops rest KF (updV ρ d v) h) : lwV P G A n ops rest KF (putV ρ (some d) v) h := hk
theorem lwV_out0 {v : AV} (hk : vops P G A n ops rest KF ρ h) : lwV P G A n ops rest KF (putV ρ none v) h := hk
theorem lwV_none {v : AV} : lwV P G A n ops rest KF (putV ρ none v) h = vops P G A n ops rest KF ρ h := propext Iff.rfl
theorem lwV_sc {d : Nat} {u : Value} : lwV P G A n ops rest KF (putV ρ (some d) (.sc u)) h = vops P G A n ops rest KF (updV ρ d (.sc u)) h := propext Iff.rfl
theorem lwV_agg {d : Nat} {cs : List AV} : lwV P G A n ops rest KF (putV ρ (some d) (.agg cs)) h = vops P G A n ops rest KF (updV ρ d (.agg cs)) h := propext Iff.rfl
theorem lwV_tup {d : Nat} {cs : List AV} : lwV P G A n ops rest KF (putV ρ (some d) (.tup cs)) h = vops P G A n ops rest KF (updV ρ d (.tup cs)) h := propext Iff.rfl
theorem lwV_isl {d : Nat} {nl : Bool} {l : Nat} {cs : List AV} : lwV P G A n ops rest KF (putV ρ (some d) (.isl nl l cs)) h = vops P G A n ops rest KF (updV ρ d (.isl nl l cs)) h := propext Iff.rfl
theorem lwV_own {d : Nat} {j o l : Nat} : lwV P G A n ops rest KF (putV ρ (some d) (.own j o l)) h = vops P G A n ops rest KF (updV ρ d (.own j o l)) h := propext Iff.rfl
theorem lwV_op {d : Nat} {j o : Nat} : lwV P G A n ops rest KF (putV ρ (some d) (.op j o)) h = vops P G A n ops rest KF (updV ρ d (.op j o)) h := propext Iff.rfl
theorem lwV_ip {d : Nat} {cs : List AV} {o : Nat} : lwV P G A n ops rest KF (putV ρ (some d) (.ip cs o)) h = vops P G A n ops rest KF (updV ρ d (.ip cs o)) h := propext Iff.rfl
theorem lwV_fn {d : Nat} {f : Fn} {xs ys : List AV} : lwV P G A n ops rest KF (putV ρ (some d) (.fn f xs ys)) h = vops P G A n ops rest KF (updV ρ d (.fn f xs ys)) h := propext Iff.rfl
theorem lwV_junk {d : Nat}  : lwV P G A n ops rest KF (putV ρ (some d) .junk) h = vops P G A n ops rest KF (updV ρ d .junk) h := propext Iff.rfl
theorem vops_nil : vops P G A n ops [] KF ρ h = KF ρ h := propext Iff.rfl
theorem vops_n {dst : Option Tmp} {op : Op} {type : TypeId} {pos : String} {after : Array Edge} : vops P G A n ops (⟨dst, op, type, pos, after, none⟩ :: rest) KF ρ h = (dstOk n dst ∧ vop P G A ⟨dst, op, type, pos, after, none⟩ ρ h fun v h' => lwV P G A n ops rest KF (putV ρ dst v) h') := propext Iff.rfl
theorem vops_mv {d : Nat} {x : Operand} {type : TypeId} {pos : String} {after : Array Edge} : vops P G A n ops (⟨some d, .move x, type, pos, after, none⟩ :: rest) KF ρ h = (d < n ∧ vok G x ∧ vops P G A n ops rest KF (updV ρ d (evv G ρ x)) h) := propext Iff.rfl
theorem vops_as {d : Nat} {x : Operand} {type : TypeId} {pos : String} {after : Array Edge} : vops P G A n ops (⟨some d, .assign x, type, pos, after, none⟩ :: rest) KF ρ h = (d < n ∧ vok G x ∧ vops P G A n ops rest KF (updV ρ d (evv G ρ x)) h) := propext Iff.rfl
theorem vops_s {dst : Option Tmp} {op : Op} {type : TypeId} {pos : String} {after : Array Edge} {j : Nat} {w : Bool} : vops P G A n ops (⟨dst, op, type, pos, after, some (j, w)⟩ :: rest) KF ρ h = (dstOk n dst ∧
    gsN ops j n < n ∧ isGdV (ρ (gsN ops j n)) = true ∧ if isBV w (ρ (gsN ops j n)) = true then vop P G A ⟨dst, op, type, pos, after, some (j, w)⟩ ρ h fun v h' => lwV P G A n ops rest KF (putV ρ dst v) h' else lwV P G A n ops rest KF (putV ρ dst (.tup [])) h) := by
  show vops P G A n ops _ KF ρ h = (dstOk n dst ∧ gsN ops j n < n ∧ isGdV (ρ (gsN ops j n)) = true ∧ if isBV w (ρ (gsN ops j n)) = true then vop P G A ⟨dst, op, type, pos, after, some (j, w)⟩ ρ h fun v h' => vops P G A n ops rest KF (putV ρ dst v) h' else vops P G A n ops rest KF (putV ρ dst (.tup [])) h)
  rw [vops]
  apply propext
  refine and_congr_right fun _ => ?_
  simp only
  unfold gsN
  cases hd : (ops[j]?).bind (·.dst) with
  | none => simp
  | some d =>
    simp only [Option.some.injEq]
    constructor
    · rintro ⟨d', t, rfl, h2, h3, k1, k2⟩
      rcases h3 with h3 | ⟨h3, h4⟩
      · refine ⟨h2, by rw [h3]; rfl, ?_⟩
        by_cases ht : t = w
        · rw [if_pos (isBV_iff.2 (by rw [h3, ht]))]; exact k1 ht
        · rw [if_neg (by rw [isBV_iff, h3]; intro hh; injection hh with hh; injection hh with hh; exact ht hh)]; exact k2 ht
      · refine ⟨h2, by rw [h3]; rfl, ?_⟩
        rw [if_neg (by rw [isBV_iff, h3]; intro hh; cases hh)]; exact k2 h4
    · rintro ⟨h2, hb, hh⟩
      rcases isGdV_iff.1 hb with ⟨t, ht⟩ | ht
      · refine ⟨d, t, rfl, h2, .inl ht, fun e => ?_, fun e => ?_⟩
        · rw [if_pos (isBV_iff.2 (by rw [ht, e]))] at hh; exact hh
        · rw [if_neg (by rw [isBV_iff, ht]; intro hh; injection hh with hh; injection hh with hh; exact e hh)] at hh; exact hh
      · refine ⟨d, !w, rfl, h2, .inr ⟨ht, by cases w <;> decide⟩, fun e => absurd e (by cases w <;> decide), fun e => ?_⟩
        rw [if_neg (by rw [isBV_iff, ht]; intro hh; cases hh)] at hh; exact hh
theorem vops_smv {d : Nat} {x : Operand} {type : TypeId} {pos : String} {after : Array Edge} {j : Nat} {w : Bool} : vops P G A n ops (⟨some d, .move x, type, pos, after, some (j, w)⟩ :: rest) KF ρ h = (d < n ∧ gsN ops j n < n ∧ isGdV (ρ (gsN ops j n)) = true ∧ if isBV w (ρ (gsN ops j n)) = true then vok G x ∧ vops P G A n ops rest KF (updV ρ d (evv G ρ x)) h else vops P G A n ops rest KF (updV ρ d (.tup [])) h) := by
  rw [vops_s]; rfl
def pkV (c x y : AV) : AV := if isBV true c = true then x else y
theorem pkV_b (t : Bool) (x y : AV) : pkV (.sc (.bool t)) x y = if t = true then x else y := rfl
theorem vops_pk {d : Nat} {c x y : Operand} {type : TypeId} {pos : String} {after : Array Edge} : vops P G A n ops (⟨some d, .pick c x y, type, pos, after, none⟩ :: rest) KF ρ h = (d < n ∧ vok G c ∧ vok G x ∧ vok G y ∧ isBlV (evv G ρ c) = true ∧ lwV P G A n ops rest KF (putV ρ (some d) (pkV (evv G ρ c) (evv G ρ x) (evv G ρ y))) h) := by
  rw [vops_n]
  apply propext
  refine and_congr_right fun _ => ?_
  show (vok G c ∧ vok G x ∧ vok G y ∧ ∃ t, _) ↔ _
  refine and_congr_right fun _ => and_congr_right fun _ => and_congr_right fun _ => ?_
  constructor
  · rintro ⟨t, ht, k1, k2⟩
    refine ⟨isBlV_iff.2 ⟨t, ht⟩, ?_⟩
    rw [ht]
    cases t with
    | true => exact k1 rfl
    | false => exact k2 rfl
  · rintro ⟨hb, hh⟩
    obtain ⟨t, ht⟩ := isBlV_iff.1 hb
    rw [ht] at hh
    refine ⟨t, ht, fun e => ?_, fun e => ?_⟩
    · subst e; exact hh
    · subst e; exact hh
/-! ### Memory -/
theorem blkV_set {j : Nat} {e : TypeId} {cs : List AV} : blkV (hset h j (.cells e false cs)) j = some (e, cs) := by simp [blkV, hset]
theorem blkV_nset {j i : Nat} {b : VB} (hn : j ≠ i) : blkV (hset h i b) j = blkV h j := by unfold blkV; rw [hset_ne _ _ hn]
theorem blkV_ndel {j i : Nat} (hn : j ≠ i) : blkV (hdel h i) j = blkV h j := by unfold blkV; rw [hdel_ne _ hn]
theorem blkV_iff {j : Nat} {e : TypeId} {cs : List AV} : blkV h j = some (e, cs) ↔ h j = some (.cells e false cs) := by
  unfold blkV
  split
  · rename_i e' cs' hh; simp [hh]
  · rename_i hh
    constructor
    · intro h; cases h
    · intro h; exact (hh e cs h).elim
theorem blkV_some {j : Nat} (hj : (blkV h j).isSome = true) : h j ≠ none := by
  unfold blkV at hj
  split at hj
  · rename_i hh; rw [hh]; simp
  · cases hj
theorem hset_none {j i : Nat} {b : VB} : (hset h j b i = none) = (i ≠ j ∧ h i = none) := by
  apply propext
  unfold hset
  by_cases hi : i = j <;> simp [hi]
theorem hdel_none {j i : Nat} : (hdel h j i = none) = (i = j ∨ h i = none) := by
  apply propext
  unfold hdel
  by_cases hi : i = j <;> simp [hi]
/-- A block that is new is none of those that are. -/
theorem new_ne {j i : Nat} {q : TypeId × List AV} (hj : blkV h j = some q) (hi : h i = none) : j ≠ i := by
  rintro rfl
  exact blkV_some (h := h) (j := j) (by rw [hj]; rfl) hi
def eRead (g : Option Bool) (sz : Option Nat) (cs : List AV) (off : Nat) (K : AV → Prop) : Prop :=
  match g with
  | some true => ∃ n, sz = some n ∧ off + n ≤ cs.length ∧ K (.agg ((cs.drop off).take n))
  | some false => ∃ v, cs[off]? = some v ∧ K v
  | none => False
theorem vRead_e {t : TypeId} {cs : List AV} {off : Nat} {K : AV → Prop} : vRead P t cs off K = eRead (isAggO P t) (szO P t) cs off K := by
  unfold vRead eRead
  apply propext
  constructor
  · rintro ⟨g, hg, k1, k2⟩
    rw [hg]
    cases g with
    | true => exact k1 rfl
    | false => exact k2 rfl
  · intro hh
    split at hh
    · rename_i hg; exact ⟨true, hg, fun _ => hh, fun e => by cases e⟩
    · rename_i hg; exact ⟨false, hg, fun e => (by cases e), fun _ => hh⟩
    · exact hh.elim
theorem eRead_f {sz : Option Nat} {cs : List AV} {off : Nat} {K : AV → Prop} : eRead (some false) sz cs off K = ∃ v, cs[off]? = some v ∧ K v := propext Iff.rfl
theorem eRead_t {n : Nat} {cs : List AV} {off : Nat} {K : AV → Prop} : eRead (some true) (some n) cs off K = (off + n ≤ cs.length ∧ K (.agg ((cs.drop off).take n))) := by
  simp [eRead]
theorem vLoad_op {t : TypeId} {j off : Nat} : vLoad P t (.op j off) h K = ∃ q, blkV h j = some q ∧ eRead (isAggO P t) (szO P t) q.2 off fun v => K v h := by
  apply propext
  constructor
  · rintro ⟨e, cs, hj, hw⟩
    rw [vRead_e] at hw
    exact ⟨(e, cs), blkV_iff.2 hj, hw⟩
  · rintro ⟨⟨e, cs⟩, hj, hw⟩
    refine ⟨e, cs, blkV_iff.1 hj, ?_⟩
    rw [vRead_e]; exact hw
theorem vLoad_ip {t : TypeId} {cs : List AV} {off : Nat} : vLoad P t (.ip cs off) h K = eRead (isAggO P t) (szO P t) cs off fun v => K v h := vRead_e (K := fun v => K v h)
theorem vStore_op {t : TypeId} {j o : Nat} {v : AV} : vStore P t (.op j o) v h K = ∃ q, blkV h j = some q ∧ v.parts = true ∧ szO P t = some v.cells.length ∧ o + v.cells.length ≤ q.2.length ∧ v.cells.all AV.one = true ∧ K .junk (hset h j (.cells q.1 false (setV q.2 o v.cells))) := by
  apply propext
  constructor
  · rintro ⟨e, cs, hj, hw⟩; exact ⟨(e, cs), blkV_iff.2 hj, hw⟩
  · rintro ⟨⟨e, cs⟩, hj, hw⟩; exact ⟨e, cs, blkV_iff.1 hj, hw⟩
theorem cells_sc (u : Value) : (AV.sc u).cells = [.sc u] := rfl
theorem cells_isl (nl : Bool) (l : Nat) (cs : List AV) : (AV.isl nl l cs).cells = [.isl nl l cs] := rfl
theorem cells_own (j o l : Nat) : (AV.own j o l).cells = [.own j o l] := rfl
theorem cells_op (j o : Nat) : (AV.op j o).cells = [.op j o] := rfl
theorem cells_ip (cs : List AV) (o : Nat) : (AV.ip cs o).cells = [.ip cs o] := rfl
theorem cells_fn (f : Fn) (xs ys : List AV) : (AV.fn f xs ys).cells = [.fn f xs ys] := rfl
theorem cells_agg (cs : List AV) : (AV.agg cs).cells = cs := rfl
theorem parts_sc (u : Value) : (AV.sc u).parts = true := rfl
theorem parts_isl (nl : Bool) (l : Nat) (cs : List AV) : (AV.isl nl l cs).parts = true := rfl
theorem parts_own (j o l : Nat) : (AV.own j o l).parts = true := rfl
theorem parts_op (j o : Nat) : (AV.op j o).parts = true := rfl
theorem parts_ip (cs : List AV) (o : Nat) : (AV.ip cs o).parts = true := rfl
theorem parts_fn (f : Fn) (xs ys : List AV) : (AV.fn f xs ys).parts = true := rfl
theorem parts_agg (cs : List AV) : (AV.agg cs).parts = true := rfl
theorem one_sc (u : Value) : (AV.sc u).one = true := rfl
theorem one_isl (nl : Bool) (l : Nat) (cs : List AV) : (AV.isl nl l cs).one = true := rfl
theorem one_own (j o l : Nat) : (AV.own j o l).one = true := rfl
theorem one_op (j o : Nat) : (AV.op j o).one = true := rfl
theorem one_ip (cs : List AV) (o : Nat) : (AV.ip cs o).one = true := rfl
theorem one_fn (f : Fn) (xs ys : List AV) : (AV.fn f xs ys).one = true := rfl
theorem all_map_sc {α : Type} (f : α → Value) (xs : List α) : (xs.map fun x => AV.sc (f x)).all AV.one = true := by simp [AV.one]
theorem vField_op {s : TypeId} {j o f : Nat} : vField P s (.op j o) f h K = ∃ k, offO P s f = some k ∧ (blkV h j).isSome = true ∧ K (.op j (o + k)) h := by
  apply propext
  unfold vField offO
  constructor
  · rintro ⟨fs, fd, n, h1, h2, h3, h4, ⟨e, cs, hj⟩, h5⟩
    obtain ⟨n, rfl⟩ := Nat.exists_eq_succ_of_ne_zero h4
    refine ⟨fd.offset, ?_, ?_, h5⟩
    · simp only [h1, h2, h3]
    · rw [blkV_iff.2 hj]; rfl
  · rintro ⟨k, h1, h2, h3⟩
    obtain ⟨⟨e, cs⟩, hj⟩ := Option.isSome_iff_exists.1 h2
    split at h1
    · rename_i fs hu
      split at h1
      · rename_i fd hf
        split at h1
        · rename_i n hs
          cases h1
          exact ⟨fs, fd, n + 1, hu, hf, hs, by omega, ⟨e, cs, blkV_iff.1 hj⟩, h3⟩
        · cases h1
      · cases h1
    · cases h1
theorem vField_ip {s : TypeId} {cs : List AV} {o f : Nat} : vField P s (.ip cs o) f h K = ∃ k, offO P s f = some k ∧ K (.ip cs (o + k)) h := by
  apply propext
  unfold vField offO
  constructor
  · rintro ⟨fs, fd, n, h1, h2, h3, h4, h5⟩
    obtain ⟨n, rfl⟩ := Nat.exists_eq_succ_of_ne_zero h4
    exact ⟨fd.offset, by simp only [h1, h2, h3], h5⟩
  · rintro ⟨k, h1, h3⟩
    split at h1
    · rename_i fs hu
      split at h1
      · rename_i fd hf
        split at h1
        · rename_i n hs
          cases h1
          exact ⟨fs, fd, n + 1, hu, hf, hs, by omega, h3⟩
        · cases h1
      · cases h1
    · cases h1
/-- A field's place, kind, size. -/
def fldO (P : Program) (s : TypeId) (f : Nat) : Option (Nat × Option Bool × Option Nat) :=
  match P.underlying s with
  | some (.struct fs) => match fs[f]? with
    | some fd => some (fd.offset, isAggO P fd.type, szO P fd.type)
    | none => none
  | _ => none
def ePart (g : Option Bool) (sz : Option Nat) (cs : List AV) (off : Nat) : Option AV :=
  match g with
  | some true => sz.map fun n => .agg ((cs.drop off).take n)
  | some false => cs[off]?
  | none => none
theorem ePart_f {sz : Option Nat} {cs : List AV} {off : Nat} : ePart (some false) sz cs off = cs[off]? := Eq.trans rfl rfl
theorem ePart_t {n : Nat} {cs : List AV} {off : Nat} : ePart (some true) (some n) cs off = some (.agg ((cs.drop off).take n)) := Eq.trans rfl rfl
theorem vFieldV_agg {s : TypeId} {cs : List AV} {f : Nat} : vFieldV P s (.agg cs) f h K = ∃ q, fldO P s f = some q ∧ ∃ u, ePart q.2.1 q.2.2 cs q.1 = some u ∧ K u h := by
  apply propext
  unfold vFieldV fldO
  constructor
  · rintro ⟨fs, fd, cs', u, h1, h2, h3, h4, h5⟩
    cases h3
    exact ⟨(fd.offset, isAggO P fd.type, szO P fd.type), by simp only [h1, h2], u, h4, h5⟩
  · rintro ⟨q, h1, u, h2, h3⟩
    split at h1
    · rename_i fs hu
      split at h1
      · rename_i fd hf
        cases h1
        exact ⟨fs, fd, cs, u, hu, hf, rfl, h2, h3⟩
      · cases h1
    · cases h1
/-- The cells of a slice's element; of an array's, with how many. -/
def elS (P : Program) (t : TypeId) : Option Nat := match P.underlying t with | some (.slice e) => szO P e | _ => none
def elA (P : Program) (t : TypeId) : Option (Nat × Nat × Option Bool) := match P.underlying t with | some (.array n e) => (szO P e).map fun sz => (n, sz, isAggO P e) | _ => none
theorem elS_iff {t : TypeId} {sz : Nat} : elS P t = some sz ↔ ∃ e, P.underlying t = some (.slice e) ∧ szO P e = some sz := by
  unfold elS
  split
  · rename_i e he; simp [he]
  · rename_i hn
    constructor
    · intro h; cases h
    · rintro ⟨e, h1, _⟩; exact (hn e h1).elim
theorem vIx_isl {t : TypeId} {nl : Bool} {l : Nat} {cs : List AV} {k : IntKind} {i : Int} : vIxAddr P t (.isl nl l cs) (.sc (.int k i)) h K = ∃ sz, elS P t = some sz ∧ 0 ≤ i ∧ i < l ∧ K (.ip cs (i.toNat * sz)) h := by
  apply propext
  constructor
  · rintro ⟨k', i', he, h0, e, sz, hs, hu, hl, hK⟩
    cases he
    exact ⟨sz, elS_iff.2 ⟨e, hu, hs⟩, h0, hl, hK⟩
  · rintro ⟨sz, hs, h0, hl, hK⟩
    obtain ⟨e, hu, hs⟩ := elS_iff.1 hs
    exact ⟨k, i, rfl, h0, e, sz, hs, hu, hl, hK⟩
def isC : Option VB → Bool
  | some (.cells _ _ _) => true
  | _ => false
theorem isC_some (e : TypeId) (nl : Bool) (cs : List AV) : isC (some (.cells e nl cs)) = true := rfl
theorem isC_iff {o : Option VB} : isC o = true ↔ ∃ e nl cs, o = some (.cells e nl cs) := by
  constructor
  · intro h
    unfold isC at h
    split at h
    · exact ⟨_, _, _, rfl⟩
    · cases h
  · rintro ⟨e, nl, cs, rfl⟩; rfl
theorem vIx_own {t : TypeId} {j o l : Nat} {k : IntKind} {i : Int} : vIxAddr P t (.own j o l) (.sc (.int k i)) h K = ∃ sz, elS P t = some sz ∧ 0 ≤ i ∧ i < l ∧ isC (h j) = true ∧ K (.op j (o + i.toNat * sz)) h := by
  apply propext
  simp only [isC_iff]
  constructor
  · rintro ⟨k', i', he, h0, e, sz, hs, hu, hl, hj, hK⟩
    cases he
    exact ⟨sz, elS_iff.2 ⟨e, hu, hs⟩, h0, hl, hj, hK⟩
  · rintro ⟨sz, hs, h0, hl, hj, hK⟩
    obtain ⟨e, hu, hs⟩ := elS_iff.1 hs
    exact ⟨k, i, rfl, h0, e, sz, hs, hu, hl, hj, hK⟩
theorem elA_iff {t : TypeId} {n sz : Nat} {g : Option Bool} : elA P t = some (n, sz, g) ↔ ∃ e, P.underlying t = some (.array n e) ∧ szO P e = some sz ∧ isAggO P e = g := by
  unfold elA
  split
  · rename_i m e he
    simp only [Option.map_eq_some_iff, he]
    constructor
    · rintro ⟨a, h1, h2⟩; cases h2; exact ⟨e, rfl, h1, rfl⟩
    · rintro ⟨e', h1, h2, h3⟩; cases h1; exact ⟨sz, h2, by rw [h3]⟩
  · rename_i hn
    constructor
    · intro h; cases h
    · rintro ⟨e, h1, _⟩; exact (hn n e h1).elim
theorem vIx_op {t : TypeId} {j o : Nat} {k : IntKind} {i : Int} : vIxAddr P t (.op j o) (.sc (.int k i)) h K = ∃ q, elA P t = some q ∧ 0 ≤ i ∧ i < q.1 ∧ (blkV h j).isSome = true ∧ K (.op j (o + i.toNat * q.2.1)) h := by
  apply propext
  constructor
  · rintro ⟨k', i', he, h0, e, sz, hs, n, hu, hl, ⟨e', cs, hj⟩, hK⟩
    cases he
    exact ⟨(n, sz, _), elA_iff.2 ⟨e, hu, hs, rfl⟩, h0, hl, by rw [blkV_iff.2 hj]; rfl, hK⟩
  · rintro ⟨⟨n, sz, g⟩, hs, h0, hl, hj, hK⟩
    obtain ⟨e, hu, hs, _⟩ := elA_iff.1 hs
    obtain ⟨⟨e', cs⟩, hj⟩ := Option.isSome_iff_exists.1 hj
    exact ⟨k, i, rfl, h0, e, sz, hs, n, hu, hl, ⟨e', cs, blkV_iff.1 hj⟩, hK⟩
theorem vIx_ip {t : TypeId} {cs : List AV} {o : Nat} {k : IntKind} {i : Int} : vIxAddr P t (.ip cs o) (.sc (.int k i)) h K = ∃ q, elA P t = some q ∧ 0 ≤ i ∧ i < q.1 ∧ K (.ip cs (o + i.toNat * q.2.1)) h := by
  apply propext
  constructor
  · rintro ⟨k', i', he, h0, e, sz, hs, n, hu, hl, hK⟩
    cases he
    exact ⟨(n, sz, _), elA_iff.2 ⟨e, hu, hs, rfl⟩, h0, hl, hK⟩
  · rintro ⟨⟨n, sz, g⟩, hs, h0, hl, hK⟩
    obtain ⟨e, hu, hs, _⟩ := elA_iff.1 hs
    exact ⟨k, i, rfl, h0, e, sz, hs, n, hu, hl, hK⟩
theorem vIxV_agg {t : TypeId} {cs : List AV} {k : IntKind} {i : Int} : vIx P t (.agg cs) (.sc (.int k i)) h K = ∃ q, elA P t = some q ∧ 0 ≤ i ∧ i < q.1 ∧ ∃ u, ePart q.2.2 (some q.2.1) cs (i.toNat * q.2.1) = some u ∧ K u h := by
  have key : ∀ {e : TypeId} {sz o : Nat}, szO P e = some sz → partV P e cs o = ePart (isAggO P e) (some sz) cs o := by
    intro e sz o hs; unfold partV ePart; rw [hs]; rfl
  apply propext
  constructor
  · rintro ⟨k', i', he, h0, e, n, sz, u, hu, hs, hl, hp, hK⟩
    cases he
    exact ⟨(n, sz, _), elA_iff.2 ⟨e, hu, hs, rfl⟩, h0, hl, u, (key hs).symm.trans hp, hK⟩
  · rintro ⟨⟨n, sz, g⟩, hs, h0, hl, u, hp, hK⟩
    obtain ⟨e, hu, hs, hg⟩ := elA_iff.1 hs
    exact ⟨k, i, rfl, h0, e, n, sz, u, hu, hs, hl, by rw [key hs, hg]; exact hp, hK⟩
theorem vIxV_str {t : TypeId} {s : ByteArray} {k : IntKind} {i : Int} : vIx P t (.sc (.string s)) (.sc (.int k i)) h K = (0 ≤ i ∧ isStr (P.underlying t) = true ∧ ∃ b, s[i.toNat]? = some b ∧ K (.sc (.int .u8 b.toNat)) h) := by
  apply propext
  constructor
  · rintro ⟨k', i', he, h0, b, hu, hb, hK⟩
    cases he
    exact ⟨h0, by rw [hu]; rfl, b, hb, hK⟩
  · rintro ⟨h0, hu, b, hb, hK⟩
    refine ⟨k, i, rfl, h0, b, ?_, hb, hK⟩
    cases hp : P.underlying t with
    | none => rw [hp] at hu; cases hu
    | some d => rw [hp] at hu; cases d <;> first | rfl | cases hu
theorem isSl_iff {o : Option TypeDesc} : isSl o = true ↔ ∃ e, o = some (.slice e) := by
  constructor
  · intro h
    unfold isSl at h
    split at h
    · exact ⟨_, rfl⟩
    · cases h
  · rintro ⟨e, rfl⟩; rfl
theorem isStr_iff {o : Option TypeDesc} : isStr o = true ↔ o = some .string := by
  constructor
  · intro h
    unfold isStr at h
    split at h
    · rfl
    · cases h
  · rintro rfl; rfl
theorem vLen_str {t : TypeId} {s : ByteArray} : vLen P t (.sc (.string s)) h K = (isStr (P.underlying t) = true ∧ K (.sc (.int .i64 s.size)) h) := by
  apply propext; rw [isStr_iff]; exact Iff.rfl
theorem vLen_isl {t : TypeId} {nl : Bool} {l : Nat} {cs : List AV} : vLen P t (.isl nl l cs) h K = (isSl (P.underlying t) = true ∧ K (.sc (.int .i64 l)) h) := by
  apply propext; rw [isSl_iff]; exact Iff.rfl
theorem vLen_own {t : TypeId} {j o l : Nat} : vLen P t (.own j o l) h K = (isSl (P.underlying t) = true ∧ isC (h j) = true ∧ K (.sc (.int .i64 l)) h) := by
  apply propext; rw [isSl_iff, isC_iff]; exact Iff.rfl
def arrN (P : Program) (t : TypeId) : Option Nat := match P.underlying t with | some (.array n _) => some n | _ => none
theorem vLen_agg {t : TypeId} {cs : List AV} : vLen P t (.agg cs) h K = ∃ n, arrN P t = some n ∧ K (.sc (.int .i64 n)) h := by
  apply propext
  unfold arrN
  constructor
  · rintro ⟨n, e, hu, hK⟩
    exact ⟨n, by rw [hu], hK⟩
  · rintro ⟨n, hn, hK⟩
    split at hn
    · rename_i m e hu; cases hn; exact ⟨n, e, hu, hK⟩
    · cases hn
/-- A bound's number. -/
def bndE (d : Int) : Option AV → Option Int
  | none => some d
  | some (.sc (.int _ n)) => some n
  | _ => none
theorem bndE_none (d : Int) : bndE d none = some d := rfl
theorem bndE_int (d n : Int) (k : IntKind) : bndE d (some (.sc (.int k n))) = some n := rfl
theorem bndE_iff {d l : Int} {o : Option AV} : bndV d o l ↔ bndE d o = some l := by
  cases o with
  | none => simp [bndV, bndE]; exact eq_comm
  | some v => cases v with
    | sc u => cases u <;> simp [bndV, bndE]; exact eq_comm
    | _ => simp [bndV, bndE]
theorem vSlice_isl {t : TypeId} {nl : Bool} {l : Nat} {cs : List AV} {lo hi : Option AV} : vSlice P t (.isl nl l cs) lo hi h K = ∃ sz, elS P t = some sz ∧ 0 < sz ∧ ∃ a, bndE 0 lo = some a ∧ ∃ b, bndE l hi = some b ∧ 0 ≤ a ∧ a ≤ b ∧ b ≤ l ∧ K (.isl nl (b - a).toNat ((cs.drop (a.toNat * sz)).take ((b - a).toNat * sz))) h := by
  apply propext
  constructor
  · rintro ⟨e, sz, hu, hs, hz, a, b, h1, h2, h3⟩
    exact ⟨sz, elS_iff.2 ⟨e, hu, hs⟩, hz, a, bndE_iff.1 h1, b, bndE_iff.1 h2, h3⟩
  · rintro ⟨sz, hs, hz, a, h1, b, h2, h3⟩
    obtain ⟨e, hu, hs⟩ := elS_iff.1 hs
    exact ⟨e, sz, hu, hs, hz, a, b, bndE_iff.2 h1, bndE_iff.2 h2, h3⟩
theorem vSlice_str {t : TypeId} {s : ByteArray} {lo hi : Option AV} : vSlice P t (.sc (.string s)) lo hi h K = (isStr (P.underlying t) = true ∧ ∃ a, bndE 0 lo = some a ∧ ∃ b, bndE s.size hi = some b ∧ 0 ≤ a ∧ a ≤ b ∧ b ≤ s.size ∧ K (.sc (.string (s.extract a.toNat b.toNat))) h) := by
  apply propext
  rw [isStr_iff]
  constructor
  · rintro ⟨hu, a, b, h1, h2, h3⟩
    exact ⟨hu, a, bndE_iff.1 h1, b, bndE_iff.1 h2, h3⟩
  · rintro ⟨hu, a, h1, b, h2, h3⟩
    exact ⟨hu, a, b, bndE_iff.2 h1, bndE_iff.2 h2, h3⟩
/-! ### Closed values -/
theorem vConv_num {src dst : TypeId} {k : IntKind} {a : Int} (hs : (intK (P.underlying src)).isSome = true) (hd : (intK (P.underlying dst)).isSome = true) : vConv P src dst (.sc (.int k a)) h K = (∃ kd, intK (P.underlying dst) = some kd ∧ K (.sc (.int kd (kd.wrap a))) h) := by
  have hi : ∀ {o : Option TypeDesc} {k : IntKind}, intK o = some k → o = some (.int k) := by
    intro o k hk
    cases o with
    | none => cases hk
    | some d => cases d <;> first | (cases hk; rfl) | cases hk
  obtain ⟨ks, hs⟩ := Option.isSome_iff_exists.1 hs
  obtain ⟨kd, hd⟩ := Option.isSome_iff_exists.1 hd
  have h1 : wSc P (convert src dst (.int k a)) (fun u => scV u = true ∧ K (.sc u) h) ↔ (scV (.int kd (kd.wrap a)) = true ∧ K (.sc (.int kd (kd.wrap a))) h) := by
    refine wSc_pure (fun W => ?_) rfl
    simp [convert, run_under (hi hs), run_under (hi hd), Conv.intToInt]
  apply propext
  rw [hd]
  constructor
  · intro hw
    rcases hw with hw | ⟨e, s, _, _, _, _, he, _⟩
    · exact ⟨kd, rfl, (h1.1 hw).2⟩
    · cases he
  · rintro ⟨kd', he, hK⟩
    cases he
    exact .inl (h1.2 ⟨rfl, hK⟩)
section
variable {K : AV → Prop} {t : TypeId} {x y : Operand} {k k' : IntKind} {a b : Int}
theorem vBin_sc {op : BinOp} {u w v : Value} (hs : ∀ W : World, (do eqGuard op t x y u w; binOp op t u w : Sem Value).run P W = .ok v W) (hc : clo 3 v = true) (hv : scV v = true) (hn : isNilV h (.sc u) = none) : vBin P op t x y (.sc u) (.sc w) h K ↔ K (.sc v) := by
  constructor
  · rintro (⟨u', w', h1, h2, hw⟩ | ⟨us, ws, h1, _⟩ | ⟨q, e, hq, _⟩)
    · cases h1; cases h2
      exact ((wSc_pure hs hc).1 hw).2
    · cases h1
    · rw [hn] at hq; cases hq
  · exact fun hK => .inl ⟨u, w, rfl, rfl, (wSc_pure hs hc).2 ⟨hv, hK⟩⟩
theorem vBin_int {op : BinOp} {v : Value} (hv : binOp op t (.int k a) (.int k' b) = pure v) (hc : clo 3 v = true) (hs : scV v = true) : vBin P op t x y (.sc (.int k a)) (.sc (.int k' b)) h K ↔ K (.sc v) := vBin_sc (fun W => by rw [eqGuard_int, hv]; rfl) hc hs rfl
theorem vBin_add : vBin P .add t x y (.sc (.int k a)) (.sc (.int k b)) h K ↔ K (.sc (.int k (k.wrap (a + b)))) := vBin_int (binOp_add t k a b) rfl rfl
theorem vBin_sub : vBin P .sub t x y (.sc (.int k a)) (.sc (.int k b)) h K ↔ K (.sc (.int k (k.wrap (a - b)))) := vBin_int (binOp_sub t k a b) rfl rfl
theorem vBin_mul : vBin P .mul t x y (.sc (.int k a)) (.sc (.int k b)) h K ↔ K (.sc (.int k (k.wrap (a * b)))) := vBin_int (binOp_mul t k a b) rfl rfl
theorem vBin_quo (hb : b ≠ 0) : vBin P .quo t x y (.sc (.int k a)) (.sc (.int k b)) h K ↔ K (.sc (.int k (k.wrap (a.tdiv b)))) := vBin_int (by rw [binOp_quo]; simp [Op.intDiv, hb]) rfl rfl
theorem vBin_rem (hb : b ≠ 0) : vBin P .rem t x y (.sc (.int k a)) (.sc (.int k b)) h K ↔ K (.sc (.int k (a.tmod b))) := vBin_int (by rw [binOp_rem]; simp [Op.intDiv, hb]) rfl rfl
theorem vBin_and : vBin P .and t x y (.sc (.int k a)) (.sc (.int k b)) h K ↔ K (.sc (.int k (bits .and k a b))) := vBin_int (binOp_and t k a b) rfl rfl
theorem vBin_or : vBin P .or t x y (.sc (.int k a)) (.sc (.int k b)) h K ↔ K (.sc (.int k (bits .or k a b))) := vBin_int (binOp_or t k a b) rfl rfl
theorem vBin_xor : vBin P .xor t x y (.sc (.int k a)) (.sc (.int k b)) h K ↔ K (.sc (.int k (bits .xor k a b))) := vBin_int (binOp_xor t k a b) rfl rfl
theorem vBin_andNot : vBin P .andNot t x y (.sc (.int k a)) (.sc (.int k b)) h K ↔ K (.sc (.int k (bits .andNot k a b))) := vBin_int (binOp_andNot t k a b) rfl rfl
theorem vBin_eql : vBin P .eql t x y (.sc (.int k a)) (.sc (.int k b)) h K ↔ K (.sc (.bool (a == b))) := vBin_int (binOp_eql t k a b) rfl rfl
theorem vBin_neq : vBin P .neq t x y (.sc (.int k a)) (.sc (.int k b)) h K ↔ K (.sc (.bool (a != b))) := vBin_int (binOp_neq t k a b) rfl rfl
theorem vBin_lss : vBin P .lss t x y (.sc (.int k a)) (.sc (.int k b)) h K ↔ K (.sc (.bool (decide (a < b)))) := vBin_int (binOp_lss t k a b) rfl rfl
theorem vBin_leq : vBin P .leq t x y (.sc (.int k a)) (.sc (.int k b)) h K ↔ K (.sc (.bool (decide (a ≤ b)))) := vBin_int (binOp_leq t k a b) rfl rfl
theorem vBin_gtr : vBin P .gtr t x y (.sc (.int k a)) (.sc (.int k b)) h K ↔ K (.sc (.bool (decide (a > b)))) := vBin_int (binOp_gtr t k a b) rfl rfl
theorem vBin_geq : vBin P .geq t x y (.sc (.int k a)) (.sc (.int k b)) h K ↔ K (.sc (.bool (decide (a ≥ b)))) := vBin_int (binOp_geq t k a b) rfl rfl
theorem vBin_shr (h0 : 0 ≤ b) (h1 : b ≤ k.bits) : vBin P .shr t x y (.sc (.int k a)) (.sc (.int k' b)) h K ↔ K (.sc (.int k (a / 2 ^ b.toNat))) := vBin_int (by rw [binOp_shr]; exact shift_shr k k' a b h0 h1) rfl rfl
theorem vBin_shl (h0 : 0 ≤ b) (h1 : b ≤ k.bits) : vBin P .shl t x y (.sc (.int k a)) (.sc (.int k' b)) h K ↔ K (.sc (.int k (k.wrap (a * 2 ^ b.toNat)))) := vBin_int (by rw [binOp_shl]; exact shift_shl k k' a b h0 h1) rfl rfl
theorem vBin_shr_i8 (h0 : 0 ≤ b) (h1 : b ≤ 8) : vBin P .shr t x y (.sc (.int .i8 a)) (.sc (.int k' b)) h K ↔ K (.sc (.int .i8 (a / 2 ^ b.toNat))) := vBin_shr h0 h1
theorem vBin_shl_i8 (h0 : 0 ≤ b) (h1 : b ≤ 8) : vBin P .shl t x y (.sc (.int .i8 a)) (.sc (.int k' b)) h K ↔ K (.sc (.int .i8 (IntKind.i8.wrap (a * 2 ^ b.toNat)))) := vBin_shl h0 h1
theorem vBin_shr_i16 (h0 : 0 ≤ b) (h1 : b ≤ 16) : vBin P .shr t x y (.sc (.int .i16 a)) (.sc (.int k' b)) h K ↔ K (.sc (.int .i16 (a / 2 ^ b.toNat))) := vBin_shr h0 h1
theorem vBin_shl_i16 (h0 : 0 ≤ b) (h1 : b ≤ 16) : vBin P .shl t x y (.sc (.int .i16 a)) (.sc (.int k' b)) h K ↔ K (.sc (.int .i16 (IntKind.i16.wrap (a * 2 ^ b.toNat)))) := vBin_shl h0 h1
theorem vBin_shr_i32 (h0 : 0 ≤ b) (h1 : b ≤ 32) : vBin P .shr t x y (.sc (.int .i32 a)) (.sc (.int k' b)) h K ↔ K (.sc (.int .i32 (a / 2 ^ b.toNat))) := vBin_shr h0 h1
theorem vBin_shl_i32 (h0 : 0 ≤ b) (h1 : b ≤ 32) : vBin P .shl t x y (.sc (.int .i32 a)) (.sc (.int k' b)) h K ↔ K (.sc (.int .i32 (IntKind.i32.wrap (a * 2 ^ b.toNat)))) := vBin_shl h0 h1
theorem vBin_shr_i64 (h0 : 0 ≤ b) (h1 : b ≤ 64) : vBin P .shr t x y (.sc (.int .i64 a)) (.sc (.int k' b)) h K ↔ K (.sc (.int .i64 (a / 2 ^ b.toNat))) := vBin_shr h0 h1
theorem vBin_shl_i64 (h0 : 0 ≤ b) (h1 : b ≤ 64) : vBin P .shl t x y (.sc (.int .i64 a)) (.sc (.int k' b)) h K ↔ K (.sc (.int .i64 (IntKind.i64.wrap (a * 2 ^ b.toNat)))) := vBin_shl h0 h1
theorem vBin_shr_u8 (h0 : 0 ≤ b) (h1 : b ≤ 8) : vBin P .shr t x y (.sc (.int .u8 a)) (.sc (.int k' b)) h K ↔ K (.sc (.int .u8 (a / 2 ^ b.toNat))) := vBin_shr h0 h1
theorem vBin_shl_u8 (h0 : 0 ≤ b) (h1 : b ≤ 8) : vBin P .shl t x y (.sc (.int .u8 a)) (.sc (.int k' b)) h K ↔ K (.sc (.int .u8 (IntKind.u8.wrap (a * 2 ^ b.toNat)))) := vBin_shl h0 h1
theorem vBin_shr_u16 (h0 : 0 ≤ b) (h1 : b ≤ 16) : vBin P .shr t x y (.sc (.int .u16 a)) (.sc (.int k' b)) h K ↔ K (.sc (.int .u16 (a / 2 ^ b.toNat))) := vBin_shr h0 h1
theorem vBin_shl_u16 (h0 : 0 ≤ b) (h1 : b ≤ 16) : vBin P .shl t x y (.sc (.int .u16 a)) (.sc (.int k' b)) h K ↔ K (.sc (.int .u16 (IntKind.u16.wrap (a * 2 ^ b.toNat)))) := vBin_shl h0 h1
theorem vBin_shr_u32 (h0 : 0 ≤ b) (h1 : b ≤ 32) : vBin P .shr t x y (.sc (.int .u32 a)) (.sc (.int k' b)) h K ↔ K (.sc (.int .u32 (a / 2 ^ b.toNat))) := vBin_shr h0 h1
theorem vBin_shl_u32 (h0 : 0 ≤ b) (h1 : b ≤ 32) : vBin P .shl t x y (.sc (.int .u32 a)) (.sc (.int k' b)) h K ↔ K (.sc (.int .u32 (IntKind.u32.wrap (a * 2 ^ b.toNat)))) := vBin_shl h0 h1
theorem vBin_shr_u64 (h0 : 0 ≤ b) (h1 : b ≤ 64) : vBin P .shr t x y (.sc (.int .u64 a)) (.sc (.int k' b)) h K ↔ K (.sc (.int .u64 (a / 2 ^ b.toNat))) := vBin_shr h0 h1
theorem vBin_shl_u64 (h0 : 0 ≤ b) (h1 : b ≤ 64) : vBin P .shl t x y (.sc (.int .u64 a)) (.sc (.int k' b)) h K ↔ K (.sc (.int .u64 (IntKind.u64.wrap (a * 2 ^ b.toNat)))) := vBin_shl h0 h1
theorem vBin_eqb {p q : Bool} (hu : P.underlying t = some .bool) : vBin P .eql t x y (.sc (.bool p)) (.sc (.bool q)) h K ↔ K (.sc (.bool (p == q))) := vBin_sc (fun W => by simp [eqGuard, binOp, run_equal_bool W t p q hu]) rfl rfl rfl
theorem vBin_neb {p q : Bool} (hu : P.underlying t = some .bool) : vBin P .neq t x y (.sc (.bool p)) (.sc (.bool q)) h K ↔ K (.sc (.bool (!(p == q)))) := vBin_sc (fun W => by simp [eqGuard, binOp, run_equal_bool W t p q hu]) rfl rfl rfl
theorem vBin_seq {p q : ByteArray} : vBin P .eql t x y (.sc (.string p)) (.sc (.string q)) h K ↔ K (.sc (.bool (p.toList == q.toList))) := vBin_sc (fun W => rfl) rfl rfl rfl
theorem vBin_sne {p q : ByteArray} : vBin P .neq t x y (.sc (.string p)) (.sc (.string q)) h K ↔ K (.sc (.bool (!(p.toList == q.toList)))) := vBin_sc (fun W => rfl) rfl rfl rfl
/-- Against nil. -/
theorem vBin_snil {e : TypeId} {nl : Bool} {l : Nat} {cs : List AV} (hu : P.underlying t = some (.slice e)) (hK : K (.sc (.bool nl))) : vBin P .eql t x y (.isl nl l cs) (.isl true 0 []) h K := .inr (.inr ⟨nl, e, rfl, .inl ⟨rfl, rfl, hu⟩, .inl ⟨rfl, hK⟩⟩)
theorem vBin_snot {e : TypeId} {nl : Bool} {l : Nat} {cs : List AV} (hu : P.underlying t = some (.slice e)) (hK : K (.sc (.bool (!nl)))) : vBin P .neq t x y (.isl nl l cs) (.isl true 0 []) h K := .inr (.inr ⟨nl, e, rfl, .inl ⟨rfl, rfl, hu⟩, .inr ⟨rfl, hK⟩⟩)
def isPt : Option TypeDesc → Bool
  | some (.pointer _) => true
  | _ => false
theorem isPt_iff {o : Option TypeDesc} : isPt o = true ↔ ∃ e, o = some (.pointer e) := by
  constructor
  · intro h
    unfold isPt at h
    split at h
    · exact ⟨_, rfl⟩
    · cases h
  · rintro ⟨e, rfl⟩; rfl
theorem vBin_isln {nl : Bool} {l : Nat} {cs : List AV} : vBin P .eql t x y (.isl nl l cs) (.isl true 0 []) h K ↔ (isSl (P.underlying t) = true ∧ K (.sc (.bool nl))) := by
  constructor
  · rintro (⟨u', w', h1, _⟩ | ⟨us, ws, h1, _⟩ | ⟨q, e, hq, ⟨_, _, hu⟩ | ⟨hs, _⟩, hK⟩)
    · cases h1
    · cases h1
    · cases hq
      refine ⟨isSl_iff.2 ⟨e, hu⟩, ?_⟩
      rcases hK with ⟨_, hK⟩ | ⟨h2, _⟩
      · exact hK
      · cases h2
    · cases hs
  · rintro ⟨hs, hK⟩
    obtain ⟨e, hu⟩ := isSl_iff.1 hs
    exact .inr (.inr ⟨nl, e, rfl, .inl ⟨rfl, rfl, hu⟩, .inl ⟨rfl, hK⟩⟩)
theorem vBin_opn {j o : Nat} : vBin P .eql t x y (.op j o) (.sc (.pointer none)) h K ↔ (isPt (P.underlying t) = true ∧ (blkV h j).isSome = true ∧ K (.sc (.bool false))) := by
  have hb : isNilV h (.op j o) = (blkV h j).map fun _ => false := by
    simp only [isNilV, blkV]
    cases hj : h j with
    | none => rfl
    | some b =>
      cases b with
      | iter s p => rfl
      | cells e nl cs => cases nl <;> rfl
  constructor
  · rintro (⟨u', w', h1, _⟩ | ⟨us, ws, h1, _⟩ | ⟨q, e, hq, ⟨hs, _⟩ | ⟨_, _, hu⟩, hK⟩)
    · cases h1
    · cases h1
    · cases hs
    · rw [hb] at hq
      obtain ⟨p, hp, rfl⟩ := Option.map_eq_some_iff.1 hq
      refine ⟨isPt_iff.2 ⟨e, hu⟩, by rw [hp]; rfl, ?_⟩
      rcases hK with ⟨_, hK⟩ | ⟨h2, _⟩
      · exact hK
      · cases h2
  · rintro ⟨hs, hj, hK⟩
    obtain ⟨e, hu⟩ := isPt_iff.1 hs
    obtain ⟨p, hp⟩ := Option.isSome_iff_exists.1 hj
    exact .inr (.inr ⟨false, e, by rw [hb, hp]; rfl, .inr ⟨rfl, rfl, hu⟩, .inl ⟨rfl, hK⟩⟩)
theorem vBin_ipn {cs : List AV} {o : Nat} : vBin P .eql t x y (.ip cs o) (.sc (.pointer none)) h K ↔ (isPt (P.underlying t) = true ∧ K (.sc (.bool false))) := by
  constructor
  · rintro (⟨u', w', h1, _⟩ | ⟨us, ws, h1, _⟩ | ⟨q, e, hq, ⟨hs, _⟩ | ⟨_, _, hu⟩, hK⟩)
    · cases h1
    · cases h1
    · cases hs
    · cases hq
      refine ⟨isPt_iff.2 ⟨e, hu⟩, ?_⟩
      rcases hK with ⟨_, hK⟩ | ⟨h2, _⟩
      · exact hK
      · cases h2
  · rintro ⟨hs, hK⟩
    obtain ⟨e, hu⟩ := isPt_iff.1 hs
    exact .inr (.inr ⟨false, e, rfl, .inr ⟨rfl, rfl, hu⟩, .inl ⟨rfl, hK⟩⟩)
theorem vBin_pnil {e : TypeId} {a : AV} {q : Bool} (ha : isNilV h a = some q) (hs : isSlV a = false) (hu : P.underlying t = some (.pointer e)) (hK : K (.sc (.bool q))) : vBin P .eql t x y a (.sc (.pointer none)) h K := .inr (.inr ⟨q, e, ha, .inr ⟨hs, rfl, hu⟩, .inl ⟨rfl, hK⟩⟩)
theorem vBin_pnot {e : TypeId} {a : AV} {q : Bool} (ha : isNilV h a = some q) (hs : isSlV a = false) (hu : P.underlying t = some (.pointer e)) (hK : K (.sc (.bool (!q)))) : vBin P .neq t x y a (.sc (.pointer none)) h K := .inr (.inr ⟨q, e, ha, .inr ⟨hs, rfl, hu⟩, .inr ⟨rfl, hK⟩⟩)
end
theorem ex_sc {u : Value} {p : Value → Prop} : (∃ v, AV.sc u = .sc v ∧ p v) = p u := by
  apply propext
  constructor
  · rintro ⟨v, h, hp⟩; cases h; exact hp
  · exact fun hp => ⟨u, rfl, hp⟩
theorem ex_sc2 {u w : Value} {p : List Value → Prop} : (∃ vs : List Value, [AV.sc u, AV.sc w] = vs.map .sc ∧ p vs) = p [u, w] := by
  apply propext
  constructor
  · rintro ⟨vs, h, hp⟩
    match vs, h with
    | [a, b], h =>
      simp only [List.map_cons, List.map_nil, List.cons.injEq, AV.sc.injEq, and_true] at h
      obtain ⟨rfl, rfl⟩ := h
      exact hp
    | [], h => cases h
    | [_], h => simp at h
    | _ :: _ :: _ :: _, h => simp at h
  · exact fun hp => ⟨[u, w], rfl, hp⟩
theorem ex_sc3 {u w z : Value} {p : List Value → Prop} : (∃ vs : List Value, [AV.sc u, AV.sc w, AV.sc z] = vs.map .sc ∧ p vs) = p [u, w, z] := by
  apply propext
  constructor
  · rintro ⟨vs, h, hp⟩
    match vs, h with
    | [a, b, c], h =>
      simp only [List.map_cons, List.map_nil, List.cons.injEq, AV.sc.injEq, and_true] at h
      obtain ⟨rfl, rfl, rfl⟩ := h
      exact hp
    | [], h => cases h
    | [_], h => simp at h
    | [_, _], h => simp at h
    | _ :: _ :: _ :: _ :: _, h => simp at h
  · exact fun hp => ⟨[u, w, z], rfl, hp⟩
theorem ex_tup {us : List AV} {r : List AV → AV → Prop} : (∃ vs v, AV.tup us = .tup vs ∧ r vs v) = ∃ v, r us v := by
  apply propext
  constructor
  · rintro ⟨vs, v, h, h1⟩; cases h; exact ⟨v, h1⟩
  · rintro ⟨v, h1⟩; exact ⟨us, v, rfl, h1⟩
theorem calleeV {f : FuncId} {as bs : List AV} {p : FuncId → List AV → List AV → Prop} : (∃ g xs ys, AV.fn (.func f) as bs = .fn (.func g) xs ys ∧ p g xs ys) = p f as bs := by
  apply propext
  constructor
  · rintro ⟨g, xs, ys, h, hp⟩; cases h; exact hp
  · exact fun hp => ⟨f, as, bs, rfl, hp⟩
theorem ex_next {us : VB} {p : Nat → ByteArray → Nat → Prop} {j : Nat} : (∃ j' s pos, AV.op j 0 = .op j' 0 ∧ p j' s pos) = ∃ s pos, p j s pos := by
  apply propext
  constructor
  · rintro ⟨j', s, pos, h, hp⟩; cases h; exact ⟨s, pos, hp⟩
  · rintro ⟨s, pos, hp⟩; exact ⟨j, s, pos, rfl, hp⟩
theorem call_now {g : FuncId} {as : List AV} (hw : A g as h K) : vCall A g as h K := .inl hw
/-! ### Parts of literals -/
theorem vfold_nil (off : Nat) (acc : List AV) : vfold off [] acc = acc := rfl
theorem vfold_one (off : Nat) (v : AV) (acc : List AV) : vfold off [v] acc = acc.set off v := rfl
theorem vfold_cons (off : Nat) (v : AV) (vs acc : List AV) : vfold off (v :: vs) acc = vfold (off + 1) vs (acc.set off v) := by
  unfold vfold
  have key : ∀ (vs : List AV) (k : Nat) (acc : List AV), (vs.zipIdx (k + 1)).foldl (fun a p => a.set (off + p.2) p.1) acc = (vs.zipIdx k).foldl (fun a p => a.set (off + 1 + p.2) p.1) acc := by
    intro vs
    induction vs with
    | nil => intro k acc; rfl
    | cons w vs ih =>
      intro k acc
      simp only [List.zipIdx_cons, List.foldl_cons]
      rw [ih, show off + (k + 1) = off + 1 + k by omega]
  simp only [List.zipIdx_cons, List.foldl_cons]
  rw [key vs 0]; rfl
theorem vfill_nil {place : Nat → Option (Nat × Nat)} {cs : List AV} : vfill place cs [] = some cs := rfl
theorem vfill_cons {place : Nat → Option (Nat × Nat)} {cs : List AV} {i : Nat} {v : AV} {rest : List (Nat × AV)} {o sz : Nat} (hp : place i = some (o, sz)) (h1 : v.parts = true) (h2 : v.cells.length = sz) (h3 : o + v.cells.length ≤ cs.length) : vfill place cs ((i, v) :: rest) = vfill place (vfold o v.cells cs) rest := by
  simp only [vfill, hp]
  rw [if_pos ⟨h1, h2, h3⟩]
def eFill (o : Option (Nat × Nat)) (v : AV) (cs : List AV) (p : List AV → Option (List AV)) : Option (List AV) :=
  match o with
  | none => none
  | some (off, sz) => if v.parts = true ∧ v.cells.length = sz ∧ off + v.cells.length ≤ cs.length then p (vfold off v.cells cs) else none
theorem vfill_e {place : Nat → Option (Nat × Nat)} {cs : List AV} {i : Nat} {v : AV} {rest : List (Nat × AV)} : vfill place cs ((i, v) :: rest) = eFill (place i) v cs fun cs => vfill place cs rest := by
  simp only [vfill, eFill]
  cases place i <;> rfl
theorem eFill_s {v : AV} {cs : List AV} {p : List AV → Option (List AV)} {off sz : Nat} : eFill (some (off, sz)) v cs p = if v.parts = true ∧ v.cells.length = sz ∧ off + v.cells.length ≤ cs.length then p (vfold off v.cells cs) else none := rfl
/-- What a literal of a slice is made of: the element's type, its cells, its zero. -/
def bldS (P : Program) (t : TypeId) : Option (TypeId × Nat × List AV) :=
  match P.underlying t with
  | some (.slice e) => match szO P e, zeroO P e with
    | some sz, some z => if cloV 4 z = true ∧ (ofV 4 z).cells.length = sz ∧ (ofV 4 z).cells.all AV.one = true ∧ 0 < sz then some (e, sz, (ofV 4 z).cells) else none
    | _, _ => none
  | _ => none
theorem bldS_inv {t : TypeId} {e : TypeId} {sz : Nat} {zs : List AV} (hb : bldS P t = some (e, sz, zs)) : ∃ z, P.underlying t = some (.slice e) ∧ szO P e = some sz ∧ zeroO P e = some z ∧ cloV 4 z = true ∧ zs = (ofV 4 z).cells ∧ zs.length = sz ∧ zs.all AV.one = true ∧ 0 < sz := by
  unfold bldS at hb
  split at hb
  · rename_i e' hu
    split at hb
    · rename_i sz' z hs hz
      split at hb
      · rename_i hc
        cases hb
        exact ⟨z, hu, hs, hz, hc.1, rfl, hc.2.1, hc.2.2.1, hc.2.2.2⟩
      · cases hb
    · cases hb
  · cases hb
theorem vfill_ones : ∀ (vs acc post : List AV), vs.all AV.one = true → post.length = vs.length → vfill (fun i => some (i * 1, 1)) (acc ++ post) ((vs.zipIdx acc.length).map fun p => (p.2, p.1)) = some (acc ++ vs)
  | [], acc, post, _, hp => by
    have := List.eq_nil_of_length_eq_zero hp
    subst this; simp [vfill]
  | v :: vs, acc, post, h1, hp => by
    cases post with
    | nil => simp at hp
    | cons w post =>
      simp only [List.all_cons, Bool.and_eq_true] at h1
      have hv : v.cells = [v] := by cases v <;> first | rfl | simp [AV.one] at h1
      have hpv : v.parts = true := by cases v <;> first | rfl | simp [AV.one] at h1
      simp only [List.zipIdx_cons, List.map_cons]
      rw [vfill_cons (o := acc.length * 1) (sz := 1) rfl hpv (by rw [hv]; rfl) (by rw [hv]; simp), hv, vfold_one]
      have h2 : (acc ++ w :: post).set (acc.length * 1) v = (acc ++ [v]) ++ post := by
        rw [Nat.mul_one, List.set_append_right _ _ (Nat.le_refl _)]; simp
      have := vfill_ones vs (acc ++ [v]) post h1.2 (by simpa using hp)
      rw [h2]
      simp only [List.length_append, List.length_cons, List.length_nil, Nat.zero_add] at this
      rw [this]; simp
theorem vBuildS_1 {t : TypeId} {e len : Nat} {zs : List AV} {parts : List (Nat × AV)} (vs : List AV) (hb : bldS P t = some (e, 1, zs)) (hp : parts = (vs.zipIdx 0).map fun p => (p.2, p.1)) (hl : vs.length = len) (hm : len ≤ 16777216) (ho : vs.all AV.one = true)
    (hK : (∀ j, h j = none → K (.own j 0 len) (hset h j (.cells e false vs))) ∨ K (.isl false len vs) h) : vBuildS P t len parts h K := by
  obtain ⟨z, h1, h2, h3, h4, rfl, h5, h6, h7⟩ := bldS_inv hb
  refine ⟨e, 1, z, vs, h1, h2, h7, by omega, h3, h4, h5, h6, ?_, ho, hK⟩
  rw [hp]
  exact vfill_ones vs [] _ ho (by simp [hl])
/-- A literal of a slice; its elements of one cell: that stays, or that is one's own. -/
theorem vBuildS_isl {t : TypeId} {e len : Nat} {zs : List AV} {parts : List (Nat × AV)} (vs : List AV) (hb : bldS P t = some (e, 1, zs)) (hp : parts = (vs.zipIdx 0).map fun p => (p.2, p.1)) (hl : vs.length = len) (hm : len ≤ 16777216) (ho : vs.all AV.one = true) (hK : K (.isl false len vs) h) : vBuildS P t len parts h K := vBuildS_1 vs hb hp hl hm ho (.inr hK)
theorem vBuildS_own {t : TypeId} {e len : Nat} {zs : List AV} {parts : List (Nat × AV)} (vs : List AV) (hb : bldS P t = some (e, 1, zs)) (hp : parts = (vs.zipIdx 0).map fun p => (p.2, p.1)) (hl : vs.length = len) (hm : len ≤ 16777216) (ho : vs.all AV.one = true) (hK : ∀ j, h j = none → K (.own j 0 len) (hset h j (.cells e false vs))) : vBuildS P t len parts h K := vBuildS_1 vs hb hp hl hm ho (.inl hK)
theorem vBuildS_i {t : TypeId} {e len : Nat} {zs : List AV} {parts : List (Nat × AV)} (hb : bldS P t = some (e, 1, zs)) (hp : parts = ((parts.map (·.2)).zipIdx 0).map fun p => (p.2, p.1)) (hl : (parts.map (·.2)).length = len) (hm : Nat.ble len 16777216 = true) (ho : (parts.map (·.2)).all AV.one = true) (hK : K (.isl false len (parts.map (·.2))) h) : vBuildS P t len parts h K := vBuildS_1 _ hb hp hl (Nat.le_of_ble_eq_true hm) ho (.inr hK)
theorem vBuildS_o {t : TypeId} {e len : Nat} {zs : List AV} {parts : List (Nat × AV)} (hb : bldS P t = some (e, 1, zs)) (hp : parts = ((parts.map (·.2)).zipIdx 0).map fun p => (p.2, p.1)) (hl : (parts.map (·.2)).length = len) (hm : Nat.ble len 16777216 = true) (ho : (parts.map (·.2)).all AV.one = true) (hK : ∀ j, h j = none → K (.own j 0 len) (hset h j (.cells e false (parts.map (·.2))))) : vBuildS P t len parts h K := vBuildS_1 _ hb hp hl (Nat.le_of_ble_eq_true hm) ho (.inl hK)
/-- .. its elements of more cells. -/
theorem vBuildS_isl' {t : TypeId} {e sz len : Nat} {zs : List AV} {parts : List (Nat × AV)} (hb : bldS P t = some (e, sz, zs)) (hm : len * sz ≤ 16777216) (hK : ∃ cells, vfill (fun i => some (i * sz, sz)) ((List.range (len * sz)).map fun i => zs.getD (i % sz) .junk) parts = some cells ∧ cells.all AV.one = true ∧ K (.isl false len cells) h) : vBuildS P t len parts h K := by
  obtain ⟨z, h1, h2, h3, h4, rfl, h5, h6, h7⟩ := bldS_inv hb
  obtain ⟨cells, k1, k2, k3⟩ := hK
  exact ⟨e, sz, z, cells, h1, h2, h7, hm, h3, h4, h5, h6, k1, k2, .inr k3⟩
theorem vBuildS_own' {t : TypeId} {e sz len : Nat} {zs : List AV} {parts : List (Nat × AV)} (hb : bldS P t = some (e, sz, zs)) (hm : len * sz ≤ 16777216) (hK : ∃ cells, vfill (fun i => some (i * sz, sz)) ((List.range (len * sz)).map fun i => zs.getD (i % sz) .junk) parts = some cells ∧ cells.all AV.one = true ∧ ∀ j, h j = none → K (.own j 0 len) (hset h j (.cells e false cells))) : vBuildS P t len parts h K := by
  obtain ⟨z, h1, h2, h3, h4, rfl, h5, h6, h7⟩ := bldS_inv hb
  obtain ⟨cells, k1, k2, k3⟩ := hK
  exact ⟨e, sz, z, cells, h1, h2, h7, hm, h3, h4, h5, h6, k1, k2, .inl k3⟩
/-! ### make, append -/
def apO (P : Program) (t : TypeId) : Option (TypeId × Nat × Nat) :=
  match P.underlying t with
  | some (.slice e) => match szO P e, bytesO P e, zeroO P e with
    | some sz, some b, some z => if 0 < sz ∧ z.cells.size = sz then some (e, sz, b) else none
    | _, _, _ => none
  | _ => none
theorem apO_inv {t : TypeId} {e sz b : Nat} (hb : apO P t = some (e, sz, b)) : ∃ z, P.underlying t = some (.slice e) ∧ szO P e = some sz ∧ bytesO P e = some b ∧ zeroO P e = some z ∧ 0 < sz ∧ z.cells.size = sz := by
  unfold apO at hb
  split at hb
  · rename_i e' hu
    split at hb
    · rename_i sz' b' z hs hy hz
      split at hb
      · rename_i hc
        cases hb
        exact ⟨z, hu, hs, hy, hz, hc.1, hc.2⟩
      · cases hb
    · cases hb
  · cases hb
theorem vApp_own {t t' : TypeId} {e sz b n l j : Nat} {x : AV} {vs cs : List AV} {nl : Bool} (hb : apO P t = some (e, sz, b)) (hj : h j = some (.cells e nl cs)) (hl : cs.length = l * sz) (hn : vNews P t' sz x h n vs) (h1 : (l + n) * b ≤ 140737488355328) (h2 : l + n ≤ 140737488355328)
    (hK : ∀ j', hdel h j j' = none → K (.own j' 0 (l + n)) (hset (hdel h j) j' (.cells e (nl && n == 0) (cs ++ vs)))) : vAppend P t t' (.own j 0 l) x h K := by
  obtain ⟨z, k1, k2, k3, k4, k5, k6⟩ := apO_inv hb
  exact ⟨e, sz, b, n, vs, z, k1, k2, k5, k3, k4, k6, hn, nl, cs, hj, hl, h1, h2, hK⟩
theorem vApp_nil {t t' : TypeId} {e sz b n : Nat} {x : AV} {vs ds : List AV} (hb : apO P t = some (e, sz, b)) (hn : vNews P t' sz x h n vs) (h1 : n * b ≤ 140737488355328) (h2 : n ≤ 140737488355328)
    (hK0 : n = 0 → K (.isl true 0 []) h) (hK : n ≠ 0 → ∀ j, h j = none → K (.own j 0 n) (hset h j (.cells e false vs))) : vAppend P t t' (.isl true 0 ds) x h K := by
  obtain ⟨z, k1, k2, k3, k4, k5, k6⟩ := apO_inv hb
  exact ⟨e, sz, b, n, vs, z, k1, k2, k5, k3, k4, k6, hn, h1, h2, hK0, hK⟩
theorem news_isl {t' : TypeId} {sz n : Nat} {nl : Bool} {cs : List AV} (hu : isSl (P.underlying t') = true) (hl : cs.length = n * sz) : vNews P t' sz (.isl nl n cs) h n cs := ⟨isSl_iff.1 hu, rfl, hl, rfl⟩
theorem news_str {t' : TypeId} {s : ByteArray} (hu : isStr (P.underlying t') = true) : vNews P t' 1 (.sc (.string s)) h s.size ((u8s s).map .sc) := ⟨isStr_iff.1 hu, rfl, rfl, rfl⟩
theorem vApp_own_isl {t t' : TypeId} {e sz b n l j : Nat} {vs cs : List AV} {nl nl2 : Bool} (hb : apO P t = some (e, sz, b)) (hu : isSl (P.underlying t') = true) (hv : vs.length = n * sz) (hj : h j = some (.cells e nl cs)) (hl : cs.length = l * sz) (h1 : (l + n) * b ≤ 140737488355328) (h2 : l + n ≤ 140737488355328)
    (hK : ∀ j', hdel h j j' = none → K (.own j' 0 (l + n)) (hset (hdel h j) j' (.cells e (nl && n == 0) (cs ++ vs)))) : vAppend P t t' (.own j 0 l) (.isl nl2 n vs) h K := vApp_own hb hj hl (news_isl hu hv) h1 h2 hK
theorem vApp_own_str {t t' : TypeId} {e b l j : Nat} {s : ByteArray} {cs : List AV} {nl : Bool} (hb : apO P t = some (e, 1, b)) (hu : isStr (P.underlying t') = true) (hj : h j = some (.cells e nl cs)) (hl : cs.length = l * 1) (h1 : (l + s.size) * b ≤ 140737488355328) (h2 : l + s.size ≤ 140737488355328)
    (hK : ∀ j', hdel h j j' = none → K (.own j' 0 (l + s.size)) (hset (hdel h j) j' (.cells e (nl && s.size == 0) (cs ++ (u8s s).map .sc)))) : vAppend P t t' (.own j 0 l) (.sc (.string s)) h K := vApp_own hb hj hl (news_str hu) h1 h2 hK
theorem vApp_nil_isl {t t' : TypeId} {e sz b n : Nat} {vs ds : List AV} {nl2 : Bool} (hb : apO P t = some (e, sz, b)) (hu : isSl (P.underlying t') = true) (hv : vs.length = n * sz) (h1 : n * b ≤ 140737488355328) (h2 : n ≤ 140737488355328)
    (hK0 : n = 0 → K (.isl true 0 []) h) (hK : n ≠ 0 → ∀ j, h j = none → K (.own j 0 n) (hset h j (.cells e false vs))) : vAppend P t t' (.isl true 0 ds) (.isl nl2 n vs) h K := vApp_nil hb (news_isl hu hv) h1 h2 hK0 hK
def mkO (P : Program) (t : TypeId) : Option (TypeId × Nat × AV) :=
  match P.underlying t with
  | some (.slice e) => match szO P e, bytesO P e, zeroO P e with
    | some 1, some b, some z => if scV z = true then some (e, b, ofV 4 z) else none
    | _, _, _ => none
  | _ => none
theorem vMake_1 {t : TypeId} {k k' : IntKind} {e b l : Nat} {z : AV} (hb : mkO P t = some (e, b, z)) (h1 : b * l ≤ 140737488355328) (h2 : l ≤ 140737488355328) (hK : ∀ j, h j = none → K (.own j 0 l) (hset h j (.cells e false (List.replicate l z)))) : vMake P t (.sc (.int k l)) (.sc (.int k' l)) h K := by
  unfold mkO at hb
  split at hb
  · rename_i e' hu
    split at hb
    · rename_i b' z' hs hy hz
      split at hb
      · rename_i hc
        cases hb
        exact ⟨k, k', l, e, z', b, rfl, rfl, hu, hz, hs, hc, hy, h1, h2, .inl hK⟩
      · cases hb
    · cases hb
  · cases hb
/-- .. that nobody turns. -/
theorem vMake_i {t : TypeId} {k k' : IntKind} {e b l : Nat} {z : AV} (hb : mkO P t = some (e, b, z)) (h1 : b * l ≤ 140737488355328) (h2 : l ≤ 140737488355328) (hK : K (.isl false l (List.replicate l z)) h) : vMake P t (.sc (.int k l)) (.sc (.int k' l)) h K := by
  unfold mkO at hb
  split at hb
  · rename_i e' hu
    split at hb
    · rename_i b' z' hs hy hz
      split at hb
      · rename_i hc
        cases hb
        exact ⟨k, k', l, e, z', b, rfl, rfl, hu, hz, hs, hc, hy, h1, h2, .inr hK⟩
      · cases hb
    · cases hb
  · cases hb
/-! ### What is let go, kept -/
theorem Gst.frz1 {X : VF → VH → Prop} (i j : Nat) {e : TypeId} {nl : Bool} {cs : List AV} {l : Nat} (hj : h j = some (.cells e nl cs)) (hi : ρ i = .own j 0 l) (hX : Gst X (updV ρ i (.isl nl l cs)) (hdel h j)) : Gst X ρ h := by
  refine .frz j hj (fun k => ?_) hX
  unfold updV
  split
  · rename_i hk; subst hk; rw [hi]; exact .own l
  · exact .refl _
theorem FrK.own1 {j : Nat} {e : TypeId} {nl : Bool} {cs : List AV} {l : Nat} (hj : h j = some (.cells e nl cs)) (hK : K (.isl nl l cs) (hdel h j)) : FrK K (.own j 0 l) h := .frz j hj (.own l) (.now hK)
theorem FrK.op1 {j : Nat} {e : TypeId} {cs : List AV} (hj : h j = some (.cells e false cs)) (hK : K (.ip cs 0) (hdel h j)) : FrK K (.op j 0) h := .frz j hj (.op 0 rfl) (.now hK)
end
end Go.Proofs.AbM
