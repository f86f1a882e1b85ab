/- Each operation of the abstract machine is followed by the world's own. -/
import Derived.Test.YtbmidddpddiopaaDoorAbOps
set_option linter.unusedVariables false
set_option linter.unusedSimpArgs false
namespace Go.Proofs.AbM
open Go.RowKit

/-- A run ends in a value as the abstract machine tells. -/
def Sim (P : Program) (W0 : World) (m : List (Nat × Nat)) (W : World) (s : Sem Value) (K : Value → Hp → Prop) : Prop :=
  ∃ v h' m' v' W', K v h' ∧ m <+: m' ∧ Rel P W0 m' h' W' ∧ VR W0.heap.size m' v v' ∧ s.run P W = .ok v' W'

section
variable {P : Program} {W0 W : World} {m : List (Nat × Nat)} {h : Hp} {K : Value → Hp → Prop} {t : TypeId}
theorem run_under {d : TypeDesc} (hd : P.underlying t = some d) : (underlying t).run P W = .ok d W := run_underlying hd W
theorem run_isAgg {g : Bool} (hg : isAggO P t = some g) : (isAgg t).run P W = .ok g W := by
  unfold isAggO at hg
  cases hu : P.underlying t with
  | none => rw [hu] at hg; cases hg
  | some d =>
    rw [hu] at hg
    simp only [Option.map_some, Option.some.injEq] at hg
    subst hg
    unfold isAgg
    simp only [Sem.run_bind, run_under hu, Result.andThen_ok]
    cases d <;> rfl
theorem run_sizeOf {n : Nat} (hn : szO P t = some n) : (sizeOf t).run P W = .ok n W := by
  unfold szO at hn
  obtain ⟨i, hi, rfl⟩ := Option.map_eq_some_iff.1 hn
  simp [sizeOf, typeInfo, hi]
theorem run_zeroValue {z : Value} (hz : zeroO P t = some z) : (zeroValue t).run P W = .ok z W := by
  unfold zeroO at hz
  obtain ⟨i, hi, hz⟩ := Option.bind_eq_some_iff.1 hz
  simp [zeroValue, typeInfo, hi, hz]
theorem run_part {u : Value} {cs : Array Value} {off : Nat} (hu : partO P t cs off = some u) : (part t cs off).run P W = .ok u W := by
  unfold partO at hu
  cases hg : isAggO P t with
  | none => rw [hg] at hu; cases hu
  | some g =>
    rw [hg] at hu
    unfold part
    cases g with
    | true =>
      obtain ⟨n, hn, rfl⟩ := Option.map_eq_some_iff.1 hu
      simp [run_isAgg hg, run_sizeOf hn]
    | false => simp only at hu; simp [run_isAgg hg, hu]
theorem part_rel {u : Value} {cs cs' : Array Value} {off : Nat} (hc : VRs W0.heap.size m cs.toList cs'.toList) (hu : partO P t cs off = some u) : ∃ u', partO P t cs' off = some u' ∧ VR W0.heap.size m u u' := by
  unfold partO at hu ⊢
  cases hg : isAggO P t with
  | none => rw [hg] at hu; cases hu
  | some g =>
    rw [hg] at hu
    cases g with
    | true =>
      obtain ⟨n, hn, rfl⟩ := Option.map_eq_some_iff.1 hu
      refine ⟨.agg (cs'.extract off (off + n)), by simp [hn], VRs.agg ?_⟩
      simp only [Array.toList_extract, List.extract]
      exact (hc.drop _).take _
    | false =>
      simp only at hu ⊢
      obtain ⟨u', h1, h2⟩ := hc.get (i := off) (by simpa using hu)
      exact ⟨u', by simpa using h1, h2⟩

theorem load_sim (R : Rel P W0 m h W) {va va' : Value} (hv : VR W0.heap.size m va va') (hw : wLoad P W0 t va h K) : Sim P W0 m W (Instr.loadAt t va') K := by
  obtain ⟨ad, rfl, g, hg, h1, h2⟩ := hw
  obtain ⟨ad', rfl, ha⟩ := hv.ptr_inv
  cases g with
  | true =>
    obtain ⟨n, cs, hn, hcs, hK⟩ := h1 rfl
    obtain ⟨vs', hr, hl, hc, _⟩ := rds_rel R ha n 0 cs hcs
    refine ⟨_, h, m, .agg vs'.toArray, W, hK, List.prefix_rfl, R, hr.agg', ?_⟩
    have := run_loadCells_list (P := P) W ad' vs' (fun j v hj => by simpa using hc j v hj)
    rw [← hr.1, hl] at this
    simp [Instr.loadAt, Instr.sureAddr, loadVar, run_isAgg hg, run_sizeOf hn, this]
  | false =>
    obtain ⟨v, hv, hK⟩ := h2 rfl
    obtain ⟨v', hc, hr, _⟩ := rd_rel R ha hv
    refine ⟨v, h, m, v', W, hK, List.prefix_rfl, R, hr, ?_⟩
    simp [Instr.loadAt, Instr.sureAddr, loadVar, run_isAgg hg, hc]

theorem loadVar_run (R : Rel P W0 m h W) {va va' : Value} (hv : VR W0.heap.size m va va') (hw : wLoad P W0 t va h K) : ∃ v v', K v h ∧ VR W0.heap.size m v v' ∧ ∃ ad', va' = .pointer (some ad') ∧ (loadVar t ad').run P W = .ok v' W := by
  obtain ⟨ad, rfl, g, hg, h1, h2⟩ := hw
  obtain ⟨ad', rfl, ha⟩ := hv.ptr_inv
  cases g with
  | true =>
    obtain ⟨n, cs, hn, hcs, hK⟩ := h1 rfl
    obtain ⟨vs', hr, hl, hc, _⟩ := rds_rel R ha n 0 cs hcs
    refine ⟨_, .agg vs'.toArray, hK, hr.agg', ad', rfl, ?_⟩
    have := run_loadCells_list (P := P) W ad' vs' (fun j v hj => by simpa using hc j v hj)
    rw [← hr.1, hl] at this
    simp [loadVar, run_isAgg hg, run_sizeOf hn, this]
  | false =>
    obtain ⟨v, hv, hK⟩ := h2 rfl
    obtain ⟨v', hc, hr, _⟩ := rd_rel R ha hv
    exact ⟨v, v', hK, hr, ad', rfl, by simp [loadVar, run_isAgg hg, hc]⟩
theorem setCells_length (xs : List Value) (o : Nat) (vs : List Value) (hl : o + vs.length ≤ xs.length) : (setCells xs o vs).length = xs.length := by
  simp [setCells]; omega
theorem setCells_cons (xs : List Value) (o : Nat) (v : Value) (vs : List Value) (hl : o < xs.length) : setCells xs o (v :: vs) = setCells (xs.set o v) (o + 1) vs := by
  unfold setCells
  have h1 : (xs.set o v).take (o + 1) = xs.take o ++ [v] := by
    rw [List.take_succ_eq_append_getElem (by simpa using hl)]
    simp [List.take_set_of_le]
  have h2 : (xs.set o v).drop (o + 1 + vs.length) = xs.drop (o + (vs.length + 1)) := by
    rw [List.drop_set, if_pos (by omega)]
    congr 1; omega
  rw [h1, h2]
  simp
theorem run_storeCells_own {b o : Nat} {e : TypeId} {fr : Nat × Nat} : ∀ (vs : List Value) (i : Nat) (cur : Array Value) (W : World), W.heap[b]? = some (.cells cur e fr) → (fr.1 = fr.2 ∨ cur.size ≤ fr.1) → o + i + vs.length ≤ cur.size → (∀ v ∈ vs, v.oneCell' = true) →
    ∃ W', (storeCells ⟨b, o, none⟩ vs i).run P W = .ok () W' ∧ W'.os = W.os ∧ W'.tape = W.tape ∧ W'.output = W.output ∧ W'.heap.size = W.heap.size ∧ (∀ k, k ≠ b → W'.heap[k]? = W.heap[k]?) ∧ W'.heap[b]? = some (.cells (setCells cur.toList (o + i) vs).toArray e fr)
  | [], i, cur, W, hb, _, _, _ => ⟨W, rfl, rfl, rfl, rfl, rfl, fun _ _ => rfl, by simpa [setCells] using hb⟩
  | v :: vs, i, cur, W, hb, hf, hl, h1 => by
    simp only [List.length_cons] at hl
    have hi : o + i < cur.size := by omega
    have hcell : W.cell? ⟨b, o + i, none⟩ = some cur[o + i] := by simp [World.cell?, hb, hi]
    have hfro : W.frozen? ⟨b, o + i, none⟩ = false := by
      obtain ⟨lo, hi'⟩ := fr
      simp only [World.frozen?, hb, Bool.and_eq_false_iff, decide_eq_false_iff_not]
      simp only at hf
      omega
    have hheap : ∀ k, (W.setCell ⟨b, o + i, none⟩ v).heap[k]? = if k = b then some (.cells (cur.setIfInBounds (o + i) v) e fr) else W.heap[k]? := by
      intro k
      simp only [World.setCell, Array.getElem?_modify]
      by_cases hk : b = k
      · subst hk; simp [hb]
      · simp [hk, Ne.symm hk]
    obtain ⟨W', hr, h2, h3, h4, h5, h6, h7⟩ := run_storeCells_own (o := o) vs (i + 1) (cur.setIfInBounds (o + i) v) (W.setCell ⟨b, o + i, none⟩ v) (by rw [hheap, if_pos rfl]) (by simpa using hf) (by simp; omega) (fun u hu => h1 u (by simp [hu]))
    refine ⟨W', ?_, h2, h3, h4, h5.trans (by simp [World.setCell]), fun k hk => (h6 k hk).trans (by rw [hheap, if_neg hk]), ?_⟩
    · simp only [storeCells, Sem.run_bind]
      rw [add_at, run_store P W _ v _ (h1 v (by simp)), hcell]
      simp [hfro, hr]
    · rw [h7, setCells_cons _ _ _ _ (by simpa using hi)]
      simp [Nat.add_assoc]
theorem VRs.setCells {xs xs' vs vs' : List Value} (hx : VRs W0.heap.size m xs xs') (hv : VRs W0.heap.size m vs vs') (o : Nat) : VRs W0.heap.size m (AbM.setCells xs o vs) (AbM.setCells xs' o vs') := by
  unfold AbM.setCells
  rw [← hv.1]
  exact ((hx.take o).append hv).append (hx.drop _)
theorem setCells_take (xs : List Value) (n o : Nat) (vs : List Value) (hl : o + vs.length ≤ n) (hn : n ≤ xs.length) : (setCells xs o vs).take n = setCells (xs.take n) o vs := by
  unfold setCells
  rw [List.take_take, Nat.min_eq_left (by omega), List.drop_take, List.append_assoc, List.append_assoc, List.take_append, List.take_append]
  simp only [List.length_take]
  rw [Nat.min_eq_left (by omega), List.take_of_length_le (i := n) (l := xs.take o) (by simp; omega), List.take_of_length_le (i := n - o) (l := vs) (by omega)]
  congr 3
  omega
theorem store_sim (R : Rel P W0 m h W) {va va' v v' : Value} (ha : VR W0.heap.size m va va') (hv : VR W0.heap.size m v v') (hw : wStore P W0 t va v h K) :
    ∃ h' m' W', K undef h' ∧ m <+: m' ∧ Rel P W0 m' h' W' ∧ (Instr.storeAt t va' v').run P W = .ok () W' := by
  obtain ⟨j, o, e, xs, rfl, hsz, hj, hl, h1, hK⟩ := hw
  have hvc := hv.cells
  have hvl : v.cells.size = v'.cells.size := by simpa using hvc.1
  obtain ⟨a0, rfl, har⟩ := ha.ptr_inv
  obtain ⟨b, c, rfl, hm⟩ := har.own
  · obtain ⟨b', c', cur, fr, i, g1, g2, g3, g4, g5, g6, g7, g8, g9⟩ := R.blk j e xs hj
    rw [hm] at g1; cases g1
    have h1' : ∀ u ∈ v'.cells.toList, u.oneCell' = true := by
      intro u hu
      obtain ⟨q, hq, hqe⟩ := List.getElem_of_mem hu
      have hq' : q < v.cells.toList.length := by rw [hvc.1]; exact hq
      have := hvc.2 q v.cells.toList[q] u (List.getElem?_eq_getElem hq') (by rw [List.getElem?_eq_getElem hq, hqe])
      rw [this.one]
      exact h1 _ (List.getElem_mem hq')
    have hlen : v'.cells.toList.length = v.cells.size := by simp [hvl]
    obtain ⟨W', hr, k1, k2, k3, k4, k5, k6⟩ := run_storeCells_own (P := P) (o := o) v'.cells.toList 0 cur W g2 g6 (by omega) h1'
    simp only [Nat.add_zero] at k6
    have hcl : (setCells cur.toList o v'.cells.toList).length = cur.size := by rw [setCells_length _ _ _ (by simp at hlen ⊢; omega)]; simp
    have hxl : (setCells xs o v.cells.toList).length = xs.length := setCells_length _ _ _ (by simpa using hl)
    refine ⟨_, m, W', hK, List.prefix_rfl, R.write hj hm g2 (cur' := (setCells cur.toList o v'.cells.toList).toArray) (by simpa using hcl) (by rw [hxl]; simp only [List.size_toArray]; omega) ?_ ?_ k1 k2 k3 k4 k5 k6, ?_⟩
    · rw [hxl]
      simp only [List.toList_toArray]
      rw [setCells_take _ _ _ _ (by omega) (by simpa using g7)]
      exact g8.setCells hvc o
    · intro u hu
      unfold setCells at hu
      simp only [List.mem_append] at hu
      rcases hu with (hu | hu) | hu
      · exact g9 u (List.mem_of_mem_take hu)
      · exact h1 u hu
      · exact g9 u (List.mem_of_mem_drop hu)
    · simp only [Instr.storeAt, Instr.sureAddr, storeVar, Sem.run_bind, Sem.run_pure, Result.andThen_ok]
      rw [run_sizeOf hsz]
      simp [hvl, hr]
theorem push_cells (R : Rel P W0 m h W) {e : TypeId} {xs : List Value} {cur : Array Value} {fr : Nat × Nat} {c sz : Nat} (hs : szO P e = some sz) (hc : cur.size = c * sz) (hcm : c ≤ maxLen) (hf : fr.1 = fr.2 ∨ cur.size ≤ fr.1) (hl : xs.length ≤ cur.size) (hx : VRs W0.heap.size m xs (cur.toList.take xs.length)) (h1 : ∀ v ∈ xs, v.oneCell' = true) :
    Rel P W0 (m ++ [(W.heap.size, c)]) (h ++ [.cells e xs]) { W with heap := W.heap.push (.cells cur e fr) } := by
  obtain ⟨i, hi, rfl⟩ := Option.map_eq_some_iff.1 hs
  refine R.push (.cells cur e fr) c _ (fun e' xs' he => ?_) (fun s p he => by cases he)
  injection he with he1 he2
  subst he1; subst he2
  exact ⟨cur, fr, i, rfl, hi, hc, hcm, hf, hl, hx, h1⟩
theorem new_ptr (R : Rel P W0 m h W) (c : Nat) : VR W0.heap.size (m ++ [(W.heap.size, c)]) (.pointer (some ⟨W0.heap.size + h.length, 0, none⟩)) (.pointer (some ⟨W.heap.size, 0, none⟩)) := by
  refine .ptr (c := c) ?_
  rw [← R.len]; simp
theorem new_sl (R : Rel P W0 m h W) (c n : Nat) (hn : n ≤ c) : VR W0.heap.size (m ++ [(W.heap.size, c)]) (.slice (some ⟨W0.heap.size + h.length, 0, none⟩) n n) (.slice (some ⟨W.heap.size, 0, none⟩) n c) := by
  refine .sl (c := c) ?_ (fun _ => rfl) hn
  rw [← R.len]; simp
theorem box_sim (R : Rel P W0 m h W) {v v' : Value} (hv : VR W0.heap.size m v v') (hw : wBox P W0 t v h K) : Sim P W0 m W (Instr.box t v') K := by
  obtain ⟨hs, h1, hK⟩ := hw
  have hvc := hv.cells
  refine ⟨_, _, m ++ [(W.heap.size, 1)], .pointer (some ⟨W.heap.size, 0, none⟩), { W with heap := W.heap.push (.cells v'.cells t (0, 0)) }, hK, List.prefix_append _ _, ?_, new_ptr R 1, by simp [Instr.box, newVar, newRow]⟩
  refine push_cells R hs (by rw [Nat.one_mul]; simpa using hvc.1.symm) (by simp [maxLen]) (.inl rfl) (by have := hvc.1; simp at this ⊢; omega) ?_ h1
  rw [List.take_of_length_le (by rw [hvc.1]; exact Nat.le_refl _)]
  exact hvc
end
end Go.Proofs.AbM
