/- Each operation of the abstract machine is followed by the world's own: literals, append, conversions, comparisons. -/
import Derived.Test.YtbmidddpddiopaaDoorAbSim2
import Derived.Lib.ConvBytes
set_option linter.unusedVariables false
set_option linter.unusedSimpArgs false
namespace Go.Proofs.AbM
open Go.RowKit

section
variable {P : Program} {W0 W : World} {m : List (Nat × Nat)} {h : Hp} {K : Value → Hp → Prop} {t : TypeId}
theorem foldSet_rel (off : Nat) : ∀ (cs cs' : List Value) (j : Nat) (acc acc' : Array Value), VRs W0.heap.size m cs cs' → VRs W0.heap.size m acc.toList acc'.toList →
    VRs W0.heap.size m ((cs.zipIdx j).foldl (fun a (c, i) => a.setIfInBounds (off + i) c) acc).toList ((cs'.zipIdx j).foldl (fun a (c, i) => a.setIfInBounds (off + i) c) acc').toList
  | [], cs', j, acc, acc', h1, h2 => by
    have : cs' = [] := List.eq_nil_of_length_eq_zero h1.1.symm
    subst this; exact h2
  | c :: cs, cs', j, acc, acc', h1, h2 => by
    obtain ⟨c', cs'', rfl, hc, hcs⟩ := h1.head
    simp only [List.zipIdx_cons, List.foldl_cons]
    refine foldSet_rel off cs cs'' (j + 1) _ _ hcs ?_
    simp only [Array.toList_setIfInBounds]
    exact h2.set hc _
theorem foldSet_arr (off : Nat) (cs : Array Value) (acc : Array Value) : cs.zipIdx.foldl (fun a (c, i) => a.setIfInBounds (off + i) c) acc = (cs.toList.zipIdx 0).foldl (fun a (c, i) => a.setIfInBounds (off + i) c) acc := by
  rw [← Array.foldl_toList]
  congr 1
  simp
/-- The parts of a literal, place by place. -/
def PRs (m : List (Nat × Nat)) (B : Nat) (ps ps' : List (Nat × Value)) : Prop := ps.length = ps'.length ∧ ∀ (i : Nat) (p p' : Nat × Value), ps[i]? = some p → ps'[i]? = some p' → p.1 = p'.1 ∧ VR B m p.2 p'.2
theorem fill_rel (place : Nat → Option (Nat × Nat)) : ∀ (ps ps' : List (Nat × Value)) (cs cs' r : Array Value), PRs m W0.heap.size ps ps' → VRs W0.heap.size m cs.toList cs'.toList → Instr.fill place cs ps = some r →
    ∃ r', Instr.fill place cs' ps' = some r' ∧ VRs W0.heap.size m r.toList r'.toList
  | [], ps', cs, cs', r, hp, hc, hr => by
    have : ps' = [] := List.eq_nil_of_length_eq_zero hp.1.symm
    subst this
    simp only [Instr.fill, Option.some.injEq] at hr ⊢
    subst hr
    exact ⟨cs', rfl, hc⟩
  | (i, v) :: ps, ps', cs, cs', r, hp, hc, hr => by
    cases ps' with
    | nil => have := hp.1; simp at this
    | cons p' ps' =>
      obtain ⟨i', v'⟩ := p'
      obtain ⟨he, hv⟩ := hp.2 0 (i, v) (i', v') rfl rfl
      simp only at he hv
      subst he
      have hps : PRs m W0.heap.size ps ps' := ⟨by have := hp.1; simpa using this, fun q a b h1 h2 => hp.2 (q + 1) a b (by simpa using h1) (by simpa using h2)⟩
      have hvc := hv.cells
      have hvs : v.cells.size = v'.cells.size := by simpa using hvc.1
      have hcs : cs.size = cs'.size := by simpa using hc.1
      simp only [Instr.fill] at hr ⊢
      cases hpl : place i with
      | none => rw [hpl] at hr; cases hr
      | some os =>
        obtain ⟨off, sz⟩ := os
        rw [hpl] at hr
        simp only at hr ⊢
        rw [← hvs, ← hcs]
        split at hr
        · cases hr
        · rename_i hcond
          rw [if_neg hcond]
          refine fill_rel place ps ps' _ _ r hps ?_ hr
          rw [foldSet_arr, foldSet_arr]
          exact foldSet_rel off _ _ 0 _ _ hvc hc
theorem fill_size (place : Nat → Option (Nat × Nat)) : ∀ (ps : List (Nat × Value)) (cs r : Array Value), Instr.fill place cs ps = some r → r.size = cs.size
  | [], cs, r, hr => by simp only [Instr.fill, Option.some.injEq] at hr; rw [hr]
  | (i, v) :: ps, cs, r, hr => by
    simp only [Instr.fill] at hr
    cases hpl : place i with
    | none => rw [hpl] at hr; cases hr
    | some os =>
      obtain ⟨off, sz⟩ := os
      rw [hpl] at hr
      simp only at hr
      split at hr
      · cases hr
      · have := fill_size place ps _ r hr
        rw [this, foldSet_arr]
        have key : ∀ (l : List (Value × Nat)) (a : Array Value), (l.foldl (fun a (c, i) => a.setIfInBounds (off + i) c) a).size = a.size := by
          intro l
          induction l with
          | nil => intro a; rfl
          | cons x l ih => intro a; rw [List.foldl_cons, ih]; simp
        exact key _ _
theorem mapM_sizes (W : World) : ∀ (fs : List Field) (places : List (Nat × Nat)), (fs.map fun f => (szO P f.type).map fun n => (f.offset, n)) = places.map some →
    (fs.mapM fun f => do pure (f.offset, ← sizeOf f.type) : Sem (List (Nat × Nat))).run P W = .ok places W
  | [], places, hp => by
    have : places = [] := by cases places <;> first | rfl | simp at hp
    subst this; rfl
  | f :: fs, places, hp => by
    cases places with
    | nil => simp at hp
    | cons p places =>
      simp only [List.map_cons, List.cons.injEq] at hp
      obtain ⟨n, hn, rfl⟩ := Option.map_eq_some_iff.1 hp.1
      have ih := mapM_sizes W fs places hp.2
      rw [List.mapM_cons]
      simp only [Sem.run_bind, run_sizeOf hn, Result.andThen_ok, Sem.run_pure, ih]
theorem build_sim (R : Rel P W0 m h W) {ps ps' : List (Nat × Value)} (hp : PRs m W0.heap.size ps ps') (hw : wBuild P t ps h K) : Sim P W0 m W (Instr.build t ps'.toArray) K := by
  obtain ⟨z, hz, hcl, hw⟩ := hw
  have hzz : VRs W0.heap.size m z.cells.toList z.cells.toList := (VR.clo 4 z hcl).cells
  rcases hw with ⟨fs, places, cells, hu, hpl, hf, hK⟩ | ⟨n, e, sz, cells, hu, hs, hf, hK⟩
  · obtain ⟨r', h1, h2⟩ := fill_rel _ ps ps' _ _ cells hp hzz hf
    refine ⟨_, h, m, .agg r', W, hK, List.prefix_rfl, R, VRs.agg h2, ?_⟩
    have hm := mapM_sizes (P := P) W fs.toList places hpl
    have hm' : (fs.mapM fun f => do pure (f.offset, ← sizeOf f.type) : Sem (Array (Nat × Nat))).run P W = .ok places.toArray W := by
      have : (fs.mapM fun f => do pure (f.offset, ← sizeOf f.type) : Sem (Array (Nat × Nat))) = List.toArray <$> (fs.toList.mapM fun f => do pure (f.offset, ← sizeOf f.type)) := by
        rw [Array.mapM_eq_mapM_toList]
      rw [this, Sem.run_map, hm]; rfl
    simp only [Instr.build, Sem.run_bind, run_zeroValue hz, Result.andThen_ok, run_under hu, hm']
    rw [h1]; rfl
  · obtain ⟨r', h1, h2⟩ := fill_rel _ ps ps' _ _ cells hp hzz hf
    refine ⟨_, h, m, .agg r', W, hK, List.prefix_rfl, R, VRs.agg h2, ?_⟩
    simp only [Instr.build, Sem.run_bind, run_zeroValue hz, Result.andThen_ok, run_under hu, run_sizeOf hs]
    rw [h1]; rfl
theorem VRs.one {xs ys : List Value} (hx : VRs W0.heap.size m xs ys) (h1 : ∀ v ∈ xs, v.oneCell' = true) : ∀ v ∈ ys, v.oneCell' = true := by
  intro u hu
  obtain ⟨q, hq, hqe⟩ := List.getElem_of_mem hu
  have hq' : q < xs.length := by rw [hx.1]; exact hq
  have := hx.2 q xs[q] u (List.getElem?_eq_getElem hq') (by rw [List.getElem?_eq_getElem hq, hqe])
  rw [this.one]
  exact h1 _ (List.getElem_mem hq')
theorem buildS_sim (R : Rel P W0 m h W) {len : Nat} {ps ps' : List (Nat × Value)} (hp : PRs m W0.heap.size ps ps') (hw : wBuildS P W0 t len ps h K) : Sim P W0 m W (Instr.buildSlice t len ps'.toArray) K := by
  obtain ⟨e, sz, z, cells, hu, hs, hsz, hl, hz, hcl, hzs, hz1, hf, h1, hK⟩ := hw
  have hzz : VRs W0.heap.size m z.cells.toList z.cells.toList := (VR.clo 4 z hcl).cells
  have hmk : VRs W0.heap.size m ((Array.range (len * sz)).map (z.cells[· % z.cells.size]!)).toList ((Array.range (len * sz)).map (z.cells[· % z.cells.size]!)).toList := by
    refine ⟨rfl, fun i u u' g1 g2 => ?_⟩
    rw [g1] at g2; cases g2
    simp only [Array.toList_map, Array.toList_range, List.getElem?_map] at g1
    obtain ⟨q, hq, rfl⟩ := Option.map_eq_some_iff.1 g1
    have hq0 : 0 < len * sz := by
      have := (List.getElem?_eq_some_iff.1 hq).1
      simp at this; omega
    have hsz0 : 0 < z.cells.size := by
      rw [hzs]; exact Nat.pos_of_ne_zero (fun h0 => by rw [h0] at hq0; simp at hq0)
    have hlt : q % z.cells.size < z.cells.size := Nat.mod_lt _ hsz0
    refine hzz.2 (q % z.cells.size) _ _ ?_ ?_ <;> simp [getElem!_pos, hlt]
  obtain ⟨r', g1, g2⟩ := fill_rel _ ps ps' _ _ cells hp hmk hf
  have hsize := fill_size _ _ _ _ g1
  simp only [Array.size_map, Array.size_range] at hsize
  have hcs : cells.size = len * sz := by have := fill_size _ _ _ _ hf; simpa using this
  refine ⟨_, _, m ++ [(W.heap.size, len)], .slice (some ⟨W.heap.size, 0, none⟩) len len, { W with heap := W.heap.push (.cells r' e (0, 0)) }, hK, List.prefix_append _ _, ?_, new_sl R len len (Nat.le_refl _), ?_⟩
  · refine push_cells R hs (by rw [hsize]) ?_ (.inl rfl) (by simp [hsize, hcs]) ?_ h1
    · have : len ≤ len * sz := Nat.le_mul_of_pos_right _ hsz
      simp [maxLen]; omega
    · rw [List.take_of_length_le (by simp [hsize, hcs])]; exact g2
  · have hnl : ¬ (16777216 < len * sz) := by omega
    have hnb : ¬ (len * sz > 2 ^ 24) := by omega
    simp only [Instr.buildSlice, Sem.run_bind, run_under hu, Result.andThen_ok, run_sizeOf hs, if_neg hnb, Sem.run_pure]
    by_cases h0 : len * sz = 0
    · have hz0 : ∀ zz : Array Value, (Array.range (len * sz)).map (zz[· % zz.size]!) = #[] := by intro zz; rw [h0]; apply Array.ext <;> simp
      rw [hz0] at g1
      rw [if_pos h0]
      simp only [Sem.run_pure, Result.andThen_ok, hz0, g1]
      simp [newRow]
    · rw [if_neg h0]
      simp only [Sem.run_bind, run_zeroValue hz, Sem.run_pure, Result.andThen_ok, g1]
      simp [newRow]
/-- What an append takes, as the world has it. -/
theorem news_run (R : Rel P W0 m h W) {x x' : Value} {t' : TypeId} {sz n : Nat} {vs : List Value} (hx : VR W0.heap.size m x x') (hn : newsO P W0 t' sz x h n vs) :
    ∃ vs', VRs W0.heap.size m vs vs' ∧ vs.length = n * sz ∧ (∀ v ∈ vs, v.oneCell' = true) ∧ (Builtin.lenOf x').run P W = .ok n W ∧ ((∃ e', P.underlying t' = some (.slice e')) ∨ P.underlying t' = some .string) ∧
      ∀ W' : World, W'.heap = W.heap → (Builtin.firstCells sz n x').run P W' = .ok vs'.toArray W' := by
  cases x with
  | slice a l c =>
    cases a with
    | none =>
      obtain ⟨⟨e, hu⟩, rfl, rfl, rfl⟩ := hn
      obtain rfl := hx.snil_inv
      refine ⟨[], VRs.nil, by simp, fun v hv => by simp at hv, rfl, .inl ⟨e, hu⟩, fun W' _ => rfl⟩
    | some a =>
      obtain ⟨⟨e, hu⟩, rfl, hl, hr⟩ := hn
      by_cases h0 : n = 0
      · subst h0
        simp only [Nat.zero_mul, rds, Option.some.injEq] at hr
        subst hr
        obtain ⟨a', c', rfl⟩ : ∃ a' c', x' = .slice (some a') 0 c' := by
          rcases hx.slice_inv with ⟨_, rfl⟩ | ⟨j, o, b, cb, c', _, _, rfl, _⟩ | ⟨_, _, _, a', c', rfl⟩ <;> exact ⟨_, _, rfl⟩
        refine ⟨[], VRs.nil, by simp, fun v hv => by simp at hv, rfl, .inl ⟨e, hu⟩, fun W' _ => ?_⟩
        have := run_loadCells_list (P := P) W' a' [] (fun j v hj => by simp at hj)
        simpa [Builtin.firstCells] using this
      · have hsp := hl.resolve_left h0
        obtain ⟨a', c', rfl, ha⟩ : ∃ a' c', x' = .slice (some a') n c' ∧ AR W0.heap.size m a a' := by
          rcases hx.slice_inv with ⟨h1, rfl⟩ | ⟨j, o, b, cb, c', rfl, rfl, rfl, hm, _, _⟩ | ⟨rfl, rfl, _⟩
          · exact ⟨a, c, rfl, .inl ⟨h1, rfl⟩⟩
          · exact ⟨_, c', rfl, .inr ⟨j, o, b, cb, rfl, rfl, hm⟩⟩
          · cases hsp
        obtain ⟨vs', g1, g2, g3, g4⟩ := rds_rel R ha _ 0 vs hr
        refine ⟨vs', g1, g2, g4, rfl, .inl ⟨e, hu⟩, fun W' hW => ?_⟩
        have := run_loadCells_list (P := P) W' a' vs' (fun j v hj => by
          have := g3 j v hj
          rw [Nat.zero_add] at this
          simpa [World.cell?, hW] using this)
        rw [← g1.1, g2] at this
        simpa [Builtin.firstCells] using this
  | string s =>
    obtain ⟨hu, rfl, rfl, rfl⟩ := hn
    obtain rfl := hx.string_inv
    have hlen : (u8s s).length = s.size := by simp only [u8s, List.length_map, Array.length_toList]; rfl
    refine ⟨u8s s, ?_, by rw [hlen, Nat.mul_one], fun v hv => ?_, rfl, .inr hu, fun W' _ => ?_⟩
    · refine ⟨rfl, fun i u u' g1 g2 => ?_⟩
      rw [g1] at g2; cases g2
      simp only [u8s, List.getElem?_map] at g1
      obtain ⟨q, _, rfl⟩ := Option.map_eq_some_iff.1 g1
      exact .atom rfl
    · simp only [u8s, List.mem_map] at hv
      obtain ⟨q, _, rfl⟩ := hv
      rfl
    · simp only [Builtin.firstCells, Sem.run_pure]
      congr 1
      apply Array.ext'
      simp only [u8s, List.toList_toArray, Array.toList_map]
      rw [show s.extract 0 s.size = s by simp]
  | _ => exact hn.elim
theorem run_app_nil {e ty t' : TypeId} {sz n : Nat} {i : TypeInfo} {z x' : Value} {vs : Array Value} (hu : P.underlying t = some (.slice e)) (hs : szO P e = some sz) (hi : P.info? e = some i) (hz : zeroO P e = some z) (hty : (∃ e', P.underlying t' = some (.slice e')) ∨ P.underlying t' = some .string)
    (hlen : (Builtin.lenOf x').run P W = .ok n W) (hfc : ∀ W' : World, W'.heap = W.heap → (Builtin.firstCells sz n x').run P W' = .ok vs W') (hb : n * i.bytes ≤ 140737488355328) (hn : n ≤ 140737488355328) :
    (n = 0 → (Builtin.append_ #[t, t'] ty #[.slice none 0 0, x']).run P W = .ok (.slice none 0 0) W) ∧
    (n ≠ 0 → (Builtin.append_ #[t, t'] ty #[.slice none 0 0, x']).run P W = .ok (.slice (some ⟨W.heap.size, 0, none⟩) n (grownCap W n 0 e)) { W with heap := W.heap.push (.cells (vs ++ Builtin.zeroCells z.cells (grownCap W n 0 e - n)) e (0, 0)), drawn := W.drawn + 1 }) := by
  have hfc0 := hfc W rfl
  have hfc1 := hfc W.drew rfl
  refine ⟨fun h0 => ?_, fun h0 => ?_⟩
  · subst h0
    rcases hty with ⟨e', hu'⟩ | hu' <;> simp [Builtin.append_, run_under hu, run_under hu', run_sizeOf hs, hlen, hfc0]
  · have hfit : Builtin.nextslicecap n 0 * i.bytes ≤ 281474976710656 := by rw [nextslicecap_zero (by omega)]; omega
    have hfit' : ¬ (281474976710656 < Builtin.nextslicecap n 0 * i.bytes) := by omega
    have h63' : ¬ (9223372036854775807 < (n : Int)) := by omega
    rcases hty with ⟨e', hu'⟩ | hu' <;> simp [Builtin.append_, run_under hu, run_under hu', run_sizeOf hs, hlen, h0, typeInfo, hi, hfit', h63', Question.forced, hfc1, run_firstCells_none, run_zeroValue hz, newRow, grownCap] <;> rfl
theorem run_app_room {e ty t' : TypeId} {sz n l c b : Nat} {x' : Value} {vs cur : Array Value} {fr : Nat × Nat} (hu : P.underlying t = some (.slice e)) (hs : szO P e = some sz) (hty : (∃ e', P.underlying t' = some (.slice e')) ∨ P.underlying t' = some .string)
    (hlen : (Builtin.lenOf x').run P W = .ok n W) (hfc : ∀ W' : World, W'.heap = W.heap → (Builtin.firstCells sz n x').run P W' = .ok vs W') (hroom : l + n ≤ c) (hb : W.heap[b]? = some (.cells cur e fr)) (hfr : fr.1 = fr.2 ∨ cur.size ≤ fr.1) (hfit : l * sz + vs.size ≤ cur.size) (h1 : ∀ v ∈ vs.toList, v.oneCell' = true) :
    ∃ W', (Builtin.append_ #[t, t'] ty #[.slice (some ⟨b, 0, none⟩) l c, x']).run P W = .ok (.slice (some ⟨b, 0, none⟩) (l + n) c) W' ∧ W'.os = W.os ∧ W'.tape = W.tape ∧ W'.output = W.output ∧ W'.heap.size = W.heap.size ∧ (∀ k, k ≠ b → W'.heap[k]? = W.heap[k]?) ∧ W'.heap[b]? = some (.cells (setCells cur.toList (l * sz) vs.toList).toArray e fr) := by
  have hfc0 := hfc W rfl
  obtain ⟨W', hr, k1, k2, k3, k4, k5, k6⟩ := run_storeCells_own (P := P) (o := l * sz) vs.toList 0 cur W hb hfr (by simpa using hfit) h1
  simp only [Nat.add_zero] at k6
  refine ⟨W', ?_, k1, k2, k3, k4, k5, k6⟩
  have ha : (⟨b, 0, none⟩ : Addr).add (l * sz) = ⟨b, l * sz, none⟩ := by rw [add_at, Nat.zero_add]
  rcases hty with ⟨e', hu'⟩ | hu' <;> simp [Builtin.append_, run_under hu, run_under hu', run_sizeOf hs, hlen, hroom, hfc0, ha, hr]
theorem run_app_grow {e ty t' : TypeId} {sz n l c b : Nat} {i : TypeInfo} {z x' : Value} {olds vs : Array Value} (hu : P.underlying t = some (.slice e)) (hs : szO P e = some sz) (hi : P.info? e = some i) (hz : zeroO P e = some z) (hty : (∃ e', P.underlying t' = some (.slice e')) ∨ P.underlying t' = some .string)
    (hlen : (Builtin.lenOf x').run P W = .ok n W) (hfc : ∀ W' : World, W'.heap = W.heap → (Builtin.firstCells sz n x').run P W' = .ok vs W') (hold : ∀ W' : World, W'.heap = W.heap → (Builtin.firstCells sz l (.slice (some ⟨b, 0, none⟩) l c)).run P W' = .ok olds W')
    (hroom : ¬ l + n ≤ c) (hb : (l + n) * i.bytes ≤ 140737488355328) (hn : l + n ≤ 140737488355328) :
    (Builtin.append_ #[t, t'] ty #[.slice (some ⟨b, 0, none⟩) l c, x']).run P W = .ok (.slice (some ⟨W.heap.size, 0, none⟩) (l + n) (grownCap W (l + n) c e)) { W with heap := W.heap.push (.cells (olds ++ vs ++ Builtin.zeroCells z.cells (grownCap W (l + n) c e - (l + n))) e (0, 0)), drawn := W.drawn + 1 } := by
  have hfc1 := hfc W.drew rfl
  have hold1 := hold W.drew rfl
  have hfit : Builtin.nextslicecap (l + n) c * i.bytes ≤ 281474976710656 := growslice_fits (by omega) hb
  have hfit' : ¬ (281474976710656 < Builtin.nextslicecap (l + n) c * i.bytes) := by omega
  have h63' : ¬ (9223372036854775807 < ((l : Int) + (n : Int))) := by omega
  rcases hty with ⟨e', hu'⟩ | hu' <;> simp [Builtin.append_, run_under hu, run_under hu', run_sizeOf hs, hlen, hroom, typeInfo, hi, hfit', h63', Question.forced, hfc1, hold1, run_zeroValue hz, newRow, grownCap] <;> rfl
theorem append_sim (R : Rel P W0 m h W) {ty t' : TypeId} {s s' x x' : Value} (hs' : VR W0.heap.size m s s') (hx : VR W0.heap.size m x x') (hw : wAppend P W0 t t' s x h K) : Sim P W0 m W (Builtin.append_ #[t, t'] ty #[s', x']) K := by
  obtain ⟨e, sz, by_, n, vs, z, hu, hs, hsz, hb, hz, hzs, hn, hw⟩ := hw
  obtain ⟨vs', hv, hvl, h1, hlen, hty, hfc⟩ := news_run R hx hn
  have h1' := hv.one h1
  obtain ⟨i, hi, rfl⟩ := Option.map_eq_some_iff.1 hb
  -- a new row, of whatever capacity
  have fresh : ∀ (cap l : Nat) (xs xs' : List Value) (hh : Hp) (RR : Rel P W0 m hh W), VRs W0.heap.size m xs xs' → xs.length = l * sz → (∀ v ∈ xs, v.oneCell' = true) → l ≤ cap → cap ≤ maxLen →
      Rel P W0 (m ++ [(W.heap.size, cap)]) (hh ++ [.cells e xs]) { W with heap := W.heap.push (.cells (xs'.toArray ++ Builtin.zeroCells z.cells (cap - l)) e (0, 0)), drawn := W.drawn + 1 } := by
    intro cap l xs xs' hh RR hx0 hl0 ho hc0 hc1
    have := push_cells (RR.drew) (xs := xs) (cur := xs'.toArray ++ Builtin.zeroCells z.cells (cap - l)) (fr := (0, 0)) (c := cap) hs (by simp only [Array.size_append, List.size_toArray, size_zeroCells, hzs, ← hx0.1, hl0, ← Nat.add_mul]; congr 1; omega) hc1 (.inl rfl) (by simp [← hx0.1]) (by
      simp only [Array.toList_append, List.toList_toArray]
      rw [List.take_append_of_le_length (by rw [hx0.1]; exact Nat.le_refl _), List.take_of_length_le (by rw [hx0.1]; exact Nat.le_refl _)]; exact hx0) ho
    exact this
  have hcap : ∀ need old : Nat, need ≤ 140737488355328 → need ≤ grownCap W need old e ∧ grownCap W need old e ≤ maxLen := fun need old h0 => ⟨grownCap_ge W need old e, grownCap_le_maxLen W need old e (by simp only [maxLen]; omega)⟩
  rcases hw with ⟨rfl, hb1, hb2, hK0, hK1⟩ | ⟨j, l, xs, rfl, hj, hxl, hb1, hb2, hK⟩
  · obtain rfl := hs'.snil_inv
    have hr := run_app_nil (ty := ty) hu hs hi hz hty hlen hfc hb1 hb2
    by_cases h0 : n = 0
    · exact ⟨_, h, m, _, W, hK0 h0, List.prefix_rfl, R, .atom rfl, hr.1 h0⟩
    · have hg := hcap n 0 hb2
      exact ⟨_, _, m ++ [(W.heap.size, grownCap W n 0 e)], _, _, hK1 h0, List.prefix_append _ _, fresh _ n vs vs' h R hv hvl h1 hg.1 hg.2, new_sl R _ n hg.1, hr.2 h0⟩
  · obtain ⟨b, cb, c', _, rfl, hm, hc0, hle⟩ := hs'.own_inv
    obtain rfl := hc0 rfl
    obtain ⟨b', c2, cur, fr, i', g1, g2, g3, g4, g5, g6, g7, g8, g9⟩ := R.blk j e xs hj
    rw [hm] at g1; cases g1
    rw [hi] at g3; cases g3
    have hszi : sz = i.size := by
      unfold szO at hs; rw [hi] at hs; simpa using hs.symm
    subst hszi
    by_cases hroom : l + n ≤ c'
    · have hfit : l * i.size + vs'.toArray.size ≤ cur.size := by
        simp only [List.size_toArray, ← hv.1, hvl, g4, ← Nat.add_mul]
        exact Nat.mul_le_mul_right _ hroom
      obtain ⟨W', hr, k1, k2, k3, k4, k5, k6⟩ := run_app_room (ty := ty) (l := l) (c := c') hu hs hty hlen hfc hroom g2 g6 hfit (by simpa using h1')
      have hle2 : l * i.size + vs'.length ≤ cur.size := by simpa using hfit
      refine ⟨_, _, m ++ [(b, c')], .slice (some ⟨b, 0, none⟩) (l + n) c', W', hK, List.prefix_append _ _, ?_, ?_, hr⟩
      · -- the new block is the old one, grown
        have hjl := (List.getElem?_eq_some_iff.1 hj).1
        have hat := R.at_ j b c' hm
        have hpre : m <+: m ++ [(b, c')] := List.prefix_append _ _
        have hkill := R.kill j
        refine ⟨by simp [R.len], R.below.trans ⟨k1, k2, k3, by omega, fun k hk => k5 k (by omega)⟩, fun j' b' cc hj' => ?_, fun j' e' ys hj' => ?_, fun j' s p hj' => ?_, fun j1 j2 b' c1 c2 e1 e2 hd hd' => ?_⟩
        · rw [getElem?_snoc] at hj'
          rw [k4]
          split at hj'
          · exact R.at_ j' b' cc hj'
          · split at hj'
            · cases hj'; exact hat
            · cases hj'
        · rw [getElem?_snoc] at hj'
          split at hj'
          · obtain ⟨b2, c3, cur2, fr2, i2, q1, q2, q3⟩ := hkill.blk j' e' ys hj'
            have hne : b2 ≠ b := by
              rintro rfl
              have hjj : (h[j']? : Option Blk) = some (.cells e' ys) := by
                rw [List.getElem?_set] at hj'
                by_cases he : j = j'
                · subst he; simp only [if_true, hjl] at hj'; cases hj'
                · simpa [he] using hj'
              have := R.inj j' j b2 c3 c' q1 hm ⟨_, hjj, by simp⟩ ⟨_, hj, by simp⟩
              subst this
              rw [List.getElem?_set] at hj'
              simp only [if_true, hjl] at hj'; cases hj'
            obtain ⟨w1, w2, w3, w4, w5, w6, w7⟩ := q3
            exact ⟨b2, c3, cur2, fr2, i2, prefix_get hpre q1, (k5 b2 hne).trans q2, w1, w2, w3, w4, w5, w6.mono hpre, w7⟩
          · split at hj'
            · rename_i he
              cases hj'
              have hxv : (xs ++ vs).length = (l + n) * i.size := by rw [List.length_append, hxl, hvl, Nat.add_mul]
              have hcl : (setCells cur.toList (l * i.size) vs'.toArray.toList).length = cur.size := by
                rw [setCells_length _ _ _ (by simpa using hle2)]; simp
              refine ⟨b, c', _, fr, i, ?_, k6, hi, by simpa using hcl.trans g4, g5, ?_, ?_, ?_, ?_⟩
              · rw [he]; simp [R.len]
              · simp only [List.size_toArray, hcl]; exact g6
              · simp only [List.size_toArray, hcl]; rw [hxv, g4]; exact Nat.mul_le_mul_right _ hroom
              · refine VRs.mono ?_ hpre
                simp only [List.toList_toArray]
                rw [hxv, Nat.add_mul, ← hvl, hv.1, setCells_take _ _ _ _ (Nat.le_refl _) (by simpa using hle2)]
                unfold setCells
                rw [List.take_take, Nat.min_eq_left (Nat.le_add_right _ _), List.drop_eq_nil_of_le (by simp; omega), List.append_nil]
                rw [hxl] at g8
                exact g8.append hv
              · intro v hv'
                rcases List.mem_append.1 hv' with hv' | hv'
                · exact g9 v hv'
                · exact h1 v hv'
            · cases hj'
        · rw [getElem?_snoc] at hj'
          split at hj'
          · obtain ⟨b2, c3, q1, q2⟩ := hkill.itr j' s p hj'
            have hne : b2 ≠ b := by
              rintro rfl
              rw [g2] at q2; cases q2
            exact ⟨b2, c3, prefix_get hpre q1, (k5 b2 hne).trans q2⟩
          · split at hj' <;> cases hj'
        · -- no two live blocks are one
          have live : ∀ q : Nat, (∃ x, (h.set j .dead ++ [Blk.cells e (xs ++ vs)])[q]? = some x ∧ x ≠ .dead) → (q < h.length ∧ q ≠ j ∧ ∃ x, h[q]? = some x ∧ x ≠ .dead) ∨ q = h.length := by
            rintro q ⟨x, hx, hne⟩
            rw [getElem?_snoc, List.length_set] at hx
            split at hx
            · rename_i hq
              rw [List.getElem?_set] at hx
              by_cases he : j = q
              · subst he; simp only [if_true, hjl] at hx; cases hx; exact absurd rfl hne
              · simp only [he, if_false] at hx; exact .inl ⟨hq, fun e => he e.symm, x, hx, hne⟩
            · split at hx
              · rename_i he; exact .inr he
              · cases hx
          have gm : ∀ (q bb cc : Nat), (m ++ [(b, c')])[q]? = some (bb, cc) → q < h.length → m[q]? = some (bb, cc) := by
            intro q bb cc hq hlt
            rwa [getElem?_snoc, R.len, if_pos hlt] at hq
          have gn : ∀ (bb cc : Nat), (m ++ [(b, c')])[h.length]? = some (bb, cc) → bb = b := by
            intro bb cc hq
            rw [getElem?_snoc, R.len, if_neg (by omega), if_pos rfl] at hq
            cases hq; rfl
          rcases live j1 hd with ⟨l1, n1, d1⟩ | l1 <;> rcases live j2 hd' with ⟨l2, n2, d2⟩ | l2
          · exact R.inj j1 j2 b' c1 c2 (gm _ _ _ e1 l1) (gm _ _ _ e2 l2) d1 d2
          · subst l2
            obtain rfl := gn _ _ e2
            exact absurd (R.inj j1 j b' c1 c' (gm _ _ _ e1 l1) hm d1 ⟨_, hj, by simp⟩) n1
          · subst l1
            obtain rfl := gn _ _ e1
            exact absurd (R.inj j2 j b' c2 c' (gm _ _ _ e2 l2) hm d2 ⟨_, hj, by simp⟩) n2
          · rw [l1, l2]
      · refine .sl (c := c') ?_ (fun _ => rfl) hroom
        rw [← R.len]; simp
    · have hold : ∀ W' : World, W'.heap = W.heap → (Builtin.firstCells i.size l (.slice (some ⟨b, 0, none⟩) l c')).run P W' = .ok (cur.toList.take xs.length).toArray W' := by
        intro W' hW
        have hlen' : (cur.toList.take xs.length).length = l * i.size := by rw [← g8.1, hxl]
        have := run_loadCells_list (P := P) W' ⟨b, 0, none⟩ (cur.toList.take xs.length) (fun q v hq => by
          rw [add_at, Nat.zero_add]
          have hc := cell_of_row W' b q cur e fr (by rw [hW]; exact g2)
          rw [hc]
          rw [List.getElem?_take] at hq
          split at hq
          · simpa using hq
          · cases hq)
        rw [hlen'] at this
        simpa [Builtin.firstCells] using this
      have hr := run_app_grow (ty := ty) (l := l) (c := c') hu hs hi hz hty hlen hfc hold hroom hb1 hb2
      have hg := hcap (l + n) c' hb2
      refine ⟨_, _, m ++ [(W.heap.size, grownCap W (l + n) c' e)], _, _, hK, List.prefix_append _ _, ?_, ?_, hr⟩
      · have := fresh (grownCap W (l + n) c' e) (l + n) (xs ++ vs) (cur.toList.take xs.length ++ vs') _ (R.kill j) (g8.append hv) (by rw [List.length_append, hxl, hvl, Nat.add_mul]) (fun v hv' => by
          rcases List.mem_append.1 hv' with hv' | hv'
          · exact g9 v hv'
          · exact h1 v hv') hg.1 hg.2
        simpa using this
      · have := new_sl (R.kill j) (grownCap W (l + n) c' e) (l + n) hg.1
        simpa using this
end
end Go.Proofs.AbM
