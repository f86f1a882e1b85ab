/- Each operation of the abstract machine is followed by the world's own: the second part. -/
import Derived.Test.YtbmidddpddiopaaDoorAbSim
import Derived.Laws.BytesArg
set_option linter.unusedVariables false
set_option linter.unusedSimpArgs false
namespace Go.Proofs.AbM
open Go.RowKit

section
variable {P : Program} {W0 W : World} {m : List (Nat × Nat)} {h : Hp} {K : Value → Hp → Prop} {t : TypeId}
theorem field_sim (R : Rel P W0 m h W) {va va' : Value} {f : Nat} (hv : VR W0.heap.size m va va') (hw : wField P t va f h K) : Sim P W0 m W (Instr.fieldAt t va' f) K := by
  obtain ⟨fs, fd, n, ad, hu, hf, hs, hn, rfl, hK⟩ := hw
  obtain ⟨ad', rfl, ha⟩ := hv.ptr_inv
  refine ⟨_, h, m, .pointer (some (ad'.add fd.offset)), W, hK, List.prefix_rfl, R, (ha.add _).ptr, ?_⟩
  simp [Instr.fieldAt, Instr.sureAddr, run_under hu, hf, fieldPlace, run_sizeOf hs, hn]
theorem fieldV_sim (R : Rel P W0 m h W) {v v' : Value} {f : Nat} (hv : VR W0.heap.size m v v') (hw : wFieldV P t v f h K) : Sim P W0 m W (Instr.field t v' f) K := by
  obtain ⟨fs, fd, cs, u, hu, hf, rfl, hp, hK⟩ := hw
  obtain ⟨cs', rfl, hc⟩ := hv.agg_inv
  obtain ⟨u', h1, h2⟩ := part_rel hc hp
  refine ⟨_, h, m, u', W, hK, List.prefix_rfl, R, h2, ?_⟩
  simp [Instr.field, run_under hu, hf, asAgg, run_part h1]
theorem ixAddr_sim (R : Rel P W0 m h W) {x x' ix ix' : Value} (hx : VR W0.heap.size m x x') (hi : VR W0.heap.size m ix ix') (hw : wIxAddr P t x ix h K) : Sim P W0 m W (Instr.indexAt t x' ix') K := by
  obtain ⟨k, i, rfl, hw⟩ := hw
  obtain rfl := hi.int_inv
  rcases hw with ⟨e, a, n, c, sz, hu, rfl, hs, h0, h1, hK⟩ | ⟨e, a, n, sz, hu, rfl, hs, h0, h1, hK⟩
  · obtain ⟨a', c', rfl, ha⟩ : ∃ a' c', x' = .slice (some a') n c' ∧ AR W0.heap.size m a a' := by
      rcases hx.slice_inv with ⟨h1, rfl⟩ | ⟨j, o, b, cb, c', rfl, rfl, rfl, hm, _, _⟩ | ⟨rfl, rfl, rfl, _⟩
      · exact ⟨a, c, rfl, .inl ⟨h1, rfl⟩⟩
      · exact ⟨_, c', rfl, .inr ⟨j, o, b, cb, rfl, rfl, hm⟩⟩
      · omega
    refine ⟨_, h, m, .pointer (some (a'.add (i.toNat * sz))), W, hK, List.prefix_rfl, R, (ha.add _).ptr, ?_⟩
    simp [Instr.indexAt, asIntOf, run_under hu, run_sizeOf hs, h0, h1]
  · obtain ⟨a', rfl, ha⟩ := hx.ptr_inv
    refine ⟨_, h, m, .pointer (some (a'.add (i.toNat * sz))), W, hK, List.prefix_rfl, R, (ha.add _).ptr, ?_⟩
    simp [Instr.indexAt, Instr.sureAddr, asIntOf, run_under hu, run_sizeOf hs, h0, h1]
theorem ix_sim (R : Rel P W0 m h W) {x x' ix ix' : Value} (hx : VR W0.heap.size m x x') (hi : VR W0.heap.size m ix ix') (hw : wIx P t x ix h K) : Sim P W0 m W (Instr.index t x' ix') K := by
  obtain ⟨k, i, rfl, h0, hw⟩ := hw
  obtain rfl := hi.int_inv
  rcases hw with ⟨e, cs, n, sz, u, hu, rfl, hs, h1, hp, hK⟩ | ⟨s, b, hu, rfl, hb, hK⟩
  · obtain ⟨cs', rfl, hc⟩ := hx.agg_inv
    obtain ⟨u', g1, g2⟩ := part_rel hc hp
    refine ⟨_, h, m, u', W, hK, List.prefix_rfl, R, g2, ?_⟩
    simp [Instr.index, asIntOf, run_under hu, run_sizeOf hs, h0, h1, run_part g1]
  · obtain rfl := hx.string_inv
    refine ⟨_, h, m, _, W, hK, List.prefix_rfl, R, .atom rfl, ?_⟩
    simp [Instr.index, asIntOf, run_under hu, h0, hb]
theorem bnd_some {d i : Int} {v v' : Value} (hb : bnd d (some v) i) (hv : VR W0.heap.size m v v') : ∃ k, v' = .int k i := by
  cases v <;> simp only [bnd] at hb
  subst hb
  exact ⟨_, hv.int_inv⟩
/-- The bounds, as the world reckons them. -/
theorem bounds_run {isS : Bool} {len cap : Nat} {l r : Int} {lo hi lo' hi' : Option Value} (hlo : bnd 0 lo l) (hhi : bnd len hi r) (h0 : 0 ≤ l) (h1 : l ≤ r) (h2 : r ≤ cap)
    (e1 : (lo = none ∧ lo' = none) ∨ ∃ v v', lo = some v ∧ lo' = some v' ∧ VR W0.heap.size m v v') (e2 : (hi = none ∧ hi' = none) ∨ ∃ v v', hi = some v ∧ hi' = some v' ∧ VR W0.heap.size m v v') :
    (Instr.sliceBounds isS len cap lo' hi' none).run P W = .ok (l.toNat, r.toNat, cap) W := by
  have hl : lo' = none ∧ l = 0 ∨ ∃ k, lo' = some (.int k l) := by
    rcases e1 with ⟨rfl, rfl⟩ | ⟨v, v', rfl, rfl, hv⟩
    · exact .inl ⟨rfl, hlo⟩
    · obtain ⟨k, rfl⟩ := bnd_some hlo hv; exact .inr ⟨k, rfl⟩
  have hh : hi' = none ∧ r = len ∨ ∃ k, hi' = some (.int k r) := by
    rcases e2 with ⟨rfl, rfl⟩ | ⟨v, v', rfl, rfl, hv⟩
    · exact .inl ⟨rfl, hhi⟩
    · obtain ⟨k, rfl⟩ := bnd_some hhi hv; exact .inr ⟨k, rfl⟩
  rcases hl with ⟨rfl, rfl⟩ | ⟨k, rfl⟩ <;> rcases hh with ⟨rfl, rfl⟩ | ⟨k', rfl⟩
  · simp [Instr.sliceBounds]
  · simp [Instr.sliceBounds, Instr.sliceBound, asIntOf, h1, h2]
  · simp [Instr.sliceBounds, Instr.sliceBound, asIntOf, h0, h1]
  · have h01 : 0 ≤ r := by omega
    have hm : max r 0 = r := by omega
    simp [Instr.sliceBounds, Instr.sliceBound, asIntOf, h0, h1, h2, h01, hm]
theorem slice_sim (R : Rel P W0 m h W) {x x' : Value} {lo hi lo' hi' : Option Value} (hx : VR W0.heap.size m x x') (e1 : (lo = none ∧ lo' = none) ∨ ∃ v v', lo = some v ∧ lo' = some v' ∧ VR W0.heap.size m v v') (e2 : (hi = none ∧ hi' = none) ∨ ∃ v v', hi = some v ∧ hi' = some v' ∧ VR W0.heap.size m v v')
    (hw : wSlice P W0 t x lo hi h K) : Sim P W0 m W (Instr.sliceAt t x' lo' hi' none) K := by
  cases x with
  | string s =>
    obtain ⟨hu, l, r, h1, h2, h3, h4, h5, hK⟩ := hw
    obtain rfl := hx.string_inv
    have hb := bounds_run (P := P) (W := W) (isS := false) (cap := s.size) h1 h2 h3 h4 h5 e1 e2
    refine ⟨_, h, m, _, W, hK, List.prefix_rfl, R, .atom rfl, ?_⟩
    simp [Instr.sliceAt, Instr.slice, run_under hu, hb]
  | slice a n c =>
    obtain ⟨e, sz, hu, hs, hsz, l, r, h1, h2, h3, h4, hw⟩ := hw
    cases a with
    | none =>
      obtain ⟨h5, hK⟩ := hw
      obtain rfl := hx.snil_inv
      have hb := bounds_run (P := P) (W := W) (isS := true) (cap := c) h1 h2 h3 h4 h5 e1 e2
      refine ⟨_, h, m, .slice none (r.toNat - l.toNat) (c - l.toNat), W, hK, List.prefix_rfl, R, ?_, ?_⟩
      · rw [show (r - l).toNat = r.toNat - l.toNat by omega]; exact .atom rfl
      · simp [Instr.sliceAt, Instr.slice, run_under hu, hb, run_sizeOf hs]
    | some a =>
      rcases hw with ⟨hlt, hsp, h5, hK⟩ | ⟨j, o, rfl, rfl, h5, hK1, hK2⟩ | ⟨rfl, rfl, rfl, h5, hK⟩
      · have hx' : x' = .slice (some a) n c := by
          rcases hx.slice_inv with ⟨_, rfl⟩ | ⟨j, o, b, cb, c', rfl, _⟩ | ⟨rfl, _⟩
          · rfl
          · exact absurd (show W0.heap.size + j < W0.heap.size from hlt) (by omega)
          · cases hsp
        subst hx'
        have hb := bounds_run (P := P) (W := W) (isS := true) (cap := c) h1 h2 h3 h4 h5 e1 e2
        refine ⟨_, h, m, .slice (some (if (c : Int) = l then a else a.add (l.toNat * sz))) (r.toNat - l.toNat) (c - l.toNat), W, hK, List.prefix_rfl, R, ?_, ?_⟩
        · rw [show (r - l).toNat = r.toNat - l.toNat by omega]
          refine .atom ?_
          simp only [lowA, decide_eq_true_eq]
          split <;> simp [add_blk, hlt]
        · simp only [Instr.sliceAt, Instr.slice, Sem.run_bind, run_under hu, Result.andThen_ok, hb, run_sizeOf hs, Sem.run_pure]
          congr 2
          by_cases hc : (c : Int) = l
          · rw [if_pos (show c = l.toNat by omega), if_pos hc]
          · rw [if_neg (show ¬ c = l.toNat by omega), if_neg hc]; rfl
      · obtain ⟨b, cb, c', _, rfl, hm, hc0, hle⟩ := hx.own_inv
        have hb := bounds_run (P := P) (W := W) (isS := true) (len := c) (cap := c') h1 h2 h3 h4 (by omega) e1 e2
        have hrun : (Instr.sliceAt t (.slice (some ⟨b, o, none⟩) c c') lo' hi' none).run P W = .ok (.slice (if c' = l.toNat then some ⟨b, o, none⟩ else some ((⟨b, o, none⟩ : Addr).add (l.toNat * sz))) (r.toNat - l.toNat) (c' - l.toNat)) W := by
          simp only [Instr.sliceAt, Instr.slice, Sem.run_bind, run_under hu, Result.andThen_ok, hb, run_sizeOf hs, Sem.run_pure]
          rfl
        by_cases hlr : l < r
        · rw [if_neg (by omega), add_at] at hrun
          refine ⟨_, h, m, _, W, hK1 hlr, List.prefix_rfl, R, ?_, hrun⟩
          rw [show (r - l).toNat = r.toNat - l.toNat by omega]
          refine .sl hm (fun h0 => ?_) (by omega)
          have : l.toNat * sz = 0 := by omega
          rcases Nat.mul_eq_zero.1 this with h' | h'
          · rw [hc0 (by omega), h']; rfl
          · omega
        · have hlr' : l = r := by omega
          refine ⟨_, h, m, _, W, hK2 hlr', List.prefix_rfl, R, ?_, hrun⟩
          subst hlr'
          rw [Nat.sub_self]
          split <;> exact .emp
      · obtain ⟨a', c', rfl⟩ : ∃ a' c', x' = .slice (some a') 0 c' := by
          rcases hx.slice_inv with ⟨_, rfl⟩ | ⟨j, o, b, cb, c', he, _⟩ | ⟨_, _, _, a', c', rfl⟩
          · exact ⟨_, _, rfl⟩
          · exact absurd (congrArg Addr.spot he) (by simp [emptyAt])
          · exact ⟨_, _, rfl⟩
        obtain rfl : l = 0 := by omega
        obtain rfl : r = 0 := by omega
        have hb := bounds_run (P := P) (W := W) (isS := true) (len := 0) (cap := c') h1 h2 h3 h4 (by omega) e1 e2
        refine ⟨_, h, m, .slice (if c' = (0 : Int).toNat then some a' else some (a'.add ((0 : Int).toNat * sz))) 0 (c' - (0 : Int).toNat), W, hK, List.prefix_rfl, R, ?_, ?_⟩
        · split <;> exact .emp
        · simp only [Instr.sliceAt, Instr.slice, Sem.run_bind, run_under hu, Result.andThen_ok, hb, run_sizeOf hs, Sem.run_pure]
          rfl
  | _ => exact hw.elim
theorem make_sim (R : Rel P W0 m h W) {l l' c c' : Value} (hl : VR W0.heap.size m l l') (hc : VR W0.heap.size m c c') (hw : wMake P W0 t l c h K) : Sim P W0 m W (Instr.makeSlice t l' c') K := by
  obtain ⟨k, k', n, e, z, by_, rfl, rfl, hu, hz, hs, hone, hcl, hb, hb1, hb2, hK⟩ := hw
  obtain rfl := hl.int_inv
  obtain rfl := hc.int_inv
  obtain ⟨i, hi, hb0⟩ := Option.map_eq_some_iff.1 hb
  have hzc : z.cells = #[z] := by cases z <;> first | rfl | simp [Value.oneCell'] at hone
  refine ⟨_, _, m ++ [(W.heap.size, n)], .slice (some ⟨W.heap.size, 0, none⟩) n n, { W with heap := W.heap.push (.cells (Array.replicate n z) e (0, 0)) }, hK, List.prefix_append _ _, ?_, new_sl R n n (Nat.le_refl _), ?_⟩
  · refine push_cells R hs (by simp) (by simp [maxLen]; omega) (.inl rfl) (by simp) ?_ (fun v hv => by rw [List.eq_of_mem_replicate hv]; exact hone)
    simp only [Array.toList_replicate, List.length_replicate, List.take_replicate, Nat.min_self]
    exact VRs.replicate (VR.clo 2 z hcl) n
  · have hw : ∀ k : Nat, k ≤ 140737488355328 → IntKind.i64.wrap (k : Int) = k := by
      intro k hk; rw [IntKind.wrap_i64]; omega
    have hnb : ¬ (281474976710656 < (i.bytes : Int) * (n : Int)) := by rw [hb0, ← Int.natCast_mul]; omega
    by_cases hn0 : n = 0
    · subst hn0
      have hw0 := hw 0 (by omega)
      simp only [Int.natCast_zero] at hw0
      simp [hw0, Instr.makeSlice, run_under hu, asInt, asIntOf, typeInfo, hi, hw, run_sizeOf hs, newRow]
      exact congrArg (fun c => W.alloc (Obj.cells c e)) (by apply Array.ext <;> simp)
    · have hmk : ((Array.range n).map fun i => z.cells[i % z.cells.size]!) = Array.replicate n z := by
        rw [hzc]
        apply Array.ext
        · simp
        · intro i h1 h2; simp [Nat.mod_one]
      have hlt : ¬ ((n : Int) < 0) := by omega
      simp [Instr.makeSlice, run_under hu, asInt, asIntOf, typeInfo, hi, hw n hb2, hnb, hlt, run_sizeOf hs, hn0, run_zeroValue hz, newRow, hmk]
end
end Go.Proofs.AbM
