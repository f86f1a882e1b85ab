/- The machine of values: each operation of the abstract machine asks no more. -/
import Derived.Test.YtbmidddpddiopaaDoorAbV2
set_option linter.unusedVariables false
set_option linter.unusedSimpArgs false
namespace Go.Proofs.AbM
open Go.RowKit
def VK (W0 : World) (C : Cx) (K : AV → VH → Prop) : Value → Hp → Prop := fun u h1 => ∃ v h C', K v h ∧ C.le C' ∧ VRel W0 C' h h1 ∧ RV W0 C' v u
section
variable {P : Program} {W0 : World} {C C' : Cx} {h : VH} {h1 : Hp} {K : AV → VH → Prop} {t : TypeId}
theorem VK.same (R : VRel W0 C h h1) {v : AV} {u : Value} (hv : RV W0 C v u) (hK : K v h) : VK W0 C K u h1 := ⟨v, h, C, hK, .refl C, R, hv⟩
theorem read_own {j b off : Nat} {e : TypeId} {cs : List AV} {us : List Value} (R : VRel W0 C h h1) (hb : h1[b]? = some (.cells e us)) (hr : RVs W0 C cs us) {K' : AV → Prop} (hw : vRead P t cs off K') (hK : ∀ v, K' v → K v h) :
    ∃ g, isAggO P t = some g ∧ (g = true → ∃ n cs, szO P t = some n ∧ rds W0 h1 ⟨W0.heap.size + b, off, none⟩ 0 n = some cs ∧ VK W0 C K (.agg cs.toArray) h1) ∧ (g = false → ∃ v, rd W0 h1 ⟨W0.heap.size + b, off, none⟩ = some v ∧ VK W0 C K v h1) := by
  obtain ⟨g, hg, k1, k2⟩ := hw
  refine ⟨g, hg, fun e => ?_, fun e => ?_⟩
  · obtain ⟨n, hn, hl, hk⟩ := k1 e
    refine ⟨n, _, hn, rds_own hb n off 0 (by have := hr.1; omega), .same R ?_ (hK _ hk)⟩
    exact ((hr.drop (off + 0)).take n).aggr
  · obtain ⟨v, hv, hk⟩ := k2 e
    obtain ⟨u, hu, hr2⟩ := hr.get hv
    exact ⟨u, by rw [rd_own hb]; exact hu, .same R hr2 (hK _ hk)⟩
theorem load_v (R : VRel W0 C h h1) {va : AV} {u : Value} (ha : RV W0 C va u) (hw : vLoad P t va h K) : wLoad P W0 t u h1 (VK W0 C K) := by
  cases va with
  | op j off =>
    obtain ⟨e, cs, hj, hw⟩ := hw
    obtain ⟨b, hb, _, hh⟩ := R.blk j e false cs hj
    obtain ⟨us, g1, g2, _⟩ := hh rfl
    refine ⟨_, ha.op_inv.2 b hb, read_own (j := j) R g1 g2 hw fun v hv => hv⟩
  | ip cs off =>
    obtain ⟨ad, us, rfl, hr, hz⟩ := ha.ip_inv
    have hw : vRead P t cs off (fun v => K v h) := hw
    obtain ⟨g, hg, k1, k2⟩ := hw
    refine ⟨_, rfl, g, hg, fun e => ?_, fun e => ?_⟩
    · obtain ⟨n, hn, hl, hk⟩ := k1 e
      have hr2 := (hr.drop off).take n
      have hlen : ((us.drop off).take n).length = n := by have := hr.1; rw [List.length_take, List.length_drop]; omega
      have := rds_pts (W0 := W0) (h1 := h1) (a := ad.add off) ((us.drop off).take n) 0 (fun k u hu => by
        rw [List.getElem?_take] at hu
        split at hu
        · rw [List.getElem?_drop] at hu
          rw [add_add', Nat.zero_add]
          exact zr_rd R (hz _ _ hu)
        · cases hu)
      rw [hlen] at this
      exact ⟨n, _, hn, this, .same R hr2.aggr hk⟩
    · obtain ⟨v, hv, hk⟩ := k2 e
      obtain ⟨u, hu, hr2⟩ := hr.get hv
      exact ⟨u, zr_rd R (hz _ _ hu), .same R hr2 hk⟩
  | _ => exact hw.elim
theorem store_v (R : VRel W0 C h h1) {va v : AV} {u w : Value} (ha : RV W0 C va u) (hv : RV W0 C v w) (hw : vStore P t va v h K) : wStore P W0 t u w h1 (VK W0 C K) := by
  cases va with
  | op j off =>
    obtain ⟨e, cs, hj, hp, hs, hl, ho, hK⟩ := hw
    obtain ⟨b, hb, _, hh⟩ := R.blk j e false cs hj
    obtain ⟨us, g1, g2, _⟩ := hh rfl
    have hc := hv.cells hp
    have hcl : v.cells.length = w.cells.size := by simpa using hc.1
    refine ⟨b, off, e, us, ha.op_inv.2 b hb, by rw [hs, hcl], g1, by have := g2.1; omega, hc.ones ho, _, _, C, hK, .refl C, R.set hj hb (g2.set hc off), .junk⟩
  | _ => exact hw.elim
theorem box_v (R : VRel W0 C h h1) {e : TypeId} {v : AV} {w : Value} (hv : RV W0 C v w) (hw : vBox P e v h K) : wBox P W0 e w h1 (VK W0 C K) := by
  obtain ⟨hp, hs, ho, hK⟩ := hw
  have hc := hv.cells hp
  have hcl : v.cells.length = w.cells.size := by simpa using hc.1
  refine ⟨by rw [hs, hcl], hc.ones ho, _, _, C.new (h1.length, false), hK C.N (R.lt _ (Nat.le_refl _)), C.new_le _, R.push hc, .op (Nat.lt_succ_self _) rfl fun b hb => ?_⟩
  rw [Cx.new_at] at hb; cases hb; rfl
theorem field_v (R : VRel W0 C h h1) {s : TypeId} {va : AV} {u : Value} {f : Nat} (ha : RV W0 C va u) (hw : vField P s va f h K) : wField P s u f h1 (VK W0 C K) := by
  obtain ⟨fs, fd, n, q1, q2, q3, q4, hw⟩ := hw
  cases va with
  | op j off =>
    obtain ⟨⟨e, cs, hj⟩, hK⟩ := hw
    obtain ⟨b, hb, _, hh⟩ := R.blk j e false cs hj
    have hu := ha.op_inv
    refine ⟨fs, fd, n, _, q1, q2, q3, q4, hu.2 b hb, .same R (.op hu.1 rfl fun b' hb' => ?_) hK⟩
    rw [hb] at hb'; cases hb'
    rw [add_at]
  | ip cs off =>
    obtain ⟨ad, us, rfl, hr, hz⟩ := ha.ip_inv
    refine ⟨fs, fd, n, _, q1, q2, q3, q4, rfl, .same R ?_ hw⟩
    rw [add_add']
    exact .ip hr.1 hz hr.2
  | _ => exact hw.elim
theorem part_v {cs : List AV} {us : Array Value} {off : Nat} {v : AV} (hr : RVs W0 C cs us.toList) (hp : partV P t cs off = some v) : ∃ u, partO P t us off = some u ∧ RV W0 C v u := by
  unfold partV at hp
  unfold partO
  split at hp
  · rename_i hg
    obtain ⟨n, hn, rfl⟩ := Option.map_eq_some_iff.1 hp
    rw [hg, hn]
    refine ⟨_, rfl, ?_⟩
    have := (hr.drop off).take n
    have he : us.extract off (off + n) = ((us.toList.drop off).take n).toArray := by
      apply Array.ext'
      simp [List.extract_eq_take_drop]
    show RV W0 C _ (Value.agg (us.extract off (off + n)))
    rw [he]
    exact this.aggr
  · rename_i hg
    obtain ⟨u, hu, hv⟩ := hr.get hp
    rw [hg]
    exact ⟨u, by simpa using hu, hv⟩
  · cases hp
theorem fieldV_v (R : VRel W0 C h h1) {s : TypeId} {va : AV} {u : Value} {f : Nat} (ha : RV W0 C va u) (hw : vFieldV P s va f h K) : wFieldV P s u f h1 (VK W0 C K) := by
  obtain ⟨fs, fd, cs, v, q1, q2, rfl, q3, hK⟩ := hw
  obtain ⟨us, rfl, hr⟩ := ha.agg_inv
  obtain ⟨u, hu, hv⟩ := part_v hr q3
  exact ⟨fs, fd, us, u, q1, q2, rfl, hu, .same R hv hK⟩
theorem ixAddr_v (R : VRel W0 C h h1) {x ix : AV} {u w : Value} (hx : RV W0 C x u) (hi : RV W0 C ix w) (hw : vIxAddr P t x ix h K) : wIxAddr P t u w h1 (VK W0 C K) := by
  obtain ⟨k, i, rfl, h0, e, sz, hsz, hw⟩ := hw
  obtain ⟨rfl, _⟩ := hi.sc_inv
  refine ⟨k, i, rfl, ?_⟩
  cases x with
  | isl nl n cs =>
    obtain ⟨hu, hlt, hK⟩ := hw
    obtain ⟨a, c, us, rfl, ha, _, hr, hz⟩ := hx.isl_inv
    rcases ha with ⟨_, rfl, _⟩ | ⟨_, rfl, _⟩ | ⟨ad, rfl, _⟩
    · omega
    · omega
    · refine .inl ⟨e, ad, n, c, sz, hu, rfl, hsz, h0, hlt, .same R (.ip hr.1 (fun i u hu => ?_) hr.2) hK⟩
      obtain ⟨ad', he, hz⟩ := hz i u hu
      cases he; exact hz
  | own j off n =>
    obtain ⟨hu, hlt, ⟨e', nl, cs, hj⟩, hK⟩ := hw
    obtain ⟨b, hb, hn, hh⟩ := R.blk j e' nl cs hj
    have hi := hx.own_inv
    cases nl with
    | true =>
      obtain ⟨rfl, rfl, rfl⟩ := hi.2.2 b hb
      omega
    | false =>
      have := hi.2.1 b hb
      subst this
      refine .inl ⟨e, _, n, n, sz, hu, rfl, hsz, h0, hlt, .same R (.op hi.1 rfl fun b' hb' => ?_) hK⟩
      rw [hb] at hb'; cases hb'
      rw [add_at]
  | op j off =>
    obtain ⟨n, hu, hlt, ⟨e', cs, hj⟩, hK⟩ := hw
    obtain ⟨b, hb, hn, hh⟩ := R.blk j e' false cs hj
    have hi := hx.op_inv
    have := hi.2 b hb
    subst this
    refine .inr ⟨e, _, n, sz, hu, rfl, hsz, h0, hlt, .same R (.op hi.1 rfl fun b' hb' => ?_) hK⟩
    rw [hb] at hb'; cases hb'
    rw [add_at]
  | ip cs off =>
    obtain ⟨n, hu, hlt, hK⟩ := hw
    obtain ⟨ad, us, rfl, hr, hz⟩ := hx.ip_inv
    refine .inr ⟨e, _, n, sz, hu, rfl, hsz, h0, hlt, .same R ?_ hK⟩
    rw [add_add']
    exact .ip hr.1 hz hr.2
  | _ => exact hw.elim
theorem ix_v (R : VRel W0 C h h1) {x ix : AV} {u w : Value} (hx : RV W0 C x u) (hi : RV W0 C ix w) (hw : vIx P t x ix h K) : wIx P t u w h1 (VK W0 C K) := by
  obtain ⟨k, i, rfl, h0, hw⟩ := hw
  obtain ⟨rfl, _⟩ := hi.sc_inv
  refine ⟨k, i, rfl, h0, ?_⟩
  cases x with
  | agg cs =>
    obtain ⟨e, n, sz, v, hu, hsz, hlt, hp, hK⟩ := hw
    obtain ⟨us, rfl, hr⟩ := hx.agg_inv
    obtain ⟨u, hu', hv⟩ := part_v hr hp
    exact .inl ⟨e, us, n, sz, u, hu, rfl, hsz, hlt, hu', .same R hv hK⟩
  | sc v =>
    obtain ⟨rfl, _⟩ := hx.sc_inv
    cases u with
    | string s =>
      obtain ⟨b, hu, hb, hK⟩ := hw
      exact .inr ⟨s, b, hu, rfl, hb, .same R (.sc rfl) hK⟩
    | _ => exact hw.elim
  | _ => exact hw.elim
theorem bnd_v {d : Int} {o : Option AV} {q : Option Value} {l : Int} (hb : bndV d o l) (ho : (o = none ∧ q = none) ∨ ∃ v u, o = some v ∧ q = some u ∧ RV W0 C v u) : bnd d q l := by
  rcases ho with ⟨rfl, rfl⟩ | ⟨v, u, rfl, rfl, hr⟩
  · exact hb
  · cases v with
    | sc w =>
      obtain ⟨rfl, _⟩ := hr.sc_inv
      cases u <;> first | exact hb | exact hb.elim
    | _ => exact hb.elim
theorem slice_v (R : VRel W0 C h h1) {x : AV} {u : Value} {lo hi : Option AV} {lo' hi' : Option Value} (hx : RV W0 C x u)
    (hlo : (lo = none ∧ lo' = none) ∨ ∃ v u, lo = some v ∧ lo' = some u ∧ RV W0 C v u) (hhi : (hi = none ∧ hi' = none) ∨ ∃ v u, hi = some v ∧ hi' = some u ∧ RV W0 C v u)
    (hw : vSlice P t x lo hi h K) : wSlice P W0 t u lo' hi' h1 (VK W0 C K) := by
  cases x with
  | sc v =>
    obtain ⟨rfl, _⟩ := hx.sc_inv
    cases u with
    | string s =>
      obtain ⟨hu, l, r, b1, b2, q1, q2, q3, hK⟩ := hw
      exact ⟨hu, l, r, bnd_v b1 hlo, bnd_v b2 hhi, q1, q2, q3, .same R (.sc rfl) hK⟩
    | _ => exact hw.elim
  | isl nl n cs =>
    obtain ⟨e, sz, hu, hsz, hz0, l, r, b1, b2, q1, q2, q3, hK⟩ := hw
    obtain ⟨a, c, us, rfl, ha, hnl, hr, hz⟩ := hx.isl_inv
    refine ⟨e, sz, hu, hsz, hz0, l, r, bnd_v b1 hlo, bnd_v b2 hhi, q1, q2, ?_⟩
    have hr2 := (hr.drop (l.toNat * sz)).take ((r - l).toNat * sz)
    rcases ha with ⟨rfl, rfl, rfl⟩ | ⟨rfl, rfl, rfl⟩ | ⟨ad, rfl, hsp, hnc, hor⟩
    · obtain rfl : r = 0 := by omega
      obtain rfl : l = 0 := by omega
      refine ⟨by omega, .same R ?_ hK⟩
      refine .isl (us := []) (.inl ⟨rfl, rfl, rfl⟩) hnl (by simp) (fun i u hu => by simp at hu) (fun i c u h1 h2 => by simp at h2)
    · obtain rfl : r = 0 := by omega
      obtain rfl : l = 0 := by omega
      refine .inr (.inr ⟨rfl, rfl, rfl, by omega, .same R ?_ hK⟩)
      refine .isl (us := []) (.inr (.inl ⟨rfl, rfl, rfl⟩)) hnl (by simp) (fun i u hu => by simp at hu) (fun i c u h1 h2 => by simp at h2)
    · have hel : ∀ (i : Nat) (u : Value), ((us.drop (l.toNat * sz)).take ((r - l).toNat * sz))[i]? = some u → zr W0 C ((ad.add (l.toNat * sz)).add i) = some u := by
        intro i u hu
        rw [List.getElem?_take] at hu
        split at hu
        · rw [List.getElem?_drop] at hu
          obtain ⟨ad', he, hz⟩ := hz _ _ hu
          cases he
          rw [add_add']; exact hz
        · cases hu
      by_cases hb : ad.block < W0.heap.size
      · refine .inl ⟨hb, hsp, by omega, .same R ?_ hK⟩
        by_cases hcl : (c : Int) = l
        · rw [if_pos hcl]
          have h0 : (r - l).toNat = 0 := by omega
          rw [h0, Nat.zero_mul, List.take_zero]
          exact .isl (us := []) (.inr (.inr ⟨ad, rfl, hsp, Nat.zero_le _, .inl hb⟩)) hnl rfl (fun i u hu => by simp at hu) (fun i c u h1 h2 => by simp at h2)
        · rw [if_neg hcl]
          refine .isl (.inr (.inr ⟨_, rfl, ?_, by omega, .inl (by rw [add_blk]; exact hb)⟩)) hnl hr2.1 (fun i u hu => ⟨_, rfl, hel i u hu⟩) hr2.2
          unfold Addr.add; split <;> first | exact hsp | rfl
      · have hc := hor.resolve_left hb
        subst hc
        obtain ⟨bl, o, sp⟩ := ad
        simp only at hsp hb
        subst hsp
        refine .inr (.inl ⟨bl - W0.heap.size, o, by congr 1; omega, rfl, q3, fun hlt => .same R ?_ hK, fun heq => .same R ?_ hK⟩)
        · refine .isl (.inr (.inr ⟨_, rfl, rfl, Nat.le_refl _, .inr rfl⟩)) hnl hr2.1 (fun i u hu => ⟨_, rfl, ?_⟩) hr2.2
          have := hel i u hu
          rw [add_at] at this
          rwa [show W0.heap.size + (bl - W0.heap.size) = bl by omega]
        · have h0 : (r - l).toNat = 0 := by omega
          rw [h0, Nat.zero_mul, List.take_zero]
          exact .isl (us := []) (.inr (.inl ⟨rfl, rfl, rfl⟩)) hnl rfl (fun i u hu => by simp at hu) (fun i c u h1 h2 => by simp at h2)
  | own j o n =>
    obtain ⟨e, sz, e', nl, cs, hu, hsz, hz0, hj, l, r, b1, b2, q1, q2, q3, k1, k2⟩ := hw
    obtain ⟨b, hb, hn, hh⟩ := R.blk j e' nl cs hj
    have hi := hx.own_inv
    cases nl with
    | true =>
      obtain ⟨rfl, rfl, rfl⟩ := hi.2.2 b hb
      obtain rfl : r = 0 := by omega
      obtain rfl : l = 0 := by omega
      refine ⟨e, sz, hu, hsz, hz0, 0, 0, bnd_v b1 hlo, bnd_v b2 hhi, q1, q2, by omega, .same R ?_ (k2 rfl)⟩
      exact .isl (us := []) (.inl ⟨rfl, rfl, rfl⟩) rfl (by simp) (fun i u hu => by simp at hu) (fun i c u h1 h2 => by simp at h2)
    | false =>
      have := hi.2.1 b hb
      subst this
      refine ⟨e, sz, hu, hsz, hz0, l, r, bnd_v b1 hlo, bnd_v b2 hhi, q1, q2, .inr (.inl ⟨b, o, rfl, rfl, q3, fun hlt => .same R (.own hi.1 rfl (fun b' hb' => ?_) fun b' hb' => ?_) (k1 hlt), fun heq => .same R ?_ (k2 heq)⟩)⟩
      · rw [hb] at hb'; cases hb'; rfl
      · rw [hb] at hb'; cases hb'
      · exact .isl (us := []) (.inr (.inl ⟨rfl, rfl, rfl⟩)) rfl (by simp) (fun i u hu => by simp at hu) (fun i c u h1 h2 => by simp at h2)
  | _ => exact hw.elim
/-- A new row of one's own. -/
theorem new_own (R : VRel W0 C h h1) {e : TypeId} {cs : List AV} {us : List Value} (hr : RVs W0 C cs us) {n : Nat} (hK : ∀ j, h j = none → K (.own j 0 n) (hset h j (.cells e false cs))) : VK W0 C K (.slice (some ⟨W0.heap.size + h1.length, 0, none⟩) n n) (h1 ++ [.cells e us]) := by
  refine ⟨_, _, C.new (h1.length, false), hK C.N (R.lt _ (Nat.le_refl _)), C.new_le _, R.push hr, .own (Nat.lt_succ_self _) rfl (fun b hb => ?_) fun b hb => ?_⟩
  · rw [Cx.new_at] at hb; cases hb; rfl
  · rw [Cx.new_at] at hb; cases hb
/-- .. that stays as it is. -/
theorem new_isl (R : VRel W0 C h h1) {e : TypeId} {cs : List AV} {us : List Value} (hr : RVs W0 C cs us) {n : Nat} (hK : K (.isl false n cs) h) : VK W0 C K (.slice (some ⟨W0.heap.size + h1.length, 0, none⟩) n n) (h1 ++ [.cells e us]) := by
  have R2 := R.push (e := e) hr
  have hz : (C.new (h1.length, false)).Z h1.length = none := R.zlt (Nat.le_refl _)
  have hx : (h1 ++ [Blk.cells e us])[h1.length]? = some (.cells e us) := by simp
  have R3 := R2.frz hz (C.new_at _) hx
  rw [hdel_hset (R.lt _ (Nat.le_refl _))] at R3
  have hle := (C.new_le (h1.length, false)).trans (R2.frz_le (j := C.N) hz (.cells e us))
  refine ⟨_, h, _, hK, hle, R3, .isl (.inr (.inr ⟨_, rfl, rfl, Nat.le_refl _, .inr rfl⟩)) rfl hr.1 (fun i u hu => ⟨_, rfl, ?_⟩) (hr.mono hle).2⟩
  rw [add_at]
  unfold zr
  rw [if_neg (by show ¬ W0.heap.size + h1.length < W0.heap.size; omega)]
  simp only [Option.isSome_none, Bool.false_eq_true, if_false, Nat.add_sub_cancel_left]
  simp [Cx.frz, hu]
theorem make_v (R : VRel W0 C h h1) {l c : AV} {u w : Value} (hl : RV W0 C l u) (hc : RV W0 C c w) (hw : vMake P t l c h K) : wMake P W0 t u w h1 (VK W0 C K) := by
  obtain ⟨k, k', n, e, z, by_, rfl, rfl, q1, q2, q3, q4, q5, q6, q7, hK⟩ := hw
  obtain ⟨rfl, _⟩ := hl.sc_inv
  obtain ⟨rfl, _⟩ := hc.sc_inv
  have hz : cloV 4 z = true := by
    cases z <;> first | (simp only [cloV]; exact q4) | simp [scV] at q4
  exact ⟨k, k', n, e, z, by_, rfl, rfl, q1, q2, q3, scV_one q4, scV_clo q4 1, q5, q6, q7, hK.elim (fun hK => new_own R (RVs.replicate (ofV_rel 4 z hz) n) hK) (fun hK => new_isl R (RVs.replicate (ofV_rel 4 z hz) n) hK)⟩
theorem vfold_rel (off : Nat) : ∀ (vs : List AV) (us : List Value) (j : Nat) (acc : List AV) (acc' : Array Value), RVs W0 C vs us → RVs W0 C acc acc'.toList →
    RVs W0 C ((vs.zipIdx j).foldl (fun a p => a.set (off + p.2) p.1) acc) ((us.zipIdx j).foldl (fun a (c, i) => a.setIfInBounds (off + i) c) acc').toList
  | [], us, j, acc, acc', h1, h2 => by
    have : us = [] := List.eq_nil_of_length_eq_zero h1.1.symm
    subst this; exact h2
  | v :: vs, us, j, acc, acc', h1, h2 => by
    obtain ⟨u, us', rfl, hc, hcs⟩ := h1.head
    simp only [List.zipIdx_cons, List.foldl_cons]
    refine vfold_rel off vs us' (j + 1) _ _ hcs ?_
    simp only [Array.toList_setIfInBounds]
    refine ⟨by simp [h2.1], fun i c w g1 g2 => ?_⟩
    rw [List.getElem?_set] at g1 g2
    by_cases hn : off + j = i
    · subst hn
      simp only [if_true] at g1 g2
      split at g1
      · rename_i hl; rw [if_pos (by rw [← h2.1]; exact hl)] at g2
        cases g1; cases g2; exact hc
      · cases g1
    · simp only [hn, if_false] at g1 g2
      exact h2.2 i c w g1 g2
def PVs (W0 : World) (C : Cx) (ps : List (Nat × AV)) (qs : List (Nat × Value)) : Prop := ps.length = qs.length ∧ ∀ (i : Nat) (p : Nat × AV) (q : Nat × Value), ps[i]? = some p → qs[i]? = some q → p.1 = q.1 ∧ RV W0 C p.2 q.2
theorem vfill_rel (place : Nat → Option (Nat × Nat)) : ∀ (ps : List (Nat × AV)) (qs : List (Nat × Value)) (cs r : List AV) (us : Array Value), PVs W0 C ps qs → RVs W0 C cs us.toList → vfill place cs ps = some r →
    ∃ r', Instr.fill place us qs = some r' ∧ RVs W0 C r r'.toList
  | [], qs, cs, r, us, hp, hc, hr => by
    have : qs = [] := List.eq_nil_of_length_eq_zero hp.1.symm
    subst this
    simp only [vfill, Option.some.injEq] at hr
    subst hr
    exact ⟨us, rfl, hc⟩
  | (i, v) :: ps, qs, cs, r, us, hp, hc, hr => by
    cases qs with
    | nil => have := hp.1; simp at this
    | cons q qs =>
      obtain ⟨i', u⟩ := q
      obtain ⟨he, hv⟩ := hp.2 0 (i, v) (i', u) rfl rfl
      simp only at he hv
      subst he
      have hps : PVs W0 C ps qs := ⟨by have := hp.1; simpa using this, fun q a b h1 h2 => hp.2 (q + 1) a b (by simpa using h1) (by simpa using h2)⟩
      simp only [vfill] at hr
      simp only [Instr.fill]
      cases hpl : place i with
      | none => rw [hpl] at hr; cases hr
      | some os =>
        obtain ⟨off, sz⟩ := os
        rw [hpl] at hr
        simp only at hr ⊢
        split at hr
        · rename_i hcond
          obtain ⟨c1, c2, c3⟩ := hcond
          have hvc := hv.cells c1
          have hvs : v.cells.length = u.cells.size := by simpa using hvc.1
          have hcs : cs.length = us.size := by simpa using hc.1
          rw [if_neg (by simp; omega)]
          refine vfill_rel place ps qs _ r _ hps ?_ hr
          rw [foldSet_arr]
          exact vfold_rel off _ _ 0 _ _ hvc hc
        · cases hr
theorem placesO_map : ∀ {fs : List Field} {ps : List (Nat × Nat)}, placesO P fs = some ps → (fs.map fun f => (szO P f.type).map fun n => (f.offset, n)) = ps.map some
  | [], ps, h => by simp only [placesO, Option.some.injEq] at h; subst h; rfl
  | f :: fs, ps, h => by
    simp only [placesO] at h
    split at h
    · rename_i n qs h1 h2
      cases h
      rw [List.map_cons, List.map_cons, placesO_map h2, h1]; rfl
    · cases h
theorem build_old {ps : List (Nat × AV)} (hw : vBuild P t ps h K) : vBuild0 P t ps h K := by
  obtain ⟨q, hq, cells, hf, hK⟩ := hw
  unfold bldO at hq
  split at hq
  · rename_i z hz
    split at hq
    · rename_i hc
      refine ⟨z, hz, hc, ?_⟩
      split at hq
      · rename_i fs hu
        obtain ⟨pl, hpl, rfl⟩ := Option.map_eq_some_iff.1 hq
        refine .inl ⟨fs, pl, cells, hu, placesO_map hpl, ?_, hK⟩
        rw [← hf]
        congr 1
        funext i; simp
      · rename_i n e hu
        obtain ⟨sz, hs, rfl⟩ := Option.map_eq_some_iff.1 hq
        refine .inr ⟨n, e, sz, cells, hu, hs, ?_, hK⟩
        have key : ∀ (ps : List (Nat × AV)) (cs r : List AV), vfill (((List.range n).map fun i => (i * sz, sz))[·]?) cs ps = some r → vfill (fun i => some (i * sz, sz)) cs ps = some r := by
          intro ps
          induction ps with
          | nil => exact fun cs r h => h
          | cons p ps ih =>
            obtain ⟨i, v⟩ := p
            intro cs r hr
            simp only [vfill] at hr ⊢
            rw [List.getElem?_map] at hr
            rcases Nat.lt_or_ge i n with hi | hi
            · rw [List.getElem?_range hi] at hr
              simp only [Option.map_some] at hr
              split at hr
              · rename_i hc; rw [if_pos hc]; exact ih _ _ hr
              · cases hr
            · rw [List.getElem?_eq_none (by simpa using hi)] at hr
              cases hr
        exact key _ _ _ hf
      · cases hq
    · cases hq
  · cases hq
theorem build_v (R : VRel W0 C h h1) {ps : List (Nat × AV)} {qs : List (Nat × Value)} (hp : PVs W0 C ps qs) (hw : vBuild P t ps h K) : wBuild P t qs h1 (VK W0 C K) := by
  have hw := build_old hw
  obtain ⟨z, hz, hc, hw⟩ := hw
  have hzc := (ofV_rel (W0 := W0) (C := C) 4 z hc).cells (ofV_parts 4 z)
  refine ⟨z, hz, cloV_clo 4 z hc, ?_⟩
  rcases hw with ⟨fs, places, cells, q1, q2, q3, hK⟩ | ⟨n, e, sz, cells, q1, q2, q3, hK⟩
  · obtain ⟨r, g1, g2⟩ := vfill_rel _ ps qs _ cells z.cells hp hzc q3
    exact .inl ⟨fs, places, r, q1, q2, g1, .same R (by have := g2.aggr; simpa using this) hK⟩
  · obtain ⟨r, g1, g2⟩ := vfill_rel _ ps qs _ cells z.cells hp hzc q3
    exact .inr ⟨n, e, sz, r, q1, q2, g1, .same R (by have := g2.aggr; simpa using this) hK⟩
theorem buildS_v (R : VRel W0 C h h1) {len : Nat} {ps : List (Nat × AV)} {qs : List (Nat × Value)} (hp : PVs W0 C ps qs) (hw : vBuildS P t len ps h K) : wBuildS P W0 t len qs h1 (VK W0 C K) := by
  obtain ⟨e, sz, z, cells, q1, q2, q3, q4, q5, q6, q7, q8, q9, q10, hK⟩ := hw
  have hzc := (ofV_rel (W0 := W0) (C := C) 4 z q6).cells (ofV_parts 4 z)
  have hzs : z.cells.size = sz := by have := hzc.1; rw [q7] at this; simpa using this.symm
  have hmk : RVs W0 C ((List.range (len * sz)).map fun i => (ofV 4 z).cells.getD (i % sz) .junk) ((Array.range (len * sz)).map (z.cells[· % z.cells.size]!)).toList := by
    refine ⟨by simp, fun i c u g1 g2 => ?_⟩
    simp only [List.getElem?_map, Array.toList_map, Array.toList_range] at g1 g2
    rcases Nat.lt_or_ge i (len * sz) with hi | hi
    · rw [List.getElem?_range hi] at g1 g2
      simp only [Option.map_some, Option.some.injEq] at g1 g2
      subst g1; subst g2
      have hm : i % sz < sz := Nat.mod_lt _ q3
      rw [hzs]
      have h1 : (ofV 4 z).cells[i % sz]? = some ((ofV 4 z).cells[i % sz]'(by omega)) := List.getElem?_eq_getElem _
      obtain ⟨w, hw1, hw2⟩ := hzc.get h1
      rw [List.getD_eq_getElem?_getD, h1, Option.getD_some]
      have : z.cells[i % sz]! = w := by
        rw [Array.getElem!_eq_getD, Array.getD_eq_getD_getElem?]
        have : z.cells[i % sz]? = some w := by simpa using hw1
        rw [this]; rfl
      rw [this]; exact hw2
    · rw [List.getElem?_eq_none (by simpa using hi)] at g1; cases g1
  obtain ⟨r, g1, g2⟩ := vfill_rel _ ps qs _ cells _ hp hmk q9
  refine ⟨e, sz, z, r, q1, q2, q3, q4, q5, cloV_clo 4 z q6, hzs, hzc.ones q8, g1, g2.ones q10, ?_⟩
  rcases hK with hK | hK
  · exact new_own R g2 hK
  · exact new_isl R g2 hK
theorem news_v (R : VRel W0 C h h1) {t' : TypeId} {sz n : Nat} {x : AV} {u : Value} {vs : List AV} (hx : RV W0 C x u) (hw : vNews P t' sz x h n vs) : ∃ us, newsO P W0 t' sz u h1 n us ∧ RVs W0 C vs us := by
  cases x with
  | isl nl n' cs =>
    obtain ⟨q1, rfl, q2, rfl⟩ := hw
    obtain ⟨a, c, us, rfl, ha, _, hr, hz⟩ := hx.isl_inv
    refine ⟨us, ?_, hr⟩
    have hl : us.length = n * sz := by rw [← hr.1]; exact q2
    cases a with
    | none =>
      have : n = 0 := by rcases ha with ⟨_, h0, _⟩ | ⟨h0, _⟩ | ⟨_, h0, _⟩ <;> first | exact h0 | cases h0
      subst this
      rw [Nat.zero_mul] at hl
      exact ⟨q1, rfl, rfl, List.eq_nil_of_length_eq_zero hl⟩
    | some a =>
      refine ⟨q1, rfl, ?_, ?_⟩
      · rcases ha with ⟨h0, _⟩ | ⟨_, h0, _⟩ | ⟨ad, h0, hh, _⟩
        · cases h0
        · exact .inl h0
        · cases h0; exact .inr hh
      · rw [← hl]
        refine rds_pts us 0 fun k u hu => ?_
        obtain ⟨ad, he, hz⟩ := hz k u hu
        cases he
        rw [Nat.zero_add]; exact zr_rd R hz
  | own j o n' =>
    obtain ⟨q1, rfl, e, nl, cs, hj, hl, rfl⟩ := hw
    obtain ⟨b, hb, hn, hh⟩ := R.blk j e nl cs hj
    have hi := hx.own_inv
    cases nl with
    | true =>
      obtain ⟨rfl, rfl, rfl⟩ := hi.2.2 b hb
      exact ⟨[], ⟨q1, rfl, rfl, rfl⟩, by simp; exact RVs.nil⟩
    | false =>
      obtain ⟨us, g1, g2, _⟩ := hh rfl
      have := hi.2.1 b hb
      subst this
      exact ⟨_, ⟨q1, rfl, .inr rfl, rds_own g1 _ _ _ (by have := g2.1; omega)⟩, by rw [Nat.add_zero]; exact (g2.drop o).take _⟩
  | sc v =>
    obtain ⟨rfl, _⟩ := hx.sc_inv
    cases u with
    | string s =>
      obtain ⟨q1, q2, q3, rfl⟩ := hw
      refine ⟨u8s s, ⟨q1, q2, q3, rfl⟩, RVs.of_sc fun v hv => ?_⟩
      simp only [u8s, List.mem_map] at hv
      obtain ⟨q, _, rfl⟩ := hv
      rfl
    | _ => exact hw.elim
  | _ => exact hw.elim
theorem append_v (R : VRel W0 C h h1) {t' : TypeId} {s x : AV} {u w : Value} (hs : RV W0 C s u) (hx : RV W0 C x w) (hw : vAppend P t t' s x h K) : wAppend P W0 t t' u w h1 (VK W0 C K) := by
  obtain ⟨e, sz, by_, n, vs, z, q1, q2, q3, q4, q5, q6, q7, hw⟩ := hw
  obtain ⟨us, hn, hr⟩ := news_v R hx q7
  refine ⟨e, sz, by_, n, us, z, q1, q2, q3, q4, q5, q6, hn, ?_⟩
  split at hw
  · rename_i ds
    obtain ⟨b1, b2, k1, k2⟩ := hw
    obtain ⟨a, c, ws, rfl, ha, hnl, _, _⟩ := hs.isl_inv
    cases a with
    | some a => cases hnl
    | none =>
      obtain rfl : c = 0 := by rcases ha with ⟨_, _, h0⟩ | ⟨h0, _⟩ | ⟨_, h0, _⟩ <;> first | exact h0 | cases h0
      refine .inl ⟨rfl, b1, b2, fun h0 => .same R ?_ (k1 h0), fun h0 => new_own R hr (k2 h0)⟩
      exact .isl (us := []) (.inl ⟨rfl, rfl, rfl⟩) rfl rfl (fun i u hu => by simp at hu) (fun i c u g1 g2 => by simp at g2)
  · rename_i j l
    obtain ⟨nl, cs, hj, hl, b1, b2, hK⟩ := hw
    obtain ⟨b, hb, hnn, hh⟩ := R.blk j e nl cs hj
    have hi := hs.own_inv
    have Rd := R.drop j
    have hN : hdel h j C.N = none := Rd.lt _ (Nat.le_refl _)
    cases nl with
    | true =>
      obtain ⟨rfl, _, rfl⟩ := hi.2.2 b hb
      have := hnn rfl
      subst this
      rw [Nat.zero_add] at b1 b2
      refine .inl ⟨rfl, b1, b2, fun h0 => ?_, fun h0 => ?_⟩
      · have hv : vs = [] := by
          have := hn
          have hlen : us.length = 0 := by
            subst h0
            cases w with
            | slice a q c => cases a with
              | none => obtain ⟨_, _, _, rfl⟩ := this; rfl
              | some a => obtain ⟨_, h5, _, h6⟩ := this; subst h5; rw [Nat.zero_mul] at h6; simp [rds] at h6; rw [h6]; rfl
            | string s => obtain ⟨_, _, h5, rfl⟩ := this; simp only [u8s, List.length_map, Array.length_toList]; exact h5.symm
            | _ => exact this.elim
          exact List.eq_nil_of_length_eq_zero (by rw [hr.1, hlen])
        subst hv; subst h0
        have k := hK C.N hN
        refine ⟨_, _, (C.drop j).new (0, true), k, (C.drop_le j).trans (Cx.new_le _ _), ?_, .own (Nat.lt_succ_self _) rfl (fun b hb => ?_) fun b hb => ⟨rfl, rfl, rfl⟩⟩
        · exact Rd.mat e
        · have := Cx.new_at (C.drop j) (0, true)
          rw [show (C.drop j).N = C.N from rfl] at this
          rw [this] at hb; cases hb
      · have hb0 : (n == 0) = false := by simpa using h0
        have := new_own (K := K) Rd (e := e) (n := n) (hr.mono (C.drop_le j)) (fun j' hj' => by
          have := hK j' hj'
          rw [hb0, Nat.zero_add] at this
          simpa using this)
        obtain ⟨v, h', C', g1, g2, g3, g4⟩ := this
        exact ⟨v, h', C', g1, (C.drop_le j).trans g2, g3, g4⟩
    | false =>
      obtain ⟨ws, g1, g2, g3⟩ := hh rfl
      have := hi.2.1 b hb
      subst this
      have Rk : VRel W0 (C.drop j) (hdel h j) (h1.set b .dead) := by
        refine Rd.dead g3 (fun i hi' => ?_) _
        simp only [Cx.drop] at hi'
        split at hi'
        · cases hi'
        · rename_i hne; exact hne (R.inj i j _ hi' hb)
      refine .inr ⟨b, l, ws, rfl, g1, by rw [← g2.1]; exact hl, b1, b2, ?_⟩
      have := new_own (K := K) Rk (e := e) (n := l + n) ((g2.append hr).mono (C.drop_le j)) (fun j' hj' => by
        have := hK j' hj'
        simpa using this)
      rw [List.length_set] at this
      obtain ⟨v, h', C', g1, g2, g3, g4⟩ := this
      exact ⟨v, h', C', g1, (C.drop_le j).trans g2, g3, g4⟩
  · exact hw.elim
end
end Go.Proofs.AbM
