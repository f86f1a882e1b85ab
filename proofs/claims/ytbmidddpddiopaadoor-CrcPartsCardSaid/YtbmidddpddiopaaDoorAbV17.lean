/- The machine of values: contracts that are told of the worlds themselves: how one goes in, how one comes out. -/
import Derived.Test.YtbmidddpddiopaaDoorAbV16
set_option linter.unusedVariables false
set_option linter.unusedSimpArgs false
namespace Go.Proofs.AbM
open Go.RowKit
theorem lowA_up {B B' : Nat} {v : Value} (hB : B ≤ B') (h : lowA B v = true) : lowA B' v = true := by
  cases v with
  | pointer a => cases a with
    | none => rfl
    | some a => simp only [lowA, decide_eq_true_eq] at h ⊢; omega
  | slice a n c => cases a with
    | none => rfl
    | some a => simp only [lowA, decide_eq_true_eq] at h ⊢; omega
  | map a => cases a <;> first | rfl | simp [lowA] at h
  | chan a => cases a <;> first | rfl | simp [lowA] at h
  | _ => first | rfl | simp [lowA] at h
theorem lowB_up {B B' : Nat} {u v : Value} (hB : B ≤ B') (h : lowB B u = some v) : lowB B' u = some v := by
  unfold lowB at h ⊢
  split at h
  · exact h
  · split at h
    · rename_i hl
      cases h
      simp only [lowA_up hB hl, if_true]
    · cases h
theorem lowB_sc {B : Nat} {v : Value} (h : scV v = true) : lowB B v = some v := by
  have hl : lowA B v = true := by
    cases v with
    | pointer a => cases a <;> first | rfl | simp [scV] at h
    | slice a _ _ => cases a <;> first | rfl | simp [scV] at h
    | map a => cases a <;> first | rfl | simp [scV] at h
    | chan a => cases a <;> first | rfl | simp [scV] at h
    | _ => first | rfl | simp [scV] at h
  unfold lowB
  split
  · simp [scV] at h
  · simp [hl]
theorem VR.scv {B : Nat} {m : List (Nat × Nat)} {v v' : Value} (h : VR B m v v') (hs : scV v = true) : v' = v := by
  cases h with
  | atom _ => rfl
  | ptr _ => simp [scV] at hs
  | sl _ _ _ => simp [scV] at hs
  | emp => simp [scV] at hs
  | agg _ _ => simp [scV] at hs
  | tup _ _ => simp [scV] at hs
  | func _ _ _ _ => simp [scV] at hs
section
variable {P : Program} {W0 W W' : World} {C : Cx} {h : VH} {h1 : Hp} {m : List (Nat × Nat)} {G : Nat → AV} {K : AV → VH → Prop}
theorem zr_base (hB : Below W0.heap.size W0 W) {a : Addr} {u : Value} (hz : zr W0 C0 a = some u) : zr W C a = some u := by
  unfold zr at hz ⊢
  split at hz
  · rename_i hb
    rw [if_pos (Nat.lt_of_lt_of_le hb hB.size), hB.cell hb]
    split at hz
    · rename_i v hv
      exact lowB_up hB.size hz
    · cases hz
  · split at hz
    · cases hz
    · simp [C0] at hz
theorem RV.base (hB : Below W0.heap.size W0 W) {a : AV} {u : Value} (hr : RV W0 C0 a u) : RV W C a u := by
  induction hr with
  | sc h => exact .sc h
  | agg hl _ ih => exact .agg hl ih
  | tup hl _ ih => exact .tup hl ih
  | isl h1 h2 h3 h4 _ ih =>
    refine .isl ?_ h2 h3 (fun i u hu => ?_) ih
    · rcases h1 with h1 | h1 | ⟨ad, k1, k2, k3, k4⟩
      · exact .inl h1
      · exact .inr (.inl h1)
      · refine .inr (.inr ⟨ad, k1, k2, k3, k4.imp (fun h => Nat.lt_of_lt_of_le h hB.size) id⟩)
    · obtain ⟨ad, k1, k2⟩ := h4 i u hu
      exact ⟨ad, k1, zr_base hB k2⟩
  | own h1 _ _ _ => exact absurd h1 (by simp [C0])
  | op h1 _ _ => exact absurd h1 (by simp [C0])
  | ip h1 h2 _ ih => exact .ip h1 (fun i u hu => zr_base hB (h2 i u hu)) ih
  | fn h1 _ h3 _ ih1 ih2 => exact .fn h1 ih1 h3 ih2
  | junk => exact .junk
theorem GOk.base (hG : GOk W0 G) (hB : Below W0.heap.size W0 W) : GOk W G := fun g hg => by
  obtain ⟨h1, h2⟩ := hG g hg
  exact ⟨Nat.lt_of_lt_of_le h1 hB.size, fun C => (h2 C0).base hB⟩
/-- A row of closed cells, as it stands in the world. -/
theorem isl_world {nl : Bool} {n : Nat} {xs : List Value} {u v' : Value} (hr : RV W0 C (.isl nl n (xs.map .sc)) u) (V : VRel W0 C h h1) (R : Rel P W0 m h1 W) (hv : VR W0.heap.size m u v') :
    ∃ a c, v' = .slice a n c ∧ nl = a.isNone ∧ n ≤ c ∧ (a = none → n = 0) ∧ ∀ ad, a = some ad → 0 < n → ad.spot = none ∧ ad.block < W.heap.size ∧ ∀ (i : Nat) (x : Value), xs[i]? = some x → W.cell? (ad.add i) = some x := by
  obtain ⟨a, c, us, rfl, hok, hnl, hrv, hz⟩ := hr.isl_inv
  obtain rfl := hrv.scs
  have hsc : ∀ (i : Nat) (x : Value), us[i]? = some x → scV x = true := fun i x hx => (hrv.2 i (.sc x) x (by rw [List.getElem?_map, hx]; rfl) hx).sc_inv.2
  cases a with
  | none =>
    have h0 : n = 0 ∧ c = 0 := by
      rcases hok with ⟨_, h0, h2⟩ | ⟨h0, _⟩ | ⟨_, h0, _⟩
      · exact ⟨h0, h2⟩
      · cases h0
      · cases h0
    have := hv.snil_inv
    exact ⟨none, c, this, hnl, by omega, fun _ => h0.1, (fun ad e => by cases e)⟩
  | some ad =>
    have cells : ∀ a' : Addr, AR W0.heap.size m ad a' → ∀ (i : Nat) (x : Value), us[i]? = some x → W.cell? (a'.add i) = some x := by
      intro a' ha i x hx
      obtain ⟨ad', e, k⟩ := hz i x hx
      cases e
      obtain ⟨y, q1, q2, _⟩ := rd_rel R (ha.add i) (zr_rd V k)
      rw [q2.scv (hsc i x hx)] at q1
      exact q1
    rcases hv.slice_inv with ⟨hlt, rfl⟩ | ⟨j, o, b, cb, c', rfl, rfl, rfl, hm, _, hn⟩ | ⟨rfl, rfl, rfl, a', c', rfl⟩
    · refine ⟨_, c, rfl, hnl, ?_, (fun e => by cases e), fun a1 e hpos => ?_⟩
      · rcases hok with ⟨h0, _⟩ | ⟨_, h0, h2⟩ | ⟨_, _, _, h0, _⟩
        · cases h0
        · omega
        · exact h0
      · cases e
        refine ⟨?_, Nat.lt_of_lt_of_le hlt R.below.size, cells _ (.inl ⟨hlt, rfl⟩)⟩
        rcases hok with ⟨h0, _⟩ | ⟨_, h0, h2⟩ | ⟨_, e, h0, _⟩
        · cases h0
        · omega
        · cases e; exact h0
    · refine ⟨_, c', rfl, hnl, hn, (fun e => by cases e), fun a1 e hpos => ?_⟩
      cases e
      exact ⟨rfl, (R.at_ j b cb hm).2, cells _ (.inr ⟨j, o, b, cb, rfl, rfl, hm⟩)⟩
    · exact ⟨_, c', rfl, hnl, by omega, (fun e => by cases e), fun a1 e hpos => absurd hpos (by omega)⟩
/-- An own row of closed cells, as it stands in the world. -/
theorem own_world {j n : Nat} {e : TypeId} {xs : List Value} {u v' : Value} (hj : h j = some (.cells e false (xs.map .sc))) (hr : RV W0 C (.own j 0 n) u) (V : VRel W0 C h h1) (R : Rel P W0 m h1 W) (hv : VR W0.heap.size m u v') :
    ∃ a c, v' = .slice a n c ∧ n ≤ c ∧ (a = none → n = 0) ∧ ∀ ad, a = some ad → 0 < n → ad.spot = none ∧ ad.block < W.heap.size ∧ ∀ (i : Nat) (x : Value), xs[i]? = some x → W.cell? (ad.add i) = some x := by
  obtain ⟨b, hb, _, hh⟩ := V.blk j e false _ hj
  obtain ⟨us, g1, g2, g3⟩ := hh rfl
  obtain rfl := g2.scs
  obtain rfl := hr.own_inv.2.1 b hb
  obtain ⟨b', cb, c', _, rfl, hm, _, hn⟩ := hv.own_inv
  refine ⟨_, c', rfl, hn, (fun e => by cases e), fun ad e hpos => ?_⟩
  cases e
  refine ⟨rfl, (R.at_ b b' cb hm).2, fun i x hx => ?_⟩
  have hsc : scV x = true := (g2.2 i (.sc x) x (by rw [List.getElem?_map, hx]; rfl) hx).sc_inv.2
  obtain ⟨y, q1, q2, _⟩ := rd_rel (v := x) R (a := ⟨W0.heap.size + b, 0 + i, none⟩) (.inr ⟨b, 0 + i, b', cb, rfl, rfl, hm⟩) (by
    unfold rd
    rw [if_neg (by show ¬ W0.heap.size + b < W0.heap.size; omega)]
    simp only [Option.isSome_none, Bool.false_eq_true, if_false, Nat.add_sub_cancel_left, Nat.zero_add, g1]
    exact hx)
  rw [add_at, q1, q2.scv hsc]
/-- A row of closed cells of a world, as a value over it. -/
theorem isl_enter {n c : Nat} {xs : List Value} {ad : Addr} (h1 : ad.spot = none) (h2 : ad.block < W.heap.size) (h3 : n ≤ c) (hc : ∀ (i : Nat) (x : Value), xs[i]? = some x → W.cell? (ad.add i) = some x) (hs : ∀ x ∈ xs, scV x = true) :
    RV W C (.isl false n (xs.map .sc)) (.slice (some ad) n c) ∧ VR W.heap.size m (.slice (some ad) n c) (.slice (some ad) n c) := by
  refine ⟨.isl (us := xs) (.inr (.inr ⟨ad, rfl, h1, h3, .inl h2⟩)) rfl (by simp) (fun i u hu => ⟨ad, rfl, ?_⟩) (fun i c u h1 h2 => ?_), .atom (by simp [lowA, h2])⟩
  · unfold zr
    rw [if_pos (by rw [add_blk]; exact h2), hc i u hu]
    exact lowB_sc (hs u (List.mem_of_getElem? hu))
  · rw [List.getElem?_map, h2] at h1
    cases h1
    exact .sc (hs u (List.mem_of_getElem? h2))
theorem isl_nil : RV W C (.isl true 0 []) (.slice none 0 0) :=
  .isl (us := []) (.inl ⟨rfl, rfl, rfl⟩) rfl rfl (fun i u hu => by simp at hu) (fun i c u h1 h2 => by simp at h1)
theorem vr_nil {B : Nat} : VR B m (.slice none 0 0) (.slice none 0 0) := .atom rfl
/-- A block that somebody else has made is one's own now. -/
theorem Rel.adopt (R : Rel P W0 m h1 W) (hB : Below W.heap.size W W') {g c : Nat} {cur : Array Value} {e : TypeId} {i : TypeInfo} {xs : List Value} (hg : W.heap.size ≤ g) (hblk : W'.heap[g]? = some (.cells cur e (0, 0))) (hi : P.info? e = some i)
    (hcs : cur.size = c * i.size) (hcm : c ≤ maxLen) (hl : xs.length ≤ cur.size) (hx : VRs W0.heap.size m xs (cur.toList.take xs.length)) (hone : ∀ v ∈ xs, v.oneCell' = true) : Rel P W0 (m ++ [(g, c)]) (h1 ++ [.cells e xs]) W' := by
  have R' := R.grow hB.os hB.tape hB.output hB.size hB.block
  have hpre : m <+: m ++ [(g, c)] := List.prefix_append _ _
  have hgl := (Array.getElem?_eq_some_iff.1 hblk).1
  refine ⟨by simp [R.len], R'.below, fun j b c' hj => ?_, fun j e' xs' hj => ?_, fun j s p hj => ?_, fun j j' b c1 c2 hj hj' hd hd' => ?_⟩
  · rw [getElem?_snoc] at hj
    split at hj
    · exact R'.at_ j b c' hj
    · split at hj
      · cases hj
        exact ⟨Nat.le_trans R.below.size hg, hgl⟩
      · cases hj
  · rw [getElem?_snoc] at hj
    split at hj
    · obtain ⟨b, c', cur, fr, i, h1, h2, h3, h4, h5, h6, h7, h8, h9⟩ := R'.blk j e' xs' hj
      exact ⟨b, c', cur, fr, i, prefix_get hpre h1, h2, h3, h4, h5, h6, h7, h8.mono hpre, h9⟩
    · split at hj
      · rename_i he
        cases hj
        refine ⟨g, c, cur, (0, 0), i, ?_, hblk, hi, hcs, hcm, .inl rfl, hl, hx.mono hpre, hone⟩
        rw [he, ← R.len]; simp
      · cases hj
  · rw [getElem?_snoc] at hj
    split at hj
    · obtain ⟨b, c', h1, h2⟩ := R'.itr j s p hj
      exact ⟨b, c', prefix_get hpre h1, h2⟩
    · split at hj
      · cases hj
      · cases hj
  · rw [getElem?_snoc] at hj hj' hd hd'
    rw [R.len] at hj hj'
    by_cases k1 : j < h1.length <;> by_cases k2 : j' < h1.length
    · simp only [k1, k2, if_true] at hj hj' hd hd'
      exact R.inj j j' b c1 c2 hj hj' hd hd'
    · simp only [k1, k2, if_true, if_false] at hj hj'
      split at hj'
      · cases hj'
        have := (R.at_ j _ _ hj).2
        omega
      · cases hj'
    · simp only [k1, k2, if_true, if_false] at hj hj'
      split at hj
      · cases hj
        have := (R.at_ j' _ _ hj').2
        omega
      · cases hj
    · simp only [k1, k2, if_false] at hj hj'
      split at hj <;> split at hj' <;> first | omega | (simp at hj'; done) | (simp at hj; done)
theorem VK.le {C' : Cx} (le : C.le C') {u : Value} (hk : VK W0 C' K u h1) : VK W0 C K u h1 := by
  obtain ⟨v, h, C2, a, b, c, d⟩ := hk
  exact ⟨v, h, C2, a, le.trans b, c, d⟩
/-- A row of closed cells that somebody else has made, taken as a value. -/
theorem row_leave (R : Rel P W0 m h1 W) (V : VRel W0 C h h1) (hB : Below W.heap.size W W') {e : TypeId} {i : TypeInfo} (hi : P.info? e = some i) (hz : i.size = 1) {v : Value} {n : Nat} {xs : List Value} (hsc : ∀ x ∈ xs, scV x = true)
    (hown : W'.ownsRow W.heap.size e 1 v n xs) {nl : Bool} (hnl : nl = true ↔ v = .slice none 0 0) (hK : K (.isl nl n (xs.map .sc)) h) : ∃ v0 h' m', VK W0 C K v0 h' ∧ m <+: m' ∧ Rel P W0 m' h' W' ∧ VR W0.heap.size m' v0 v := by
  obtain ⟨hl, ⟨rfl, rfl⟩ | ⟨g, cap, cur, rfl, hg, hblk, hn, hcm, hcs, ht⟩⟩ := hown
  · have hx : xs = [] := List.eq_nil_of_length_eq_zero (by simpa using hl)
    subst hx
    obtain rfl : nl = true := hnl.2 rfl
    exact ⟨_, h1, m, ⟨_, h, C, hK, .refl C, V, isl_nil⟩, List.prefix_rfl, R.grow hB.os hB.tape hB.output hB.size hB.block, .atom rfl⟩
  · obtain rfl : nl = false := by
      cases nl with
      | false => rfl
      | true => have := hnl.1 rfl; simp at this
    rw [Nat.mul_one] at ht hl hcs
    have hxs : VRs W0.heap.size m xs (cur.toList.take xs.length) := by
      rw [hl, ht]
      exact ⟨rfl, fun j a b ha hb => by rw [ha] at hb; cases hb; exact VR.clo 1 a (scV_clo (hsc a (List.mem_of_getElem? ha)) 0)⟩
    have hR := R.adopt (e := e) (c := cap) hB hg hblk hi (by rw [hz, Nat.mul_one]; exact hcs) hcm (by omega) hxs (fun v hv => scV_one (hsc v hv))
    have hN := V.lt C.N (Nat.le_refl _)
    have V2 := V.push (e := e) (cs := xs.map .sc) (RVs.of_sc hsc)
    have hv : RV W0 (C.new (h1.length, false)) (.own C.N 0 n) (.slice (some ⟨W0.heap.size + h1.length, 0, none⟩) n n) :=
      .own (by simp [Cx.new]) rfl (fun b hb => by rw [C.new_at] at hb; cases hb; rfl) (fun b hb => by rw [C.new_at] at hb; cases hb)
    have hF : FrK K (.own C.N 0 n) (hset h C.N (.cells e false (xs.map .sc))) := FrK.iso2 hN (.now hK)
    exact ⟨_, _, _, VK.le (C.new_le _) (frk_sim hF V2 hv), List.prefix_append _ _, hR, .sl (by rw [← R.len]; simp) (fun _ => rfl) hn⟩
theorem vConvO {t e' : TypeId} {j o l : Nat} {cs : List AV} {K : AV → VH → Prop} (hb : isB8 P t = true) (hj : h j = some (.cells e' false cs)) (hK : K (.own j o l) h) : vConv P t t (.own j o l) h K := by
  obtain ⟨e, h1, h2⟩ := isB8_inv hb
  exact .inr ⟨rfl, e, e', cs, h1, h2, hj, .inl hK⟩
/-- A part of an own row. -/
theorem vSlice_own {t e e' : TypeId} {j o n sz : Nat} {nl : Bool} {cs : List AV} {lo hi : Option AV} {K : AV → VH → Prop} (hu : P.underlying t = some (.slice e)) (hs : szO P e = some sz) (hs0 : 0 < sz) (hj : h j = some (.cells e' nl cs)) (l r : Nat) (b1 : bndV 0 lo l) (b2 : bndV n hi r) (h1 : l < r) (h2 : r ≤ n)
    (hK : K (.own j (o + l * sz) (r - l)) h) : vSlice P t (.own j o n) lo hi h K :=
  ⟨e, sz, e', nl, cs, hu, hs, hs0, hj, l, r, b1, b2, by omega, by omega, by omega, fun _ => by rw [show ((r : Int) - (l : Int)).toNat = r - l by omega]; exact hK, fun e => by omega⟩
theorem bz_part {k : IntKind} {e : TypeId} {j o l : Nat} {bs : List Nat} (hj : h j = some (.cells e false (bs.map (iv k)))) : Bz h (.own j o l) (.isl false l (((bs.drop o).take l).map (iv k))) := .cut hj fun i c hi => by
  rw [List.getElem?_map, List.getElem?_take] at hi
  split at hi
  · rw [List.getElem?_drop] at hi
    rw [List.getElem?_map]; exact hi
  · simp at hi
theorem vMake_z {t : TypeId} {k k' kk : IntKind} {e b l : Nat} {K : AV → VH → Prop} (hb : mkO P t = some (e, b, .sc (.int kk 0))) (h1 : b * l ≤ 140737488355328) (h2 : l ≤ 140737488355328) (hK : K (.isl false l ((List.replicate l 0).map (iv kk))) h) : vMake P t (.sc (.int k l)) (.sc (.int k' l)) h K :=
  vMake_i hb h1 h2 (by rw [List.map_replicate] at hK; exact hK)
theorem VC_fx {d : Nat} {f : FuncId} {as : List AV} (hx : FXV P G f as h K) : VC P G (d + 1) f as h K := .inl hx
theorem RVs.two {a b : AV} {us : List Value} (h : RVs W0 C [a, b] us) : ∃ u v, us = [u, v] ∧ RV W0 C a u ∧ RV W0 C b v := by
  obtain ⟨hl, hv⟩ := h
  match us, hl with
  | [u, v], _ => exact ⟨u, v, rfl, hv 0 a u rfl rfl, hv 1 b v rfl rfl⟩
theorem VRs.two {B : Nat} {u v : Value} {xs : List Value} (h : VRs B m [u, v] xs) : ∃ x y, xs = [x, y] ∧ VR B m u x ∧ VR B m v y := by
  obtain ⟨hl, hv⟩ := h
  match xs, hl with
  | [x, y], _ => exact ⟨x, y, rfl, hv 0 u x rfl rfl, hv 1 v y rfl rfl⟩
/-- What the machine tells of a call that stands in the world W: closed arguments, a closed result. -/
theorem vc_world {d : Nat} {f : FuncId} {as : List AV} {us : List Value} {args : Array Value} {r : Value} (hG : GOk W G) (hc : VC P G d f as (fun _ => none) (fun v _ => v = .sc r)) (hr : RVs W C0 as us) (hv : VRs W.heap.size [] us args.toList) :
    Calls P f args W fun e W' => e = .returned r ∧ Below W.heap.size W W' := by
  have hA : AC P W d f us [] (fun v _ => v = r ∧ scV r = true) := AC_mono d f us [] _ _ (fun u h1 hk => by
    obtain ⟨v, h, C', rfl, _, _, hv⟩ := hk
    exact hv.sc_inv) (VC_sound hG d f as _ _ hc C0 [] us VRel.start hr)
  exact (AC_sound d f us [] _ hA [] args W (Rel.refl P W) hv).2.mono fun e W' ⟨v, v', h', m', he, ⟨hK, hs⟩, _, hR, hb⟩ => by
    subst hK
    exact ⟨by rw [he, hb.scv hs], hR.below⟩
end
end Go.Proofs.AbM
