/- The abstract machine: code, calls; and that the program follows it. -/
import Derived.Test.YtbmidddpddiopaaDoorAbSim3
import Derived.Lib.LazyBuf
import Derived.Laws.Pointers
import Derived.Laws.StructEq
set_option linter.unusedVariables false
set_option linter.unusedSimpArgs false
namespace Go.Proofs.AbM
open Go.RowKit

section
variable {P : Program} {W0 W : World} {m : List (Nat × Nat)} {h : Hp} {K : Value → Hp → Prop} {t : TypeId}
theorem VR.clo_eq : ∀ (n : Nat) {v v' : Value}, VR W0.heap.size m v v' → AbM.clo n v = true → v' = v
  | 0, _, _, _, h => by simp [AbM.clo] at h
  | n + 1, v, v', hv, hc => by
    have key : ∀ (xs ys : Array Value), VRs W0.heap.size m xs.toList ys.toList → xs.toList.all (AbM.clo n) = true → ys = xs := by
      intro xs ys hx ha
      apply Array.ext'
      apply List.ext_getElem?
      intro i
      rcases Nat.lt_or_ge i xs.toList.length with hi | hi
      · have h1 : xs.toList[i]? = some xs.toList[i] := List.getElem?_eq_getElem hi
        obtain ⟨u, h2, h3⟩ := hx.get h1
        rw [h2, h1, VR.clo_eq n h3 (List.all_eq_true.1 ha _ (List.getElem_mem hi))]
      · rw [List.getElem?_eq_none hi, List.getElem?_eq_none (by rw [← hx.1]; exact hi)]
    cases v with
    | agg xs =>
      obtain ⟨ys, rfl, hx⟩ := hv.agg_inv
      rw [key xs ys hx (by simpa [AbM.clo] using hc)]
    | tuple xs =>
      obtain ⟨ys, rfl, hx⟩ := hv.tup_inv
      rw [key xs ys hx (by simpa [AbM.clo] using hc)]
    | func fn xs zs =>
      obtain ⟨ys, ws, rfl, hx, hz⟩ := hv.func_inv
      simp only [AbM.clo, Bool.and_eq_true] at hc
      rw [key xs ys hx hc.1, key zs ws hz hc.2]
    | pointer a => cases a with
      | none => exact hv.pnil_inv
      | some a => simp [AbM.clo] at hc
    | slice a _ _ => cases a with
      | none => exact hv.snil_inv
      | some a => simp [AbM.clo] at hc
    | map a => cases hv; rfl
    | chan a => cases hv; rfl
    | bool _ => cases hv; rfl
    | int _ _ => cases hv; rfl
    | float _ _ => cases hv; rfl
    | complex _ _ _ => cases hv; rfl
    | string _ => cases hv; rfl
    | nilFunc => cases hv; rfl
    | nilIface => cases hv; rfl
    | iface _ _ => simp [AbM.clo] at hc
theorem sc_sim (R : Rel P W0 m h W) {s : Sem Value} (hw : wSc P s (fun v => K v h)) : Sim P W0 m W s K := by
  obtain ⟨v, hc, hr, hK⟩ := hw
  exact ⟨v, h, m, v, W, hK, List.prefix_rfl, R, VR.clo 3 v hc, hr W⟩
theorem len_sim (R : Rel P W0 m h W) {ty : TypeId} {ts : Array TypeId} {x x' : Value} (ht : ts[0]? = some t) (hx : VR W0.heap.size m x x') (hw : wLen P t x h K) : Sim P W0 m W (Builtin.len_ ts ty #[x']) K := by
  cases x with
  | string s =>
    obtain ⟨hu, hK⟩ := hw
    obtain rfl := hx.string_inv
    refine ⟨_, h, m, _, W, hK, List.prefix_rfl, R, .atom rfl, ?_⟩
    simp [Builtin.len_, ht, run_under hu, goInt]
  | slice a n c =>
    obtain ⟨⟨e, hu⟩, hK⟩ := hw
    obtain ⟨a', c', rfl⟩ : ∃ a' c', x' = .slice a' n c' := by
      cases a with
      | none => exact ⟨_, _, hx.snil_inv⟩
      | some a => rcases hx.slice_inv with ⟨_, rfl⟩ | ⟨_, _, _, _, _, _, _, rfl, _⟩ | ⟨_, rfl, _, _, _, rfl⟩ <;> exact ⟨_, _, rfl⟩
    refine ⟨_, h, m, _, W, hK, List.prefix_rfl, R, .atom rfl, ?_⟩
    simp [Builtin.len_, ht, run_under hu, goInt]
  | agg cs =>
    obtain ⟨n, e, ⟨hu, _⟩, hK⟩ := hw
    obtain ⟨cs', rfl, _⟩ := hx.agg_inv
    refine ⟨_, h, m, _, W, hK, List.prefix_rfl, R, .atom rfl, ?_⟩
    simp [Builtin.len_, ht, run_under hu, goInt]
  | _ => obtain ⟨n, e, ⟨hu, cs, hcs⟩, hK⟩ := hw; cases hcs
theorem strN_foldl : ∀ (ns : List Int) (s : ByteArray), (ns.foldl (fun (s : ByteArray) n => s.push (UInt8.ofNat n.toNat)) s).data.toList = s.data.toList ++ (ns.map fun n => UInt8.ofNat n.toNat)
  | [], s => by simp
  | n :: ns, s => by
    rw [List.foldl_cons, strN_foldl ns]
    show (s.data.push _).toList ++ _ = _
    simp
theorem run_bytesToString {a : Addr} {n c : Nat} {ns : List Int} (hl : (loadCells a n).run P W = .ok (ns.map (Value.int .u8)).toArray W) : (Conv.bytesToString (.slice (some a) n c)).run P W = .ok (.string (strN ns)) W := by
  have key : ∀ (l : List Int) (s : ByteArray), (forIn (m := Sem) (l.map (Value.int .u8)) s (fun c r => match c with | .int .u8 n => pure (ForInStep.yield (r.push (UInt8.ofNat n.toNat))) | _ => do (stuck "bytesToString: byte expected" : Sem Unit); pure (ForInStep.yield r))).run P W = .ok (l.foldl (fun (s : ByteArray) n => s.push (UInt8.ofNat n.toNat)) s) W := by
    intro l
    induction l with
    | nil => intro s; rfl
    | cons x l ih => intro s; simp only [List.map_cons, List.forIn_cons, Sem.run_bind, Sem.run_pure, Result.andThen_ok, List.foldl_cons]; exact ih _
  have h2 := key ns ByteArray.empty
  simp only [Conv.bytesToString, Sem.run_bind, hl, Result.andThen_ok]
  rw [show strN ns = ns.foldl (fun (s : ByteArray) n => s.push (UInt8.ofNat n.toNat)) ByteArray.empty by
    apply ByteArray.ext
    apply Array.ext'
    rw [strN_foldl]; rfl]
  simp only [List.forIn_toArray]
  exact congrArg (fun r => Result.andThen r (fun a w' => Sem.run P (pure (Value.string a)) w')) h2
theorem modify_push {α : Type} (xs : Array α) (x : α) (f : α → α) : (xs.push x).modify xs.size f = xs.push (f x) := by
  apply Array.ext (by simp)
  intro i h1 h2
  rw [Array.getElem_modify, Array.getElem_push, Array.getElem_push]
  by_cases hi : i < xs.size
  · rw [if_neg (by omega)]; simp [hi]
  · simp at h2
    rw [if_pos (by omega)]; simp [hi]
theorem conv_sim (R : Rel P W0 m h W) {src dst : TypeId} {x x' : Value} (hx : VR W0.heap.size m x x') (hw : wConv P W0 src dst x h K) : Sim P W0 m W (convert src dst x') K := by
  rcases hw with ⟨hc, hw⟩ | ⟨e, hs, he, hd, a, n, c, ns, rfl, hsp, hr, hK⟩ | ⟨e, s, hs, hd, he, hsz, rfl, hl, hK⟩ | ⟨e, j, o, n, e', xs, rfl, hd, he, rfl, hj, hK⟩
  · rw [VR.clo_eq 3 hx hc]
    exact sc_sim R hw
  · have : ∃ a' c', x' = .slice (some a') n c' ∧ (loadCells a' n).run P W = .ok (ns.map (Value.int .u8)).toArray W := by
      by_cases h0 : n = 0
      · subst h0
        simp only [rds, Option.some.injEq] at hr
        obtain ⟨a', c', rfl⟩ : ∃ a' c', x' = .slice (some a') 0 c' := by
          rcases hx.slice_inv with ⟨_, rfl⟩ | ⟨j, o, b, cb, c', _, _, rfl, _⟩ | ⟨_, _, _, a', c', rfl⟩ <;> exact ⟨_, _, rfl⟩
        refine ⟨a', c', rfl, ?_⟩
        rw [← hr]
        exact run_loadCells_list (P := P) W a' [] (fun j v hj => by simp at hj)
      · have hsp := hsp.resolve_left h0
        obtain ⟨a', c', rfl, ha⟩ : ∃ a' c', x' = .slice (some a') n c' ∧ AR W0.heap.size m a a' := by
          rcases hx.slice_inv with ⟨h1, rfl⟩ | ⟨j, o, b, cb, c', rfl, rfl, rfl, hm, _, _⟩ | ⟨rfl, rfl, _⟩
          · exact ⟨a, c, rfl, .inl ⟨h1, rfl⟩⟩
          · exact ⟨_, c', rfl, .inr ⟨j, o, b, cb, rfl, rfl, hm⟩⟩
          · exact absurd rfl h0
        obtain ⟨vs', g1, g2, g3, g4⟩ := rds_rel R ha _ 0 _ hr
        have hvs : vs' = ns.map (Value.int .u8) := by
          apply List.ext_getElem?
          intro i
          rcases Nat.lt_or_ge i (ns.map (Value.int .u8)).length with hi | hi
          · obtain ⟨u, h2, h3⟩ := g1.get (List.getElem?_eq_getElem hi)
            rw [h2, List.getElem?_eq_getElem hi]
            simp only [List.getElem_map] at h3 ⊢
            rw [h3.int_inv]
          · rw [List.getElem?_eq_none hi, List.getElem?_eq_none (by rw [← g1.1]; exact hi)]
        subst hvs
        refine ⟨a', c', rfl, ?_⟩
        have := run_loadCells_list (P := P) W a' _ (fun j v hj => by
          have := g3 j v hj
          rwa [Nat.zero_add] at this)
        rwa [← g1.1, g2] at this
    obtain ⟨a', c', rfl, hld⟩ := this
    refine ⟨_, h, m, _, W, hK, List.prefix_rfl, R, .atom rfl, ?_⟩
    have := run_bytesToString (P := P) (W := W) (c := c') hld
    simp [convert, run_under hs, run_under hd, run_under he, this]
  · obtain rfl := hx.string_inv
    have hu8 : (u8s s).length = s.size := by simp only [u8s, List.length_map, Array.length_toList]; rfl
    have hg := grownCap_ge W s.size 0 e
    have hcm := grownCap_le_maxLen W s.size 0 e (by simp only [maxLen]; omega)
    have hone : ∀ v ∈ u8s s, v.oneCell' = true := by
      intro v hv
      simp only [u8s, List.mem_map] at hv
      obtain ⟨q, _, rfl⟩ := hv
      rfl
    have hvr : VRs W0.heap.size m (u8s s) (u8s s) := by
      refine ⟨rfl, fun i u u' g1 g2 => ?_⟩
      rw [g1] at g2; cases g2
      simp only [u8s, List.getElem?_map] at g1
      obtain ⟨q, _, rfl⟩ := Option.map_eq_some_iff.1 g1
      exact .atom rfl
    obtain ⟨i, hi, hi1⟩ := Option.map_eq_some_iff.1 hsz
    have hrun : ∃ W' cur fr, (convert src dst (.string s)).run P W = .ok (.slice (some ⟨W.heap.size, 0, none⟩) s.size (grownCap W s.size 0 e)) W' ∧ W' = { W with heap := W.heap.push (.cells cur e fr), drawn := W.drawn + 1 } ∧ cur = ((u8s s).toArray ++ Array.replicate (grownCap W s.size 0 e - s.size) (.int .u8 0)) ∧ fr = (cur.size, cur.size + 1) := by
      refine ⟨_, _, _, ?_, rfl, rfl, rfl⟩
      have h1 : ∀ Z : World, Z.shape? Z.heap.size = none := fun Z => by simp [World.shape?]
      have hcur : (Array.map (fun b : UInt8 => Value.int IntKind.u8 (b.toNat : Int)) s.data) = (u8s s).toArray := by apply Array.ext'; simp [u8s]
      simp only [convert, Sem.run_bind, run_under hs, run_under hd, run_under he, Result.andThen_ok, Conv.stringToBytes, run_choose, Question.forced, newRow, run_newObj, Sem.run_pure, markStringish, run_shape, World.shape?, Bool.false_eq_true, if_false]
      rw [heap_push_new]
      simp only [Sem.run_bind, run_freeze, Result.andThen_ok, Sem.run_pure, run_shape]
      simp [hcur, World.freeze, grownCap]
      rw [modify_push]
      simp
    obtain ⟨W', cur, fr, hr, rfl, rfl, rfl⟩ := hrun
    refine ⟨_, _, m ++ [(W.heap.size, grownCap W s.size 0 e)], _, _, hK, List.prefix_append _ _, ?_, new_sl R _ _ hg, hr⟩
    have := push_cells R.drew (xs := u8s s) (cur := (u8s s).toArray ++ Array.replicate (grownCap W s.size 0 e - s.size) (.int .u8 0)) (fr := (((u8s s).toArray ++ Array.replicate (grownCap W s.size 0 e - s.size) (Value.int .u8 0)).size, ((u8s s).toArray ++ Array.replicate (grownCap W s.size 0 e - s.size) (Value.int .u8 0)).size + 1)) (c := grownCap W s.size 0 e) hsz (by simp [hu8]; omega) hcm (.inr (Nat.le_refl _)) (by simp) (by
      simp only [Array.toList_append, List.toList_toArray]
      rw [List.take_append_of_le_length (Nat.le_refl _), List.take_length]; exact hvr) hone
    exact this
  · obtain ⟨b, cb, c', _, rfl, hm, hc0, hnc⟩ := hx.own_inv
    obtain ⟨b2, c2, cur, fr, i, g1, g2, g3, g4, g5, g6, g7, g8, g9⟩ := R.blk j e' xs hj
    rw [hm] at g1; cases g1
    have hblt := (R.at_ j b cb hm)
    have hW : (convert src src (.slice (some ⟨b, o, none⟩) n c')).run P W = .ok (.slice (some ⟨b, o, none⟩) n c') (W.freeze ⟨b, cur.size, none⟩ 1) := by
      simp [convert, run_under hd, run_under he, markStringish, World.shape?, g2]
    have hb2 : (W.freeze ⟨b, cur.size, none⟩ 1).heap[b]? = some (.cells cur e' (if fr.1 == fr.2 then (cur.size, cur.size + 1) else (min fr.1 cur.size, max fr.2 (cur.size + 1)))) := by
      obtain ⟨lo, hi⟩ := fr
      simp [World.freeze, Array.getElem?_modify, g2]
    refine ⟨_, h, m, _, _, hK, List.prefix_rfl, ?_, hx, hW⟩
    have hw := R.write2 (xs' := xs) (cur' := cur) (W' := W.freeze ⟨b, cur.size, none⟩ 1) hj hm g2 rfl g7 g8 g9 (by simp [World.freeze]) (by simp [World.freeze]) (by simp [World.freeze]) (by simp [World.freeze]) (fun k hk => by simp [World.freeze, Array.getElem?_modify, Ne.symm hk]) (fun hf => by
      right
      split
      · exact Nat.le_refl _
      · rename_i hne
        rcases hf with hf | hf
        · exact absurd (by simpa using hf) hne
        · show cur.size ≤ min fr.1 cur.size
          omega) hb2
    have hset : h.set j (.cells e' xs) = h := by
      obtain ⟨hlt, hx⟩ := List.getElem?_eq_some_iff.1 hj
      rw [← hx, List.set_getElem_self]
    rwa [hset] at hw
theorem bin_sim (R : Rel P W0 m h W) {op : BinOp} {xT : TypeId} {x y : Operand} {a a' b b' : Value} (ha : VR W0.heap.size m a a') (hb : VR W0.heap.size m b b') (hw : wBin P op xT x y a b (fun v => K v h)) : Sim P W0 m W (do eqGuard op xT x y a' b'; binOp op xT a' b') K := by
  rcases hw with ⟨h1, h2, hw⟩ | ⟨p, n, c, e, rfl, rfl, hu, hw⟩ | ⟨p, e, rfl, rfl, hu, hw⟩
  · rw [VR.clo_eq 3 ha h1, VR.clo_eq 3 hb h2]
    exact sc_sim R hw
  · obtain rfl := hb.snil_inv
    obtain ⟨p', c', rfl, hp⟩ : ∃ p' c', a' = .slice p' n c' ∧ p'.isNone = p.isNone := by
      cases p with
      | none => exact ⟨_, _, ha.snil_inv, rfl⟩
      | some p => rcases ha.slice_inv with ⟨_, rfl⟩ | ⟨_, _, _, _, _, _, _, rfl, _⟩ | ⟨_, rfl, _, _, _, rfl⟩ <;> exact ⟨_, _, rfl, rfl⟩
    rcases hw with ⟨rfl, hK⟩ | ⟨rfl, hK⟩
    · refine ⟨_, h, m, .bool p.isNone, W, hK, List.prefix_rfl, R, .atom rfl, ?_⟩
      rw [← hp]
      have hq := run_equal_slice_nil (P := P) W xT e p' n c' hu
      simp only [eqGuard, Sem.run_bind]
      simp [binOp, hq]
    · refine ⟨_, h, m, .bool (!p.isNone), W, hK, List.prefix_rfl, R, .atom rfl, ?_⟩
      rw [← hp]
      have hq := run_equal_slice_nil (P := P) W xT e p' n c' hu
      simp only [eqGuard, Sem.run_bind]
      simp [binOp, hq]
  · obtain rfl := hb.pnil_inv
    obtain ⟨p', rfl, hp⟩ : ∃ p', a' = .pointer p' ∧ p'.isNone = p.isNone := by
      cases p with
      | none => exact ⟨_, ha.pnil_inv, rfl⟩
      | some p => obtain ⟨q, rfl, _⟩ := ha.ptr_inv; exact ⟨_, rfl, rfl⟩
    rcases hw with ⟨rfl, hK⟩ | ⟨rfl, hK⟩
    · refine ⟨_, h, m, .bool p.isNone, W, hK, List.prefix_rfl, R, .atom rfl, ?_⟩
      rw [← hp]
      have hq := run_equal_pointer_nil (P := P) W xT p' (by rw [hu]; simp [Program.pointee, hu])
      simp only [eqGuard, Sem.run_bind]
      simp [binOp, hq]
    · refine ⟨_, h, m, .bool (!p.isNone), W, hK, List.prefix_rfl, R, .atom rfl, ?_⟩
      rw [← hp]
      have hq := run_equal_pointer_nil (P := P) W xT p' (by rw [hu]; simp [Program.pointee, hu])
      simp only [eqGuard, Sem.run_bind]
      simp [binOp, hq]
end
end Go.Proofs.AbM
