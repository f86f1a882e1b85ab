/- The machine of values: what is asked grows with what is wanted behind; regions that draw, some of whose operations look at nothing that the others turn. -/
import Derived.Test.YtbmidddpddiopaaDoorAbV12
set_option linter.unusedVariables false
set_option linter.unusedSimpArgs false
namespace Go.Proofs.AbM
open Go.RowKit
theorem FrK.imp {K K' : AV → VH → Prop} (hk : ∀ v h, K v h → K' v h) {v : AV} {h : VH} (hw : FrK K v h) : FrK K' v h := by
  induction hw with
  | now hx => exact .now (hk _ _ hx)
  | frz j hj hf _ ih => exact .frz j hj hf ih
  | frzh j hj hf hb _ ih => exact .frzh j hj hf hb ih
  | drop j _ ih => exact .drop j ih
theorem Gst.imp {X X' : VF → VH → Prop} (hk : ∀ ρ h, X ρ h → X' ρ h) {ρ : VF} {h : VH} (hw : Gst X ρ h) : Gst X' ρ h := by
  induction hw with
  | now hx => exact .now (hk _ _ hx)
  | frz j hj hf _ ih => exact .frz j hj hf ih
  | frzh j hj hf hb _ ih => exact .frzh j hj hf hb ih
  | drop j _ ih => exact .drop j ih
  | mat i e hi _ ih => exact .mat i e hi ih
def MonoV (A : FuncId → List AV → VH → (AV → VH → Prop) → Prop) : Prop := ∀ f as h K K', (∀ v h', K v h' → K' v h') → A f as h K → A f as h K'
section
variable {P : Program} {G : Nat → AV} {A : FuncId → List AV → VH → (AV → VH → Prop) → Prop} {t : TypeId} {h : VH} {K K' : AV → VH → Prop}
theorem vRead_mono {cs : List AV} {off : Nat} {K K' : AV → Prop} (hk : ∀ v, K v → K' v) (hw : vRead P t cs off K) : vRead P t cs off K' := by
  obtain ⟨g, hg, k1, k2⟩ := hw
  exact ⟨g, hg, fun e => by obtain ⟨n, a, b, c⟩ := k1 e; exact ⟨n, a, b, hk _ c⟩, fun e => by obtain ⟨v, a, b⟩ := k2 e; exact ⟨v, a, hk _ b⟩⟩
theorem vLoad_mono {v : AV} (hk : ∀ v h, K v h → K' v h) (hw : vLoad P t v h K) : vLoad P t v h K' := by
  unfold vLoad at hw ⊢
  split at hw
  · obtain ⟨e, cs, hj, hr⟩ := hw; exact ⟨e, cs, hj, vRead_mono (fun v => hk v h) hr⟩
  · exact vRead_mono (fun v => hk v h) hw
  · exact hw
theorem vStore_mono {v u : AV} (hk : ∀ v h, K v h → K' v h) (hw : vStore P t v u h K) : vStore P t v u h K' := by
  unfold vStore at hw ⊢
  split at hw
  · obtain ⟨e, cs, a, b, c, d, f, g⟩ := hw; exact ⟨e, cs, a, b, c, d, f, hk _ _ g⟩
  · exact hw
theorem vField_mono {v : AV} {f : Nat} (hk : ∀ v h, K v h → K' v h) (hw : vField P t v f h K) : vField P t v f h K' := by
  obtain ⟨fs, fd, n, a, b, c, d, hw⟩ := hw
  refine ⟨fs, fd, n, a, b, c, d, ?_⟩
  split at hw
  · exact ⟨hw.1, hk _ _ hw.2⟩
  · exact hk _ _ hw
  · exact hw
theorem vIxAddr_mono {x ix : AV} (hk : ∀ v h, K v h → K' v h) (hw : vIxAddr P t x ix h K) : vIxAddr P t x ix h K' := by
  obtain ⟨k, i, a, b, e, sz, c, hw⟩ := hw
  refine ⟨k, i, a, b, e, sz, c, ?_⟩
  split at hw
  · exact ⟨hw.1, hw.2.1, hk _ _ hw.2.2⟩
  · exact ⟨hw.1, hw.2.1, hw.2.2.1, hk _ _ hw.2.2.2⟩
  · obtain ⟨n, a, b, c, d⟩ := hw; exact ⟨n, a, b, c, hk _ _ d⟩
  · obtain ⟨n, a, b, d⟩ := hw; exact ⟨n, a, b, hk _ _ d⟩
  · exact hw
theorem vIx_mono {x ix : AV} (hk : ∀ v h, K v h → K' v h) (hw : vIx P t x ix h K) : vIx P t x ix h K' := by
  obtain ⟨k, i, a, b, hw⟩ := hw
  refine ⟨k, i, a, b, ?_⟩
  split at hw
  · obtain ⟨e, n, sz, u, a, b, c, d, f⟩ := hw; exact ⟨e, n, sz, u, a, b, c, d, hk _ _ f⟩
  · obtain ⟨q, a, b, c⟩ := hw; exact ⟨q, a, b, hk _ _ c⟩
  · exact hw
theorem vSlice_mono {x : AV} {lo hi : Option AV} (hk : ∀ v h, K v h → K' v h) (hw : vSlice P t x lo hi h K) : vSlice P t x lo hi h K' := by
  unfold vSlice at hw ⊢
  split at hw
  · obtain ⟨a, l, r, b, c, d, e, f, g⟩ := hw; exact ⟨a, l, r, b, c, d, e, f, hk _ _ g⟩
  · obtain ⟨e, sz, q1, q2, q3, l, r, b, c, d, e2, f, g⟩ := hw; exact ⟨e, sz, q1, q2, q3, l, r, b, c, d, e2, f, hk _ _ g⟩
  · obtain ⟨e, sz, e', nl, cs, q1, q2, q3, q4, l, r, b, c, d, e2, f, g1, g2⟩ := hw
    exact ⟨e, sz, e', nl, cs, q1, q2, q3, q4, l, r, b, c, d, e2, f, fun q => hk _ _ (g1 q), fun q => hk _ _ (g2 q)⟩
  · exact hw
theorem vAppend_mono {t' : TypeId} {s x : AV} (hk : ∀ v h, K v h → K' v h) (hw : vAppend P t t' s x h K) : vAppend P t t' s x h K' := by
  obtain ⟨e, sz, by_, n, vs, z, q1, q2, q3, q4, q5, q6, q7, hw⟩ := hw
  refine ⟨e, sz, by_, n, vs, z, q1, q2, q3, q4, q5, q6, q7, ?_⟩
  split at hw
  · exact ⟨hw.1, hw.2.1, fun q => hk _ _ (hw.2.2.1 q), fun q j hj => hk _ _ (hw.2.2.2 q j hj)⟩
  · obtain ⟨nl, cs, a, b, c, d, f⟩ := hw; exact ⟨nl, cs, a, b, c, d, fun j hj => hk _ _ (f j hj)⟩
  · exact hw
theorem vLen_mono {x : AV} (hk : ∀ v h, K v h → K' v h) (hw : vLen P t x h K) : vLen P t x h K' := by
  unfold vLen at hw ⊢
  split at hw
  · exact ⟨hw.1, hk _ _ hw.2⟩
  · exact ⟨hw.1, hk _ _ hw.2⟩
  · exact ⟨hw.1, hw.2.1, hk _ _ hw.2.2⟩
  · obtain ⟨n, e, a, b⟩ := hw; exact ⟨n, e, a, hk _ _ b⟩
  · exact hw
theorem vConv_mono {src dst : TypeId} {x : AV} (hk : ∀ v h, K v h → K' v h) (hw : vConv P src dst x h K) : vConv P src dst x h K' := by
  unfold vConv at hw ⊢
  split at hw
  · rcases hw with hw | ⟨e, s, a, b, c, d, f, g, hw⟩
    · exact .inl (wSc_mono (fun u hu => ⟨hu.1, hk _ _ hu.2⟩) hw)
    · exact .inr ⟨e, s, a, b, c, d, f, g, hw.imp (fun q j hj => hk _ _ (q j hj)) (hk _ _)⟩
  · obtain ⟨e, ns, a, b, c, d, f, g⟩ := hw; exact ⟨e, ns, a, b, c, d, f, hk _ _ g⟩
  · rcases hw with ⟨e, ns, e', nl, cs, a, b, c, d, f, g, i⟩ | ⟨a, e, e', cs, b, c, d, f⟩
    · exact .inl ⟨e, ns, e', nl, cs, a, b, c, d, f, g, hk _ _ i⟩
    · exact .inr ⟨a, e, e', cs, b, c, d, f.imp (hk _ _) (fun q => ⟨q.1, hk _ _ q.2⟩)⟩
  · exact hw
theorem vBin_mono {op : BinOp} {x y : Operand} {a b : AV} {K K' : AV → Prop} (hk : ∀ v, K v → K' v) (hw : vBin P op t x y a b h K) : vBin P op t x y a b h K' := by
  rcases hw with ⟨u, w, h1, h2, hw⟩ | ⟨us, ws, h1, h2, hw⟩ | ⟨q, e, h1, h2, hw⟩
  · exact .inl ⟨u, w, h1, h2, wSc_mono (fun r hr => ⟨hr.1, hk _ hr.2⟩) hw⟩
  · exact .inr (.inl ⟨us, ws, h1, h2, wSc_mono (fun r hr => ⟨hr.1, hk _ hr.2⟩) hw⟩)
  · exact .inr (.inr ⟨q, e, h1, h2, hw.imp (fun r => ⟨r.1, hk _ r.2⟩) (fun r => ⟨r.1, hk _ r.2⟩)⟩)
theorem vCall_mono (hA : MonoV A) {g : FuncId} {as : List AV} (hk : ∀ v h, K v h → K' v h) (hw : vCall A g as h K) : vCall A g as h K' := by
  rcases hw with hw | ⟨as', a, b, hw⟩
  · exact .inl (hA _ _ _ _ _ hk hw)
  · exact .inr ⟨as', a, b, hA _ _ _ _ _ (fun v _ hh => ⟨hh.1, hk _ _ hh.2⟩) hw⟩
theorem vop_mono (hA : MonoV A) {o : Oper} {ρ : VF} (hk : ∀ v h, K v h → K' v h) (hw : vop P G A o ρ h K) : vop P G A o ρ h K' := by
  unfold vop at hw ⊢
  split at hw
  · exact ⟨hw.1, hk _ _ hw.2⟩
  · exact ⟨hw.1, hk _ _ hw.2⟩
  · obtain ⟨a, b, c, t, e, k1, k2⟩ := hw; exact ⟨a, b, c, t, e, fun q => hk _ _ (k1 q), fun q => hk _ _ (k2 q)⟩
  · obtain ⟨zs, a, b⟩ := hw; exact ⟨zs, a, fun j hj => hk _ _ (b j hj)⟩
  · exact ⟨hw.1, hw.2.1, hw.2.2.1, hw.2.2.2.1, fun j hj => hk _ _ (hw.2.2.2.2 j hj)⟩
  · obtain ⟨a, q, b, cells, c, d⟩ := hw; exact ⟨a, q, b, cells, c, hk _ _ d⟩
  · obtain ⟨a, e, sz, z, cells, q1, q2, q3, q4, q5, q6, q7, q8, q9, q10, d⟩ := hw
    exact ⟨a, e, sz, z, cells, q1, q2, q3, q4, q5, q6, q7, q8, q9, q10, d.imp (fun f j hj => hk _ _ (f j hj)) (hk _ _)⟩
  · exact ⟨hw.1, vLoad_mono hk hw.2⟩
  · exact ⟨hw.1, hw.2.1, vStore_mono hk hw.2.2⟩
  · exact ⟨hw.1, hw.2.1, hk _ _ hw.2.2⟩
  · exact ⟨hw.1, hw.2.1, vBin_mono (fun v => hk v _) hw.2.2⟩
  · obtain ⟨a, v, b, c⟩ := hw; exact ⟨a, v, b, wSc_mono (fun r hr => ⟨hr.1, hk _ _ hr.2⟩) c⟩
  · exact ⟨hw.1, vConv_mono hk hw.2⟩
  · exact ⟨hw.1, hw.2.1, hk _ _ hw.2.2⟩
  · obtain ⟨a, b, k, k', n, e, z, by_, q1, q2, q3, q4, q5, q6, q7, q8, q9, d⟩ := hw
    exact ⟨a, b, k, k', n, e, z, by_, q1, q2, q3, q4, q5, q6, q7, q8, q9, d.imp (fun f j hj => hk _ _ (f j hj)) (hk _ _)⟩
  · exact ⟨hw.1, hw.2.1, vSlice_mono hk hw.2.2⟩
  · exact ⟨hw.1, vField_mono hk hw.2⟩
  · obtain ⟨a, fs, fd, cs, u, b, c, d, e, f⟩ := hw; exact ⟨a, fs, fd, cs, u, b, c, d, e, hk _ _ f⟩
  · exact ⟨hw.1, hw.2.1, vIxAddr_mono hk hw.2.2⟩
  · exact ⟨hw.1, hw.2.1, vIx_mono hk hw.2.2⟩
  · obtain ⟨a, vs, v, b, c, d⟩ := hw; exact ⟨a, vs, v, b, c, hk _ _ d⟩
  · obtain ⟨a, s, b, c, d⟩ := hw; exact ⟨a, s, b, c, fun j hj => hk _ _ (d j hj)⟩
  · obtain ⟨a, j, s, pos, b, c, d, e⟩ := hw; exact ⟨a, j, s, pos, b, c, fun q => hk _ _ (d q), fun q => hk _ _ (e q)⟩
  · refine ⟨hw.1, ?_⟩
    have h2 := hw.2
    split at h2
    · split at h2
      · exact vLen_mono hk h2
      · exact h2
    · split at h2
      · exact vAppend_mono hk h2
      · exact h2
    · obtain ⟨vs, a, b⟩ := h2; exact ⟨vs, a, wSc_mono (fun r hr => ⟨hr.1, hk _ _ hr.2⟩) b⟩
    · obtain ⟨vs, a, b⟩ := h2; exact ⟨vs, a, wSc_mono (fun r hr => ⟨hr.1, hk _ _ hr.2⟩) b⟩
    · obtain ⟨a, g, xs, ys, b, c⟩ := h2; exact ⟨a, g, xs, ys, b, vCall_mono hA hk c⟩
    · exact h2
  · exact hw
theorem vops_mono (hA : MonoV A) {n : Nat} {ops : Array Oper} : ∀ {os : List Oper} {K K' : VF → VH → Prop} {ρ : VF} {h : VH}, (∀ ρ h, K ρ h → K' ρ h) → vops P G A n ops os K ρ h → vops P G A n ops os K' ρ h
  | [], K, K', ρ, h, hk, hw => hk _ _ hw
  | o :: os, K, K', ρ, h, hk, hw => by
    unfold vops at hw ⊢
    refine ⟨hw.1, ?_⟩
    have h2 := hw.2
    split at h2
    · exact vop_mono hA (fun v h' hh => vops_mono hA hk hh) h2
    · obtain ⟨d, t, a1, a2, a3, a4, a5⟩ := h2
      exact ⟨d, t, a1, a2, a3, fun e => vop_mono hA (fun v h' hh => vops_mono hA hk hh) (a4 e), fun e => vops_mono hA hk (a5 e)⟩
theorem vany_mono (hA : MonoV A) {n : Nat} {ops : Array Oper} : ∀ {fuel : Nat} {l : Array Bool} {K K' : VF → VH → Prop} {ρ : VF} {h : VH}, (∀ ρ h, K ρ h → K' ρ h) → vany P G A n ops K fuel l ρ h → vany P G A n ops K' fuel l ρ h
  | 0, l, K, K', ρ, h, hk, hw => ⟨hw.1, hk _ _ hw.2⟩
  | fuel + 1, l, K, K', ρ, h, hk, hw => by
    refine ⟨fun e => hk _ _ (hw.1 e), fun i hi => ?_⟩
    obtain ⟨o, ho, h1⟩ := hw.2 i hi
    exact ⟨o, ho, vops_mono hA (fun ρ h hh => vany_mono hA hk hh) h1⟩
theorem thenV_mono {next next' : VF → VH → Prop} {Q Q' : Exit → VF → VH → Prop} (h1 : ∀ ρ h, next ρ h → next' ρ h) (h2 : ∀ e ρ h, Q e ρ h → Q' e ρ h) (e : Exit) (ρ : VF) (h : VH) (hh : thenV next Q e ρ h) : thenV next' Q' e ρ h := by
  cases e with
  | normal => exact hh.imp h1
  | _ => exact h2 _ _ _ hh
theorem inBlockV_mono {id : Nat} {Q Q' : Exit → VF → VH → Prop} (h2 : ∀ e ρ h, Q e ρ h → Q' e ρ h) (e : Exit) (ρ : VF) (h : VH) (hh : inBlockV id Q e ρ h) : inBlockV id Q' e ρ h := by
  cases e with
  | exit id' =>
    unfold inBlockV at hh ⊢
    simp only at hh ⊢
    split at hh
    · rename_i he; rw [if_pos he]; exact h2 _ _ _ hh
    · rename_i he; rw [if_neg he]; exact h2 _ _ _ hh
  | _ => exact h2 _ _ _ hh
theorem vawp_mono (hA : MonoV A) {n : Nat} : ∀ (c : Code) {Q Q' : Exit → VF → VH → Prop} {ρ : VF} {h : VH}, (∀ e ρ h, Q e ρ h → Q' e ρ h) → vawp P G A n c Q ρ h → vawp P G A n c Q' ρ h
  | .skip, Q, Q', ρ, h, hk, hw => hk _ _ _ hw
  | .region id ops false, Q, Q', ρ, h, hk, hw => vops_mono hA (hk .normal) hw
  | .region id ops true, Q, Q', ρ, h, hk, hw => by
    refine ⟨hw.1, hw.2.imp (fun ⟨ord, a, b⟩ => ⟨ord, a, vops_mono hA (hk .normal) b⟩) (vany_mono hA (hk .normal))⟩
  | .seq a b, Q, Q', ρ, h, hk, hw => vawp_mono hA a (thenV_mono (fun ρ h hh => vawp_mono hA b hk hh) hk) hw
  | .cond c x y, Q, Q', ρ, h, hk, hw => by
    obtain ⟨a, t, b, k1, k2⟩ := hw
    exact ⟨a, t, b, fun e => vawp_mono hA x hk (k1 e), fun e => vawp_mono hA y hk (k2 e)⟩
  | .block id c, Q, Q', ρ, h, hk, hw => vawp_mono hA c (inBlockV_mono hk) hw
  | .loop c, Q, Q', ρ, h, hk, hw => by
    obtain ⟨I, k, h0, hr⟩ := hw
    exact ⟨I, k, h0, fun k ρ h hi => vawp_mono hA c (thenV_mono (fun _ _ hh => hh) hk) (hr k ρ h hi)⟩
  | .exit id, Q, Q', ρ, h, hk, hw => hk _ _ _ hw
  | .ret, Q, Q', ρ, h, hk, hw => hk _ _ _ hw
  | .scope .., Q, Q', ρ, h, hk, hw => hw.elim
  | .rangeFunc .., Q, Q', ρ, h, hk, hw => hw.elim
  | .goto .., Q, Q', ρ, h, hk, hw => hw.elim
theorem resKV_mono : ∀ {rs : List ResultVar} {ρ : VF} {h : VH} {K K' : List AV → VH → Prop}, (∀ vs h, K vs h → K' vs h) → resKV P rs ρ h K → resKV P rs ρ h K'
  | [], ρ, h, K, K', hk, hw => hk _ _ hw
  | .tmp t :: rs, ρ, h, K, K', hk, hw => resKV_mono (rs := rs) (fun vs h hh => hk _ _ hh) hw
  | .cell a t :: rs, ρ, h, K, K', hk, hw => vLoad_mono (fun u h' hh => resKV_mono (rs := rs) (fun vs h hh => hk _ _ hh) hh) hw
theorem VC_mono : ∀ d, MonoV (VC P G d)
  | 0 => fun f as h K K' hk hw => hw.elim
  | d + 1 => by
    rintro f as h K K' hk (hx | ⟨fn, c, h1, h2, h3, h4, h5⟩)
    · exact .inl fun W0 C h1 us hG R hr => (hx W0 C h1 us hG R hr).mono fun v h ⟨a, h', C', k, r⟩ => ⟨a, h', C', hk _ _ k, r⟩
    refine .inr ⟨fn, c, h1, h2, h3, h4, vawp_mono (VC_mono d) c (fun e ρ h hh => ?_) h5⟩
    cases e with
    | normal => exact resKV_mono (fun vs h hh => hh.imp hk) hh
    | ret => exact resKV_mono (fun vs h hh => hh.imp hk) hh
    | _ => exact hh.elim
end
end Go.Proofs.AbM
