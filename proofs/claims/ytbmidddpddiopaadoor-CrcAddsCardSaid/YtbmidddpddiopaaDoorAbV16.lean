/- The machine of values: a region that draws, in two parts, the second in whatever order its edges leave. -/
import Derived.Test.YtbmidddpddiopaaDoorAbV15
set_option linter.unusedVariables false
set_option linter.unusedSimpArgs false
namespace Go.Proofs.AbM
open Go.RowKit
/-- Of the first part: each has a slot of its own; what it reads was written by one ahead of it (which it waits for), or is written by those that wait for it. -/
def okPs2 (ops : Array Oper) (ord : List Nat) : List Nat → List Nat → Bool
  | _, [] => true
  | pre, a :: r => (match ops[a]? with
    | none => false
    | some o => (match o.dst with
        | none => true
        | some d => (List.range ops.size).all fun b => Nat.beq b a || !isD ops b d) &&
      (rdV o).all fun t => ((List.range ops.size).all fun c => !isD ops c t || (pre.any (Nat.beq c) && direct ops a c)) || ((List.range ops.size).all fun c => !isD ops c t || (ord.any (Nat.beq c) && direct ops c a))) && okPs2 ops ord (pre ++ [a]) r
def okOrd2 (ops : Array Oper) (ps : List Nat) (l : List Nat) : Bool :=
  l.all fun b => match ops[b]? with
    | none => false
    | some o => (rdV o).all fun t => ps.all fun a => !isD ops a t || direct ops b a
def okS2 (ops : Array Oper) (ps ord : List Nat) : Bool :=
  ((List.range ops.size).all fun i => (ps ++ ord).any (Nat.beq i)) && ((ps ++ ord).all fun i => Nat.blt i ops.size) && nodupB (ps ++ ord) && okPs2 ops ord [] ps && okOrd2 ops ps ord &&
  ((List.range ops.size).all fun b => match ops[b]? with | none => false | some o => o.after.toList.all fun e => !binds e || Nat.blt e.on b)
/-- Which of those that are left wait for none of them. -/
def freeO (ops : Array Oper) (rem : List Nat) (i : Nat) : Bool := rem.all fun j => Nat.beq j i || !direct ops i j
section
variable {P : Program} {G : Nat → AV} {A : FuncId → List AV → VH → (AV → VH → Prop) → Prop} {n : Nat} {ops : Array Oper}
def vopsT (P : Program) (G : Nat → AV) (A : FuncId → List AV → VH → (AV → VH → Prop) → Prop) (n : Nat) (ops : Array Oper) (I : VH → Prop) : Nat → List Nat → (VF → VH → Prop) → VF → VH → Prop
  | 0, _, K, ρ, h => K ρ h
  | f + 1, rem, K, ρ, h => ∀ i ∈ rem, freeO ops rem i = true → ∃ o, ops[i]? = some o ∧ dstOk n o.dst ∧ o.guard = none ∧ vop P G A o ρ h (fun v h' => I h' ∧ vopsT P G A n ops I f (rem.erase i) K (putV ρ o.dst v) h')
structure StS2 (ops : Array Oper) (ps ord : List Nat) : Prop where
  all : ∀ i, i < ops.size → i ∈ ps ∨ i ∈ ord
  nd : (ps ++ ord).Nodup
  lt : ∀ i ∈ ps ++ ord, i < ops.size
  one : ∀ a ∈ ps, ∀ d, dstV ops a = some d → ∀ b, b < ops.size → dstV ops b = some d → b = a
  rd : ∀ pre a post, ps = pre ++ a :: post → ∀ o, ops[a]? = some o → ∀ t ∈ rdV o, (∀ c, c < ops.size → dstV ops c = some t → c ∈ pre ∧ direct ops a c = true) ∨ (∀ c, c < ops.size → dstV ops c = some t → c ∈ ord ∧ direct ops c a = true)
  ord1 : ∀ b ∈ ord, ∀ o, ops[b]? = some o → ∀ t ∈ rdV o, ∀ a ∈ ps, dstV ops a = some t → direct ops b a = true
  txt : ∀ b o, ops[b]? = some o → ∀ e ∈ o.after, binds e = true → e.on < b
theorem okPs2_one {ord : List Nat} : ∀ {pre l : List Nat}, okPs2 ops ord pre l = true → ∀ a ∈ l, ∀ d, dstV ops a = some d → ∀ b, b < ops.size → dstV ops b = some d → b = a
  | pre, [], _, a, ha, _, _, _, _, _ => by cases ha
  | pre, x :: r, h, a, ha, d, hd, b, hb, hbd => by
    simp only [okPs2, Bool.and_eq_true] at h
    rcases List.mem_cons.1 ha with rfl | ha
    · have h1 := h.1
      obtain ⟨oa, ho⟩ : ∃ oa, ops[a]? = some oa := by
        cases hh : ops[a]? with
        | none => rw [hh] at h1; cases h1
        | some o => exact ⟨_, rfl⟩
      rw [ho] at h1
      simp only [Bool.and_eq_true] at h1
      have hd2 : oa.dst = some d := by unfold dstV at hd; rw [ho] at hd; exact hd
      rw [hd2] at h1
      have := List.all_eq_true.1 h1.1 b (List.mem_range.2 hb)
      simp only [Bool.or_eq_true, Bool.not_eq_true'] at this
      rcases this with h3 | h3
      · exact Nat.eq_of_beq_eq_true h3
      · rw [isD_iff.2 hbd] at h3; cases h3
    · exact okPs2_one h.2 a ha d hd b hb hbd
theorem okPs2_rd {ord : List Nat} : ∀ {pre0 l : List Nat}, okPs2 ops ord pre0 l = true → ∀ pre a post, l = pre ++ a :: post → ∀ o, ops[a]? = some o → ∀ t ∈ rdV o, (∀ c, c < ops.size → dstV ops c = some t → c ∈ pre0 ++ pre ∧ direct ops a c = true) ∨ (∀ c, c < ops.size → dstV ops c = some t → c ∈ ord ∧ direct ops c a = true)
  | pre0, [], _, pre, a, post, he, _, _, _, _ => by simp at he
  | pre0, x :: r, h, pre, a, post, he, o, ho, t, ht => by
    simp only [okPs2, Bool.and_eq_true] at h
    cases pre with
    | nil =>
      simp only [List.nil_append, List.cons.injEq] at he
      obtain ⟨rfl, _⟩ := he
      have h1 := h.1
      rw [ho] at h1
      simp only [Bool.and_eq_true] at h1
      have := List.all_eq_true.1 h1.2 t ht
      rw [Bool.or_eq_true] at this
      refine this.imp (fun h2 c hc hct => ?_) (fun h2 c hc hct => ?_)
      · have := List.all_eq_true.1 h2 c (List.mem_range.2 hc)
        simp only [Bool.or_eq_true, Bool.not_eq_true', Bool.and_eq_true] at this
        rcases this with h3 | h3
        · rw [isD_iff.2 hct] at h3; cases h3
        · exact ⟨by simpa using any_beq.1 h3.1, h3.2⟩
      · have := List.all_eq_true.1 h2 c (List.mem_range.2 hc)
        simp only [Bool.or_eq_true, Bool.not_eq_true', Bool.and_eq_true] at this
        rcases this with h3 | h3
        · rw [isD_iff.2 hct] at h3; cases h3
        · exact ⟨any_beq.1 h3.1, h3.2⟩
    | cons y pre =>
      simp only [List.cons_append, List.cons.injEq] at he
      obtain ⟨rfl, he⟩ := he
      refine (okPs2_rd h.2 pre a post he o ho t ht).imp (fun h2 c hc hct => ?_) (fun h2 => h2)
      have := h2 c hc hct
      exact ⟨by simpa using this.1, this.2⟩
theorem okS2_st {ps ord : List Nat} (h : okS2 ops ps ord = true) : StS2 ops ps ord := by
  simp only [okS2, Bool.and_eq_true] at h
  obtain ⟨⟨⟨⟨⟨h1, h2⟩, h3⟩, h4⟩, h5⟩, h6⟩ := h
  refine ⟨fun i hi => ?_, nodupB_iff h3, fun i hi => blt_iff.1 (List.all_eq_true.1 h2 i hi), okPs2_one h4, fun pre a post he o ho t ht => ?_, fun b hb o ho t ht a ha hat => ?_, fun b o ho e he hb => ?_⟩
  · exact List.mem_append.1 (any_beq.1 (List.all_eq_true.1 h1 i (List.mem_range.2 hi)))
  · simpa using okPs2_rd h4 pre a post he o ho t ht
  · have := List.all_eq_true.1 h5 b hb
    rw [ho] at this
    have := List.all_eq_true.1 (List.all_eq_true.1 this t ht) a ha
    simp only [Bool.or_eq_true, Bool.not_eq_true'] at this
    rcases this with h4 | h4
    · rw [isD_iff.2 hat] at h4; cases h4
    · exact h4
  · have := List.all_eq_true.1 h6 b (List.mem_range.2 (Array.getElem?_eq_some_iff.1 ho).1)
    rw [ho] at this
    have := List.all_eq_true.1 this e (by simpa using he)
    simp only [Bool.or_eq_true, Bool.not_eq_true'] at this
    rcases this with h7 | h7
    · rw [hb] at h7; cases h7
    · exact blt_iff.1 h7
theorem vany_split2 (hA : MonoV A) {ps ord : List Nat} {I : VH → Prop} {KF : VF → VH → Prop} {ρ : VF} (S : StS2 ops ps ord) {vals : Nat → AV} (hvals : ∀ pre a post, ps = pre ++ a :: post → ∃ o, ops[a]? = some o ∧ pureO P G A n I o (seqp ops vals pre ρ) (vals a)) :
    ∀ (fuel : Nat) (l : Array Bool) (ρ' : VF) (h' : VH) (rem : List Nat), l.size = ops.size → (rem.Nodup ∧ ∀ i, i ∈ rem ↔ i ∈ ord ∧ l.getD i true = false) → (∀ a ∈ ps, l.getD a false = true → ∀ d, dstV ops a = some d → ρ' d = vals a) → (∀ t, (∀ c, c < ops.size → dstV ops c = some t → l.getD c false = false) → ρ' t = ρ t) → I h' →
      vopsT P G A n ops I rem.length rem KF (seqp ops vals ps ρ') h' → (∀ c, c < ops.size → l.getD c false = true → ∀ a, direct ops c a = true → l.getD a false = true) → ((List.range ops.size).filter fun k => !l.getD k true).length = fuel → vany P G A n ops KF fuel l ρ' h' := by
  have hpsnd : ps.Nodup := (List.nodup_append.1 S.nd).1
  have huq : ∀ t a, a ∈ ps → dstV ops a = some t → ∀ b ∈ ps, dstV ops b = some t → b = a := fun t a ha hat b hb hbt => S.one a ha t hat b (S.lt b (by simp [hb])) hbt
  intro fuel
  induction fuel with
  | zero =>
    intro l ρ' h' rem hs hd hv hr hI hw hpre hc
    have hl : ∀ k, k < ops.size → l.getD k true = true := fun k hk => by
      cases hh : l.getD k true with
      | true => rfl
      | false =>
        have : k ∈ (List.range ops.size).filter fun k => !l.getD k true := List.mem_filter.2 ⟨List.mem_range.2 hk, by simp [hh]⟩
        rw [List.eq_nil_of_length_eq_zero hc] at this
        cases this
    refine ⟨?_, ?_⟩
    · cases hrd : Region.ready .any ops l with
      | nil => rfl
      | cons i r =>
        have : i ∈ Region.ready .any ops l := by rw [hrd]; simp
        obtain ⟨k1, k2, _⟩ := ready_iff.1 this
        rw [hl i k1] at k2; cases k2
    · have : rem = [] := by
        cases rem with
        | nil => rfl
        | cons i r =>
          have h1 := (hd.2 i).1 (by simp)
          rw [hl i (S.lt i (by simp [h1.1]))] at h1; cases h1.2
      subst this
      have he : seqp ops vals ps ρ' = ρ' := by
        funext t
        by_cases ht : ∃ a, a ∈ ps ∧ dstV ops a = some t
        · obtain ⟨a, ha, hat⟩ := ht
          have hal : a < ops.size := S.lt a (by simp [ha])
          have : l.getD a false = true := by
            have := hl a hal
            have hls : a < l.size := by omega
            simp only [Array.getD, hls, dif_pos] at this ⊢
            exact this
          rw [seqp_at (fun b hb hbt => huq t a ha hat b hb hbt) ha hat, hv a ha this t hat]
        · exact seqp_no fun a ha hat => ht ⟨a, ha, hat⟩
      rw [he] at hw
      exact hw
  | succ fuel ih =>
    intro l ρ' h' rem hs hd hv hr hI hw hpre hc
    have hgd : ∀ k, k < ops.size → l.getD k true = l.getD k false := fun k hk => by
      have hks : k < l.size := by omega
      simp only [Array.getD, hks, dif_pos]
    have hex : ∃ k, k < ops.size ∧ l.getD k true = false := by
      cases hf : (List.range ops.size).filter fun k => !l.getD k true with
      | nil => rw [hf] at hc; simp at hc
      | cons k r =>
        have : k ∈ (List.range ops.size).filter fun k => !l.getD k true := by rw [hf]; simp
        obtain ⟨h1, h2⟩ := List.mem_filter.1 this
        exact ⟨k, List.mem_range.1 h1, by simpa using h2⟩
    have hmin : ∃ k, k < ops.size ∧ l.getD k true = false ∧ ∀ m, m < k → l.getD m true = true := by
      obtain ⟨k, hk⟩ := hex
      induction k using Nat.strongRecOn with
      | ind k ihk =>
        by_cases hm : ∃ m, m < k ∧ l.getD m true = false
        · obtain ⟨m, h1, h2⟩ := hm
          exact ihk m h1 ⟨by omega, h2⟩
        · exact ⟨k, hk.1, hk.2, fun m hm' => by
            cases hh : l.getD m true with
            | true => rfl
            | false => exact absurd ⟨m, hm', hh⟩ hm⟩
    refine ⟨fun e => ?_, fun i hi => ?_⟩
    · exfalso
      obtain ⟨k, h1, h2, h3⟩ := hmin
      have ho := Array.getElem?_eq_getElem h1
      have : k ∈ Region.ready .any ops l := ready_iff.2 ⟨h1, h2, _, ho, fun e' he hbe => by
        have := S.txt k _ ho e' he hbe
        rw [← hgd _ (by omega)]
        exact h3 _ this⟩
      rw [e] at this
      cases this
    · obtain ⟨his, hil, o, ho, hdep⟩ := ready_iff.1 hi
      have hli : i < l.size := by omega
      have hdi : dstV ops i = o.dst := by unfold dstV; rw [ho]; rfl
      have hdir : ∀ a, direct ops i a = true → l.getD a false = true := fun a ha => by
        obtain ⟨e', he, hbe, hea⟩ := (direct_iff ho).1 ha
        have := hdep e' he hbe
        rwa [hea] at this
      have hset : ∀ k b, (l.setIfInBounds i true).getD k b = if k = i then true else l.getD k b := by
        intro k b
        rw [Array.getD_eq_getD_getElem?, Array.getD_eq_getD_getElem?, Array.getElem?_setIfInBounds]
        by_cases hk : k = i
        · subst hk; simp [hli]
        · simp [hk, Ne.symm hk]
      have hcnt : ((List.range ops.size).filter fun k => !(l.setIfInBounds i true).getD k true).length = fuel := by
        have hcount : ∀ (L : List Nat), L.Nodup → i ∈ L → (L.filter fun k => !l.getD k true).length = (L.filter fun k => !(l.setIfInBounds i true).getD k true).length + 1 := by
          intro L
          induction L with
          | nil => intro _ h; simp at h
          | cons x L ihL =>
            intro hnd hm
            rw [List.nodup_cons] at hnd
            rw [List.filter_cons, List.filter_cons]
            by_cases hx : x = i
            · subst hx
              have e1 : (!l.getD x true) = true := by rw [hil]; rfl
              have e2 : (!(l.setIfInBounds x true).getD x true) = false := by rw [hset, if_pos rfl]; rfl
              rw [if_pos e1, e2, List.length_cons]
              simp only [Bool.false_eq_true, if_false]
              congr 2
              apply List.filter_congr
              intro y hy
              rw [hset, if_neg]
              rintro rfl
              exact hnd.1 hy
            · have hm' : i ∈ L := by
                rcases List.mem_cons.1 hm with h | h
                · exact absurd h.symm hx
                · exact h
              have e1 : (!(l.setIfInBounds i true).getD x true) = !l.getD x true := by rw [hset, if_neg hx]
              rw [e1]
              split
              · rw [List.length_cons, List.length_cons, ihL hnd.2 hm']
              · exact ihL hnd.2 hm'
        have := hcount (List.range ops.size) List.nodup_range (List.mem_range.2 his)
        omega
      have hpre2 : ∀ c, c < ops.size → (l.setIfInBounds i true).getD c false = true → ∀ a, direct ops c a = true → (l.setIfInBounds i true).getD a false = true := by
        intro c hc hcl a hca
        rw [hset] at hcl ⊢
        by_cases hai : a = i
        · rw [if_pos hai]
        · rw [if_neg hai]
          by_cases hci : c = i
          · subst hci; exact hdir a hca
          · rw [if_neg hci] at hcl
            exact hpre c hc hcl a hca
      refine ⟨o, ho, ?_⟩
      by_cases hip : i ∈ ps
      · -- one that looks at nothing
        obtain ⟨pre, post, hpp⟩ := List.append_of_mem hip
        obtain ⟨o', ho', hd1, hg, hq⟩ := hvals pre i post hpp
        rw [ho] at ho'; cases ho'
        have hnotord : i ∉ ord := fun hio => (List.nodup_append.1 S.nd).2.2 i hip i hio rfl
        have hsl : ∀ t ∈ rdV o, seqp ops vals pre ρ t = ρ' t := by
          intro t ht
          rcases S.rd pre i post hpp o ho t ht with hrd | hrd
          · by_cases hc2 : ∃ c, c < ops.size ∧ dstV ops c = some t
            · obtain ⟨c, hcs, hct⟩ := hc2
              obtain ⟨h1, h2⟩ := hrd c hcs hct
              have hcp : c ∈ ps := by rw [hpp]; simp [h1]
              rw [seqp_at (fun b hb hbt => huq t c hcp hct b (by rw [hpp]; simp [hb]) hbt) h1 hct, hv c hcp (hdir c h2) t hct]
            · have hno : ∀ c, c < ops.size → dstV ops c ≠ some t := fun c h1 h2 => hc2 ⟨c, h1, h2⟩
              rw [seqp_no fun a ha => hno a (S.lt a (by rw [hpp]; simp [ha])), hr t fun c h1 h2 => absurd h2 (hno c h1)]
          · rw [seqp_no fun a ha hat => ?_, hr t fun c hcs hct => ?_]
            · have h2 := (hrd c hcs hct).2
              cases hcl : l.getD c false with
              | false => rfl
              | true =>
                exfalso
                have h3 := hpre c hcs hcl i h2
                rw [hgd i his, h3] at hil
                cases hil
            · have hal := S.lt a (by rw [hpp]; simp [ha])
              exact (List.nodup_append.1 S.nd).2.2 a (by rw [hpp]; simp [ha]) a (hrd a hal hat).1 rfl
        have hfr : ∀ t, seqp ops vals ps (putV ρ' o.dst (vals i)) t = seqp ops vals ps ρ' t := by
          intro t
          by_cases ht : ∃ a, a ∈ ps ∧ dstV ops a = some t
          · obtain ⟨a, ha, hat⟩ := ht
            rw [seqp_at (fun b hb hbt => huq t a ha hat b hb hbt) ha hat, seqp_at (fun b hb hbt => huq t a ha hat b hb hbt) ha hat]
          · have hno : ∀ a ∈ ps, dstV ops a ≠ some t := fun a ha hat => ht ⟨a, ha, hat⟩
            rw [seqp_no hno, seqp_no hno, putV_at, if_neg]
            rw [← hdi]; exact hno i hip
        show dstOk n o.dst ∧ _
        refine ⟨hd1, ?_⟩
        rw [hg]
        refine vop_congr (rdV_evv hsl) (hq h' _ hI ?_)
        show vany P G A n ops KF fuel (l.setIfInBounds i true) (putV ρ' o.dst (vals i)) h'
        refine ih _ _ _ rem (by simp [hs]) ⟨hd.1, fun k => ?_⟩ (fun a ha hal d had => ?_) (fun t ht => ?_) hI ?_ hpre2 hcnt
        · rw [hset, hd.2]
          by_cases hk : k = i
          · subst hk; simp [hnotord]
          · rw [if_neg hk]
        · rw [putV_at]
          by_cases hai : a = i
          · subst hai; rw [if_pos (by rw [← hdi]; exact had)]
          · rw [if_neg]
            · rw [hset, if_neg hai] at hal; exact hv a ha hal d had
            · intro hh
              exact hai (huq d i hip (by rw [hdi]; exact hh) a ha had)
        · rw [putV_at, if_neg]
          · refine hr t fun c hc hct => ?_
            have := ht c hc hct
            rw [hset] at this
            split at this
            · cases this
            · exact this
          · intro hh
            have := ht i his (by rw [hdi]; exact hh)
            rw [hset, if_pos rfl] at this; cases this
        · rw [show seqp ops vals ps (putV ρ' o.dst (vals i)) = seqp ops vals ps ρ' from funext hfr]
          exact hw
      · -- the next of the chain
        have hio : i ∈ ord := (S.all i his).resolve_left hip
        have hir : i ∈ rem := (hd.2 i).2 ⟨hio, hil⟩
        have hfree : freeO ops rem i = true := by
          unfold freeO
          rw [List.all_eq_true]
          intro jj hjj
          rw [Bool.or_eq_true, Bool.not_eq_true']
          by_cases hij : jj = i
          · left; subst hij; exact Nat.beq_refl _
          · right
            cases hdd : direct ops i jj with
            | false => rfl
            | true =>
              have h1 := hdir jj hdd
              have h2 := (hd.2 jj).1 hjj
              rw [hgd jj (S.lt jj (by simp [h2.1])), h1] at h2; cases h2.2
        obtain ⟨f, hfl⟩ : ∃ f, rem.length = f + 1 := ⟨rem.length - 1, by have := List.length_pos_of_mem hir; omega⟩
        have hfl2 : (rem.erase i).length = f := by rw [List.length_erase_of_mem hir]; omega
        rw [hfl] at hw
        obtain ⟨o', ho', hd1, hg, hw⟩ := hw i hir hfree
        rw [ho] at ho'; cases ho'
        have hsl : ∀ t ∈ rdV o, seqp ops vals ps ρ' t = ρ' t := by
          intro t ht
          by_cases hc2 : ∃ a, a ∈ ps ∧ dstV ops a = some t
          · obtain ⟨a, ha, hat⟩ := hc2
            have h2 := S.ord1 i hio o ho t ht a ha hat
            rw [seqp_at (fun b hb hbt => huq t a ha hat b hb hbt) ha hat, hv a ha (hdir a h2) t hat]
          · exact seqp_no fun a ha hat => hc2 ⟨a, ha, hat⟩
        show dstOk n o.dst ∧ _
        refine ⟨hd1, ?_⟩
        rw [hg]
        refine vop_mono hA (fun v h2 hh => ?_) (vop_congr (rdV_evv hsl) hw)
        obtain ⟨hI2, hw2⟩ := hh
        show vany P G A n ops KF fuel (l.setIfInBounds i true) (putV ρ' o.dst v) h2
        refine ih _ _ _ (rem.erase i) (by simp [hs]) ⟨hd.1.erase i, fun k => ?_⟩ (fun a ha hal d had => ?_) (fun t ht => ?_) hI2 ?_ hpre2 hcnt
        · rw [hset, hd.1.mem_erase_iff, hd.2]
          by_cases hk : k = i
          · subst hk; simp
          · rw [if_neg hk]; simp [hk]
        · have hai : a ≠ i := by rintro rfl; exact hip ha
          rw [hset, if_neg hai] at hal
          rw [putV_at, if_neg]
          · exact hv a ha hal d had
          · intro hh
            exact hai (S.one a ha d had i his (by rw [hdi]; exact hh)).symm
        · rw [putV_at, if_neg]
          · refine hr t fun c hc hct => ?_
            have := ht c hc hct
            rw [hset] at this
            split at this
            · cases this
            · exact this
          · intro hh
            have := ht i his (by rw [hdi]; exact hh)
            rw [hset, if_pos rfl] at this; cases this
        · have hfr : ∀ t, seqp ops vals ps (putV ρ' o.dst v) t = putV (seqp ops vals ps ρ') o.dst v t := by
            intro t
            by_cases ht : ∃ a, a ∈ ps ∧ dstV ops a = some t
            · obtain ⟨a, ha, hat⟩ := ht
              rw [seqp_at (fun b hb hbt => huq t a ha hat b hb hbt) ha hat, putV_at, if_neg, seqp_at (fun b hb hbt => huq t a ha hat b hb hbt) ha hat]
              intro hh
              have : i = a := S.one a ha t hat i his (by rw [hdi]; exact hh)
              subst this; exact hip ha
            · have hno : ∀ a ∈ ps, dstV ops a ≠ some t := fun a ha hat => ht ⟨a, ha, hat⟩
              rw [seqp_no hno, putV_at, putV_at, seqp_no hno]
          rw [show seqp ops vals ps (putV ρ' o.dst v) = putV (seqp ops vals ps ρ') o.dst v from funext hfr, hfl2]
          exact hw2
/-- A region that draws: some operations (ps) look at nothing that the others turn (as long as I holds), the others (ord) go in whatever order their edges leave. -/
theorem vawp_split2 {id d : Nat} {Q : Exit → VF → VH → Prop} {ρ : VF} {h : VH} (ps ord : List Nat) (I : VH → Prop) (hm : P.follows .mixedOrders = true) (hok : okS2 ops ps ord = true) (hI : I h)
    (hw : vopsP P G (VC P G d) n ops I (pickO ops ps) (fun ρ' => vopsT P G (VC P G d) n ops I ord.length ord (Q .normal) ρ' h) ρ) : vawp P G (VC P G d) n (.region id ops true) Q ρ h := by
  have S := okS2_st hok
  obtain ⟨vals, h1, h2⟩ := vopsP_vals (List.nodup_append.1 S.nd).1 (fun i hi => S.lt i (by simp [hi])) hw
  have hf : ∀ i, i < ops.size → (Array.replicate ops.size false).getD i true = false := fun i hi => by simp [Array.getD, hi]
  have hf2 : ∀ i, i < ops.size → (Array.replicate ops.size false).getD i false = false := fun i hi => by simp [Array.getD, hi]
  refine ⟨hm, .inr (vany_split2 (VC_mono d) S h1 ops.size _ ρ h ord (by simp) ⟨(List.nodup_append.1 S.nd).2.1, fun i => ⟨fun hi => ⟨hi, hf i (S.lt i (by simp [hi]))⟩, fun hi => hi.1⟩⟩ (fun a ha hal => ?_) (fun _ _ => rfl) hI h2 (fun c hc hcl => ?_) ?_)⟩
  · rw [hf2 a (S.lt a (by simp [ha]))] at hal; cases hal
  · rw [hf2 c hc] at hcl; cases hcl
  · have : ((List.range ops.size).filter fun k => !(Array.replicate ops.size false).getD k true) = List.range ops.size := by
      apply List.filter_eq_self.2
      intro k hk
      rw [hf k (List.mem_range.1 hk)]; rfl
    rw [this, List.length_range]
section
variable {I : VH → Prop} {KF : VF → VH → Prop} {ρ : VF} {h : VH} {f : Nat} {rem : List Nat}
/-- One after the other of those that are free. -/
def vopsF (P : Program) (G : Nat → AV) (A : FuncId → List AV → VH → (AV → VH → Prop) → Prop) (n : Nat) (ops : Array Oper) (I : VH → Prop) (f : Nat) (rem : List Nat) (K : VF → VH → Prop) (ρ : VF) (h : VH) : List Nat → Prop
  | [] => True
  | i :: r => (match ops[i]? with
    | none => False
    | some o => dstOk n o.dst ∧ o.guard = none ∧ vop P G A o ρ h (fun v h' => I h' ∧ vopsT P G A n ops I f (rem.erase i) K (putV ρ o.dst v) h')) ∧ vopsF P G A n ops I f rem K ρ h r
theorem vopsT_f (free : List Nat) (hf : rem.filter (freeO ops rem) = free) (hw : vopsF P G A n ops I f rem KF ρ h free) : vopsT P G A n ops I (f + 1) rem KF ρ h := by
  intro i hi hfr
  have hm : i ∈ free := by rw [← hf]; exact List.mem_filter.2 ⟨hi, hfr⟩
  clear hf
  induction free with
  | nil => cases hm
  | cons x r ih =>
    obtain ⟨h1, h2⟩ := hw
    rcases List.mem_cons.1 hm with rfl | hm
    · cases ho : ops[i]? with
      | none => rw [ho] at h1; exact h1.elim
      | some o => rw [ho] at h1; exact ⟨o, rfl, h1⟩
    · exact ih h2 hm
/-- There is one. -/
theorem vopsT_1 (i : Nat) {o : Oper} (hf : rem.filter (freeO ops rem) = [i]) (ho : ops[i]? = some o) (hd : dstOk n o.dst) (hg : o.guard = none) (hw : vop P G A o ρ h (fun v h' => I h' ∧ vopsT P G A n ops I f (rem.erase i) KF (putV ρ o.dst v) h')) : vopsT P G A n ops I (f + 1) rem KF ρ h :=
  vopsT_f [i] hf ⟨by rw [ho]; exact ⟨hd, hg, hw⟩, trivial⟩
theorem vopsT_2 (i j : Nat) {o o' : Oper} (hf : rem.filter (freeO ops rem) = [i, j]) (ho : ops[i]? = some o) (ho' : ops[j]? = some o') (hd : dstOk n o.dst) (hg : o.guard = none) (hd' : dstOk n o'.dst) (hg' : o'.guard = none) (hw : vop P G A o ρ h (fun v h' => I h' ∧ vopsT P G A n ops I f (rem.erase i) KF (putV ρ o.dst v) h')) (hw' : vop P G A o' ρ h (fun v h' => I h' ∧ vopsT P G A n ops I f (rem.erase j) KF (putV ρ o'.dst v) h')) : vopsT P G A n ops I (f + 1) rem KF ρ h :=
  vopsT_f [i, j] hf ⟨by rw [ho]; exact ⟨hd, hg, hw⟩, by rw [ho']; exact ⟨hd', hg', hw'⟩, trivial⟩
theorem putV_n (v : AV) : putV ρ none v = ρ := Eq.trans rfl rfl
theorem vopsT_0 : vopsT P G A n ops I 0 rem KF ρ h = KF ρ h := propext Iff.rfl
end
end
end Go.Proofs.AbM
