/- The machine of values: a region that draws, whose operations fall into those that look at nothing the others turn, and a chain. -/
import Derived.Test.YtbmidddpddiopaaDoorAbV13
set_option linter.unusedVariables false
set_option linter.unusedSimpArgs false
namespace Go.Proofs.AbM
open Go.RowKit
def isD (ops : Array Oper) (b d : Nat) : Bool := match dstV ops b with | some d' => Nat.beq d' d | none => false
theorem isD_iff {ops : Array Oper} {b d : Nat} : isD ops b d = true ↔ dstV ops b = some d := by
  unfold isD
  split
  · rename_i d' hd
    rw [hd]
    constructor
    · intro h; rw [Nat.eq_of_beq_eq_true h]
    · intro h; cases h; exact Nat.beq_refl _
  · rename_i hd; rw [hd]; simp
def okPs (ops : Array Oper) : List Nat → List Nat → Bool
  | _, [] => true
  | pre, a :: r => (match ops[a]? with
    | none => false
    | some o => (match o.dst with
        | none => true
        | some d => (List.range ops.size).all fun b => Nat.beq b a || !isD ops b d) &&
      (rdV o).all fun t => (List.range ops.size).all fun c => !isD ops c t || (pre.any (Nat.beq c) && direct ops a c)) && okPs ops (pre ++ [a]) r
def okOrd (ops : Array Oper) (ps : List Nat) : List Nat → Bool
  | [] => true
  | b :: r => (match ops[b]? with
    | none => false
    | some o => (rdV o).all fun t => ps.all fun a => !isD ops a t || direct ops b a) && (match r with | [] => true | c :: _ => direct ops c b) && okOrd ops ps r
def nodupB : List Nat → Bool
  | [] => true
  | x :: xs => !(xs.any (Nat.beq x)) && nodupB xs
theorem nodupB_iff : ∀ {l : List Nat}, nodupB l = true → l.Nodup
  | [], _ => List.nodup_nil
  | x :: xs, h => by
    simp only [nodupB, Bool.and_eq_true, Bool.not_eq_true'] at h
    rw [List.nodup_cons]
    refine ⟨fun hx => ?_, nodupB_iff h.2⟩
    have := List.any_eq_false.1 h.1 x hx
    exact this (Nat.beq_refl x)
def okS (ops : Array Oper) (ps ord : List Nat) : Bool :=
  ((List.range ops.size).all fun i => (ps ++ ord).any (Nat.beq i)) && ((ps ++ ord).all fun i => Nat.blt i ops.size) && nodupB (ps ++ ord) && okPs ops [] ps && okOrd ops ps ord &&
  ((List.range ops.size).all fun b => match ops[b]? with | none => false | some o => o.after.toList.all fun e => !binds e || Nat.blt e.on b)
theorem any_beq {l : List Nat} {i : Nat} : l.any (Nat.beq i) = true ↔ i ∈ l := by
  rw [List.any_eq_true]
  constructor
  · rintro ⟨x, hx, hb⟩; rw [Nat.eq_of_beq_eq_true hb]; exact hx
  · exact fun h => ⟨i, h, Nat.beq_refl i⟩
theorem blt_iff {a b : Nat} : Nat.blt a b = true ↔ a < b := by
  constructor
  · intro h; exact Nat.le_of_ble_eq_true h
  · intro h; simp only [Nat.blt]; exact Nat.ble_eq_true_of_le h
theorem Gst.cast {X : VF → VH → Prop} {ρ : VF} {h h' : VH} (k : Gst X ρ h) (e : h' = h) : Gst X ρ h' := e ▸ k
section
variable {P : Program} {G : Nat → AV} {A : FuncId → List AV → VH → (AV → VH → Prop) → Prop} {n : Nat} {ops : Array Oper}
def pureO (P : Program) (G : Nat → AV) (A : FuncId → List AV → VH → (AV → VH → Prop) → Prop) (n : Nat) (I : VH → Prop) (o : Oper) (ρ : VF) (v : AV) : Prop := dstOk n o.dst ∧ o.guard = none ∧ ∀ (h : VH) (K : AV → VH → Prop), I h → K v h → vop P G A o ρ h K
def vopsP (P : Program) (G : Nat → AV) (A : FuncId → List AV → VH → (AV → VH → Prop) → Prop) (n : Nat) (ops : Array Oper) (I : VH → Prop) : List Oper → (VF → Prop) → VF → Prop
  | [], K, ρ => K ρ
  | o :: os, K, ρ => ∃ v, pureO P G A n I o ρ v ∧ vopsP P G A n ops I os K (putV ρ o.dst v)
def vopsI (P : Program) (G : Nat → AV) (A : FuncId → List AV → VH → (AV → VH → Prop) → Prop) (n : Nat) (ops : Array Oper) (I : VH → Prop) : List Oper → (VF → VH → Prop) → VF → VH → Prop
  | [], K, ρ, h => K ρ h
  | o :: rest, K, ρ, h => dstOk n o.dst ∧ o.guard = none ∧ vop P G A o ρ h (fun v h' => I h' ∧ vopsI P G A n ops I rest K (putV ρ o.dst v) h')
def seqp (ops : Array Oper) (vals : Nat → AV) : List Nat → VF → VF
  | [], ρ => ρ
  | a :: l, ρ => seqp ops vals l (putV ρ (dstV ops a) (vals a))
theorem putV_at {ρ : VF} {o : Option Nat} {v : AV} {t : Nat} : putV ρ o v t = if o = some t then v else ρ t := by
  cases o with
  | none => simp [putV]
  | some d =>
    simp only [putV, updV, Option.some.injEq]
    by_cases h : t = d
    · rw [if_pos h, if_pos h.symm]
    · rw [if_neg h, if_neg (Ne.symm h)]
theorem seqp_no {vals : Nat → AV} {t : Nat} : ∀ {l : List Nat} {ρ : VF}, (∀ a ∈ l, dstV ops a ≠ some t) → seqp ops vals l ρ t = ρ t
  | [], ρ, _ => rfl
  | a :: l, ρ, h => by
    rw [seqp, seqp_no fun b hb => h b (by simp [hb]), putV_at, if_neg (h a (by simp))]
theorem seqp_at {vals : Nat → AV} {t : Nat} : ∀ {l : List Nat} {ρ : VF} {a : Nat}, (∀ b ∈ l, dstV ops b = some t → b = a) → a ∈ l → dstV ops a = some t → seqp ops vals l ρ t = vals a
  | [], ρ, a, _, hm, _ => by cases hm
  | x :: l, ρ, a, hu, hm, hd => by
    rw [seqp]
    by_cases hl : a ∈ l
    · exact seqp_at (fun b hb => hu b (by simp [hb])) hl hd
    · have hx : a = x := by
        rcases List.mem_cons.1 hm with h | h
        · exact h
        · exact absurd h hl
      subst hx
      rw [seqp_no fun b hb hbt => hl (by rw [← hu b (by simp [hb]) hbt]; exact hb), putV_at, if_pos hd]
theorem seqp_congr {vals vals' : Nat → AV} : ∀ {l : List Nat} {ρ : VF}, (∀ a ∈ l, vals a = vals' a) → seqp ops vals l ρ = seqp ops vals' l ρ
  | [], ρ, _ => rfl
  | a :: l, ρ, h => by rw [seqp, seqp, h a (by simp), seqp_congr fun b hb => h b (by simp [hb])]
theorem vopsP_vals {I : VH → Prop} {K : VF → Prop} : ∀ {ps : List Nat} {ρ : VF}, ps.Nodup → (∀ i ∈ ps, i < ops.size) → vopsP P G A n ops I (pickO ops ps) K ρ →
    ∃ vals : Nat → AV, (∀ pre a post, ps = pre ++ a :: post → ∃ o, ops[a]? = some o ∧ pureO P G A n I o (seqp ops vals pre ρ) (vals a)) ∧ K (seqp ops vals ps ρ)
  | [], ρ, _, _, hw => ⟨fun _ => .junk, fun pre a post he => by simp at he, hw⟩
  | i :: is, ρ, hn, hb, hw => by
    rw [List.nodup_cons] at hn
    obtain ⟨oi, hi⟩ : ∃ oi, ops[i]? = some oi := ⟨_, Array.getElem?_eq_getElem (hb i (by simp))⟩
    rw [pickO_cons, hi] at hw
    obtain ⟨v, hp, hw⟩ := hw
    have hd : dstV ops i = oi.dst := by unfold dstV; rw [hi]; rfl
    obtain ⟨vals, h1, h2⟩ := vopsP_vals hn.2 (fun k hk => hb k (by simp [hk])) hw
    have hc : ∀ a, a ∈ is → (if a = i then v else vals a) = vals a := fun a ha => if_neg (by rintro rfl; exact hn.1 ha)
    refine ⟨fun k => if k = i then v else vals k, fun pre a post he => ?_, ?_⟩
    · cases pre with
      | nil =>
        simp only [List.nil_append, List.cons.injEq] at he
        obtain ⟨rfl, _⟩ := he
        exact ⟨_, hi, by simpa [seqp] using hp⟩
      | cons x pre =>
        simp only [List.cons_append, List.cons.injEq] at he
        obtain ⟨rfl, he⟩ := he
        obtain ⟨o, k1, k2⟩ := h1 pre a post he
        refine ⟨o, k1, ?_⟩
        simp only
        rw [hc a (by rw [he]; simp), seqp]
        simp only [if_true]
        rw [hd, seqp_congr (vals' := vals) fun b hb' => hc b (by rw [he]; simp [hb'])]
        exact k2
    · rw [seqp]
      simp only [if_true]
      rw [hd, seqp_congr (vals' := vals) fun b hb' => hc b hb']
      exact h2
structure StS (ops : Array Oper) (ps ord : List Nat) : Prop where
  all : ∀ i, i < ops.size → i ∈ ps ∨ i ∈ ord
  nd : (ps ++ ord).Nodup
  lt : ∀ i ∈ ps ++ ord, i < ops.size
  one : ∀ a ∈ ps, ∀ d, dstV ops a = some d → ∀ b, b < ops.size → dstV ops b = some d → b = a
  rd : ∀ pre a post, ps = pre ++ a :: post → ∀ o, ops[a]? = some o → ∀ t ∈ rdV o, ∀ c, c < ops.size → dstV ops c = some t → c ∈ pre ∧ direct ops a c = true
  ord1 : ∀ b ∈ ord, ∀ o, ops[b]? = some o → ∀ t ∈ rdV o, ∀ a ∈ ps, dstV ops a = some t → direct ops b a = true
  chain : ∀ pre p b post, ord = pre ++ p :: b :: post → direct ops b p = true
  txt : ∀ b o, ops[b]? = some o → ∀ e ∈ o.after, binds e = true → e.on < b
theorem okPs_one : ∀ {pre l : List Nat}, okPs ops pre l = true → ∀ a ∈ l, ∀ d, dstV ops a = some d → ∀ b, b < ops.size → dstV ops b = some d → b = a
  | pre, [], _, a, ha, _, _, _, _, _ => by cases ha
  | pre, x :: r, h, a, ha, d, hd, b, hb, hbd => by
    simp only [okPs, Bool.and_eq_true] at h
    rcases List.mem_cons.1 ha with rfl | ha
    · have h1 := h.1
      obtain ⟨oa, ho⟩ : ∃ oa, ops[a]? = some oa := by
        cases hh : ops[a]? with
        | none => rw [hh] at h1; cases h1
        | some o => exact ⟨_, rfl⟩
      rw [ho] at h1
      simp only [Bool.and_eq_true] at h1
      have hd2 : oa.dst = some d := by unfold dstV at hd; rw [ho] at hd; exact hd
      rw [hd2] at h1
      have := List.all_eq_true.1 h1.1 b (List.mem_range.2 hb)
      simp only [Bool.or_eq_true, Bool.not_eq_true'] at this
      rcases this with h3 | h3
      · exact Nat.eq_of_beq_eq_true h3
      · rw [isD_iff.2 hbd] at h3; cases h3
    · exact okPs_one h.2 a ha d hd b hb hbd
theorem okPs_rd : ∀ {pre0 l : List Nat}, okPs ops pre0 l = true → ∀ pre a post, l = pre ++ a :: post → ∀ o, ops[a]? = some o → ∀ t ∈ rdV o, ∀ c, c < ops.size → dstV ops c = some t → c ∈ pre0 ++ pre ∧ direct ops a c = true
  | pre0, [], _, pre, a, post, he, _, _, _, _, _, _, _ => by simp at he
  | pre0, x :: r, h, pre, a, post, he, o, ho, t, ht, c, hc, hct => by
    simp only [okPs, Bool.and_eq_true] at h
    cases pre with
    | nil =>
      simp only [List.nil_append, List.cons.injEq] at he
      obtain ⟨rfl, _⟩ := he
      have h1 := h.1
      rw [ho] at h1
      simp only [Bool.and_eq_true] at h1
      have := List.all_eq_true.1 (List.all_eq_true.1 h1.2 t ht) c (List.mem_range.2 hc)
      simp only [Bool.or_eq_true, Bool.not_eq_true', Bool.and_eq_true] at this
      rcases this with h3 | h3
      · rw [isD_iff.2 hct] at h3; cases h3
      · exact ⟨by simpa using any_beq.1 h3.1, h3.2⟩
    | cons y pre =>
      simp only [List.cons_append, List.cons.injEq] at he
      obtain ⟨rfl, he⟩ := he
      have := okPs_rd h.2 pre a post he o ho t ht c hc hct
      exact ⟨by simpa using this.1, this.2⟩
theorem okOrd_1 {ps : List Nat} : ∀ {l : List Nat}, okOrd ops ps l = true → (∀ b ∈ l, ∀ o, ops[b]? = some o → ∀ t ∈ rdV o, ∀ a ∈ ps, dstV ops a = some t → direct ops b a = true) ∧ ∀ pre p b post, l = pre ++ p :: b :: post → direct ops b p = true
  | [], _ => ⟨fun b hb => (by cases hb), fun pre p b post he => by simp at he⟩
  | x :: r, h => by
    simp only [okOrd, Bool.and_eq_true] at h
    obtain ⟨⟨h1, h2⟩, h3⟩ := h
    obtain ⟨i1, i2⟩ := okOrd_1 h3
    refine ⟨fun b hb o ho t ht a ha hat => ?_, fun pre p b post he => ?_⟩
    · rcases List.mem_cons.1 hb with rfl | hb
      · rw [ho] at h1
        have := List.all_eq_true.1 (List.all_eq_true.1 h1 t ht) a ha
        simp only [Bool.or_eq_true, Bool.not_eq_true'] at this
        rcases this with h4 | h4
        · rw [isD_iff.2 hat] at h4; cases h4
        · exact h4
      · exact i1 b hb o ho t ht a ha hat
    · cases pre with
      | nil =>
        simp only [List.nil_append, List.cons.injEq] at he
        obtain ⟨rfl, rfl⟩ := he
        exact h2
      | cons y pre =>
        simp only [List.cons_append, List.cons.injEq] at he
        exact i2 pre p b post he.2
theorem okS_st {ps ord : List Nat} (h : okS ops ps ord = true) : StS ops ps ord := by
  simp only [okS, Bool.and_eq_true] at h
  obtain ⟨⟨⟨⟨⟨h1, h2⟩, h3⟩, h4⟩, h5⟩, h6⟩ := h
  refine ⟨fun i hi => ?_, nodupB_iff h3, fun i hi => blt_iff.1 (List.all_eq_true.1 h2 i hi), okPs_one h4, fun pre a post he o ho t ht c hc hct => ?_, (okOrd_1 h5).1, (okOrd_1 h5).2, fun b o ho e he hb => ?_⟩
  · exact List.mem_append.1 (any_beq.1 (List.all_eq_true.1 h1 i (List.mem_range.2 hi)))
  · simpa using okPs_rd h4 pre a post he o ho t ht c hc hct
  · have := List.all_eq_true.1 h6 b (List.mem_range.2 (Array.getElem?_eq_some_iff.1 ho).1)
    rw [ho] at this
    have := List.all_eq_true.1 this e (by simpa using he)
    simp only [Bool.or_eq_true, Bool.not_eq_true'] at this
    rcases this with h7 | h7
    · rw [hb] at h7; cases h7
    · exact blt_iff.1 h7
theorem vany_split (hA : MonoV A) {ps ord : List Nat} {I : VH → Prop} {KF : VF → VH → Prop} {ρ : VF} (S : StS ops ps ord) {vals : Nat → AV} (hvals : ∀ pre a post, ps = pre ++ a :: post → ∃ o, ops[a]? = some o ∧ pureO P G A n I o (seqp ops vals pre ρ) (vals a)) :
    ∀ (fuel : Nat) (l : Array Bool) (ρ' : VF) (h' : VH) (rem : List Nat), l.size = ops.size → (∃ done, ord = done ++ rem ∧ (∀ i ∈ done, l.getD i false = true) ∧ ∀ i ∈ rem, l.getD i true = false) → (∀ a ∈ ps, l.getD a false = true → ∀ d, dstV ops a = some d → ρ' d = vals a) → (∀ t, (∀ c, c < ops.size → dstV ops c ≠ some t) → ρ' t = ρ t) → I h' →
      vopsI P G A n ops I (pickO ops rem) KF (seqp ops vals ps ρ') h' → ((List.range ops.size).filter fun k => !l.getD k true).length = fuel → vany P G A n ops KF fuel l ρ' h' := by
  have hpsnd : ps.Nodup := (List.nodup_append.1 S.nd).1
  have huq : ∀ t a, a ∈ ps → dstV ops a = some t → ∀ b ∈ ps, dstV ops b = some t → b = a := fun t a ha hat b hb hbt => S.one a ha t hat b (S.lt b (by simp [hb])) hbt
  intro fuel
  induction fuel with
  | zero =>
    intro l ρ' h' rem hs hd hv hr hI hw hc
    have hl : ∀ k, k < ops.size → l.getD k true = true := fun k hk => by
      cases hh : l.getD k true with
      | true => rfl
      | false =>
        have : k ∈ (List.range ops.size).filter fun k => !l.getD k true := List.mem_filter.2 ⟨List.mem_range.2 hk, by simp [hh]⟩
        rw [List.eq_nil_of_length_eq_zero hc] at this
        cases this
    refine ⟨?_, ?_⟩
    · cases hrd : Region.ready .any ops l with
      | nil => rfl
      | cons i r =>
        have : i ∈ Region.ready .any ops l := by rw [hrd]; simp
        obtain ⟨k1, k2, _⟩ := ready_iff.1 this
        rw [hl i k1] at k2; cases k2
    · obtain ⟨done, hdn, _, hrem⟩ := hd
      have : rem = [] := by
        cases rem with
        | nil => rfl
        | cons i r =>
          have h1 := hrem i (by simp)
          rw [hl i (S.lt i (by rw [hdn]; simp))] at h1; cases h1
      subst this
      have he : seqp ops vals ps ρ' = ρ' := by
        funext t
        by_cases ht : ∃ a, a ∈ ps ∧ dstV ops a = some t
        · obtain ⟨a, ha, hat⟩ := ht
          have hal : a < ops.size := S.lt a (by simp [ha])
          have : l.getD a false = true := by
            have := hl a hal
            have hls : a < l.size := by omega
            simp only [Array.getD, hls, dif_pos] at this ⊢
            exact this
          rw [seqp_at (fun b hb hbt => huq t a ha hat b hb hbt) ha hat, hv a ha this t hat]
        · exact seqp_no fun a ha hat => ht ⟨a, ha, hat⟩
      rw [he] at hw
      exact hw
  | succ fuel ih =>
    intro l ρ' h' rem hs hd hv hr hI hw hc
    obtain ⟨done, hdn, hdone, hrem⟩ := hd
    have hgd : ∀ k, k < ops.size → l.getD k true = l.getD k false := fun k hk => by
      have hks : k < l.size := by omega
      simp only [Array.getD, hks, dif_pos]
    have hex : ∃ k, k < ops.size ∧ l.getD k true = false := by
      cases hf : (List.range ops.size).filter fun k => !l.getD k true with
      | nil => rw [hf] at hc; simp at hc
      | cons k r =>
        have : k ∈ (List.range ops.size).filter fun k => !l.getD k true := by rw [hf]; simp
        obtain ⟨h1, h2⟩ := List.mem_filter.1 this
        exact ⟨k, List.mem_range.1 h1, by simpa using h2⟩
    have hmin : ∃ k, k < ops.size ∧ l.getD k true = false ∧ ∀ m, m < k → l.getD m true = true := by
      obtain ⟨k, hk⟩ := hex
      induction k using Nat.strongRecOn with
      | ind k ihk =>
        by_cases hm : ∃ m, m < k ∧ l.getD m true = false
        · obtain ⟨m, h1, h2⟩ := hm
          exact ihk m h1 ⟨by omega, h2⟩
        · exact ⟨k, hk.1, hk.2, fun m hm' => by
            cases hh : l.getD m true with
            | true => rfl
            | false => exact absurd ⟨m, hm', hh⟩ hm⟩
    refine ⟨fun e => ?_, fun i hi => ?_⟩
    · exfalso
      obtain ⟨k, h1, h2, h3⟩ := hmin
      have ho := Array.getElem?_eq_getElem h1
      have : k ∈ Region.ready .any ops l := ready_iff.2 ⟨h1, h2, _, ho, fun e' he hbe => by
        have := S.txt k _ ho e' he hbe
        rw [← hgd _ (by omega)]
        exact h3 _ this⟩
      rw [e] at this
      cases this
    · obtain ⟨his, hil, o, ho, hdep⟩ := ready_iff.1 hi
      have hli : i < l.size := by omega
      have hdi : dstV ops i = o.dst := by unfold dstV; rw [ho]; rfl
      have hdir : ∀ a, direct ops i a = true → l.getD a false = true := fun a ha => by
        obtain ⟨e', he, hbe, hea⟩ := (direct_iff ho).1 ha
        have := hdep e' he hbe
        rwa [hea] at this
      have hset : ∀ k b, (l.setIfInBounds i true).getD k b = if k = i then true else l.getD k b := by
        intro k b
        rw [Array.getD_eq_getD_getElem?, Array.getD_eq_getD_getElem?, Array.getElem?_setIfInBounds]
        by_cases hk : k = i
        · subst hk; simp [hli]
        · simp [hk, Ne.symm hk]
      have hcnt : ((List.range ops.size).filter fun k => !(l.setIfInBounds i true).getD k true).length = fuel := by
        have hcount : ∀ (L : List Nat), L.Nodup → i ∈ L → (L.filter fun k => !l.getD k true).length = (L.filter fun k => !(l.setIfInBounds i true).getD k true).length + 1 := by
          intro L
          induction L with
          | nil => intro _ h; simp at h
          | cons x L ihL =>
            intro hnd hm
            rw [List.nodup_cons] at hnd
            rw [List.filter_cons, List.filter_cons]
            by_cases hx : x = i
            · subst hx
              have e1 : (!l.getD x true) = true := by rw [hil]; rfl
              have e2 : (!(l.setIfInBounds x true).getD x true) = false := by rw [hset, if_pos rfl]; rfl
              rw [if_pos e1, e2, List.length_cons]
              simp only [Bool.false_eq_true, if_false]
              congr 2
              apply List.filter_congr
              intro y hy
              rw [hset, if_neg]
              rintro rfl
              exact hnd.1 hy
            · have hm' : i ∈ L := by
                rcases List.mem_cons.1 hm with h | h
                · exact absurd h.symm hx
                · exact h
              have e1 : (!(l.setIfInBounds i true).getD x true) = !l.getD x true := by rw [hset, if_neg hx]
              rw [e1]
              split
              · rw [List.length_cons, List.length_cons, ihL hnd.2 hm']
              · exact ihL hnd.2 hm'
        have := hcount (List.range ops.size) List.nodup_range (List.mem_range.2 his)
        omega
      refine ⟨o, ho, ?_⟩
      by_cases hip : i ∈ ps
      · -- one that looks at nothing
        obtain ⟨pre, post, hpp⟩ := List.append_of_mem hip
        obtain ⟨o', ho', hd1, hg, hq⟩ := hvals pre i post hpp
        rw [ho] at ho'; cases ho'
        have hnotord : i ∉ ord := fun hio => (List.nodup_append.1 S.nd).2.2 i hip i hio rfl
        have hsl : ∀ t ∈ rdV o, seqp ops vals pre ρ t = ρ' t := by
          intro t ht
          by_cases hc2 : ∃ c, c < ops.size ∧ dstV ops c = some t
          · obtain ⟨c, hcs, hct⟩ := hc2
            obtain ⟨h1, h2⟩ := S.rd pre i post hpp o ho t ht c hcs hct
            have hcp : c ∈ ps := by rw [hpp]; simp [h1]
            rw [seqp_at (fun b hb hbt => huq t c hcp hct b (by rw [hpp]; simp [hb]) hbt) h1 hct, hv c hcp (hdir c h2) t hct]
          · have hno : ∀ c, c < ops.size → dstV ops c ≠ some t := fun c h1 h2 => hc2 ⟨c, h1, h2⟩
            rw [seqp_no fun a ha => hno a (S.lt a (by rw [hpp]; simp [ha])), hr t hno]
        have hfr : ∀ t, seqp ops vals ps (putV ρ' o.dst (vals i)) t = seqp ops vals ps ρ' t := by
          intro t
          by_cases ht : ∃ a, a ∈ ps ∧ dstV ops a = some t
          · obtain ⟨a, ha, hat⟩ := ht
            rw [seqp_at (fun b hb hbt => huq t a ha hat b hb hbt) ha hat, seqp_at (fun b hb hbt => huq t a ha hat b hb hbt) ha hat]
          · have hno : ∀ a ∈ ps, dstV ops a ≠ some t := fun a ha hat => ht ⟨a, ha, hat⟩
            rw [seqp_no hno, seqp_no hno, putV_at, if_neg]
            rw [← hdi]; exact hno i hip
        show dstOk n o.dst ∧ _
        refine ⟨hd1, ?_⟩
        rw [hg]
        refine vop_congr (rdV_evv hsl) (hq h' _ hI ?_)
        show vany P G A n ops KF fuel (l.setIfInBounds i true) (putV ρ' o.dst (vals i)) h'
        refine ih _ _ _ rem (by simp [hs]) ⟨done, hdn, fun k hk => ?_, fun k hk => ?_⟩ (fun a ha hal d had => ?_) (fun t ht => ?_) hI ?_ hcnt
        · rw [hset]; split
          · rfl
          · exact hdone k hk
        · rw [hset, if_neg]
          · exact hrem k hk
          · rintro rfl; exact hnotord (by rw [hdn]; simp [hk])
        · rw [putV_at]
          by_cases hai : a = i
          · subst hai; rw [if_pos (by rw [← hdi]; exact had)]
          · rw [if_neg]
            · rw [hset, if_neg hai] at hal; exact hv a ha hal d had
            · intro hh
              exact hai (huq d i hip (by rw [hdi]; exact hh) a ha had)
        · rw [putV_at, if_neg]
          · exact hr t ht
          · rw [← hdi]; exact ht i his
        · rw [show seqp ops vals ps (putV ρ' o.dst (vals i)) = seqp ops vals ps ρ' from funext hfr]
          exact hw
      · -- the next of the chain
        have hio : i ∈ ord := (S.all i his).resolve_left hip
        have hir : i ∈ rem := by
          rw [hdn] at hio
          rcases List.mem_append.1 hio with h | h
          · have := hdone i h
            rw [← hgd i his, hil] at this; cases this
          · exact h
        obtain ⟨pre, post, hpp⟩ := List.append_of_mem hir
        have hpre : pre = [] := by
          rcases List.eq_nil_or_concat pre with h | ⟨pre', p, h⟩
          · exact h
          · exfalso
            rw [List.concat_eq_append] at h
            subst h
            have hp := S.chain (done ++ pre') p i post (by rw [hdn, hpp]; simp)
            have h1 := hdir p hp
            have h2 := hrem p (by rw [hpp]; simp)
            have hps : p < ops.size := S.lt p (by rw [hdn, hpp]; simp)
            rw [hgd p hps, h1] at h2; cases h2
        subst hpre
        rw [List.nil_append] at hpp
        subst hpp
        rw [pickO_cons, ho] at hw
        obtain ⟨hd1, hg, hw⟩ := hw
        have hsl : ∀ t ∈ rdV o, seqp ops vals ps ρ' t = ρ' t := by
          intro t ht
          by_cases hc2 : ∃ a, a ∈ ps ∧ dstV ops a = some t
          · obtain ⟨a, ha, hat⟩ := hc2
            have h2 := S.ord1 i hio o ho t ht a ha hat
            rw [seqp_at (fun b hb hbt => huq t a ha hat b hb hbt) ha hat, hv a ha (hdir a h2) t hat]
          · exact seqp_no fun a ha hat => hc2 ⟨a, ha, hat⟩
        show dstOk n o.dst ∧ _
        refine ⟨hd1, ?_⟩
        rw [hg]
        refine vop_mono hA (fun v h2 hh => ?_) (vop_congr (rdV_evv hsl) hw)
        obtain ⟨hI2, hw2⟩ := hh
        show vany P G A n ops KF fuel (l.setIfInBounds i true) (putV ρ' o.dst v) h2
        have hnd := (List.nodup_append.1 S.nd).2.1
        refine ih _ _ _ post (by simp [hs]) ⟨done ++ [i], by rw [hdn]; simp, fun k hk => ?_, fun k hk => ?_⟩ (fun a ha hal d had => ?_) (fun t ht => ?_) hI2 ?_ hcnt
        · rw [hset]; split
          · rfl
          · rename_i hki
            rcases List.mem_append.1 hk with h | h
            · exact hdone k h
            · exact absurd (by simpa using h) hki
        · rw [hset, if_neg]
          · exact hrem k (by simp [hk])
          · rintro rfl
            rw [hdn] at hnd
            have := (List.nodup_append.1 hnd).2.1
            rw [List.nodup_cons] at this
            exact this.1 hk
        · have hai : a ≠ i := by rintro rfl; exact hip ha
          rw [hset, if_neg hai] at hal
          rw [putV_at, if_neg]
          · exact hv a ha hal d had
          · intro hh
            exact hai (S.one a ha d had i his (by rw [hdi]; exact hh)).symm
        · rw [putV_at, if_neg]
          · exact hr t ht
          · rw [← hdi]; exact ht i his
        · have hfr : ∀ t, seqp ops vals ps (putV ρ' o.dst v) t = putV (seqp ops vals ps ρ') o.dst v t := by
            intro t
            by_cases ht : ∃ a, a ∈ ps ∧ dstV ops a = some t
            · obtain ⟨a, ha, hat⟩ := ht
              rw [seqp_at (fun b hb hbt => huq t a ha hat b hb hbt) ha hat, putV_at, if_neg, seqp_at (fun b hb hbt => huq t a ha hat b hb hbt) ha hat]
              intro hh
              have : i = a := S.one a ha t hat i his (by rw [hdi]; exact hh)
              subst this; exact hip ha
            · have hno : ∀ a ∈ ps, dstV ops a ≠ some t := fun a ha hat => ht ⟨a, ha, hat⟩
              rw [seqp_no hno, putV_at, putV_at, seqp_no hno]
          rw [show seqp ops vals ps (putV ρ' o.dst v) = putV (seqp ops vals ps ρ') o.dst v from funext hfr]
          exact hw2
/-- A region that draws: some operations (ps) look at nothing that the others turn (as long as I holds), the others (ord) are a chain. -/
theorem vawp_split {id d : Nat} {Q : Exit → VF → VH → Prop} {ρ : VF} {h : VH} (ps ord : List Nat) (I : VH → Prop) (hm : P.follows .mixedOrders = true) (hok : okS ops ps ord = true) (hI : I h)
    (hw : vopsP P G (VC P G d) n ops I (pickO ops ps) (fun ρ' => vopsI P G (VC P G d) n ops I (pickO ops ord) (Q .normal) ρ' h) ρ) : vawp P G (VC P G d) n (.region id ops true) Q ρ h := by
  have S := okS_st hok
  obtain ⟨vals, h1, h2⟩ := vopsP_vals (List.nodup_append.1 S.nd).1 (fun i hi => S.lt i (by simp [hi])) hw
  refine ⟨hm, .inr (vany_split (VC_mono d) S h1 ops.size _ ρ h ord (by simp) ⟨[], rfl, fun i hi => (by cases hi), fun i hi => ?_⟩ (fun a ha hal => ?_) (fun _ _ => rfl) hI h2 ?_)⟩
  · have : i < ops.size := S.lt i (by simp [hi])
    simp [Array.getD, this]
  · have : a < ops.size := S.lt a (by simp [ha])
    simp [Array.getD, this] at hal
  · have : ((List.range ops.size).filter fun k => !(Array.replicate ops.size false).getD k true) = List.range ops.size := by
      apply List.filter_eq_self.2
      intro k hk
      have : k < ops.size := List.mem_range.1 hk
      simp [Array.getD, this]
    rw [this, List.length_range]
section
variable {I : VH → Prop} {K : VF → Prop} {ρ : VF} {h : VH} {rest : List Oper} {op : Op} {type : TypeId} {pos : String} {after : Array Edge} {d' : Nat} {KF : VF → VH → Prop}
theorem vopsP_nil : vopsP P G A n ops I [] K ρ = K ρ := propext Iff.rfl
theorem vopsP_n {v : AV} (hd : Nat.ble (d' + 1) n = true) (hq : ∀ (h : VH) (K : AV → VH → Prop), I h → K v h → vop P G A ⟨some d', op, type, pos, after, none⟩ ρ h K) (hw : vopsP P G A n ops I rest K (updV ρ d' v)) : vopsP P G A n ops I (⟨some d', op, type, pos, after, none⟩ :: rest) K ρ := ⟨v, ⟨Nat.le_of_ble_eq_true hd, rfl, hq⟩, hw⟩
theorem vopsI_nil : vopsI P G A n ops I [] KF ρ h = KF ρ h := propext Iff.rfl
theorem vopsI_n (hd : Nat.ble (d' + 1) n = true) (hq : vop P G A ⟨some d', op, type, pos, after, none⟩ ρ h (fun v h' => I h' ∧ vopsI P G A n ops I rest KF (updV ρ d' v) h')) : vopsI P G A n ops I (⟨some d', op, type, pos, after, none⟩ :: rest) KF ρ h := ⟨Nat.le_of_ble_eq_true hd, rfl, hq⟩
theorem vopsI_0 (hq : vop P G A ⟨none, op, type, pos, after, none⟩ ρ h (fun v h' => I h' ∧ vopsI P G A n ops I rest KF ρ h')) : vopsI P G A n ops I (⟨none, op, type, pos, after, none⟩ :: rest) KF ρ h := ⟨trivial, rfl, hq⟩
end
end
end Go.Proofs.AbM
