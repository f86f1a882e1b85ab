/- The machine of values: regions that draw, where all operations but the last leave the heap as it is. -/
import Derived.Test.YtbmidddpddiopaaDoorAbV9
set_option linter.unusedVariables false
set_option linter.unusedSimpArgs false
namespace Go.Proofs.AbM
open Go.RowKit
section
variable {P : Program} {G : Nat → AV} {A : FuncId → List AV → VH → (AV → VH → Prop) → Prop}
theorem vop_congr {o : Oper} {ρ ρ' : VF} {h : VH} {K : AV → VH → Prop} (he : ∀ x ∈ o.op.operands, evv G ρ x = evv G ρ' x) (hw : vop P G A o ρ h K) : vop P G A o ρ' h K := by
  unfold vop at hw ⊢
  split at hw
  · rename_i x hop; rw [hop] at he; have e1 := he x (by simp [Op.operands]); exact e1 ▸ hw
  · rename_i x hop; rw [hop] at he; have e1 := he x (by simp [Op.operands]); exact e1 ▸ hw
  · rename_i c x y hop; rw [hop] at he
    have e1 := he c (by simp [Op.operands]); have e2 := he x (by simp [Op.operands]); have e3 := he y (by simp [Op.operands])
    simp only [← e1, ← e2, ← e3]; exact hw
  · exact hw
  · rename_i e x hop; rw [hop] at he; have e1 := he x (by simp [Op.operands]); exact e1 ▸ hw
  · rename_i t parts hop; rw [hop] at he
    have e1 : (parts.toList.map fun p => (p.1, evv G ρ p.2)) = parts.toList.map fun p => (p.1, evv G ρ' p.2) := List.map_congr_left fun p hp => by rw [he p.2 (by simp only [Op.operands, List.mem_toArray, List.mem_map]; exact ⟨p, hp, rfl⟩)]
    exact e1 ▸ hw
  · rename_i t len parts hop; rw [hop] at he
    have e1 : (parts.toList.map fun p => (p.1, evv G ρ p.2)) = parts.toList.map fun p => (p.1, evv G ρ' p.2) := List.map_congr_left fun p hp => by rw [he p.2 (by simp only [Op.operands, List.mem_toArray, List.mem_map]; exact ⟨p, hp, rfl⟩)]
    exact e1 ▸ hw
  · rename_i t x hop; rw [hop] at he; have e1 := he x (by simp [Op.operands]); exact e1 ▸ hw
  · rename_i t x y hop; rw [hop] at he
    have e1 := he x (by simp [Op.operands]); have e2 := he y (by simp [Op.operands])
    simp only [← e1, ← e2]; exact hw
  · rename_i x hop; rw [hop] at he; have e1 := he x (by simp [Op.operands]); exact e1 ▸ hw
  · rename_i op xT x y yT hop; rw [hop] at he
    have e1 := he x (by simp [Op.operands]); have e2 := he y (by simp [Op.operands])
    simp only [← e1, ← e2]; exact hw
  · rename_i op xT x hop; rw [hop] at he; have e1 := he x (by simp [Op.operands]); exact e1 ▸ hw
  · rename_i src dst x hop; rw [hop] at he; have e1 := he x (by simp [Op.operands]); exact e1 ▸ hw
  · rename_i fn xs ys hop; rw [hop] at he
    have e1 : xs.toList.map (evv G ρ) = xs.toList.map (evv G ρ') := List.map_congr_left fun x hx => he x (by simp only [Op.operands, Array.mem_append]; exact .inl (by simpa using hx))
    have e2 : ys.toList.map (evv G ρ) = ys.toList.map (evv G ρ') := List.map_congr_left fun x hx => he x (by simp only [Op.operands, Array.mem_append]; exact .inr (by simpa using hx))
    simp only [← e1, ← e2]; exact hw
  · rename_i t l c hop; rw [hop] at he
    have e1 := he l (by simp [Op.operands]); have e2 := he c (by simp [Op.operands])
    simp only [← e1, ← e2]; exact hw
  · rename_i t x lo hi hop; rw [hop] at he
    have e1 := he x (by simp [Op.operands])
    have e2 : lo.map (evv G ρ) = lo.map (evv G ρ') := by cases lo with | none => rfl | some y => simp only [Option.map_some, he y (by simp [Op.operands])]
    have e3 : hi.map (evv G ρ) = hi.map (evv G ρ') := by cases hi with | none => rfl | some y => simp only [Option.map_some, he y (by simp [Op.operands])]
    simp only [← e1, ← e2, ← e3]; exact hw
  · rename_i s x f hop; rw [hop] at he; have e1 := he x (by simp [Op.operands]); exact e1 ▸ hw
  · rename_i s x f hop; rw [hop] at he; have e1 := he x (by simp [Op.operands]); exact e1 ▸ hw
  · rename_i t x ix hop; rw [hop] at he
    have e1 := he x (by simp [Op.operands]); have e2 := he ix (by simp [Op.operands])
    simp only [← e1, ← e2]; exact hw
  · rename_i t x ix hop; rw [hop] at he
    have e1 := he x (by simp [Op.operands]); have e2 := he ix (by simp [Op.operands])
    simp only [← e1, ← e2]; exact hw
  · rename_i x i hop; rw [hop] at he; have e1 := he x (by simp [Op.operands]); exact e1 ▸ hw
  · rename_i t x hop; rw [hop] at he; have e1 := he x (by simp [Op.operands]); exact e1 ▸ hw
  · rename_i x hop; rw [hop] at he; have e1 := he x (by simp [Op.operands]); exact e1 ▸ hw
  · rename_i c hop; rw [hop] at he
    have e2 : ∀ x ∈ c.args.toList, evv G ρ x = evv G ρ' x := by
      intro x hx
      have hx' : x ∈ c.args := by simpa using hx
      exact he x (by simp [Op.operands, Call.operands, hx'])
    refine ⟨hw.1, ?_⟩
    have h2 := hw.2
    split at h2
    · split at h2
      · rename_i x t ha _; rw [← e2 x (by simp [ha])]; exact h2
      · exact h2.elim
    · split at h2
      · rename_i s x t t' ha _; rw [← e2 x (by simp [ha]), ← e2 s (by simp [ha])]; exact h2
      · exact h2.elim
    · rw [← List.map_congr_left e2]; exact h2
    · rw [← List.map_congr_left e2]; exact h2
    · rename_i f hcal
      have e3 := he f (by simp [Op.operands, Call.operands, hcal])
      rw [← e3, ← List.map_congr_left e2]; exact h2
    · exact h2.elim
  · exact hw.elim


/-- The slots that an operation reads; that it comes directly behind another. -/
def rdV (o : Oper) : List Nat := o.op.operands.toList.filterMap fun | .tmp t => some t | _ => none
theorem rdV_evv {o : Oper} {ρ ρ' : VF} (h : ∀ t ∈ rdV o, ρ t = ρ' t) : ∀ x ∈ o.op.operands, evv G ρ x = evv G ρ' x := by
  intro x hx
  cases x with
  | tmp t => exact h t (List.mem_filterMap.2 ⟨.tmp t, by simpa using hx, rfl⟩)
  | _ => rfl
def dstV (ops : Array Oper) (k : Nat) : Option Nat := (ops[k]?).bind (·.dst)
def okQ (ops : Array Oper) (p : Nat) : Bool :=
  Nat.ble p ops.size &&
  (List.range ops.size).all fun b => match ops[b]? with
    | none => false
    | some o =>
      (o.after.toList.all fun e => !binds e || Nat.blt e.on b) &&
      ((!Nat.blt b p || ((List.range p).all fun a => match dstV ops a with
          | none => true
          | some d => (Nat.beq a b || match o.dst with | some d' => !Nat.beq d d' | none => true) && (!(rdV o).any (Nat.beq d) || direct ops b a)) && match o.guard with | some (j, _) => direct ops b j | none => true) &&
       (Nat.blt b p || ((List.range b).all fun a => direct ops b a || ((List.range b).any fun c => Nat.blt a c && direct ops c a))))
/-- A quiet operation: it leaves the heap as it is. -/
def quietO (P : Program) (G : Nat → AV) (A : FuncId → List AV → VH → (AV → VH → Prop) → Prop) (n : Nat) (ops : Array Oper) (h : VH) (o : Oper) (ρ : VF) (v : AV) : Prop :=
  dstOk n o.dst ∧ match o.guard with
    | none => ∀ K : AV → VH → Prop, K v h → vop P G A o ρ h K
    | some (j, want) => ∃ d t, dstV ops j = some d ∧ d < n ∧ (ρ d = .sc (.bool t) ∨ (ρ d = .tup [] ∧ t ≠ want)) ∧ (t = want → ∀ K : AV → VH → Prop, K v h → vop P G A o ρ h K) ∧ (t ≠ want → v = .tup [])
def vopsQ (P : Program) (G : Nat → AV) (A : FuncId → List AV → VH → (AV → VH → Prop) → Prop) (n : Nat) (ops : Array Oper) (h : VH) : List Oper → (VF → Prop) → VF → Prop
  | [], K, ρ => K ρ
  | o :: rest, K, ρ => ∃ v, quietO P G A n ops h o ρ v ∧ vopsQ P G A n ops h rest K (putV ρ o.dst v)
def mkL (n p : Nat) : Array Bool := ((List.range n).map fun k => Nat.blt k p).toArray
/-- The frame behind the first operations. -/
def frV (ops : Array Oper) (vals : List AV) (ρ : VF) : Nat → VF
  | 0 => ρ
  | i + 1 => putV (frV ops vals ρ i) (dstV ops i) (vals.getD i .junk)
theorem vopsQ_vals {n : Nat} {ops : Array Oper} {h : VH} {K : VF → Prop} {ρ0 : VF} : ∀ (k i : Nat) (vals : List AV) (ρ : VF), vals.length = i → i + k ≤ ops.size → ρ = frV ops vals ρ0 i → vopsQ P G A n ops h ((ops.toList.drop i).take k) K ρ →
    ∃ vals', vals'.length = i + k ∧ (∀ q, q < i → vals'.getD q .junk = vals.getD q .junk) ∧ (∀ q, i ≤ q → q < i + k → ∃ o, ops[q]? = some o ∧ quietO P G A n ops h o (frV ops vals' ρ0 q) (vals'.getD q .junk)) ∧ K (frV ops vals' ρ0 (i + k))
  | 0, i, vals, ρ, hl, hs, he, hw => ⟨vals, by omega, fun q _ => rfl, fun q h1 h2 => by omega, by subst he; simpa [vopsQ] using hw⟩
  | k + 1, i, vals, ρ, hl, hs, he, hw => by
    have hi : i < ops.toList.length := by rw [Array.length_toList]; omega
    rw [List.drop_eq_getElem_cons hi, List.take_succ_cons] at hw
    obtain ⟨v, hq, hw⟩ := hw
    have ho : ops[i]? = some ops.toList[i] := by rw [Array.getElem?_eq_getElem (by omega)]; simp
    have hfr : ∀ (vs vs' : List AV) (q : Nat), (∀ r, r < q → vs.getD r .junk = vs'.getD r .junk) → frV ops vs ρ0 q = frV ops vs' ρ0 q := by
      intro vs vs' q
      induction q with
      | zero => intro _; rfl
      | succ q ih => intro hh; simp only [frV]; rw [ih fun r hr => hh r (by omega), hh q (by omega)]
    have hget : ∀ r, r < i → (vals ++ [v]).getD r .junk = vals.getD r .junk := fun r hr => by
      rw [List.getD_eq_getElem?_getD, List.getD_eq_getElem?_getD, List.getElem?_append_left (by omega)]
    have hgi : (vals ++ [v]).getD i .junk = v := by
      rw [List.getD_eq_getElem?_getD, List.getElem?_append_right (by omega), hl, Nat.sub_self]; rfl
    have hd : dstV ops i = ops.toList[i].dst := by unfold dstV; rw [ho]; rfl
    have hnext : putV ρ ops.toList[i].dst v = frV ops (vals ++ [v]) ρ0 (i + 1) := by
      simp only [frV]
      rw [hgi, hd, he, hfr (vals ++ [v]) vals i hget]
    obtain ⟨vals', g1, g2, g3, g4⟩ := vopsQ_vals k (i + 1) (vals ++ [v]) _ (by simp [hl]) (by omega) hnext hw
    refine ⟨vals', by omega, fun q hq => by rw [g2 q (by omega), hget q hq], fun q h1 h2 => ?_, by rwa [show i + (k + 1) = i + 1 + k by omega]⟩
    by_cases hqi : q = i
    · subst hqi
      refine ⟨_, ho, ?_⟩
      have e1 : frV ops vals' ρ0 q = ρ := by rw [he]; exact hfr _ _ _ fun r hr => by rw [g2 r (by omega), hget r hr]
      rw [e1, g2 q (by omega), hgi]
      exact hq
    · exact g3 q (by omega) (by omega)
theorem frV_at {ops : Array Oper} {vals : List AV} {ρ : VF} (p : Nat) (hd : ∀ a b d, a < p → b < p → dstV ops a = some d → dstV ops b = some d → a = b) : ∀ i, i ≤ p → ∀ t, (∀ k, k < i → dstV ops k = some t → frV ops vals ρ i t = vals.getD k .junk) ∧ ((∀ k, k < i → dstV ops k ≠ some t) → frV ops vals ρ i t = ρ t)
  | 0, _, t => ⟨fun k hk => by omega, fun _ => rfl⟩
  | i + 1, hi, t => by
    obtain ⟨h1, h2⟩ := frV_at p hd i (by omega) t
    have hput : frV ops vals ρ (i + 1) t = if dstV ops i = some t then vals.getD i .junk else frV ops vals ρ i t := by
      simp only [frV]
      cases hdi : dstV ops i with
      | none => simp [putV]
      | some d =>
        simp only [putV, updV, Option.some.injEq]
        by_cases hh : t = d
        · subst hh; simp
        · simp [hh, Ne.symm hh]
    rw [hput]
    refine ⟨fun k hk hkt => ?_, fun hn => ?_⟩
    · by_cases hki : k = i
      · subst hki; rw [if_pos hkt]
      · rw [if_neg (fun hh => hki (hd k i t (by omega) (by omega) hkt hh))]
        exact h1 k (by omega) hkt
    · rw [if_neg (hn i (by omega))]
      exact h2 fun k hk => hn k (by omega)
theorem vany_quiet {n p : Nat} {ops : Array Oper} {h : VH} {KF : VF → VH → Prop} {ρ : VF} (hok : okQ ops p = true)
    (hw : vopsQ P G A n ops h (ops.toList.take p) (fun ρ' => vany P G A n ops KF (ops.size - p) (mkL ops.size p) ρ' h) ρ) : vany P G A n ops KF ops.size (Array.replicate ops.size false) ρ h := by
  unfold okQ at hok
  rw [Bool.and_eq_true] at hok
  obtain ⟨hp, hall⟩ := hok
  have hp := Nat.le_of_ble_eq_true hp
  rw [List.all_eq_true] at hall
  have hb : ∀ b o, ops[b]? = some o → (∀ e ∈ o.after, binds e = true → e.on < b) ∧ (b < p → (∀ a d, a < p → dstV ops a = some d → (a = b ∨ o.dst ≠ some d) ∧ (d ∈ rdV o → direct ops b a = true)) ∧ (∀ j w, o.guard = some (j, w) → direct ops b j = true)) ∧ (p ≤ b → ∀ a, a < b → direct ops b a = true ∨ ∃ c, a < c ∧ c < b ∧ direct ops c a = true) := by
    intro b o ho
    have hbl := (Array.getElem?_eq_some_iff.1 ho).1
    have := hall b (List.mem_range.2 hbl)
    rw [ho] at this
    simp only [Bool.and_eq_true, List.all_eq_true, Bool.or_eq_true, Bool.not_eq_true'] at this
    obtain ⟨k1, k2, k3⟩ := this
    refine ⟨fun e he hbe => ?_, fun hbp => ⟨fun a d ha had => ?_, fun j w hg => ?_⟩, fun hpb a ha => ?_⟩
    · rcases k1 e (by simpa using he) with hh | hh
      · rw [hbe] at hh; cases hh
      · exact Nat.le_of_ble_eq_true hh
    · rcases k2 with hh | hh
      · exact absurd (Nat.le_of_ble_eq_true (show Nat.ble (b + 1) p = true by simp; omega)) (by
          have : Nat.blt b p = true := by simp [Nat.blt]; omega
          rw [this] at hh; cases hh)
      · have := hh.1 a (List.mem_range.2 ha)
        rw [had] at this
        simp only [Bool.and_eq_true, Bool.or_eq_true, Bool.not_eq_true'] at this
        refine ⟨?_, fun hd => ?_⟩
        · rcases this.1 with h1 | h1
          · exact .inl (Nat.eq_of_beq_eq_true h1)
          · right
            intro hd'
            rw [hd'] at h1
            simp at h1
        · rcases this.2 with h1 | h1
          · exfalso
            rw [List.any_eq_false] at h1
            exact h1 d hd (by simp)
          · exact h1
    · rcases k2 with hh | hh
      · have : Nat.blt b p = true := by simp [Nat.blt]; omega
        rw [this] at hh; cases hh
      · have := hh.2
        rw [hg] at this
        exact this
    · rcases k3 with hh | hh
      · have := Nat.le_of_ble_eq_true hh
        omega
      · rcases hh a (List.mem_range.2 ha) with h1 | h1
        · exact .inl h1
        · right
          obtain ⟨c, hc, h2⟩ := List.any_eq_true.1 h1
          rw [Bool.and_eq_true] at h2
          exact ⟨c, Nat.le_of_ble_eq_true h2.1, List.mem_range.1 hc, h2.2⟩
  have hdd : ∀ a b d, a < p → b < p → dstV ops a = some d → dstV ops b = some d → a = b := by
    intro a b d ha hbp h1 h2
    have hbs : b < ops.size := by omega
    have ho := Array.getElem?_eq_getElem hbs
    have hd2 : ops[b].dst = some d := by unfold dstV at h2; rw [ho] at h2; exact h2
    rcases (((hb b _ ho).2.1 hbp).1 a d ha h1).1 with hh | hh
    · exact hh
    · exact absurd hd2 hh
  obtain ⟨vals, hvl, _, hqt, hK⟩ := vopsQ_vals (P := P) (G := G) (A := A) (n := n) (ops := ops) (h := h) (ρ0 := ρ) p 0 [] ρ rfl (by omega) rfl (by simpa using hw)
  rw [Nat.zero_add] at hK
  have hfr := fun i hi t => frV_at (vals := vals) (ρ := ρ) p hdd i hi t
  -- any order
  have key : ∀ (fuel : Nat) (l : Array Bool) (ρ' : VF), l.size = ops.size → (∀ k, p ≤ k → k < ops.size → l.getD k true = false) → (∀ k d, k < p → l.getD k false = true → dstV ops k = some d → ρ' d = vals.getD k .junk) →
      (∀ t, (∀ k, k < p → l.getD k false = true → dstV ops k ≠ some t) → ρ' t = ρ t) → ((List.range p).filter fun k => !l.getD k true).length = fuel → (∀ c a, c < p → l.getD c false = true → direct ops c a = true → l.getD a false = true) → vany P G A n ops KF (fuel + (ops.size - p)) l ρ' h := by
    intro fuel
    induction fuel with
    | zero =>
      intro l ρ' hs hhi hv hr hc _
      have hl : ∀ k, k < p → l.getD k true = true := fun k hk => by
        cases hh : l.getD k true with
        | true => rfl
        | false =>
          have : k ∈ (List.range p).filter fun k => !l.getD k true := List.mem_filter.2 ⟨List.mem_range.2 hk, by simp [hh]⟩
          rw [List.eq_nil_of_length_eq_zero hc] at this
          simp at this
      have hlf : ∀ k, k < p → l.getD k false = true := fun k hk => by
        have := hl k hk
        have hks : k < l.size := by omega
        simp only [Array.getD, hks, dif_pos] at this ⊢
        exact this
      have hle : l = mkL ops.size p := by
        apply Array.ext
        · simp [mkL, hs]
        · intro k h1 h2
          have hk : k < ops.size := by omega
          simp only [mkL, List.getElem_toArray, List.getElem_map, List.getElem_range]
          rcases Nat.lt_or_ge k p with hkp | hkp
          · have := hl k hkp
            simp only [Array.getD, h1, dif_pos] at this
            have e : Nat.blt k p = true := by simp [Nat.blt]; omega
            rw [e]; exact this
          · have := hhi k hkp hk
            simp only [Array.getD, h1, dif_pos] at this
            have e : Nat.blt k p = false := by
              cases hb' : Nat.blt k p with
              | false => rfl
              | true => have := Nat.le_of_ble_eq_true hb'; omega
            rw [e]; exact this
      have hre : ρ' = frV ops vals ρ p := by
        funext t
        by_cases ht : ∃ k, k < p ∧ dstV ops k = some t
        · obtain ⟨k, hk, hkt⟩ := ht
          rw [hv k t hk (hlf k hk) hkt, (hfr p (Nat.le_refl _) t).1 k hk hkt]
        · rw [hr t fun k hk _ hkt => ht ⟨k, hk, hkt⟩, (hfr p (Nat.le_refl _) t).2 fun k hk hkt => ht ⟨k, hk, hkt⟩]
      rw [hle, hre, Nat.zero_add]
      exact hK
    | succ fuel ih =>
      intro l ρ' hs hhi hv hr hc hcl
      rw [show fuel + 1 + (ops.size - p) = (fuel + (ops.size - p)) + 1 by omega]
      -- the least that is not listed is ready
      have hex : ∃ k, k < p ∧ l.getD k true = false := by
        cases hf : (List.range p).filter fun k => !l.getD k true with
        | nil => rw [hf] at hc; simp at hc
        | cons k r =>
          have : k ∈ (List.range p).filter fun k => !l.getD k true := by rw [hf]; simp
          obtain ⟨h1, h2⟩ := List.mem_filter.1 this
          exact ⟨k, List.mem_range.1 h1, by simpa using h2⟩
      have hmin : ∃ k, k < p ∧ l.getD k true = false ∧ ∀ m, m < k → l.getD m true = true := by
        obtain ⟨k, hk⟩ := hex
        induction k using Nat.strongRecOn with
        | ind k ihk =>
          by_cases hm : ∃ m, m < k ∧ l.getD m true = false
          · obtain ⟨m, h1, h2⟩ := hm
            exact ihk m h1 ⟨by omega, h2⟩
          · exact ⟨k, hk.1, hk.2, fun m hm' => by
              cases hh : l.getD m true with
              | true => rfl
              | false => exact absurd ⟨m, hm', hh⟩ hm⟩
      have hgd : ∀ k, k < ops.size → l.getD k true = l.getD k false := fun k hk => by
        have hks : k < l.size := by omega
        simp only [Array.getD, hks, dif_pos]
      refine ⟨fun e => ?_, fun i hi => ?_⟩
      · exfalso
        obtain ⟨k, h1, h2, h3⟩ := hmin
        have ho := Array.getElem?_eq_getElem (show k < ops.size by omega)
        have : k ∈ Region.ready .any ops l := ready_iff.2 ⟨by omega, h2, _, ho, fun e' he hbe => by
          have := (hb k _ ho).1 e' he hbe
          rw [← hgd _ (by omega)]
          exact h3 _ this⟩
        rw [e] at this
        cases this
      · obtain ⟨his, hil, o, ho, hdep⟩ := ready_iff.1 hi
        have hip : i < p := by
          rcases Nat.lt_or_ge i p with h1 | h1
          · exact h1
          · exfalso
            have hmax : ∀ m k, k + m = i → k < i → l.getD k true = false → False := by
              intro m
              induction m using Nat.strongRecOn with
              | ind m ihm =>
                intro k hkm k1 k2
                rcases (hb i o ho).2.2 h1 k k1 with this | ⟨c, c1, c2, c3⟩
                · obtain ⟨e', he, hbe, hek⟩ := (direct_iff ho).1 this
                  have := hdep e' he hbe
                  rw [hek, ← hgd k (by omega), k2] at this
                  cases this
                · cases hlc : l.getD c true with
                  | false => exact ihm (i - c) (by omega) c (by omega) c2 hlc
                  | true =>
                    have hcp : c < p := by
                      rcases Nat.lt_or_ge c p with hh | hh
                      · exact hh
                      · rw [hhi c hh (by omega)] at hlc; cases hlc
                    have := hcl c k hcp (by rw [← hgd c (by omega)]; exact hlc) c3
                    rw [← hgd k (by omega), k2] at this
                    cases this
            obtain ⟨k, k1, k2⟩ := hex
            exact hmax (i - k) k (by omega) (by omega) k2
        refine ⟨o, ho, ?_⟩
        obtain ⟨o', ho', hq⟩ := hqt i (Nat.zero_le _) (by omega)
        rw [ho] at ho'; cases ho'
        -- slots that it reads
        have hsl : ∀ t, (∀ k, k < p → dstV ops k = some t → direct ops i k = true) → frV ops vals ρ i t = ρ' t := by
          intro t ht
          by_cases hex2 : ∃ k, k < p ∧ dstV ops k = some t
          · obtain ⟨k, hk, hkt⟩ := hex2
            obtain ⟨e', he, hbe, hek⟩ := (direct_iff ho).1 (ht k hk hkt)
            have h1 := (hb i o ho).1 e' he hbe
            rw [hek] at h1
            have h2 := hdep e' he hbe
            rw [hek] at h2
            rw [(hfr i (by omega) t).1 k h1 hkt, hv k t hk h2 hkt]
          · rw [(hfr i (by omega) t).2 fun k hk hkt => hex2 ⟨k, by omega, hkt⟩, hr t fun k hk _ hkt => hex2 ⟨k, hk, hkt⟩]
        have hops : ∀ x ∈ o.op.operands, evv G (frV ops vals ρ i) x = evv G ρ' x := rdV_evv fun t ht => hsl t fun k hk hkt => (((hb i o ho).2.1 hip).1 k t hk hkt).2 ht
        have hdi : dstV ops i = o.dst := by unfold dstV; rw [ho]; rfl
        have next : vany P G A n ops KF (fuel + (ops.size - p)) (l.setIfInBounds i true) (putV ρ' o.dst (vals.getD i .junk)) h := by
          have hli : i < l.size := by omega
          have hset : ∀ k b, (l.setIfInBounds i true).getD k b = if k = i then true else l.getD k b := by
            intro k b
            rw [Array.getD_eq_getD_getElem?, Array.getD_eq_getD_getElem?, Array.getElem?_setIfInBounds]
            by_cases hk : k = i
            · subst hk; simp [hli]
            · simp [hk, Ne.symm hk]
          refine ih _ _ (by simp [hs]) (fun k h1 h2 => ?_) (fun k d h1 h2 h3 => ?_) (fun t ht => ?_) ?_ (fun c a h1 h2 h3 => ?_)
          · rw [hset, if_neg (by omega)]; exact hhi k h1 h2
          · rw [hset] at h2
            by_cases hki : k = i
            · subst hki
              rw [hdi] at h3
              rw [h3]; simp [putV, updV]
            · rw [if_neg hki] at h2
              have hne : o.dst ≠ some d := fun hh => hki (hdd k i d h1 hip h3 (by rw [hdi]; exact hh))
              have : putV ρ' o.dst (vals.getD i .junk) d = ρ' d := by
                cases hod : o.dst with
                | none => rfl
                | some d' =>
                  simp only [putV, updV]
                  rw [if_neg]
                  rintro rfl
                  exact hne hod
              rw [this]
              exact hv k d h1 h2 h3
          · have hne : o.dst ≠ some t := fun hh => ht i hip (by rw [hset, if_pos rfl]) (by rw [hdi]; exact hh)
            have : putV ρ' o.dst (vals.getD i .junk) t = ρ' t := by
              cases hod : o.dst with
              | none => rfl
              | some d' =>
                simp only [putV, updV]
                rw [if_neg]
                rintro rfl
                exact hne hod
            rw [this]
            refine hr t fun k h1 h2 => ht k h1 ?_
            rw [hset]; split
            · rfl
            · exact h2
          · have hcount : ∀ (L : List Nat), L.Nodup → i ∈ L → (L.filter fun k => !l.getD k true).length = (L.filter fun k => !(l.setIfInBounds i true).getD k true).length + 1 := by
              intro L
              induction L with
              | nil => intro _ h; simp at h
              | cons x L ihL =>
                intro hnd hm
                rw [List.nodup_cons] at hnd
                rw [List.filter_cons, List.filter_cons]
                by_cases hx : x = i
                · subst hx
                  have e1 : (!l.getD x true) = true := by rw [hil]; rfl
                  have e2 : (!(l.setIfInBounds x true).getD x true) = false := by rw [hset, if_pos rfl]; rfl
                  rw [if_pos e1, e2, List.length_cons]
                  simp only [Bool.false_eq_true, if_false]
                  congr 2
                  apply List.filter_congr
                  intro y hy
                  rw [hset, if_neg]
                  rintro rfl
                  exact hnd.1 hy
                · have hm' : i ∈ L := by
                    rcases List.mem_cons.1 hm with h | h
                    · exact absurd h.symm hx
                    · exact h
                  have e1 : (!(l.setIfInBounds i true).getD x true) = !l.getD x true := by rw [hset, if_neg hx]
                  rw [e1]
                  split
                  · rw [List.length_cons, List.length_cons, ihL hnd.2 hm']
                  · exact ihL hnd.2 hm'
            have := hcount (List.range p) List.nodup_range (List.mem_range.2 hip)
            omega
          · rw [hset]
            by_cases hai : a = i
            · rw [if_pos hai]
            · rw [if_neg hai]
              rw [hset] at h2
              by_cases hci : c = i
              · subst hci
                obtain ⟨e', he, hbe, hea⟩ := (direct_iff ho).1 h3
                have := hdep e' he hbe
                rwa [hea] at this
              · rw [if_neg hci] at h2
                exact hcl c a h1 h2 h3
        refine ⟨hq.1, ?_⟩
        have hq2 := hq.2
        split
        · rename_i hg
          rw [hg] at hq2
          exact vop_congr hops (hq2 _ next)
        · rename_i j want hg
          rw [hg] at hq2
          obtain ⟨d, t, d1, d2, d3, d4, d5⟩ := hq2
          have hjd := ((hb i o ho).2.1 hip).2 j want hg
          have hjt : frV ops vals ρ i d = ρ' d := hsl d fun k hk hkt => by
            obtain ⟨e', he, hbe, hej⟩ := (direct_iff ho).1 hjd
            have h1 := (hb i o ho).1 e' he hbe
            rw [hej] at h1
            have : k = j := hdd k j d hk (by omega) hkt d1
            rw [this]; exact hjd
          refine ⟨d, t, d1, d2, by rw [← hjt]; exact d3, fun e => vop_congr hops (d4 e _ next), fun e => ?_⟩
          have := d5 e
          rw [this] at next
          exact next
  have := key p (Array.replicate ops.size false) ρ (by simp) (fun k h1 h2 => by simp [Array.getD, h2]) (fun k d h1 h2 => by
      exfalso
      have : k < ops.size := by omega
      simp [Array.getD, this] at h2) (fun t _ => rfl) (by
      have : ((List.range p).filter fun k => !(Array.replicate ops.size false).getD k true) = List.range p := by
        apply List.filter_eq_self.2
        intro k hk
        have : k < ops.size := by have := List.mem_range.1 hk; omega
        simp [Array.getD, this]
      rw [this, List.length_range]) (fun c a h1 h2 => by
      exfalso
      have : c < ops.size := by omega
      simp [Array.getD, this] at h2)
  rwa [show p + (ops.size - p) = ops.size by omega] at this
/-- A region that draws: the first p operations leave the heap as it is; k more follow. -/
theorem vawp_quiet {id n : Nat} {ops : Array Oper} {Q : Exit → VF → VH → Prop} {ρ : VF} {h : VH} (p k : Nat) (hm : P.follows .mixedOrders = true) (hk : ops.size = p + k) (hok : okQ ops p = true)
    (hw : vopsQ P G A n ops h (ops.toList.take p) (fun ρ' => vany P G A n ops (Q .normal) k (mkL (p + k) p) ρ' h) ρ) : vawp P G A n (.region id ops true) Q ρ h := by
  refine ⟨hm, .inr (vany_quiet hok ?_)⟩
  have e : ops.size - p = k := by omega
  rw [e, hk]
  exact hw
section
variable {n : Nat} {ops : Array Oper} {h : VH} {K : VF → Prop} {ρ : VF} {rest : List Oper} {dst : Option Tmp} {op : Op} {type : TypeId} {pos : String} {after : Array Edge} {j : Nat} {w : Bool}
theorem vopsQ_nil : vopsQ P G A n ops h [] K ρ = K ρ := propext Iff.rfl
theorem vopsQ_n {v : AV} {d : Nat} (hd : Nat.ble (d + 1) n = true) (hq : ∀ K : AV → VH → Prop, K v h → vop P G A ⟨some d, op, type, pos, after, none⟩ ρ h K) (hw : vopsQ P G A n ops h rest K (updV ρ d v)) : vopsQ P G A n ops h (⟨some d, op, type, pos, after, none⟩ :: rest) K ρ := ⟨v, ⟨Nat.le_of_ble_eq_true hd, hq⟩, hw⟩
theorem vopsQ_gt {v : AV} {d' : Nat} (d : Nat) (hd : Nat.ble (d' + 1) n = true) (h1 : dstV ops j = some d) (h2 : Nat.ble (d + 1) n = true) (h3 : ρ d = .sc (.bool w)) (hq : ∀ K : AV → VH → Prop, K v h → vop P G A ⟨some d', op, type, pos, after, some (j, w)⟩ ρ h K) (hw : vopsQ P G A n ops h rest K (updV ρ d' v)) : vopsQ P G A n ops h (⟨some d', op, type, pos, after, some (j, w)⟩ :: rest) K ρ :=
  ⟨v, ⟨Nat.le_of_ble_eq_true hd, d, w, h1, Nat.le_of_ble_eq_true h2, .inl h3, fun _ => hq, fun e => absurd rfl e⟩, hw⟩
theorem vopsQ_gf {d' : Nat} (d : Nat) (t : Bool) (hd : Nat.ble (d' + 1) n = true) (h1 : dstV ops j = some d) (h2 : Nat.ble (d + 1) n = true) (h3 : ρ d = .sc (.bool t)) (ht : t ≠ w) (hw : vopsQ P G A n ops h rest K (updV ρ d' (.tup []))) : vopsQ P G A n ops h (⟨some d', op, type, pos, after, some (j, w)⟩ :: rest) K ρ :=
  ⟨.tup [], ⟨Nat.le_of_ble_eq_true hd, d, t, h1, Nat.le_of_ble_eq_true h2, .inl h3, fun e => absurd e ht, fun _ => rfl⟩, hw⟩
theorem putV_s (d : Nat) (v : AV) : putV ρ (some d) v = updV ρ d v := Eq.trans rfl rfl
end
end
end Go.Proofs.AbM
