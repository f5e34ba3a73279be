/- The plain-data machine, part 18: regions that draw their order, where several operations that write may come up. Nothing here speaks of one program. -/
import Derived.Test.YtkkmbgfhhcoehaaVx14
namespace Go.Vx
open Go.RowKit

/-- A plan with branches: 'alt' lists what may come up, each with what follows. -/
inductive Pl where | nil | q (i : Nat) (r : Pl) | l (i : Nat) (r : Pl) | alt (i : Nat) (a r : Pl)
def Pl.heads : Pl → List Nat | .alt i _ r => i :: r.heads | _ => []
def Pl.depth : Pl → Nat | .nil => 0 | .q _ r => r.depth + 1 | .l _ r => r.depth + 1 | .alt _ a _ => a.depth + 1
/-- f: the rest of a list of branches, each of depth n. -/
def planT (ops : Array Oper) : Pl → Bool → Nat → Array Bool → Bool
  | .nil, f, _, listed => f || (Region.ready .any ops listed).isEmpty
  | .q i r, f, _, listed => !f && (Region.ready .any ops listed).contains i && Region.free .any ops listed i && ((ops[i]?).map isQ).getD false && planT ops r false 0 (listed.setIfInBounds i true)
  | .l i r, f, _, listed => !f && (Region.ready .any ops listed) == [i] && planT ops r false 0 (listed.setIfInBounds i true)
  | .alt i a r, f, n, listed => (match f with | true => Nat.beq a.depth n | false => (Region.ready .any ops listed) == i :: r.heads) && (Region.ready .any ops listed).contains i && planT ops a false 0 (listed.setIfInBounds i true) && planT ops r true a.depth listed
def planTok (ops : Array Oper) (A : Waits) (p : Pl) : Bool :=
  Region.noSelect ops && waitsB ops A && (p.depth == ops.size) && planT ops p false 0 (Array.replicate ops.size false)
def dopsT (P : Program) (T : Tab) (ops : List Oper) (A : Waits) : Pl → Bool → List (Nat × Src) → St → (St → Prop) → Prop
  | .nil, f, _, s, K => match f with | true => True | false => K s
  | .q i r, _, ps, s, K => match ops[i]? with
    | none => False
    | some o => wantK ops s o.guard
      (fun s => qop P T s o fun d s' => putK s' o.dst d fun s' => dopsT P T ops A r false ((i, srcQ s o) :: ps) s' K)
      (fun s => putK s o.dst (.tup []) fun s => dopsT P T ops A r false ((i, .none) :: ps) s K)
  | .l i r, _, ps, s, K => match ops[i]? with
    | none => False
    | some o => wantK ops s o.guard
      (fun s => clearK (befW A) i s (effOf s o) ps <| dop P T s o fun d s => putK s o.dst d fun s => dopsT P T ops A r false (filterP (befW A) i ps) s K)
      (fun s => putK s o.dst (.tup []) fun s => dopsT P T ops A r false (filterP (befW A) i ps) s K)
  | .alt i a r, _, ps, s, K => (match ops[i]? with
    | none => False
    | some o => wantK ops s o.guard
      (fun s => clearK (befW A) i s (effOf s o) ps <| dop P T s o fun d s => putK s o.dst d fun s => dopsT P T ops A a false (filterP (befW A) i ps) s K)
      (fun s => putK s o.dst (.tup []) fun s => dopsT P T ops A a false (filterP (befW A) i ps) s K)) ∧ dopsT P T ops A r true ps s K

section
variable {w0 w w' : World} {V0 : Fr} {V : Vw} {μ : List Nat} {ω : List Value} {s : St} {a : Act} {P : Program} {T : Tab}

theorem dopsT_sound (hT : TOk P T) {ops : List Oper} {A : Waits} (hns : Region.noSelect ops.toArray = true) (hA : waitsB ops.toArray A = true) {Q : Exit → Act → World → Prop} (hQ : ∀ c a w, ¬ Q (.panic c) a w) :
    ∀ (p : Pl) (f : Bool) (n : Nat) (listed : Array Bool) (ps : Pends) (sps : List (Nat × Src)) (s : St) (V : Vw) (μ : List Nat) (ω : List Value) (a : Act) (w : World) (K : St → Prop),
      planT ops.toArray p f n listed = true → Closed ops.toArray listed → Sim (szOf T) w0 V0 V μ ω s a w → All2 (PendOK V μ ω w) ps sps → dopsT P T ops A p f sps s K →
      (∀ s V μ ω a w, K s → Sim (szOf T) w0 V0 V μ ω s a w → Q .normal a w) →
      match f with
      | false => wpAnyP P ops.toArray (befW A) Q p.depth ps listed a w
      | true => ∀ j ∈ p.heads, wpOp P ops.toArray Q j (fun a' w' => (∀ x ∈ ps, befW A x.1 j = false → x.2 w') ∧ wpAnyP P ops.toArray (befW A) Q n (ps.filter fun x => !befW A x.1 j) (listed.setIfInBounds j true) a' w') a w
  | .nil, f, n, listed, ps, sps, s, V, μ, ω, a, w, K, hB, hcl, hS, hps, h, hq => by
    cases f with
    | true => intro j hj; cases hj
    | false => exact ⟨by simpa [planT] using hB, hq _ _ _ _ _ _ h hS⟩
  | .q i r, f, n, listed, ps, sps, s, V, μ, ω, a, w, K, hB, hcl, hS, hps, h, hq => by
    cases f with
    | true => intro j hj; cases hj
    | false =>
    simp only [planT, Bool.not_false, Bool.true_and, Bool.and_eq_true] at hB
    obtain ⟨⟨⟨hr, hf⟩, hq1⟩, hB⟩ := hB
    simp only [dopsT] at h
    cases ho : ops[i]? with
    | none => rw [ho] at h; exact h.elim
    | some o =>
      rw [ho] at h
      dsimp only at h
      have ho' : ops.toArray[i]? = some o := by simpa using ho
      rw [ho'] at hq1
      have hri : i ∈ Region.ready .any ops.toArray listed := by simpa using hr
      have hall : ∀ x ∈ ps, x.2 w := fun x hx => let ⟨y, hy⟩ := hps.left x hx; hy.mono_
      rcases wantK_sound (o := o) hS h with ⟨hw, s1, h, hS⟩ | ⟨hw, s1, h, hS⟩
      · obtain ⟨d, v, s2, h, hr2, hS2, p, n, hsrc, hq2⟩ := qop_sound hT hS h
        obtain ⟨s3, h, hS3⟩ := putK_sound hS2 hr2 h
        refine wpAnyP_first (C := KeepN p n w) (v := v) (fun i j => befW_spec hA i j) ho' (Region.noSelect_spec hns) (fun c a w hc => absurd hc (hQ _ _ _)) r.depth ps listed a w hcl (Region.free_spec ho' hf) hri
          (.inl ⟨hw, fun w' hk => quiet_value (by simpa using hq1) (hq2 w' ?_)⟩) (fun _ _ _ h => h) hall ?_
        · unfold QR
          split
          · exact hk
          · rename_i heq; simp [isQ, heq] at hq1
          · trivial
        · exact dopsT_sound hT hns hA hQ r false 0 _ _ _ s3 V μ ω _ w K hB (hcl.set hri) hS3 (.cons ⟨rfl, p, n, w, rfl, hsrc, fun _ _ _ h => h⟩ hps) h hq
      · obtain ⟨s3, h, hS3⟩ := putK_sound hS (v := undef) (d := .tup []) (RS.tup [] #[] rfl (fun j v d h => by simp at h)) h
        refine wpAnyP_first (C := KeepN ⟨0, 0, none⟩ 0 w) (v := undef) (fun i j => befW_spec hA i j) ho' (Region.noSelect_spec hns) (fun c a w hc => absurd hc (hQ _ _ _)) r.depth ps listed a w hcl (Region.free_spec ho' hf) hri
          (.inr ⟨hw, rfl⟩) (fun _ _ _ h => h) hall ?_
        exact dopsT_sound hT hns hA hQ r false 0 _ _ _ s3 V μ ω _ w K hB (hcl.set hri) hS3 (.cons ⟨rfl, ⟨0, 0, none⟩, 0, w, rfl, SrcP.zero _, fun _ _ _ h => h⟩ hps) h hq
  | .l i r, f, n, listed, ps, sps, s, V, μ, ω, a, w, K, hB, hcl, hS, hps, h, hq => by
    cases f with
    | true => intro j hj; cases hj
    | false =>
    simp only [planT, Bool.not_false, Bool.true_and, Bool.and_eq_true, beq_iff_eq] at hB
    obtain ⟨hr, hB⟩ := hB
    simp only [dopsT] at h
    cases ho : ops[i]? with
    | none => rw [ho] at h; exact h.elim
    | some o =>
      rw [ho] at h
      dsimp only at h
      have ho' : ops.toArray[i]? = some o := by simpa using ho
      have hri : i ∈ Region.ready .any ops.toArray listed := by rw [hr]; simp
      refine ⟨fun h0 => (by rw [hr] at h0; cases h0), fun j hj => ?_⟩
      rw [hr] at hj
      have hji : j = i := by simpa using hj
      subst hji
      unfold wpOp
      rw [ho']
      dsimp only
      rcases wantK_sound (o := o) hS h with ⟨hw, s1, h, hS⟩ | ⟨hw, s1, h, hS⟩
      · rw [if_pos hw]
        obtain ⟨h, hst⟩ := clearK_step hS.mem hps h
        refine .inl (dop_sound hT hS h _ _ fun d v s2 V2 μ2 ω2 w2 hk hr2 hS2 hstep => ?_)
        obtain ⟨h1, h2⟩ := hst _ _ _ _ hstep
        obtain ⟨s3, h, hS3⟩ := putK_sound hS2 hr2 hk
        exact ⟨h1, dopsT_sound hT hns hA hQ r false 0 _ _ _ s3 _ _ _ _ w2 K hB (hcl.set hri) hS3 h2 h hq⟩
      · rw [if_neg (by rw [hw]; simp)]
        obtain ⟨s3, h, hS3⟩ := putK_sound hS (v := undef) (d := .tup []) (RS.tup [] #[] rfl (fun j v d h => by simp at h)) h
        exact ⟨fun x hx _ => let ⟨y, hy⟩ := hps.left x hx; hy.mono_, dopsT_sound hT hns hA hQ r false 0 _ _ _ s3 _ _ _ _ w K hB (hcl.set hri) hS3 (hps.filter fun _ _ h => h.1) h hq⟩
  | .alt i b r, f, n, listed, ps, sps, s, V, μ, ω, a, w, K, hB, hcl, hS, hps, h, hq => by
    simp only [planT, Bool.and_eq_true] at hB
    obtain ⟨⟨⟨hf, hri⟩, hBa⟩, hBr⟩ := hB
    have hri : i ∈ Region.ready .any ops.toArray listed := by simpa using hri
    simp only [dopsT] at h
    obtain ⟨h, hrest⟩ := h
    have hone : wpOp P ops.toArray Q i (fun a' w' => (∀ x ∈ ps, befW A x.1 i = false → x.2 w') ∧ wpAnyP P ops.toArray (befW A) Q b.depth (ps.filter fun x => !befW A x.1 i) (listed.setIfInBounds i true) a' w') a w := by
      cases ho : ops[i]? with
      | none => rw [ho] at h; exact h.elim
      | some o =>
        rw [ho] at h
        dsimp only at h
        have ho' : ops.toArray[i]? = some o := by simpa using ho
        unfold wpOp
        rw [ho']
        dsimp only
        rcases wantK_sound (o := o) hS h with ⟨hw, s1, h, hS⟩ | ⟨hw, s1, h, hS⟩
        · rw [if_pos hw]
          obtain ⟨h, hst⟩ := clearK_step hS.mem hps h
          refine .inl (dop_sound hT hS h _ _ fun d v s2 V2 μ2 ω2 w2 hk hr2 hS2 hstep => ?_)
          obtain ⟨h1, h2⟩ := hst _ _ _ _ hstep
          obtain ⟨s3, h, hS3⟩ := putK_sound hS2 hr2 hk
          exact ⟨h1, dopsT_sound hT hns hA hQ b false 0 _ _ _ s3 _ _ _ _ w2 K hBa (hcl.set hri) hS3 h2 h hq⟩
        · rw [if_neg (by rw [hw]; simp)]
          obtain ⟨s3, h, hS3⟩ := putK_sound hS (v := undef) (d := .tup []) (RS.tup [] #[] rfl (fun j v d h => by simp at h)) h
          exact ⟨fun x hx _ => let ⟨y, hy⟩ := hps.left x hx; hy.mono_, dopsT_sound hT hns hA hQ b false 0 _ _ _ s3 _ _ _ _ w K hBa (hcl.set hri) hS3 (hps.filter fun _ _ h => h.1) h hq⟩
    have hmore := dopsT_sound hT hns hA hQ r true b.depth listed ps sps s V μ ω a w K hBr hcl hS hps hrest hq
    dsimp only at hmore
    cases f with
    | true =>
      intro j hj
      have hn : b.depth = n := Nat.eq_of_beq_eq_true hf
      subst hn
      rcases List.mem_cons.1 hj with rfl | hj
      · exact hone
      · exact hmore j hj
    | false =>
      have hr : Region.ready .any ops.toArray listed = i :: r.heads := by simpa using hf
      refine ⟨fun h0 => (by rw [hr] at h0; cases h0), fun j hj => ?_⟩
      rw [hr] at hj
      rcases List.mem_cons.1 hj with rfl | hj
      · exact hone
      · exact hmore j hj

/-- A region that draws its order, walked by a plan with branches. -/
theorem Ok.region_tree (hT : TOk P T) (hm : P.follows .mixedOrders = true) {s : St} {Q : Exit → St → Prop} {id : Nat} {l : List Oper} (A : Waits) (p : Pl) (hB : planTok l.toArray A p = true) (h : dopsT P T l A p false [] s (Q .normal)) :
    Ok P T (.region id l.toArray true) Q s := by
  refine ⟨fun w0 V0 V μ ω a w hS => ?_⟩
  simp only [planTok, Bool.and_eq_true, beq_iff_eq] at hB
  obtain ⟨⟨⟨hns, hA⟩, hlen⟩, hB⟩ := hB
  have hd : Ext w { w with drawn := w.drawn + 1 } := (Below.refl w.heap.size w).drew
  refine wp_mono (Q := fun e a' w' => e = .normal ∧ ∃ s' V' μ' ω', Q .normal s' ∧ Sim (szOf T) w0 V0 V' μ' ω' s' a' w') (wp_region_any hm ?_) ?_
  · refine wpAny_of_P (bef := befW A) _ [] _ _ _ ?_
    have hz : ∀ m j : Nat, (Array.replicate m false).getD j false = false := fun m j => by
      rcases Nat.lt_or_ge j m with h | h <;> simp [h]
    have hw := dopsT_sound hT hns hA (Q := fun e a' w' => e = .normal ∧ ∃ s' V' μ' ω', Q .normal s' ∧ Sim (szOf T) w0 V0 V' μ' ω' s' a' w') (fun c a w h => by cases h.1) p false 0 _ [] [] s V μ ω a _ _ hB
      (fun j o _ hl => by rw [hz] at hl; cases hl) (hS.ext hd) .nil h fun s' V' μ' ω' a' w' hk hS' => ⟨rfl, s', V', μ', ω', hk, hS'⟩
    rw [hlen] at hw
    exact hw
  · rintro e a' w' ⟨rfl, s', V', μ', ω', hk, hS'⟩
    exact ⟨s', V', μ', ω', hk, hS'⟩
end
end Go.Vx
