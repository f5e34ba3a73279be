/- The walks and the plain laws that a law of spaces needs, part 7 of 7. -/
import Derived.Test.YtaiondckookpiaaGreatDoorPXF
set_option linter.unusedVariables false
set_option linter.unusedSimpArgs false
namespace Go.Proofs.YtaiondckookpiaaGreatDoor
open Go Go.Vx
theorem numH_lt : ∀ {h : Str} (i : Nat), (∀ b ∈ h, b = 48 ∨ b = 49) → i ≤ h.length → numH (h.take i) < 2 ^ i
  | h, 0, _, _ => by simp [numH]
  | h, i + 1, hd, hi => by
    obtain ⟨b, hb⟩ : ∃ b, h[i]? = some b := ⟨_, List.getElem?_eq_getElem (by omega)⟩
    have ih := numH_lt i hd (by omega)
    rw [numH_snoc hb, Nat.pow_succ]
    rcases hd b (List.mem_of_getElem? hb) with rfl | rfl
    · have : (48 : UInt8).toNat - 48 = 0 := rfl
      omega
    · have : (49 : UInt8).toNat - 48 = 1 := rfl
      omega
set_option maxHeartbeats 4000000 in
theorem number_at (h : Str) (hd : ∀ b ∈ h, b = 48 ∨ b = 49) (hl : h.length ≤ 8) : FSpec Tryz.prog T 51 [.s h] (fun r _ => r = .i .i64 (numH h : Nat)) := by
  refine FSpec.of_ok tok Tryz.func51 rfl Tryz.call51 (by simp) ?_
  (try (conv => whnf)); repeat' (first | refine Ok.seq ?_ | refine OkL.cons ?_ | ((first | refine Ok.region tok ?_ | refine Ok.region_draw tok follows (by kernel_rfl) ?_ | refine Ok.cond ?_); conv => whnf) | refine Ok.block ?_ | ((first | refine Ok.skip ?_ | refine Ok.exit ?_ | refine Ok.ret ?_ | refine nI ?_ | refine ix _ (by assumption) ?_ | refine ixI (by omega) (by assumption) ?_ | refine ix_new _ (by omega) fun _ _ => ?_ | refine ixI_new (by omega) (by omega) fun _ _ => ?_ | refine ⟨_, by assumption, ?_⟩ | refine Alt2.l (aI ?_) | refine Alt2.r (aI ?_)); conv => whnf) | (refine Ok.scope ?_) | ((first | refine Ok.label ?_ | refine rd rfl (by assumption) ?_ | refine ⟨_, .inl ⟨rfl, rfl⟩, ?_⟩ | refine ⟨_, _, rfl, rfl, ?_⟩); conv => whnf) | (refine ⟨fun _ => ?_, fun _ => ?_⟩ <;> (conv => whnf) <;> (try (exfalso; omega))) | ((first | refine aJ ?_ | refine num_any ?_ | refine ⟨_, rfl, ?_⟩); conv => whnf) | fail)
  refine Ok.loopU [0] [3, 4] 0 0 (fun (i : Nat) => [.i .i64 (numH (h.take i) : Nat), .i .i64 (i : Nat)]) (fun _ b => b) (fun _ r => r) (fun (i : Nat) => i ≤ h.length) (fun (i : Nat) => h.length - i) (0) (Nat.zero_le _) ?_; (conv => whnf); refine ⟨by ((conv => whnf); first | rfl | (simp [envCat, List.take_of_length_le, crow, trow, srow]; done) | (simp [envCat, List.take_of_length_le, crow, trow, srow]; rw [IntKind.wrap_i64]; omega)), ?_⟩
  rintro i hi
  (conv => whnf)
  by_cases hil : i < h.length
  · obtain ⟨b, hb⟩ : ∃ b, h[i]? = some b := ⟨_, List.getElem?_eq_getElem hil⟩
    have hbI : h[((i : Nat) : Int).toNat]? = some b := hb
    have hlt := numH_lt i hd hi
    have hp : 2 ^ i ≤ 2 ^ 8 := Nat.pow_le_pow_right (by decide) (by omega)
    have hsn := numH_snoc hb
    have hbd : ((b.toNat : Nat) : Int) = 48 ∨ ((b.toNat : Nat) : Int) = 49 := by
      rcases hd b (List.mem_of_getElem? hb) with rfl | rfl
      · exact .inl rfl
      · exact .inr rfl
    generalize numH (h.take i) = m at *
    have h256 : (2 : Nat) ^ 8 = 256 := rfl
    rw [h256] at hp
    (try (conv => whnf)); repeat' (first | (refine iU8 (by omega) ?_; (conv => whnf)) | refine Ok.seq ?_ | refine OkL.cons ?_ | ((first | refine Ok.region tok ?_ | refine Ok.region_draw tok follows (by kernel_rfl) ?_ | refine Ok.cond ?_); conv => whnf) | refine Ok.block ?_ | ((first | refine Ok.skip ?_ | refine Ok.exit ?_ | refine Ok.ret ?_ | refine nI ?_ | refine ix _ (by assumption) ?_ | refine ixI (by omega) (by assumption) ?_ | refine ix_new _ (by omega) fun _ _ => ?_ | refine ixI_new (by omega) (by omega) fun _ _ => ?_ | refine ⟨_, by assumption, ?_⟩ | refine Alt2.l (aI ?_) | refine Alt2.r (aI ?_)); conv => whnf) | (refine Ok.scope ?_) | ((first | refine Ok.label ?_ | refine rd rfl (by assumption) ?_ | refine ⟨_, .inl ⟨rfl, rfl⟩, ?_⟩ | refine ⟨_, _, rfl, rfl, ?_⟩); conv => whnf) | (refine ⟨fun _ => ?_, fun _ => ?_⟩ <;> (conv => whnf) <;> (try (exfalso; omega))) | ((first | refine aJ ?_ | refine num_any ?_ | refine ⟨_, rfl, ?_⟩); conv => whnf) | fail)
    all_goals first
      | (exfalso; omega)
      | skip
    refine ⟨i + 1, by omega, by omega, ?_⟩
    have e : ((numH (h.take (i + 1)) : Nat) : Int) = 2 * (m : Int) + ((b.toNat : Int) - 48) := by rw [hsn]; omega
    (conv => whnf)
    rw [e]
    rfl
  · have hie : i = h.length := by omega
    subst hie
    rw [List.take_length]
    (try (conv => whnf)); repeat' (first | refine Ok.seq ?_ | refine OkL.cons ?_ | ((first | refine Ok.region tok ?_ | refine Ok.region_draw tok follows (by kernel_rfl) ?_ | refine Ok.cond ?_); conv => whnf) | refine Ok.block ?_ | ((first | refine Ok.skip ?_ | refine Ok.exit ?_ | refine Ok.ret ?_ | refine nI ?_ | refine ix _ (by assumption) ?_ | refine ixI (by omega) (by assumption) ?_ | refine ix_new _ (by omega) fun _ _ => ?_ | refine ixI_new (by omega) (by omega) fun _ _ => ?_ | refine ⟨_, by assumption, ?_⟩ | refine Alt2.l (aI ?_) | refine Alt2.r (aI ?_)); conv => whnf) | (refine Ok.scope ?_) | ((first | refine Ok.label ?_ | refine rd rfl (by assumption) ?_ | refine ⟨_, .inl ⟨rfl, rfl⟩, ?_⟩ | refine ⟨_, _, rfl, rfl, ?_⟩); conv => whnf) | (refine ⟨fun _ => ?_, fun _ => ?_⟩ <;> (conv => whnf) <;> (try (exfalso; omega))) | ((first | refine aJ ?_ | refine num_any ?_ | refine ⟨_, rfl, ?_⟩); conv => whnf) | fail)
    all_goals first
      | (exfalso; omega)
      | skip
    refine Or.inl ?_; (conv => whnf)
    rfl
theorem allH_get {k i : Nat} (h : i < 2 ^ k) : (allH k)[i]? = some (binS k i) := by simp [allH, h]
theorem binS_dig (k m : Nat) : ∀ b ∈ binS k m, b = 48 ∨ b = 49 := by
  intro b hb
  obtain ⟨i, _, rfl⟩ := List.mem_map.1 hb
  unfold dg
  have : (m >>> (k - 1 - i)) % 2 = 0 ∨ (m >>> (k - 1 - i)) % 2 = 1 := by omega
  rcases this with h | h <;> rw [h]
  · exact .inl rfl
  · exact .inr rfl
theorem numH_eq {n : Int} {x : Str} {i : Nat} (hd : hdrX n x) (hi : i < 2 ^ n.toNat) : numH x = i ↔ x = binS n.toNat i := by
  obtain ⟨m, hm, hx⟩ := binS_onto n.toNat x (by have := hd.1; omega) hd.2
  rw [← hx, numH_all hm]
  constructor
  · intro e; rw [e]
  · intro e
    have := congrArg numH e
    rwa [numH_all hm, numH_all hi] at this
theorem numH_lt2 {n : Int} {x : Str} (hd : hdrX n x) : numH x < 2 ^ n.toNat := by
  obtain ⟨m, hm, hx⟩ := binS_onto n.toNat x (by have := hd.1; omega) hd.2
  rw [← hx, numH_all hm]
  exact hm
theorem writeL_twice {x w : Str} (hl : w.length = x.length) : writeL (writeL x w) w = writeL x w := by
  refine List.ext_getElem? fun k => ?_
  by_cases hk : k < x.length
  · have hx := List.getElem?_eq_getElem hk
    have hw := List.getElem?_eq_getElem (show k < w.length by omega)
    have h1 := writeL_get hx hw
    rw [writeL_get h1 hw, h1]
    congr 1
    unfold wr1
    split <;> rfl
  · rw [List.getElem?_eq_none (by rw [writeL_len (by rw [writeL_len hl]; omega), writeL_len hl]; omega), List.getElem?_eq_none (by rw [writeL_len hl]; omega)]
@[reducible] def brow (b : Prop) : List D := [.b b]
set_option maxRecDepth 100000 in
set_option maxHeartbeats 16000000 in
theorem writesLaw_at (n : Int) (a w : Str) (given room : List Str) (hwf : n ≤ 9223372036854775807) : FSpec Tryz.prog T 13 [.i .i64 n, .s a, .s w, .lst 9 (given.map srow) (room.map srow)] (fun r _ => r = .b True) := by
  have hp := parse2_at n a
  have hf := parO_fine n a
  have hh := headers_at n given (room.map srow)
  have hsay := fun (h : (parO n a).1 = 0) x hx => said_has (h := x) h hx
  have hca := parO_cases n a
  have hpw := parse_at w
  unfold POut at hp
  refine FSpec.of_ok tok Tryz.func13 rfl Tryz.call13 (by simp) ?_
  rcases hca with ⟨e, he, h1⟩ | ⟨hn1, hn2, hal, hcs⟩
  · rw [h1] at hp
    dsimp only at hp
    have hic := isCube_at n w hwf
    (try (conv => whnf)); repeat' (first | (exact absurd trivial (by assumption)) | refine Ok.seq ?_ | refine OkL.cons ?_ | ((first | refine Ok.region tok ?_ | refine Ok.region_draw tok follows (by kernel_rfl) ?_ | refine Ok.cond ?_); conv => whnf) | refine Ok.block ?_ | ((first | refine Ok.skip ?_ | refine Ok.exit ?_ | refine Ok.ret ?_ | refine nI ?_ | refine ix _ (by assumption) ?_ | refine ixI (by omega) (by assumption) ?_ | refine ix_new _ (by omega) fun _ _ => ?_ | refine ixI_new (by omega) (by omega) fun _ _ => ?_ | refine ⟨_, by assumption, ?_⟩); conv => whnf) | (refine Or.inl ?_; (conv => whnf); (repeat (refine aI ?_; conv => whnf)); refine ⟨_, awake_at, rfl, ?_⟩; conv => whnf) | (refine Or.inl ?_; (conv => whnf); (repeat (refine aI ?_; conv => whnf)); refine ⟨_, hic, rfl, ?_⟩; conv => whnf) | ((first | refine ⟨_, awake_at, rfl, ?_⟩ | refine ⟨_, hic, rfl, ?_⟩); conv => whnf) | (refine Or.inr (Or.inl ?_); (conv => whnf); (repeat (refine aI ?_; conv => whnf)); refine ⟨_, awake_at, ?_⟩; rintro _ _ ⟨rfl, rfl⟩; conv => whnf) | (refine Or.inr (Or.inl ?_); (conv => whnf); (repeat (refine aI ?_; conv => whnf)); refine ⟨_, hic, ?_⟩; rintro _ _ ⟨rfl, rfl⟩; conv => whnf) | (refine Or.inr (Or.inl ?_); (conv => whnf); (repeat (refine aI ?_; conv => whnf)); refine ⟨_, hp , ?_⟩; rintro _ _ ⟨rfl, _, rfl, ks, rm, rfl, hk⟩ <;> (conv => whnf)) | (refine Or.inr (Or.inl ?_); (conv => whnf); (repeat (refine aI ?_; conv => whnf)); refine ⟨_, hpw, ?_⟩; rintro _ _ ⟨rfl, rfl⟩ <;> (conv => whnf)) | ((first | refine Alt2.l (aI ?_) | refine Alt2.r (aI ?_)); conv => whnf) | (refine Ok.scope ?_) | ((first | refine Ok.label ?_ | refine rd rfl (by assumption) ?_ | refine ⟨_, .inl ⟨rfl, rfl⟩, ?_⟩ | refine ⟨_, _, rfl, rfl, ?_⟩); conv => whnf) | (refine ⟨fun _ => ?_, fun _ => ?_⟩ <;> (conv => whnf) <;> (try (exfalso; omega))) | ((first | refine aJ ?_ | refine num_any ?_ | refine ⟨_, rfl, ?_⟩); conv => whnf) | fail)
    all_goals first
      | (rename_i h; exact absurd he h)
      | (refine Or.inl ?_; (conv => whnf)
         rfl)
      | trace_state
  have h0 : (parO n a).1 = 0 ∧ (parO n a).2.1 = n := by
    rcases hcs with ⟨_, h1⟩ | ⟨_, _, h1⟩ <;> rw [h1] <;> exact ⟨rfl, rfl⟩
  replace hsay := hsay h0.1
  clear hcs
  generalize parO n a = o at *
  obtain ⟨e, n', ts⟩ := o
  dsimp only at h0 hp hf hsay
  obtain ⟨rfl, rfl⟩ := h0
  have hic := isCube_at n' w hwf
  by_cases hcub : cubX2 n' w
  case neg =>
    (try (conv => whnf)); repeat' (first | (exact absurd trivial (by assumption)) | (exact absurd (by assumption) hcub) | (exact absurd (Classical.not_not.1 (by assumption)) hcub) | refine Ok.seq ?_ | refine OkL.cons ?_ | ((first | refine Ok.region tok ?_ | refine Ok.region_draw tok follows (by kernel_rfl) ?_ | refine Ok.cond ?_); conv => whnf) | refine Ok.block ?_ | ((first | refine Ok.skip ?_ | refine Ok.exit ?_ | refine Ok.ret ?_ | refine nI ?_ | refine ix _ (by assumption) ?_ | refine ixI (by omega) (by assumption) ?_ | refine ix_new _ (by omega) fun _ _ => ?_ | refine ixI_new (by omega) (by omega) fun _ _ => ?_ | refine ⟨_, by assumption, ?_⟩); conv => whnf) | (refine Or.inl ?_; (conv => whnf); (repeat (refine aI ?_; conv => whnf)); refine ⟨_, awake_at, rfl, ?_⟩; conv => whnf) | (refine Or.inl ?_; (conv => whnf); (repeat (refine aI ?_; conv => whnf)); refine ⟨_, hic, rfl, ?_⟩; conv => whnf) | ((first | refine ⟨_, awake_at, rfl, ?_⟩ | refine ⟨_, hic, rfl, ?_⟩); conv => whnf) | (refine Or.inr (Or.inl ?_); (conv => whnf); (repeat (refine aI ?_; conv => whnf)); refine ⟨_, awake_at, ?_⟩; rintro _ _ ⟨rfl, rfl⟩; conv => whnf) | (refine Or.inr (Or.inl ?_); (conv => whnf); (repeat (refine aI ?_; conv => whnf)); refine ⟨_, hic, ?_⟩; rintro _ _ ⟨rfl, rfl⟩; conv => whnf) | (refine Or.inr (Or.inl ?_); (conv => whnf); (repeat (refine aI ?_; conv => whnf)); refine ⟨_, hp , ?_⟩; rintro _ _ ⟨rfl, _, rfl, ks, rm, rfl, hk⟩ <;> (conv => whnf)) | (refine Or.inr (Or.inl ?_); (conv => whnf); (repeat (refine aI ?_; conv => whnf)); refine ⟨_, hpw, ?_⟩; rintro _ _ ⟨rfl, rfl⟩ <;> (conv => whnf)) | ((first | refine Alt2.l (aI ?_) | refine Alt2.r (aI ?_)); conv => whnf) | (refine Ok.scope ?_) | ((first | refine Ok.label ?_ | refine rd rfl (by assumption) ?_ | refine ⟨_, .inl ⟨rfl, rfl⟩, ?_⟩ | refine ⟨_, _, rfl, rfl, ?_⟩); conv => whnf) | (refine ⟨fun _ => ?_, fun _ => ?_⟩ <;> (conv => whnf) <;> (try (exfalso; omega))) | ((first | refine aJ ?_ | refine num_any ?_ | refine ⟨_, rfl, ?_⟩); conv => whnf) | fail)
    all_goals first
      | (exfalso; omega)
      | (refine Or.inl ?_; (conv => whnf)
         rfl)
      | trace_state
  have hwl : (w.length : Int) = n' := hcub.1
  have hct : CT w := ⟨by omega, hcub.2⟩
  have hok : okC w := ⟨hct, fun e => by rw [e] at hwl; simp at hwl; omega⟩
  rw [zer_of hok, show perr w = 0 by unfold perr; rw [if_neg (by omega), if_pos hok]] at hpw
  have hwl2 : w.length = n'.toNat := by omega
  have cb := fun ks rm h1 => before2_at hf ks rm h1 w hct
  have ca := fun ks rm h1 => after_at hf ks rm h1 w hct 2048
  have bfh := fun h hd => befO_has (h := h) hf (by omega) hct hwl hd
  have bff := (befO_fine (r := w) hf)
  have bf0 : (befO n' ts w).1 = 0 := by rw [befO_fit ⟨hwl.symm, by omega⟩]
  have aff := aftO_fine (r := w) (limit := 2048) hf hct
  have afc := aftO_code (ts := ts) (r := w) (show 0 < n' by omega) hwl
  have afh := fun h hd => aftO_has (x := h) hf (by omega) hct hwl hd
  unfold POut at cb ca
  generalize befO n' ts w = ob at *
  generalize aftO n' ts w 2048 = oa at *
  obtain ⟨eb, nb, ul⟩ := ob
  obtain ⟨ea, na, vl⟩ := oa
  dsimp only at cb ca bfh bff bf0 aff afc afh
  subst bf0
  have hll := hdrsL_len n' given
  have hsmall : n' ≤ 8 → hdrsL n' given = allH n'.toNat := fun h => if_neg (by omega)
  generalize hdrsL n' given = L at *
  have hlm : (L.map srow).length = L.length := by simp
  (try (conv => whnf)); repeat' (first | (exact absurd trivial (by assumption)) | (exact absurd rfl (by assumption)) | (exact absurd hcub (by assumption)) | refine Ok.seq ?_ | refine OkL.cons ?_ | ((first | refine Ok.region tok ?_ | refine Ok.region_draw tok follows (by kernel_rfl) ?_ | refine Ok.cond ?_); conv => whnf) | refine Ok.block ?_ | ((first | refine Ok.skip ?_ | refine Ok.exit ?_ | refine Ok.ret ?_ | refine nI ?_ | refine ix _ (by assumption) ?_ | refine ixI (by omega) (by assumption) ?_ | refine ix_new _ (by omega) fun _ _ => ?_ | refine ixI_new (by omega) (by omega) fun _ _ => ?_ | refine ⟨_, by assumption, ?_⟩); conv => whnf) | (refine Or.inl ?_; (conv => whnf); (repeat (refine aI ?_; conv => whnf)); refine ⟨_, awake_at, rfl, ?_⟩; conv => whnf) | (refine Or.inl ?_; (conv => whnf); (repeat (refine aI ?_; conv => whnf)); refine ⟨_, hic, rfl, ?_⟩; conv => whnf) | ((first | refine ⟨_, awake_at, rfl, ?_⟩ | refine ⟨_, hic, rfl, ?_⟩); conv => whnf) | (refine Or.inr (Or.inl ?_); (conv => whnf); (repeat (refine aI ?_; conv => whnf)); refine ⟨_, awake_at, ?_⟩; rintro _ _ ⟨rfl, rfl⟩; conv => whnf) | (refine Or.inr (Or.inl ?_); (conv => whnf); (repeat (refine aI ?_; conv => whnf)); refine ⟨_, hic, ?_⟩; rintro _ _ ⟨rfl, rfl⟩; conv => whnf) | (refine Or.inr (Or.inl ?_); (conv => whnf); (repeat (refine aI ?_; conv => whnf)); refine ⟨_, hp , ?_⟩; rintro _ _ ⟨rfl, _, rfl, ks, rm, rfl, hk⟩ <;> (conv => whnf)) | (refine Or.inr (Or.inl ?_); (conv => whnf); (repeat (refine aI ?_; conv => whnf)); refine ⟨_, hpw, ?_⟩; rintro _ _ ⟨rfl, rfl⟩ <;> (conv => whnf)) | (refine Or.inr (Or.inl ?_); (conv => whnf); (repeat (refine aI ?_; conv => whnf)); refine ⟨_, cb ks rm hk , ?_⟩; rintro _ _ ⟨rfl, _, rfl, kb, rb, rfl, hkb⟩ <;> (conv => whnf)) | (refine Or.inr (Or.inl ?_); (conv => whnf); (repeat (refine aI ?_; conv => whnf)); refine ⟨_, ca ks rm hk , ?_⟩; rintro _ _ ⟨rfl, _, rfl, ka, ra, rfl, hka⟩ <;> (conv => whnf)) | (refine Or.inr (Or.inl ?_); (conv => whnf); (repeat (refine aI ?_; conv => whnf)); refine ⟨_, hh , ?_⟩; rintro _ _ ⟨rfl, rmh, rfl⟩ <;> (conv => whnf)) | ((first | refine Alt2.l (aI ?_) | refine Alt2.r (aI ?_)); conv => whnf) | (refine Ok.scope ?_) | ((first | refine Ok.label ?_ | refine rd rfl (by assumption) ?_ | refine ⟨_, .inl ⟨rfl, rfl⟩, ?_⟩ | refine ⟨_, _, rfl, rfl, ?_⟩); conv => whnf) | (refine ⟨fun _ => ?_, fun _ => ?_⟩ <;> (conv => whnf) <;> (try (exfalso; omega))) | ((first | refine aJ ?_ | refine num_any ?_ | refine ⟨_, rfl, ?_⟩); conv => whnf) | fail)
  all_goals
    refine Ok.loopU [0, 1, 2, 13, 15, 16, 17, 18] [19] 1 4 (fun (x : Nat × List Prop) => [.i .i64 (x.1 : Nat)]) (fun (x : Nat × List Prop) (_ : List (List D)) => [[.i .i64 n', .lst 112 (ks.map trow) rm], crow w, [.i .i64 nb, .lst 112 (kb.map trow) rb], [.i .i64 na, .lst 112 (ka.map trow) ra]]) (fun (x : Nat × List Prop) (_ : Vx.Rows) => [some (4, x.2.map brow)]) (fun (x : Nat × List Prop) => x.1 ≤ L.length ∧ x.2.length = L.length ∧ (n' ≤ 8 → ∀ j q, x.2[j]? = some q → (q ↔ ∃ h ∈ L.take x.1, hdrX n' h ∧ saidX a h ∧ numH (writeL h w) = j))) (fun (x : Nat × List Prop) => L.length - x.1) ((0, List.replicate L.length False)) (⟨Nat.zero_le _, by simp, fun _ j q hj => by simp [List.getElem?_replicate] at hj; simp [hj.2]⟩) ?_; (conv => whnf); refine ⟨by ((conv => whnf); first | rfl | (simp [envCat, List.take_of_length_le, crow, trow, srow]; done) | (simp [envCat, List.take_of_length_le, crow, trow, srow]; rw [IntKind.wrap_i64]; omega)), ?_⟩
    rintro ⟨i, B⟩ ⟨hi, hBl, hB⟩
    dsimp only at hi hBl hB ⊢
    have hBm : (B.map brow).length = L.length := by rw [List.length_map, hBl]
    (conv => whnf)
    by_cases hil : i < L.length
    · obtain ⟨h, hh⟩ : ∃ h, L[i]? = some h := ⟨_, List.getElem?_eq_getElem hil⟩
      have hhI : L[((i : Nat) : Int).toNat]? = some h := hh
      have his := isHeader_at n' h (by omega)
      have skip : ¬ (hdrX n' h ∧ saidX a h) → (n' ≤ 8 → ∀ j q, B[j]? = some q → (q ↔ ∃ h ∈ L.take (i + 1), hdrX n' h ∧ saidX a h ∧ numH (writeL h w) = j)) := fun hno h8 j q hj => by
        rw [hB h8 j q hj, take_snoc hh]
        constructor
        · rintro ⟨x, hx, q⟩
          exact ⟨x, List.mem_append_left _ hx, q⟩
        · rintro ⟨x, hx, q⟩
          rcases List.mem_append.1 hx with hx | hx
          · exact ⟨x, hx, q⟩
          · simp at hx; rw [hx] at q; exact absurd ⟨q.1, q.2.1⟩ hno
      by_cases hd : hdrX n' h
      · have hlh := hd.1
        have hgd := writeL_hdr hd hct (by omega)
        have ho := overH_at h w (by omega) (by omega)
        have hs1 := said_at a h (by omega)
        have hs2 := said_at a (writeL h w) (by omega)
        have hb1 := hasS_at bff kb rb hkb h
        have hv1 := hasS_at aff ka ra hka h
        have hv2 := hasS_at aff ka ra hka (writeL h w)
        have k1 : hasS ul h ↔ saidX a (writeL h w) := (bfh h hd).2.2.trans (hsay _ hgd).symm
        have v1 : ea = 0 → saidX a h → hasS vl (writeL h w) := fun e q => (afh _ hgd e).2 ⟨h, hd, (hsay h hd).1 q, rfl⟩
        have v2 : ea = 0 → hasS vl h → writeL h w = h := fun e q => by
          obtain ⟨x, hx, _, hxe⟩ := (afh h hd e).1 q
          rw [← hxe, writeL_twice (by have := hx.1; omega)]
        by_cases h8 : n' ≤ 8
        · have hgl := writeL_len (c := h) (r := w) (by omega)
          have hnum := number_at (writeL h w) hgd.2 (by omega)
          have hlt := numH_lt2 hgd
          have hLl : L.length = 2 ^ n'.toNat := by rw [hsmall h8]; simp [allH]
          rw [← hLl] at hlt
          obtain ⟨b0, hb0⟩ : ∃ b0, B[numH (writeL h w)]? = some b0 := ⟨_, List.getElem?_eq_getElem (by omega)⟩
          have add : saidX a h → (n' ≤ 8 → ∀ j q, (B.set (numH (writeL h w)) True)[j]? = some q → (q ↔ ∃ h ∈ L.take (i + 1), hdrX n' h ∧ saidX a h ∧ numH (writeL h w) = j)) := fun hsd _ j q hj => by
            rw [take_snoc hh]
            by_cases hjk : j = numH (writeL h w)
            · subst hjk
              rw [List.getElem?_set_self (by omega)] at hj
              cases hj
              exact ⟨fun _ => ⟨h, by simp, hd, hsd, rfl⟩, fun _ => trivial⟩
            · rw [List.getElem?_set_ne (Ne.symm hjk)] at hj
              rw [hB h8 j q hj]
              constructor
              · rintro ⟨x, hx, q⟩
                exact ⟨x, List.mem_append_left _ hx, q⟩
              · rintro ⟨x, hx, q⟩
                rcases List.mem_append.1 hx with hx | hx
                · exact ⟨x, hx, q⟩
                · simp at hx; rw [hx] at q; exact absurd q.2.2.symm hjk
          generalize hk : numH (writeL h w) = k at *
          (try (conv => whnf)); repeat' (first | (exact absurd hd (by assumption)) | (exact absurd h8 (by assumption)) | (exact absurd k1 (by assumption)) | (exact absurd (v1 (by assumption) (by assumption)) (by assumption)) | (exact absurd (v2 (by assumption) (by assumption)) (by assumption)) | refine Ok.seq ?_ | refine OkL.cons ?_ | ((first | refine Ok.region tok ?_ | refine Ok.region_draw tok follows (by kernel_rfl) ?_ | refine Ok.cond ?_); conv => whnf) | refine Ok.block ?_ | ((first | refine Ok.skip ?_ | refine Ok.exit ?_ | refine Ok.ret ?_ | refine nI ?_ | refine ix _ (by assumption) ?_ | refine ixI (by omega) (by assumption) ?_ | refine ix_new _ (by omega) fun _ _ => ?_ | refine ixI_new (by omega) (by omega) fun _ _ => ?_ | refine ⟨_, by assumption, ?_⟩); conv => whnf) | (refine Or.inl ?_; (conv => whnf); (repeat (refine aI ?_; conv => whnf)); refine ⟨_, his, rfl, ?_⟩; conv => whnf) | (refine Or.inl ?_; (conv => whnf); (repeat (refine aI ?_; conv => whnf)); refine ⟨_, ho, rfl, ?_⟩; conv => whnf) | (refine Or.inl ?_; (conv => whnf); (repeat (refine aI ?_; conv => whnf)); refine ⟨_, hs1, rfl, ?_⟩; conv => whnf) | (refine Or.inl ?_; (conv => whnf); (repeat (refine aI ?_; conv => whnf)); refine ⟨_, hs2, rfl, ?_⟩; conv => whnf) | (refine Or.inl ?_; (conv => whnf); (repeat (refine aI ?_; conv => whnf)); refine ⟨_, hb1, rfl, ?_⟩; conv => whnf) | (refine Or.inl ?_; (conv => whnf); (repeat (refine aI ?_; conv => whnf)); refine ⟨_, hv1, rfl, ?_⟩; conv => whnf) | (refine Or.inl ?_; (conv => whnf); (repeat (refine aI ?_; conv => whnf)); refine ⟨_, hv2, rfl, ?_⟩; conv => whnf) | (refine Or.inl ?_; (conv => whnf); (repeat (refine aI ?_; conv => whnf)); refine ⟨_, hnum, rfl, ?_⟩; conv => whnf) | ((first | refine ⟨_, his, rfl, ?_⟩ | refine ⟨_, ho, rfl, ?_⟩ | refine ⟨_, hs1, rfl, ?_⟩ | refine ⟨_, hs2, rfl, ?_⟩ | refine ⟨_, hb1, rfl, ?_⟩ | refine ⟨_, hv1, rfl, ?_⟩ | refine ⟨_, hv2, rfl, ?_⟩ | refine ⟨_, hnum, rfl, ?_⟩); conv => whnf) | (refine Or.inr (Or.inl ?_); (conv => whnf); (repeat (refine aI ?_; conv => whnf)); refine ⟨_, his, ?_⟩; rintro _ _ ⟨rfl, rfl⟩; conv => whnf) | (refine Or.inr (Or.inl ?_); (conv => whnf); (repeat (refine aI ?_; conv => whnf)); refine ⟨_, ho, ?_⟩; rintro _ _ ⟨rfl, rfl⟩; conv => whnf) | (refine Or.inr (Or.inl ?_); (conv => whnf); (repeat (refine aI ?_; conv => whnf)); refine ⟨_, hs1, ?_⟩; rintro _ _ ⟨rfl, rfl⟩; conv => whnf) | (refine Or.inr (Or.inl ?_); (conv => whnf); (repeat (refine aI ?_; conv => whnf)); refine ⟨_, hs2, ?_⟩; rintro _ _ ⟨rfl, rfl⟩; conv => whnf) | (refine Or.inr (Or.inl ?_); (conv => whnf); (repeat (refine aI ?_; conv => whnf)); refine ⟨_, hb1, ?_⟩; rintro _ _ ⟨rfl, rfl⟩; conv => whnf) | (refine Or.inr (Or.inl ?_); (conv => whnf); (repeat (refine aI ?_; conv => whnf)); refine ⟨_, hv1, ?_⟩; rintro _ _ ⟨rfl, rfl⟩; conv => whnf) | (refine Or.inr (Or.inl ?_); (conv => whnf); (repeat (refine aI ?_; conv => whnf)); refine ⟨_, hv2, ?_⟩; rintro _ _ ⟨rfl, rfl⟩; conv => whnf) | (refine Or.inr (Or.inl ?_); (conv => whnf); (repeat (refine aI ?_; conv => whnf)); refine ⟨_, hnum, ?_⟩; rintro _ _ ⟨rfl, rfl⟩; conv => whnf) | ((first | refine Alt2.l (aI ?_) | refine Alt2.r (aI ?_)); conv => whnf) | (refine Ok.scope ?_) | ((first | refine Ok.label ?_ | refine rd rfl (by assumption) ?_ | refine ⟨_, .inl ⟨rfl, rfl⟩, ?_⟩ | refine ⟨_, _, rfl, rfl, ?_⟩); conv => whnf) | (refine ⟨fun _ => ?_, fun _ => ?_⟩ <;> (conv => whnf) <;> (try (exfalso; omega))) | ((first | refine aJ ?_ | refine num_any ?_ | refine ⟨_, rfl, ?_⟩); conv => whnf) | fail)
          all_goals first
            | (refine st True hb0 (by simp) (by simp [setCells]) ?_
               (try (conv => whnf)); repeat' (first | refine Ok.seq ?_ | refine OkL.cons ?_ | ((first | refine Ok.region tok ?_ | refine Ok.region_draw tok follows (by kernel_rfl) ?_ | refine Ok.cond ?_); conv => whnf) | refine Ok.block ?_ | ((first | refine Ok.skip ?_ | refine Ok.exit ?_ | refine Ok.ret ?_ | refine nI ?_ | refine ix _ (by assumption) ?_ | refine ixI (by omega) (by assumption) ?_ | refine ix_new _ (by omega) fun _ _ => ?_ | refine ixI_new (by omega) (by omega) fun _ _ => ?_ | refine ⟨_, by assumption, ?_⟩ | refine Alt2.l (aI ?_) | refine Alt2.r (aI ?_)); conv => whnf) | (refine Ok.scope ?_) | ((first | refine Ok.label ?_ | refine rd rfl (by assumption) ?_ | refine ⟨_, .inl ⟨rfl, rfl⟩, ?_⟩ | refine ⟨_, _, rfl, rfl, ?_⟩); conv => whnf) | (refine ⟨fun _ => ?_, fun _ => ?_⟩ <;> (conv => whnf) <;> (try (exfalso; omega))) | ((first | refine aJ ?_ | refine num_any ?_ | refine ⟨_, rfl, ?_⟩); conv => whnf) | fail)
               refine ⟨(i + 1, B.set k True), by dsimp only; omega, ⟨by dsimp only; omega, by simp [hBl], add (by assumption)⟩, ?_⟩
               (conv => whnf)
               simp only [toNat_cast]
               rfl)
            | (refine ⟨(i + 1, B), by dsimp only; omega, ⟨by dsimp only; omega, hBl, skip fun q => absurd q.2 (by assumption)⟩, ?_⟩
               (conv => whnf)
               rfl)
            | trace_state
        · (try (conv => whnf)); repeat' (first | (exact absurd hd (by assumption)) | (exact absurd (by assumption) h8) | (exact absurd k1 (by assumption)) | (exact absurd (v1 (by assumption) (by assumption)) (by assumption)) | (exact absurd (v2 (by assumption) (by assumption)) (by assumption)) | refine Ok.seq ?_ | refine OkL.cons ?_ | ((first | refine Ok.region tok ?_ | refine Ok.region_draw tok follows (by kernel_rfl) ?_ | refine Ok.cond ?_); conv => whnf) | refine Ok.block ?_ | ((first | refine Ok.skip ?_ | refine Ok.exit ?_ | refine Ok.ret ?_ | refine nI ?_ | refine ix _ (by assumption) ?_ | refine ixI (by omega) (by assumption) ?_ | refine ix_new _ (by omega) fun _ _ => ?_ | refine ixI_new (by omega) (by omega) fun _ _ => ?_ | refine ⟨_, by assumption, ?_⟩); conv => whnf) | (refine Or.inl ?_; (conv => whnf); (repeat (refine aI ?_; conv => whnf)); refine ⟨_, his, rfl, ?_⟩; conv => whnf) | (refine Or.inl ?_; (conv => whnf); (repeat (refine aI ?_; conv => whnf)); refine ⟨_, ho, rfl, ?_⟩; conv => whnf) | (refine Or.inl ?_; (conv => whnf); (repeat (refine aI ?_; conv => whnf)); refine ⟨_, hs1, rfl, ?_⟩; conv => whnf) | (refine Or.inl ?_; (conv => whnf); (repeat (refine aI ?_; conv => whnf)); refine ⟨_, hs2, rfl, ?_⟩; conv => whnf) | (refine Or.inl ?_; (conv => whnf); (repeat (refine aI ?_; conv => whnf)); refine ⟨_, hb1, rfl, ?_⟩; conv => whnf) | (refine Or.inl ?_; (conv => whnf); (repeat (refine aI ?_; conv => whnf)); refine ⟨_, hv1, rfl, ?_⟩; conv => whnf) | (refine Or.inl ?_; (conv => whnf); (repeat (refine aI ?_; conv => whnf)); refine ⟨_, hv2, rfl, ?_⟩; conv => whnf) | ((first | refine ⟨_, his, rfl, ?_⟩ | refine ⟨_, ho, rfl, ?_⟩ | refine ⟨_, hs1, rfl, ?_⟩ | refine ⟨_, hs2, rfl, ?_⟩ | refine ⟨_, hb1, rfl, ?_⟩ | refine ⟨_, hv1, rfl, ?_⟩ | refine ⟨_, hv2, rfl, ?_⟩); conv => whnf) | (refine Or.inr (Or.inl ?_); (conv => whnf); (repeat (refine aI ?_; conv => whnf)); refine ⟨_, his, ?_⟩; rintro _ _ ⟨rfl, rfl⟩; conv => whnf) | (refine Or.inr (Or.inl ?_); (conv => whnf); (repeat (refine aI ?_; conv => whnf)); refine ⟨_, ho, ?_⟩; rintro _ _ ⟨rfl, rfl⟩; conv => whnf) | (refine Or.inr (Or.inl ?_); (conv => whnf); (repeat (refine aI ?_; conv => whnf)); refine ⟨_, hs1, ?_⟩; rintro _ _ ⟨rfl, rfl⟩; conv => whnf) | (refine Or.inr (Or.inl ?_); (conv => whnf); (repeat (refine aI ?_; conv => whnf)); refine ⟨_, hs2, ?_⟩; rintro _ _ ⟨rfl, rfl⟩; conv => whnf) | (refine Or.inr (Or.inl ?_); (conv => whnf); (repeat (refine aI ?_; conv => whnf)); refine ⟨_, hb1, ?_⟩; rintro _ _ ⟨rfl, rfl⟩; conv => whnf) | (refine Or.inr (Or.inl ?_); (conv => whnf); (repeat (refine aI ?_; conv => whnf)); refine ⟨_, hv1, ?_⟩; rintro _ _ ⟨rfl, rfl⟩; conv => whnf) | (refine Or.inr (Or.inl ?_); (conv => whnf); (repeat (refine aI ?_; conv => whnf)); refine ⟨_, hv2, ?_⟩; rintro _ _ ⟨rfl, rfl⟩; conv => whnf) | ((first | refine Alt2.l (aI ?_) | refine Alt2.r (aI ?_)); conv => whnf) | (refine Ok.scope ?_) | ((first | refine Ok.label ?_ | refine rd rfl (by assumption) ?_ | refine ⟨_, .inl ⟨rfl, rfl⟩, ?_⟩ | refine ⟨_, _, rfl, rfl, ?_⟩); conv => whnf) | (refine ⟨fun _ => ?_, fun _ => ?_⟩ <;> (conv => whnf) <;> (try (exfalso; omega))) | ((first | refine aJ ?_ | refine num_any ?_ | refine ⟨_, rfl, ?_⟩); conv => whnf) | fail)
          all_goals first
            | (refine ⟨(i + 1, B), by dsimp only; omega, ⟨by dsimp only; omega, hBl, fun q => absurd q h8⟩, ?_⟩
               (conv => whnf)
               rfl)
            | trace_state
      · (try (conv => whnf)); repeat' (first | (exact absurd hd (by assumption)) | refine Ok.seq ?_ | refine OkL.cons ?_ | ((first | refine Ok.region tok ?_ | refine Ok.region_draw tok follows (by kernel_rfl) ?_ | refine Ok.cond ?_); conv => whnf) | refine Ok.block ?_ | ((first | refine Ok.skip ?_ | refine Ok.exit ?_ | refine Ok.ret ?_ | refine nI ?_ | refine ix _ (by assumption) ?_ | refine ixI (by omega) (by assumption) ?_ | refine ix_new _ (by omega) fun _ _ => ?_ | refine ixI_new (by omega) (by omega) fun _ _ => ?_ | refine ⟨_, by assumption, ?_⟩); conv => whnf) | (refine Or.inl ?_; (conv => whnf); (repeat (refine aI ?_; conv => whnf)); refine ⟨_, his, rfl, ?_⟩; conv => whnf) | (refine ⟨_, his, rfl, ?_⟩; conv => whnf) | (refine Or.inr (Or.inl ?_); (conv => whnf); (repeat (refine aI ?_; conv => whnf)); refine ⟨_, his, ?_⟩; rintro _ _ ⟨rfl, rfl⟩; conv => whnf) | ((first | refine Alt2.l (aI ?_) | refine Alt2.r (aI ?_)); conv => whnf) | (refine Ok.scope ?_) | ((first | refine Ok.label ?_ | refine rd rfl (by assumption) ?_ | refine ⟨_, .inl ⟨rfl, rfl⟩, ?_⟩ | refine ⟨_, _, rfl, rfl, ?_⟩); conv => whnf) | (refine ⟨fun _ => ?_, fun _ => ?_⟩ <;> (conv => whnf) <;> (try (exfalso; omega))) | ((first | refine aJ ?_ | refine num_any ?_ | refine ⟨_, rfl, ?_⟩); conv => whnf) | fail)
        all_goals first
          | (refine ⟨(i + 1, B), by dsimp only; omega, ⟨by dsimp only; omega, hBl, skip fun q => hd q.1⟩, ?_⟩
             (conv => whnf)
             rfl)
          | trace_state
    · have hie : i = L.length := by omega
      subst hie
      rw [List.take_length] at hB
      clear hBm
      (try (conv => whnf)); repeat' (first | refine Ok.seq ?_ | refine OkL.cons ?_ | ((first | refine Ok.region tok ?_ | refine Ok.region_draw tok follows (by kernel_rfl) ?_ | refine Ok.cond ?_); conv => whnf) | refine Ok.block ?_ | ((first | refine Ok.skip ?_ | refine Ok.exit ?_ | refine Ok.ret ?_ | refine nI ?_ | refine ix _ (by assumption) ?_ | refine ixI (by omega) (by assumption) ?_ | refine ix_new _ (by omega) fun _ _ => ?_ | refine ixI_new (by omega) (by omega) fun _ _ => ?_ | refine ⟨_, by assumption, ?_⟩ | refine Alt2.l (aI ?_) | refine Alt2.r (aI ?_)); conv => whnf) | (refine Ok.scope ?_) | ((first | refine Ok.label ?_ | refine rd rfl (by assumption) ?_ | refine ⟨_, .inl ⟨rfl, rfl⟩, ?_⟩ | refine ⟨_, _, rfl, rfl, ?_⟩); conv => whnf) | (refine ⟨fun _ => ?_, fun _ => ?_⟩ <;> (conv => whnf) <;> (try (exfalso; omega))) | ((first | refine aJ ?_ | refine num_any ?_ | refine ⟨_, rfl, ?_⟩); conv => whnf) | fail)
      all_goals first
        | (exfalso; omega)
        | skip
      refine Ok.loopU [0, 15, 16, 17, 18] [22] 1 4 (fun (i : Nat) => [.i .i64 (i : Nat)]) (fun (i : Nat) (_ : List (List D)) => [[.i .i64 n', .lst 112 (ks.map trow) rm], crow w, [.i .i64 nb, .lst 112 (kb.map trow) rb], [.i .i64 na, .lst 112 (ka.map trow) ra]]) (fun (i : Nat) (_ : Vx.Rows) => [some (4, B.map brow)]) (fun (i : Nat) => i ≤ L.length) (fun (i : Nat) => L.length - i) (0) (Nat.zero_le _) ?_; (conv => whnf); refine ⟨by ((conv => whnf); first | rfl | (simp [envCat, List.take_of_length_le, crow, trow, srow]; done) | (simp [envCat, List.take_of_length_le, crow, trow, srow]; rw [IntKind.wrap_i64]; omega)), ?_⟩
      rintro i hi
      have hBm : (B.map brow).length = L.length := by rw [List.length_map, hBl]
      (conv => whnf)
      by_cases hil : i < L.length
      · obtain ⟨x, hx⟩ : ∃ h, L[i]? = some h := ⟨_, List.getElem?_eq_getElem hil⟩
        have hxI : L[((i : Nat) : Int).toNat]? = some x := hx
        obtain ⟨q, hq⟩ : ∃ q, B[i]? = some q := ⟨_, List.getElem?_eq_getElem (by omega)⟩
        have hqI : B[((i : Nat) : Int).toNat]? = some q := hq
        have hv := hasS_at aff ka ra hka x
        have fact : n' ≤ 8 → ea = 0 → (hasS vl x ↔ q) := fun h8 e => by
          have hLa := hsmall h8
          have hLl : L.length = 2 ^ n'.toNat := by rw [hLa]; simp [allH]
          have hi2 : i < 2 ^ n'.toNat := by omega
          have hxb : x = binS n'.toNat i := by rw [hLa, allH_get hi2] at hx; exact (Option.some.inj hx).symm
          have hxd : hdrX n' x := ⟨by rw [hxb, binS_len]; omega, by rw [hxb]; exact binS_dig _ _⟩
          rw [afh x hxd e, hB h8 i q hq]
          constructor
          · rintro ⟨y, hy, hys, hyx⟩
            refine ⟨y, by rw [hLa]; exact allH_mem hy, hy, (hsay y hy).2 hys, ?_⟩
            rw [hyx]
            exact (numH_eq hxd hi2).2 hxb
          · rintro ⟨y, _, hy, hys, hyn⟩
            have hgd := writeL_hdr hy hct (by have := hy.1; omega)
            exact ⟨y, hy, (hsay y hy).1 hys, by rw [(numH_eq hgd hi2).1 hyn, hxb]⟩
        (try (conv => whnf)); repeat' (first | (exact absurd (fact (by assumption) (by assumption)) (by assumption)) | refine Ok.seq ?_ | refine OkL.cons ?_ | ((first | refine Ok.region tok ?_ | refine Ok.region_draw tok follows (by kernel_rfl) ?_ | refine Ok.cond ?_); conv => whnf) | refine Ok.block ?_ | ((first | refine Ok.skip ?_ | refine Ok.exit ?_ | refine Ok.ret ?_ | refine nI ?_ | refine ix _ (by assumption) ?_ | refine ixI (by omega) (by assumption) ?_ | refine ix_new _ (by omega) fun _ _ => ?_ | refine ixI_new (by omega) (by omega) fun _ _ => ?_ | refine ⟨_, by assumption, ?_⟩); conv => whnf) | (refine Or.inl ?_; (conv => whnf); (repeat (refine aI ?_; conv => whnf)); refine ⟨_, hv, rfl, ?_⟩; conv => whnf) | (refine ⟨_, hv, rfl, ?_⟩; conv => whnf) | (refine Or.inr (Or.inl ?_); (conv => whnf); (repeat (refine aI ?_; conv => whnf)); refine ⟨_, hv, ?_⟩; rintro _ _ ⟨rfl, rfl⟩; conv => whnf) | ((first | refine Alt2.l (aI ?_) | refine Alt2.r (aI ?_)); conv => whnf) | (refine Ok.scope ?_) | ((first | refine Ok.label ?_ | refine rd rfl (by assumption) ?_ | refine ⟨_, .inl ⟨rfl, rfl⟩, ?_⟩ | refine ⟨_, _, rfl, rfl, ?_⟩); conv => whnf) | (refine ⟨fun _ => ?_, fun _ => ?_⟩ <;> (conv => whnf) <;> (try (exfalso; omega))) | ((first | refine aJ ?_ | refine num_any ?_ | refine ⟨_, rfl, ?_⟩); conv => whnf) | fail)
        all_goals first
          | (exfalso; omega)
          | (refine ⟨i + 1, by omega, by omega, ?_⟩
             (conv => whnf)
             rfl)
          | (refine Or.inl ?_; (conv => whnf)
             rfl)
          | trace_state
      · have hie : i = L.length := by omega
        subst hie
        (try (conv => whnf)); repeat' (first | refine Ok.seq ?_ | refine OkL.cons ?_ | ((first | refine Ok.region tok ?_ | refine Ok.region_draw tok follows (by kernel_rfl) ?_ | refine Ok.cond ?_); conv => whnf) | refine Ok.block ?_ | ((first | refine Ok.skip ?_ | refine Ok.exit ?_ | refine Ok.ret ?_ | refine nI ?_ | refine ix _ (by assumption) ?_ | refine ixI (by omega) (by assumption) ?_ | refine ix_new _ (by omega) fun _ _ => ?_ | refine ixI_new (by omega) (by omega) fun _ _ => ?_ | refine ⟨_, by assumption, ?_⟩ | refine Alt2.l (aI ?_) | refine Alt2.r (aI ?_)); conv => whnf) | (refine Ok.scope ?_) | ((first | refine Ok.label ?_ | refine rd rfl (by assumption) ?_ | refine ⟨_, .inl ⟨rfl, rfl⟩, ?_⟩ | refine ⟨_, _, rfl, rfl, ?_⟩); conv => whnf) | (refine ⟨fun _ => ?_, fun _ => ?_⟩ <;> (conv => whnf) <;> (try (exfalso; omega))) | ((first | refine aJ ?_ | refine num_any ?_ | refine ⟨_, rfl, ?_⟩); conv => whnf) | fail)
        all_goals first
          | (exfalso; omega)
          | (refine Or.inl ?_; (conv => whnf)
             rfl)
          | trace_state
end Go.Proofs.YtaiondckookpiaaGreatDoor
namespace Go.Proofs.YtaiondckookpiaaGreatDoor
open Go Go.Vx Go.RowKit
theorem wf_le {n : Int} (h : (Lit.int .i64 n).wf = true) : n ≤ 9223372036854775807 := by
  simp only [Lit.wf, Bool.and_eq_true, decide_eq_true_eq] at h
  exact h.2
end Go.Proofs.YtaiondckookpiaaGreatDoor
