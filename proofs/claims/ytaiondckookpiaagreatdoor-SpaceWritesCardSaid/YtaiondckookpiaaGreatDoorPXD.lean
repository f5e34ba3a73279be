/- The walks and the plain laws that a law of spaces needs, part 4 of 7. -/
import Derived.Test.YtaiondckookpiaaGreatDoorPXC
import Derived.Shelf.SlSortFuncK.WholeK
import Derived.Shelf.GgSortFunc.Tiny
import Derived.Ground.GgsProg
import Derived.Deep.QuietTactic
import Derived.Lib.RowBridge
import Derived.Lib.SortBridge
set_option linter.unusedVariables false
set_option linter.unusedSimpArgs false
namespace Go.Proofs.YtaiondckookpiaaGreatDoor
open Go
theorem lexL_trans : ∀ {a b c : List Str}, lexL a b → lexL b c → lexL a c
  | a, [], c, h, _ => by cases a <;> simp [lexL] at h
  | a, _ :: _, [], _, h => by simp [lexL] at h
  | [], _ :: _, _ :: _, _, _ => trivial
  | x :: a, y :: b, z :: c, h, k => by
    rcases h with h | ⟨rfl, h⟩
    · rcases k with k | ⟨rfl, k⟩
      · exact .inl (bl_trans h k)
      · exact .inl h
    · rcases k with k | ⟨rfl, k⟩
      · exact .inl k
      · exact .inr ⟨rfl, lexL_trans h k⟩
theorem lexL_total : ∀ {a b : List Str}, a ≠ b → lexL a b ∨ lexL b a
  | [], [], h => absurd rfl h
  | [], _ :: _, _ => .inl trivial
  | _ :: _, [], _ => .inr trivial
  | x :: a, y :: b, h => by
    by_cases hxy : x = y
    · subst hxy
      rcases lexL_total (a := a) (b := b) (fun e => h (by rw [e])) with k | k
      · exact .inl (.inr ⟨rfl, k⟩)
      · exact .inr (.inr ⟨rfl, k⟩)
    · rcases bl_total hxy with k | k
      · exact .inl (.inl k)
      · exact .inr (.inl k)
theorem ahead_irrefl (t : Term) : ¬ aheadT t t := lexL_irrefl _
theorem ahead_trans (t u v : Term) (h : aheadT t u) (k : aheadT u v) : aheadT t v := lexL_trans h k
theorem ahead_total {t u : Term} (h : t ≠ u) : aheadT t u ∨ aheadT u t := lexL_total fun e => h (by
  obtain ⟨p, l⟩ := t
  obtain ⟨q, m⟩ := u
  simp at e
  rw [e.1, e.2])
def blt (x y : Str) : Prop := Op.bytesLess x y = true
def metL (p : Str) (less : List Str) : List Str := less.filterMap fun m => meetT m p
open Classical in
/-- A cube less others, in its form. -/
noncomputable def termT (p : Str) (less : List Str) : Option Term :=
  let k := (metL p less).foldl (putG inL blt) []
  if k = [p] then none else some ⟨p, k⟩
def covT (t u : Term) : Prop := inT t.p u.p ∧ ∀ m ∈ u.less, ∀ c, meetT m t.p = some c → ∃ n ∈ t.less, inT c n
structure Term.Ok (n : Nat) (t : Term) : Prop where
  pos : 0 < n
  p : t.p.length = n
  less : ∀ m ∈ t.less, inL m t.p
theorem Term.Ok.wide {n : Nat} {t : Term} (h : t.Ok n) : t.wide n := ⟨h.p, fun m hm => by rw [inL_len (h.less m hm), h.p]⟩
theorem covT_refl {n : Nat} {t : Term} (h : t.Ok n) : covT t t := by
  have hp : t.p ≠ [] := fun e => by have := h.p; have := h.pos; rw [e] at *; simp at *; omega
  refine ⟨⟨hp, inL_refl _⟩, fun m hm c hc => ?_⟩
  unfold meetT at hc
  split at hc
  · cases hc
  · rename_i hmn
    have := meetL_self.2 (h.less m hm)
    rw [this] at hc
    cases hc
    exact ⟨m, hm, hmn, inL_refl _⟩
theorem covT_trans (t u v : Term) (h : covT t u) (k : covT u v) : covT t v := by
  refine ⟨inT_trans h.1 k.1, fun m hm c hc => ?_⟩
  unfold meetT at hc
  split at hc
  · cases hc
  · rename_i hmn
    obtain ⟨hcm, hct⟩ := meetL_in hc
    obtain ⟨c1, hc1, hi1⟩ := meetL_glb hcm (inL_trans hct h.1.2)
    obtain ⟨n1, hn1, hin1⟩ := k.2 m hm c1 (by unfold meetT; rw [if_neg hmn]; exact hc1)
    have hcn1 := inL_trans hi1 hin1.2
    obtain ⟨c2, hc2, hi2⟩ := meetL_glb hcn1 hct
    have hne : n1 ≠ [] := fun e => hin1.1 (by
      have := inL_len hin1.2
      rw [e] at this
      exact List.eq_nil_of_length_eq_zero this)
    obtain ⟨n2, hn2, hin2⟩ := h.2 n1 hn1 c2 (by unfold meetT; rw [if_neg hne]; exact hc2)
    refine ⟨n2, hn2, fun e => hin2.1 ?_, inL_trans hi2 hin2.2⟩
    have := inL_len hi2
    rw [e] at this
    exact List.eq_nil_of_length_eq_zero this.symm
noncomputable def formT (l : List Term) : List Term := srt aheadT (grG covT l)
theorem formT_eq {n : Nat} {l k : List Term} (hl : ∀ t ∈ l, t.Ok n) (hp : k.Perm (grG covT l)) (hs : k.Pairwise fun t u => Op.bytesLess u.key t.key ≠ true) : k = formT l := by
  have ha := grG_anti covT_trans l fun t ht => covT_refl (hl t ht)
  have hok : ∀ t ∈ grG covT l, t.Ok n := fun t ht => hl t (ha.sub t ht)
  have tot : (grG covT l).Pairwise fun x y => x ≠ y := ha.anti.imp_of_mem fun {a b} hma _ hab e => hab.1 (by rw [← e]; exact covT_refl (hok a hma))
  have hne : k.Pairwise fun x y => x ≠ y := (hp.pairwise_iff fun {a b} hab => hab.symm).2 tot
  refine srt_uniq ahead_irrefl ahead_trans (tot.imp ahead_total) hp ?_
  refine (hs.and hne).imp_of_mem fun {a b} hma hmb hab => ?_
  have hoa := hok a (hp.mem_iff.1 hma)
  have hob := hok b (hp.mem_iff.1 hmb)
  rcases ahead_total hab.2 with h | h
  · exact h
  · exact absurd ((key_less hob.pos hob.wide hoa.wide).2 h) hab.1
theorem blt_irrefl (x : Str) : ¬ blt x x := bl_irrefl x
theorem blt_trans (x y z : Str) (h : blt x y) (k : blt y z) : blt x z := bl_trans h k
theorem blt_total (x y : Str) (h : x ≠ y) : blt x y ∨ blt y x := bl_total h
theorem strict_of {l k : List Str} (hp : k.Perm (grG inL l)) (hs : k.Pairwise fun t u => Op.bytesLess u t ≠ true) : k.Pairwise blt := by
  have ha := grG_anti (R := inL) (fun _ _ _ => inL_trans) l fun x _ => inL_refl x
  have hn := (hp.nodup_iff).2 (ha.nodup inL_refl)
  refine (hs.and hn).imp fun {a b} hab => ?_
  rcases blt_total a b hab.2 with h | h
  · exact h
  · exact absurd h hab.1
theorem put_eq {l k : List Str} (hp : k.Perm (grG inL l)) (hs : k.Pairwise fun t u => Op.bytesLess u t ≠ true) : k = l.foldl (putG inL blt) [] :=
  sorted_eq_put inL_refl (fun _ _ _ => inL_trans) (fun _ _ => inL_antisymm) blt_irrefl blt_trans blt_total hp (strict_of hp hs)
theorem metL_in {p : Str} {less : List Str} {m : Str} (h : m ∈ metL p less) : inL m p := by
  obtain ⟨a, _, h2⟩ := List.mem_filterMap.1 h
  unfold meetT at h2
  split at h2
  · cases h2
  · exact (meetL_in h2).2
theorem void_iff (p : Str) (less : List Str) : p ∈ grG inL (metL p less) ↔ (metL p less).foldl (putG inL blt) [] = [p] := by
  have ha := grG_anti (R := inL) (fun _ _ _ => inL_trans) (metL p less) fun x _ => inL_refl x
  have hb := putG_fold (R := inL) (L := blt) inL_refl (fun _ _ _ => inL_trans) blt_trans blt_total (metL p less)
  have hp := ha.perm inL_refl (fun _ _ _ => inL_trans) (fun _ _ => inL_antisymm) hb.1
  constructor
  · intro h
    have hm := hp.mem_iff.1 h
    generalize hk : (metL p less).foldl (putG inL blt) [] = k at hb hm
    have hall : ∀ x ∈ k, inL x p := fun x hx => metL_in (hb.1.sub x hx)
    cases k with
    | nil => simp at hm
    | cons a k =>
      have hpw := List.pairwise_cons.1 hb.1.anti
      rcases List.mem_cons.1 hm with rfl | hm
      · cases k with
        | nil => rfl
        | cons b k => exact absurd (hall b (by simp)) (hpw.1 b (by simp)).2
      · exact absurd (hall a (by simp)) (hpw.1 p hm).1
  · intro h
    exact hp.mem_iff.2 (by rw [h]; simp)
theorem termT_void {p : Str} {less : List Str} (h : p ∈ grG inL (metL p less)) : termT p less = none := by
  have := (void_iff p less).1 h
  unfold termT
  simp only
  rw [if_pos this]
theorem termT_some {p : Str} {less k : List Str} (h : p ∉ grG inL (metL p less)) (hp : k.Perm (grG inL (metL p less))) (hs : k.Pairwise fun t u => Op.bytesLess u t ≠ true) : termT p less = some ⟨p, k⟩ := by
  have h1 := fun e => h ((void_iff p less).2 e)
  unfold termT
  simp only
  rw [if_neg h1]
  congr
  exact (put_eq hp hs).symm
theorem termT_ok {p : Str} {less : List Str} {t : Term} (hp : p ≠ []) (h : termT p less = some t) : t.Ok p.length ∧ t.p = p := by
  unfold termT at h
  simp only at h
  split at h
  · cases h
  · cases h
    have hb := putG_fold (R := inL) (L := blt) inL_refl (fun _ _ _ => inL_trans) blt_trans blt_total (metL p less)
    exact ⟨⟨List.length_pos_iff.2 hp, rfl, fun m hm => metL_in (hb.1.sub m hm)⟩, rfl⟩
theorem grG_sub {α : Type} (R : α → α → Prop) (l : List α) : ∀ x ∈ grG R l, x ∈ l := by
  have go : ∀ (l k : List α), ∀ x ∈ l.foldl (addG R) k, x ∈ k ∨ x ∈ l := by
    intro l
    induction l with
    | nil => intro k x hx; exact .inl hx
    | cons y l ih =>
      intro k x hx
      rcases ih _ x hx with h | h
      · unfold addG at h
        split at h
        · exact .inl h
        · rcases List.mem_append.1 h with h | h
          · exact .inl (List.mem_filter.1 h).1
          · simp at h; subst h; exact .inr (by simp)
      · exact .inr (by simp [h])
  intro x hx
  rcases go l [] x hx with h | h
  · simp at h
  · exact h
theorem formT_mem {l : List Term} {t : Term} (h : t ∈ formT l) : t ∈ l := grG_sub covT l t ((srt_perm aheadT _).mem_iff.1 h)
end Go.Proofs.YtaiondckookpiaaGreatDoor
namespace Go.Proofs.YtaiondckookpiaaGreatDoor
open Go Go.Vx
def wof (f : Nat → Bool) (k : Nat) : BitVec 64 := (BitVec.ofBoolListLE ((List.range 64).map fun i => f (64 * k + i))).setWidth 64
theorem wof_get (f : Nat → Bool) (k i : Nat) (h : i < 64) : (wof f k).getLsbD i = f (64 * k + i) := by
  unfold wof
  rw [BitVec.getLsbD_setWidth, BitVec.getLsbD_ofBoolListLE]
  simp [h, List.getD]
theorem wof_ext {f g : Nat → Bool} {k : Nat} (h : ∀ i, i < 64 → f (64 * k + i) = g (64 * k + i)) : wof f k = wof g k :=
  BitVec.eq_of_getLsbD_eq fun i hi => by rw [wof_get _ _ _ hi, wof_get _ _ _ hi]; exact h i hi
theorem wof_eq {f g : Nat → Bool} {k : Nat} : wof f k = wof g k ↔ ∀ i, i < 64 → f (64 * k + i) = g (64 * k + i) := by
  refine ⟨fun h i hi => ?_, wof_ext⟩
  rw [← wof_get f k i hi, h, wof_get g k i hi]
theorem bv_id (x : BitVec 64) : BitVec.ofInt IntKind.u64.bits (x.toNat : Int) = x := by
  show BitVec.ofInt 64 (x.toNat : Int) = x
  simp
theorem wrap_id (x : BitVec 64) : IntKind.u64.wrap (x.toNat : Int) = (x.toNat : Int) := by
  have := x.isLt
  simp [IntKind.wrap, IntKind.bits, IntKind.signed]
  omega
section
variable {p : Int → Prop} {x y : BitVec 64}
theorem nAnd (h : p ((x &&& y).toNat : Int)) : ∃ n, n = IntKind.u64.wrap ((BitVec.ofInt IntKind.u64.bits (x.toNat : Int) &&& BitVec.ofInt IntKind.u64.bits (y.toNat : Int)).toNat : Int) ∧ p n := ⟨_, rfl, by
  have key : ∀ (a b : BitVec 64), a = x → b = y → IntKind.u64.wrap ((a &&& b).toNat : Int) = (((x &&& y) : BitVec 64).toNat : Int) := by
    rintro _ _ rfl rfl
    exact wrap_id _
  exact (congrArg p (key _ _ (bv_id x) (bv_id y))).mpr h⟩
theorem nOr (h : p ((x ||| y).toNat : Int)) : ∃ n, n = IntKind.u64.wrap ((BitVec.ofInt IntKind.u64.bits (x.toNat : Int) ||| BitVec.ofInt IntKind.u64.bits (y.toNat : Int)).toNat : Int) ∧ p n := ⟨_, rfl, by
  have key : ∀ (a b : BitVec 64), a = x → b = y → IntKind.u64.wrap ((a ||| b).toNat : Int) = (((x ||| y) : BitVec 64).toNat : Int) := by
    rintro _ _ rfl rfl
    exact wrap_id _
  exact (congrArg p (key _ _ (bv_id x) (bv_id y))).mpr h⟩
theorem nXor (h : p ((x ^^^ y).toNat : Int)) : ∃ n, n = IntKind.u64.wrap ((BitVec.ofInt IntKind.u64.bits (x.toNat : Int) ^^^ BitVec.ofInt IntKind.u64.bits (y.toNat : Int)).toNat : Int) ∧ p n := ⟨_, rfl, by
  have key : ∀ (a b : BitVec 64), a = x → b = y → IntKind.u64.wrap ((a ^^^ b).toNat : Int) = (((x ^^^ y) : BitVec 64).toNat : Int) := by
    rintro _ _ rfl rfl
    exact wrap_id _
  exact (congrArg p (key _ _ (bv_id x) (bv_id y))).mpr h⟩
theorem nAndNot (h : p ((x &&& ~~~y).toNat : Int)) : ∃ n, n = IntKind.u64.wrap ((BitVec.ofInt IntKind.u64.bits (x.toNat : Int) &&& ~~~(BitVec.ofInt IntKind.u64.bits (y.toNat : Int))).toNat : Int) ∧ p n := ⟨_, rfl, by
  have key : ∀ (a b : BitVec 64), a = x → b = y → IntKind.u64.wrap ((a &&& ~~~b).toNat : Int) = (((x &&& ~~~y) : BitVec 64).toNat : Int) := by
    rintro _ _ rfl rfl
    exact wrap_id _
  exact (congrArg p (key _ _ (bv_id x) (bv_id y))).mpr h⟩
theorem nAnd1 (h : p ((x &&& 1#64).toNat : Int)) : ∃ n, n = IntKind.u64.wrap ((BitVec.ofInt IntKind.u64.bits (x.toNat : Int) &&& BitVec.ofInt IntKind.u64.bits 1).toNat : Int) ∧ p n := by
  have : ((1#64 : BitVec 64).toNat : Int) = 1 := rfl
  have h2 := nAnd (p := p) (x := x) (y := 1#64) h
  rwa [this] at h2
theorem nShr {r : Int} {k : Nat} (hr : r = (k : Int) ∧ k < 64) (h : p ((x >>> k).toNat : Int)) : ∃ n, n = (x.toNat : Int).fdiv (2 ^ (min r.toNat IntKind.u64.bits)) ∧ p n := by
  refine ⟨_, rfl, ?_⟩
  obtain ⟨rfl, hk⟩ := hr
  have e1 : min ((k : Int).toNat) IntKind.u64.bits = k := by
    show min k 64 = k
    omega
  rw [e1]
  have e2 : ((x.toNat : Int).fdiv (2 ^ k)) = ((x >>> k).toNat : Int) := by
    rw [BitVec.toNat_ushiftRight, Nat.shiftRight_eq_div_pow, Int.fdiv_eq_ediv_of_nonneg _ (Int.pow_nonneg (by omega))]
    push_cast
    rfl
  rw [e2]
  exact h
theorem nShl1 {r : Int} {k : Nat} (hr : r = (k : Int) ∧ k < 64) (h : p ((1#64 <<< k).toNat : Int)) : ∃ n, n = IntKind.u64.wrap (1 * 2 ^ (min r.toNat IntKind.u64.bits)) ∧ p n := by
  refine ⟨_, rfl, ?_⟩
  obtain ⟨rfl, hk⟩ := hr
  have e1 : min ((k : Int).toNat) IntKind.u64.bits = k := by
    show min k 64 = k
    omega
  rw [e1]
  have hlt : 2 ^ k < 2 ^ 64 := Nat.pow_lt_pow_right (by omega) hk
  have e2 : (1 * 2 ^ k : Int) = ((1#64 <<< k).toNat : Int) := by
    rw [BitVec.toNat_shiftLeft, Nat.shiftLeft_eq]
    simp only [BitVec.toNat_ofNat]
    rw [show (1 % 2 ^ 64 * 2 ^ k) % 2 ^ 64 = 2 ^ k by rw [Nat.mod_eq_of_lt (a := 1) (by decide), Nat.one_mul, Nat.mod_eq_of_lt hlt]]
    push_cast
    omega
  rw [e2, wrap_id]
  exact h
end
theorem nAnd1' {p : Int → Prop} {x : BitVec 64} {c : Int} (hc : c = 1) (h : p ((x &&& 1#64).toNat : Int)) : ∃ n, n = IntKind.u64.wrap ((BitVec.ofInt IntKind.u64.bits (x.toNat : Int) &&& BitVec.ofInt IntKind.u64.bits c).toNat : Int) ∧ p n := by
  subst hc; exact nAnd1 h
theorem nShl1' {p : Int → Prop} {r c : Int} {k : Nat} (hc : c = 1) (hr : r = (k : Int) ∧ k < 64) (h : p ((1#64 <<< k).toNat : Int)) : ∃ n, n = IntKind.u64.wrap (c * 2 ^ (min r.toNat IntKind.u64.bits)) ∧ p n := by
  subst hc; exact nShl1 hr h
theorem bit_at (x : BitVec 64) (k : Nat) : (((x >>> k) &&& 1#64).toNat : Int) = 1 ↔ x.getLsbD k = true := by
  have h1 : ((x >>> k) &&& 1#64).toNat = (x.getLsbD k).toNat := by
    rw [BitVec.toNat_and, BitVec.toNat_ushiftRight]
    simp only [BitVec.toNat_ofNat]
    rw [show 1 % 2 ^ 64 = 1 from rfl, Nat.and_one_is_mod, BitVec.getLsbD, Nat.testBit]
    simp
    have := Nat.mod_two_eq_zero_or_one (x.toNat >>> k)
    rcases this with h | h <;> simp [h]
  rw [h1]
  cases x.getLsbD k <;> simp
theorem quo64 {i q r : Nat} (h : i = 64 * q + r) (hr : r < 64) (hi : i < 1000) : (q : Int) = IntKind.i64.wrap ((i : Int).tdiv 64) := by
  subst h
  have e : ((64 * q + r : Nat) : Int).tdiv 64 = (q : Int) := by
    rw [Int.tdiv_eq_ediv_of_nonneg (by omega)]
    omega
  rw [e, IntKind.wrap_i64]
  omega
theorem rem64 {i q r : Nat} (h : i = 64 * q + r) (hr : r < 64) : (r : Int) = ((i : Int).tmod 64) := by
  subst h
  rw [Int.tmod_eq_emod_of_nonneg (by omega)]
  omega
theorem word_nz {x : BitVec 64} : ((x.toNat : Int) ≠ 0) ↔ ∃ i, i < 64 ∧ x.getLsbD i = true := by
  constructor
  · intro h
    apply Classical.byContradiction
    intro hn
    apply h
    have : x = 0#64 := BitVec.eq_of_getLsbD_eq fun i hi => by
      cases hx : x.getLsbD i
      · simp
      · exact absurd ⟨i, hi, hx⟩ hn
    rw [this]
    rfl
  · rintro ⟨i, hi, h⟩ h0
    have : x = 0#64 := BitVec.eq_of_toNat_eq (by simpa using h0)
    rw [this] at h
    simp at h
def dig (b : UInt8) : Bool := b == 48 || b == 49
def car (t : Str) (i : Nat) : Bool := match t[i]? with | some b => dig b | none => false
def one (t : Str) (i : Nat) : Bool := match t[i]? with | some b => b == 49 | none => false
@[reducible] def cells9 (n : Nat) (c o : Nat → Bool) : List D := [.i .i64 (n : Int), .i .u64 ((wof c 0).toNat : Int), .i .u64 ((wof c 1).toNat : Int), .i .u64 ((wof c 2).toNat : Int), .i .u64 ((wof c 3).toNat : Int), .i .u64 ((wof o 0).toNat : Int), .i .u64 ((wof o 1).toNat : Int), .i .u64 ((wof o 2).toNat : Int), .i .u64 ((wof o 3).toNat : Int)]
@[reducible] def crow (t : Str) : List D := cells9 t.length (car t) (one t)
structure CT (t : Str) : Prop where
  len : t.length ≤ 256
  cub : ∀ b ∈ t, b = 48 ∨ b = 49 ∨ b = 120
theorem CT.nil : CT [] := ⟨by simp, by simp⟩
theorem crow_nil : crow [] = [.i .i64 0, .i .u64 0, .i .u64 0, .i .u64 0, .i .u64 0, .i .u64 0, .i .u64 0, .i .u64 0, .i .u64 0] := by
  have h : ∀ k, wof (car []) k = 0#64 := fun k => BitVec.eq_of_getLsbD_eq fun i hi => by rw [wof_get _ _ _ hi]; simp [car]
  have h2 : ∀ k, wof (one []) k = 0#64 := fun k => BitVec.eq_of_getLsbD_eq fun i hi => by rw [wof_get _ _ _ hi]; simp [one]
  simp [h, h2]
theorem car_lt {t : Str} {i : Nat} (h : car t i = true) : i < t.length := by
  unfold car at h
  split at h
  · rename_i b hb; exact (List.getElem?_eq_some_iff.1 hb).1
  · cases h
theorem words_eq {f g : Nat → Bool} (h0 : wof f 0 = wof g 0) (h1 : wof f 1 = wof g 1) (h2 : wof f 2 = wof g 2) (h3 : wof f 3 = wof g 3) : ∀ i, i < 256 → f i = g i := by
  intro i hi
  have e0 := wof_eq.1 h0
  have e1 := wof_eq.1 h1
  have e2 := wof_eq.1 h2
  have e3 := wof_eq.1 h3
  by_cases c0 : i < 64
  · have := e0 i c0; rwa [show 64 * 0 + i = i by omega] at this
  by_cases c1 : i < 128
  · have := e1 (i - 64) (by omega); rwa [show 64 * 1 + (i - 64) = i by omega] at this
  by_cases c2 : i < 192
  · have := e2 (i - 128) (by omega); rwa [show 64 * 2 + (i - 128) = i by omega] at this
  · have := e3 (i - 192) (by omega); rwa [show 64 * 3 + (i - 192) = i by omega] at this
theorem ct_ext {t u : Str} (ht : CT t) (hu : CT u) (hl : t.length = u.length) (hc : ∀ i, i < 256 → car t i = car u i) (ho : ∀ i, i < 256 → one t i = one u i) : t = u := by
  refine List.ext_getElem? fun i => ?_
  by_cases hi : i < t.length
  · have h1 : t[i]? = some t[i] := List.getElem?_eq_getElem hi
    have h2 : u[i]? = some u[i] := List.getElem?_eq_getElem (by omega)
    have hi2 : i < 256 := by have := ht.len; omega
    have c := hc i hi2
    have o := ho i hi2
    unfold car at c
    unfold one at o
    rw [h1, h2] at c o ⊢
    simp only [] at c o
    have k1 := ht.cub t[i] (List.getElem_mem hi)
    have k2 := hu.cub u[i] (List.getElem_mem (by omega))
    rcases k1 with k1 | k1 | k1 <;> rcases k2 with k2 | k2 | k2 <;> rw [k1, k2] at c o ⊢ <;> simp [dig] at c o
  · rw [List.getElem?_eq_none (by omega), List.getElem?_eq_none (by omega)]
theorem crow_inj {t u : Str} (ht : CT t) (hu : CT u) (h : eqDs (crow t) (crow u)) : t = u := by
  have key : ∀ {x y : BitVec 64}, (x.toNat : Int) = (y.toNat : Int) → x = y := fun h => BitVec.eq_of_toNat_eq (by omega)
  simp only [eqDs, eqD] at h
  obtain ⟨hl, c0, c1, c2, c3, o0, o1, o2, o3⟩ := h
  exact ct_ext ht hu (by omega) (words_eq (key c0) (key c1) (key c2) (key c3)) (words_eq (key o0) (key o1) (key o2) (key o3))
theorem eqDs_self (t : Str) : eqDs (crow t) (crow t) := by simp [eqDs, eqD]
theorem put_word {f g : Nat → Bool} {i q r : Nat} (hi : i = 64 * q + r) (hr : r < 64) (hg : ∀ j, g j = (f j || decide (j = i))) (k : Nat) : wof g k = if k = q then wof f k ||| 1#64 <<< r else wof f k := by
  refine BitVec.eq_of_getLsbD_eq fun j hj => ?_
  rw [wof_get _ _ _ hj, hg]
  split
  · rename_i hk
    subst hk
    rw [BitVec.getLsbD_or, wof_get _ _ _ hj, BitVec.getLsbD_shiftLeft, BitVec.getLsbD_one]
    congr 1
    by_cases hjr : j = r
    · subst hjr; simp [hi, hj]
    · have h1 : ¬ 64 * k + j = i := by omega
      have h2 : ¬ (j - r = 0 ∧ ¬ j < r) := by omega
      simp [h1, hj]
      omega
  · rename_i hk
    rw [wof_get _ _ _ hj]
    have h1 : ¬ 64 * k + j = i := by omega
    simp [h1]
theorem take_get {t : Str} {i : Nat} {b : UInt8} (h : t[i]? = some b) (j : Nat) : (t.take (i + 1))[j]? = if j = i then some b else (t.take i)[j]? := by
  rw [List.getElem?_take, List.getElem?_take]
  by_cases hj : j = i
  · subst hj; simp [h]
  · by_cases h2 : j < i
    · simp [hj, h2, show j < i + 1 by omega]
    · simp [hj, h2, show ¬ j < i + 1 by omega]
theorem car_at_end (t : Str) (i : Nat) : car (t.take i) i = false := by
  unfold car
  rw [List.getElem?_take]
  simp
theorem one_at_end (t : Str) (i : Nat) : one (t.take i) i = false := by
  unfold one
  rw [List.getElem?_take]
  simp
theorem car_put {t : Str} {i : Nat} {b : UInt8} (h : t[i]? = some b) (hd : dig b = true) (j : Nat) : car (t.take (i + 1)) j = (car (t.take i) j || decide (j = i)) := by
  by_cases hj : j = i
  · subst hj
    rw [car_at_end]
    unfold car
    rw [take_get h]
    simp [hd]
  · unfold car
    rw [take_get h]
    simp [hj]
theorem one_put {t : Str} {i : Nat} (h : t[i]? = some 49) (j : Nat) : one (t.take (i + 1)) j = (one (t.take i) j || decide (j = i)) := by
  by_cases hj : j = i
  · subst hj
    rw [one_at_end]
    unfold one
    rw [take_get h]
    simp
  · unfold one
    rw [take_get h]
    simp [hj]
theorem car_same {t : Str} {i : Nat} {b : UInt8} (h : t[i]? = some b) (hd : dig b = false) (k : Nat) : wof (car (t.take (i + 1))) k = wof (car (t.take i)) k := by
  refine wof_ext fun j _ => ?_
  generalize 64 * k + j = m
  by_cases hj : m = i
  · subst hj
    rw [car_at_end]
    unfold car
    rw [take_get h]
    simp [hd]
  · unfold car
    rw [take_get h]
    simp [hj]
theorem one_same {t : Str} {i : Nat} {b : UInt8} (h : t[i]? = some b) (hd : b ≠ 49) (k : Nat) : wof (one (t.take (i + 1))) k = wof (one (t.take i)) k := by
  refine wof_ext fun j _ => ?_
  generalize 64 * k + j = m
  by_cases hj : m = i
  · subst hj
    rw [one_at_end]
    unfold one
    rw [take_get h]
    simp [hd]
  · unfold one
    rw [take_get h]
    simp [hj]
theorem at_word {f : Nat → Bool} {i q r : Nat} (hi : i = 64 * q + r) (hr : r < 64) : ((((wof f q) >>> r) &&& 1#64).toNat : Int) = 1 ↔ f i = true := by
  rw [bit_at, wof_get _ _ _ hr, hi]
theorem split64 (i : Nat) (h : i < 256) : ∃ q r, i = 64 * q + r ∧ r < 64 ∧ (q = 0 ∨ q = 1 ∨ q = 2 ∨ q = 3) := ⟨i / 64, i % 64, by omega, by omega, by omega⟩
end Go.Proofs.YtaiondckookpiaaGreatDoor
namespace Go.Proofs.YtaiondckookpiaaGreatDoor
open Go Go.Vx
theorem meetL_get : ∀ {c d m : Str}, meetL c d = some m → ∀ (i : Nat) a b, c[i]? = some a → d[i]? = some b → ∃ x, m[i]? = some x ∧ meet1 a b = some x
  | [], [], _, _, i, a, b, ha, _ => by simp at ha
  | [], _ :: _, _, h, _, _, _, _, _ => by cases h
  | _ :: _, [], _, h, _, _, _, _, _ => by cases h
  | a0 :: c, b0 :: d, m, h, i, a, b, ha, hb => by
    unfold meetL at h
    cases h1 : meet1 a0 b0 with
    | none => rw [h1] at h; cases h
    | some x => cases h2 : meetL c d with
      | none => rw [h1, h2] at h; cases h
      | some r =>
        rw [h1, h2] at h
        cases h
        cases i with
        | zero => simp at ha hb; subst ha hb; exact ⟨x, rfl, h1⟩
        | succ i => exact meetL_get h2 i a b (by simpa using ha) (by simpa using hb)
theorem meetL_ex : ∀ {c d : Str}, c.length = d.length → (∀ (i : Nat) a b, c[i]? = some a → d[i]? = some b → meet1 a b ≠ none) → ∃ m, meetL c d = some m
  | [], [], _, _ => ⟨[], rfl⟩
  | [], _ :: _, h, _ => by simp at h
  | _ :: _, [], h, _ => by simp at h
  | a :: c, b :: d, h, hh => by
    obtain ⟨m, hm⟩ := meetL_ex (c := c) (d := d) (by simpa using h) fun i a b ha hb => hh (i + 1) a b (by simpa using ha) (by simpa using hb)
    have := hh 0 a b rfl rfl
    cases h1 : meet1 a b with
    | none => exact absurd h1 this
    | some x => exact ⟨x :: m, by unfold meetL; rw [h1, hm]⟩
theorem meetL_ct : ∀ {c d m : Str}, meetL c d = some m → (∀ b ∈ c, b = 48 ∨ b = 49 ∨ b = 120) → (∀ b ∈ d, b = 48 ∨ b = 49 ∨ b = 120) → ∀ b ∈ m, b = 48 ∨ b = 49 ∨ b = 120
  | [], [], m, h, _, _ => by cases h; simp
  | [], _ :: _, _, h, _, _ => by cases h
  | _ :: _, [], _, h, _, _ => by cases h
  | a0 :: c, b0 :: d, m, h, hc, hd => by
    unfold meetL at h
    cases h1 : meet1 a0 b0 with
    | none => rw [h1] at h; cases h
    | some x => cases h2 : meetL c d with
      | none => rw [h1, h2] at h; cases h
      | some r =>
        rw [h1, h2] at h
        cases h
        intro b hb
        rcases List.mem_cons.1 hb with rfl | hb
        · unfold meet1 at h1
          split at h1
          · cases h1; exact hd _ (by simp)
          · split at h1
            · cases h1; exact hc _ (by simp)
            · cases h1
        · exact meetL_ct h2 (fun b hb => hc b (by simp [hb])) (fun b hb => hd b (by simp [hb])) b hb
theorem meetT_ct {c d m : Str} (h : meetT c d = some m) (hc : CT c) (hd : CT d) : CT m ∧ m.length = c.length ∧ c ≠ [] := by
  unfold meetT at h
  split at h
  · cases h
  · rename_i hne
    have hl := meetL_len h
    exact ⟨⟨by rw [← hl.1]; exact hc.len, meetL_ct h hc.cub hd.cub⟩, hl.1.symm, hne⟩
theorem meetT_eq {c d : Str} (h : c ≠ []) : meetT c d = meetL c d := by unfold meetT; rw [if_neg h]
def cfl (c d : Str) (i : Nat) : Bool := (xor (one c i) (one d i) && car c i) && car d i
theorem word_cfl (c d : Str) (k : Nat) : (((wof (one c) k ^^^ wof (one d) k) &&& wof (car c) k) &&& wof (car d) k) = wof (cfl c d) k := by
  refine BitVec.eq_of_getLsbD_eq fun i hi => ?_
  rw [BitVec.getLsbD_and, BitVec.getLsbD_and, BitVec.getLsbD_xor, wof_get _ _ _ hi, wof_get _ _ _ hi, wof_get _ _ _ hi, wof_get _ _ _ hi, wof_get _ _ _ hi]
  rfl
theorem at_b {t : Str} {i : Nat} {b : UInt8} (h : t[i]? = some b) : car t i = dig b ∧ one t i = (b == 49) := by
  unfold car one
  rw [h]
  exact ⟨rfl, rfl⟩
theorem at_out {t : Str} {i : Nat} (h : t.length ≤ i) : car t i = false ∧ one t i = false := by
  unfold car one
  rw [List.getElem?_eq_none h]
  exact ⟨rfl, rfl⟩
theorem meet1_cfl {a b : UInt8} (ha : a = 48 ∨ a = 49 ∨ a = 120) (hb : b = 48 ∨ b = 49 ∨ b = 120) : meet1 a b = none ↔ ((xor (a == 49) (b == 49) && dig a) && dig b) = true := by
  rcases ha with rfl | rfl | rfl <;> rcases hb with rfl | rfl | rfl <;> simp [meet1, dig]
theorem meet1_bits {a b x : UInt8} (ha : a = 48 ∨ a = 49 ∨ a = 120) (hb : b = 48 ∨ b = 49 ∨ b = 120) (h : meet1 a b = some x) : dig x = (dig a || dig b) ∧ (x == 49) = ((a == 49) || (b == 49)) := by
  rcases ha with rfl | rfl | rfl <;> rcases hb with rfl | rfl | rfl <;> simp [meet1] at h <;> subst h <;> simp [dig]
theorem cfl_none {c d : Str} (hc : CT c) (hd : CT d) {i : Nat} (h : cfl c d i = true) : meetT c d = none := by
  unfold meetT
  split
  · rfl
  · cases hm : meetL c d with
    | none => rfl
    | some m =>
      exfalso
      unfold cfl at h
      simp only [Bool.and_eq_true] at h
      have h1 := car_lt h.1.2
      have h2 := car_lt h.2
      have e1 := List.getElem?_eq_getElem h1
      have e2 := List.getElem?_eq_getElem h2
      obtain ⟨x, _, hx⟩ := meetL_get hm i _ _ e1 e2
      have := (meet1_cfl (hc.cub _ (List.getElem_mem h1)) (hd.cub _ (List.getElem_mem h2))).2 (by
        rw [(at_b e1).2, (at_b e2).2, (at_b e1).1, (at_b e2).1] at h
        simp [h.1.1, h.1.2, h.2])
      rw [this] at hx
      cases hx
theorem cfl_some {c d : Str} (hc : CT c) (hd : CT d) (hl : c.length = d.length) (hne : c ≠ []) (h : ∀ i, cfl c d i = false) : ∃ m, meetT c d = some m ∧ (∀ i, car m i = (car c i || car d i)) ∧ ∀ i, one m i = (one c i || one d i) := by
  obtain ⟨m, hm⟩ := meetL_ex hl fun i a b ha hb hn => by
    have h1 := (meet1_cfl (hc.cub _ (List.mem_of_getElem? ha)) (hd.cub _ (List.mem_of_getElem? hb))).1 hn
    have h2 := h i
    unfold cfl at h2
    rw [(at_b ha).2, (at_b hb).2, (at_b ha).1, (at_b hb).1, h1] at h2
    cases h2
  have key : ∀ i, car m i = (car c i || car d i) ∧ one m i = (one c i || one d i) := fun i => by
    have hlm := meetL_len hm
    by_cases hi : i < c.length
    · have e1 := List.getElem?_eq_getElem hi
      have e2 := List.getElem?_eq_getElem (show i < d.length by omega)
      obtain ⟨x, hx, hxx⟩ := meetL_get hm i _ _ e1 e2
      have := meet1_bits (hc.cub _ (List.getElem_mem hi)) (hd.cub _ (List.getElem_mem (show i < d.length by omega))) hxx
      rw [(at_b e1).1, (at_b e2).1, (at_b e1).2, (at_b e2).2, (at_b hx).1, (at_b hx).2]
      exact this
    · have h1 := at_out (t := c) (i := i) (by omega)
      have h2 := at_out (t := d) (i := i) (by omega)
      have h3 := at_out (t := m) (i := i) (by omega)
      rw [h1.1, h1.2, h2.1, h2.2, h3.1, h3.2]
      exact ⟨rfl, rfl⟩
  exact ⟨m, by rw [meetT_eq hne, hm], fun i => (key i).1, fun i => (key i).2⟩
theorem wof_or {f g h : Nat → Bool} (e : ∀ i, h i = (f i || g i)) (k : Nat) : wof h k = wof f k ||| wof g k := by
  refine BitVec.eq_of_getLsbD_eq fun i hi => ?_
  rw [BitVec.getLsbD_or, wof_get _ _ _ hi, wof_get _ _ _ hi, wof_get _ _ _ hi, e]
theorem wof_zero {f : Nat → Bool} {k : Nat} (h : ((wof f k).toNat : Int) = 0) (i : Nat) (hi : i < 64) : f (64 * k + i) = false := by
  rw [← wof_get f k i hi]
  cases hb : (wof f k).getLsbD i
  · rfl
  · exact absurd h (word_nz.2 ⟨i, hi, hb⟩)
theorem wof_nz {f : Nat → Bool} {k : Nat} (h : ¬ ((wof f k).toNat : Int) = 0) : ∃ i, f i = true := by
  obtain ⟨i, hi, hb⟩ := word_nz.1 h
  exact ⟨_, by rw [wof_get _ _ _ hi] at hb; exact hb⟩
theorem no_cfl {c d : Str} (hc : CT c) (h : ∀ k, k < 4 → ((wof (cfl c d) k).toNat : Int) = 0) (i : Nat) : cfl c d i = false := by
  by_cases hi : i < 256
  · obtain ⟨q, r, rfl, hr, hq⟩ := split64 i hi
    exact wof_zero (h q (by omega)) r hr
  · unfold cfl
    have := (at_out (t := c) (i := i) (by have := hc.len; omega)).1
    rw [this]
    simp
theorem inT_meet {c d : Str} : inT c d ↔ meetT c d = some c := by
  unfold inT
  constructor
  · rintro ⟨h1, h2⟩
    rw [meetT_eq h1]
    exact meetL_self.2 h2
  · intro h
    have hne : c ≠ [] := fun e => by rw [e] at h; simp [meetT] at h
    rw [meetT_eq hne] at h
    exact ⟨hne, meetL_self.1 h⟩
def mw (w : Nat) (f g : Nat → Bool) (k : Nat) : BitVec 64 := if k < w then wof f k ||| wof g k else wof f k
@[reducible] def mcells (n w : Nat) (c d : Str) : List D := [.i .i64 (n : Int), .i .u64 ((mw w (car c) (car d) 0).toNat : Int), .i .u64 ((mw w (car c) (car d) 1).toNat : Int), .i .u64 ((mw w (car c) (car d) 2).toNat : Int), .i .u64 ((mw w (car c) (car d) 3).toNat : Int), .i .u64 ((mw w (one c) (one d) 0).toNat : Int), .i .u64 ((mw w (one c) (one d) 1).toNat : Int), .i .u64 ((mw w (one c) (one d) 2).toNat : Int), .i .u64 ((mw w (one c) (one d) 3).toNat : Int)]
theorem mcells_end {c d m : Str} (hl : m.length = c.length) (h1 : ∀ i, car m i = (car c i || car d i)) (h2 : ∀ i, one m i = (one c i || one d i)) : mcells c.length 4 c d = crow m := by
  simp only [mcells, crow, cells9, mw, wof_or h1, wof_or h2, hl]
  rfl
end Go.Proofs.YtaiondckookpiaaGreatDoor
namespace Go.Proofs.YtaiondckookpiaaGreatDoor
open Go Go.Vx
section
variable {α : Type} {R : α → α → Prop}
theorem grG_take {l : List α} {i : Nat} {x : α} (h : l[i]? = some x) : grG R (l.take (i + 1)) = addG R (grG R (l.take i)) x := by
  unfold grG
  rw [List.take_add_one, h]
  simp
theorem addG_in {k : List α} {x : α} (h : ∃ y ∈ k, R x y) : addG R k x = k := by
  unfold addG
  rw [if_pos h]
open Classical in
theorem addG_out {k : List α} {x : α} (h : ∀ y ∈ k, ¬ R x y) : addG R k x = k.filter (fun y => decide (¬ R y x)) ++ [x] := by
  unfold addG
  rw [if_neg fun ⟨y, hy, hxy⟩ => h y hy hxy]
theorem filter_take {p : α → Bool} {k : List α} {j : Nat} {y : α} (h : k[j]? = some y) : (k.take (j + 1)).filter p = (k.take j).filter p ++ (if p y then [y] else []) := by
  rw [List.take_add_one, h, List.filter_append]
  congr 1
  cases hp : p y <;> simp [hp]
structure Kept (R : α → α → Prop) (l : List α) (i : Nat) (W : List α) : Prop where
  le : i ≤ l.length
  tk : W.take (grG R (l.take i)).length = grG R (l.take i)
  n : (grG R (l.take i)).length ≤ W.length
  w : W.length ≤ i
theorem Kept.zero {l : List α} : Kept R l 0 [] := ⟨Nat.zero_le _, by simp [grG], by simp [grG], by simp⟩
theorem Kept.get {l : List α} {i : Nat} {W : List α} (h : Kept R l i W) {j : Nat} (hj : j < (grG R (l.take i)).length) : W[j]? = (grG R (l.take i))[j]? := by
  have := congrArg (fun z : List α => z[j]?) h.tk
  simp only [List.getElem?_take, if_pos hj] at this
  exact this
theorem Kept.skip {l : List α} {i : Nat} {W : List α} (h : Kept R l i W) {x : α} (hx : l[i]? = some x) (hy : ∃ y ∈ grG R (l.take i), R x y) : Kept R l (i + 1) W ∧ grG R (l.take (i + 1)) = grG R (l.take i) := by
  have e : grG R (l.take (i + 1)) = grG R (l.take i) := by rw [grG_take hx, addG_in hy]
  have := (List.getElem?_eq_some_iff.1 hx).1
  exact ⟨⟨by omega, by rw [e]; exact h.tk, by rw [e]; exact h.n, by have := h.w; omega⟩, e⟩
open Classical in
/-- Those of the first j that are not below x. -/
noncomputable def leftOf (R : α → α → Prop) (k : List α) (x : α) (j : Nat) : List α := (k.take j).filter (fun y => decide (¬ R y x))
theorem leftOf_step_keep {k : List α} {x y : α} {j : Nat} (h : k[j]? = some y) (hy : ¬ R y x) : leftOf R k x (j + 1) = leftOf R k x j ++ [y] := by
  unfold leftOf
  rw [filter_take h]
  simp [hy]
theorem leftOf_step_drop {k : List α} {x y : α} {j : Nat} (h : k[j]? = some y) (hy : R y x) : leftOf R k x (j + 1) = leftOf R k x j := by
  unfold leftOf
  rw [filter_take h]
  simp [hy]
theorem leftOf_le (k : List α) (x : α) (j : Nat) : (leftOf R k x j).length ≤ j := by
  unfold leftOf
  refine Nat.le_trans (List.length_filter_le _ _) ?_
  simp
  omega
structure Mid (R : α → α → Prop) (k : List α) (x : α) (W0 : List α) (j : Nat) (W : List α) : Prop where
  le : j ≤ k.length
  len : W.length = W0.length
  tk : W.take (leftOf R k x j).length = leftOf R k x j
  beh : ∀ i, j ≤ i → W[i]? = W0[i]?
theorem Mid.zero {k W0 : List α} {x : α} : Mid R k x W0 0 W0 := ⟨Nat.zero_le _, rfl, by simp [leftOf], fun _ _ => rfl⟩
theorem Mid.drop {k W0 W : List α} {x y : α} {j : Nat} (h : Mid R k x W0 j W) (hy : k[j]? = some y) (hR : R y x) : Mid R k x W0 (j + 1) W ∧ leftOf R k x (j + 1) = leftOf R k x j := by
  have e := leftOf_step_drop hy hR
  have := (List.getElem?_eq_some_iff.1 hy).1
  exact ⟨⟨by omega, h.len, by rw [e]; exact h.tk, fun i hi => h.beh i (by omega)⟩, e⟩
theorem take_set_end {W : List α} {m : Nat} {F : List α} {y : α} (hm : F.length = m) (h : W.take m = F) (hl : m < W.length) : (W.set m y).take (m + 1) = F ++ [y] := by
  rw [List.take_add_one, List.getElem?_set_self hl, List.take_set]
  rw [h, List.set_eq_of_length_le (by omega)]
  rfl
theorem Mid.keep {k W0 W : List α} {x y : α} {j : Nat} (h : Mid R k x W0 j W) (hkw : k.length ≤ W0.length) (hy : k[j]? = some y) (hR : ¬ R y x) :
    Mid R k x W0 (j + 1) (W.set (leftOf R k x j).length y) ∧ leftOf R k x (j + 1) = leftOf R k x j ++ [y] ∧ (leftOf R k x j).length < W.length := by
  have e := leftOf_step_keep hy hR
  have hj := (List.getElem?_eq_some_iff.1 hy).1
  have hle := leftOf_le (R := R) k x j
  have hlt : (leftOf R k x j).length < W.length := by rw [h.len]; omega
  refine ⟨⟨by omega, by simp [h.len], ?_, fun i hi => ?_⟩, e, hlt⟩
  · rw [e, List.length_append]
    exact take_set_end rfl h.tk hlt
  · rw [List.getElem?_set_ne (by omega)]
    exact h.beh i (by omega)
theorem Mid.get {k W0 W : List α} {x : α} {j : Nat} (h : Mid R k x W0 j W) (h0 : W0.take k.length = k) (hj : j < k.length) : W[j]? = k[j]? := by
  rw [h.beh j (Nat.le_refl _)]
  have := congrArg (fun z : List α => z[j]?) h0
  simp only [List.getElem?_take, if_pos hj] at this
  exact this
theorem leftOf_all (k : List α) (x : α) (h : ∀ y ∈ k, ¬ R x y) : leftOf R k x k.length ++ [x] = addG R k x := by
  rw [addG_out h]
  unfold leftOf
  rw [List.take_length]
theorem Kept.step {l : List α} {i : Nat} {W W' : List α} {x : α} (h : Kept R l i W) (hx : l[i]? = some x) (hno : ∀ y ∈ grG R (l.take i), ¬ R x y) (hW : Mid R (grG R (l.take i)) x W (grG R (l.take i)).length W') :
    grG R (l.take (i + 1)) = leftOf R (grG R (l.take i)) x (grG R (l.take i)).length ++ [x] ∧
    ((leftOf R (grG R (l.take i)) x (grG R (l.take i)).length).length < W'.length → Kept R l (i + 1) (W'.set (leftOf R (grG R (l.take i)) x (grG R (l.take i)).length).length x)) ∧
    ((leftOf R (grG R (l.take i)) x (grG R (l.take i)).length).length = W'.length → Kept R l (i + 1) (W' ++ [x])) := by
  have e : grG R (l.take (i + 1)) = leftOf R (grG R (l.take i)) x (grG R (l.take i)).length ++ [x] := by rw [grG_take hx, leftOf_all _ _ hno]
  have hi := (List.getElem?_eq_some_iff.1 hx).1
  have hw := h.w
  have hlw := hW.len
  refine ⟨e, fun hlt => ⟨by omega, ?_, ?_, by simp; omega⟩, fun heq => ⟨by omega, ?_, ?_, by simp; omega⟩⟩
  · rw [e, List.length_append]
    exact take_set_end rfl hW.tk hlt
  · rw [e, List.length_append]
    simp
    omega
  · rw [e, List.length_append]
    have := hW.tk
    rw [heq, List.take_length] at this
    rw [heq, ← this]
    exact List.take_of_length_le (by simp)
  · rw [e, List.length_append]
    simp
    omega
end
end Go.Proofs.YtaiondckookpiaaGreatDoor
namespace Go.Proofs.YtaiondckookpiaaGreatDoor
open Go Go.Vx
theorem metL_app (p : Str) (a b : List Str) : metL p (a ++ b) = metL p a ++ metL p b := by simp [metL]
theorem metL_none {p m : Str} (h : meetT m p = none) : metL p [m] = [] := by simp [metL, h]
theorem metL_some {p m c : Str} (h : meetT m p = some c) : metL p [m] = [c] := by simp [metL, h]
theorem metL_le (p : Str) (a : List Str) : (metL p a).length ≤ a.length := by
  unfold metL
  exact List.length_filterMap_le _ _
theorem perm_map_ex {α β : Type} {f : α → β} : ∀ {ys m : List β}, ys.Perm m → ∀ l : List α, m = l.map f → ∃ zs : List α, zs.Perm l ∧ ys = zs.map f := by
  intro ys m h
  induction h with
  | nil => intro l hl; exact ⟨l, .refl l, hl⟩
  | cons x h ih =>
    intro l hl
    cases l with
    | nil => cases hl
    | cons a l =>
      simp only [List.map_cons, List.cons.injEq] at hl
      obtain ⟨zs, h1, h2⟩ := ih l hl.2
      exact ⟨a :: zs, h1.cons a, by rw [List.map_cons, ← hl.1, h2]⟩
  | swap x y r =>
    intro l hl
    match l, hl with
    | a :: b :: l, hl =>
      simp only [List.map_cons, List.cons.injEq] at hl
      refine ⟨b :: a :: l, .swap a b l, ?_⟩
      rw [List.map_cons, List.map_cons, hl.1, hl.2.1, hl.2.2]
  | trans h1 h2 ih1 ih2 =>
    intro l hl
    obtain ⟨z1, a1, a2⟩ := ih2 l hl
    obtain ⟨z2, b1, b2⟩ := ih1 z1 a2
    exact ⟨z2, b1.trans a1, b2⟩
theorem flat_len {l : List Str} {n : Nat} (h : ∀ x ∈ l, x.length ≤ n) : l.flatten.length ≤ l.length * n := by
  induction l with
  | nil => simp
  | cons x l ih =>
    have := ih fun y hy => h y (by simp [hy])
    have := h x (by simp)
    rw [List.flatten_cons, List.length_append, List.length_cons, Nat.add_mul]
    omega
theorem take_snoc {α : Type} {l : List α} {i : Nat} {x : α} (h : l[i]? = some x) : l.take (i + 1) = l.take i ++ [x] := by
  rw [List.take_add_one, h]; rfl
theorem over_set {α : Type} {ks W : List α} {i : Nat} {x : α} (h : ks[i]? = some x) (hl : ks.length ≤ W.length) : (ks.take i ++ W.drop i).set i x = ks.take (i + 1) ++ W.drop (i + 1) := by
  have hi := (List.getElem?_eq_some_iff.1 h).1
  rw [List.set_append, if_neg (by simp; omega), take_snoc h, List.append_assoc]
  congr 1
  rw [show i - (ks.take i).length = 0 by simp; omega]
  rw [List.drop_eq_getElem_cons (show i < W.length by omega)]
  rfl
theorem over_at {α : Type} {ks W : List α} {i : Nat} (hi : i < ks.length) (hl : ks.length ≤ W.length) : ∃ y, (ks.take i ++ W.drop i)[i]? = some y := by
  refine ⟨W[i]'(by omega), ?_⟩
  rw [List.getElem?_append_right (by simp; omega)]
  simp
  rw [show i - min i ks.length = 0 by omega, Nat.add_zero]
  exact List.getElem?_eq_getElem _
theorem room_at2 {α : Type} {ks : List α} {i n : Nat} (z : α) (hn : ks.length = n) (hi : i < n) : (ks.take i ++ List.replicate (n - i) z)[i]? = some z := by
  rw [List.getElem?_append_right (by simp; omega)]
  simp [List.getElem?_replicate]
  omega
theorem room_set2 {α : Type} {ks : List α} {i n : Nat} {z x : α} (hn : ks.length = n) (h : ks[i]? = some x) : (ks.take i ++ List.replicate (n - i) z).set i x = ks.take (i + 1) ++ List.replicate (n - (i + 1)) z := by
  have hi := (List.getElem?_eq_some_iff.1 h).1
  rw [List.set_append, if_neg (by simp; omega), take_snoc h, List.append_assoc]
  congr 1
  rw [show i - (ks.take i).length = 0 by simp; omega, show n - i = (n - (i + 1)) + 1 by omega, List.replicate_succ]
  rfl
theorem set_set_same {α : Type} (l : List α) (i : Nat) (x y : α) : (l.set i x).set i y = l.set i y := by simp
end Go.Proofs.YtaiondckookpiaaGreatDoor
namespace Go.Proofs.YtaiondckookpiaaGreatDoor
open Go Go.Vx
theorem inL_iff : ∀ {c d : Str}, inL c d ↔ c.length = d.length ∧ ∀ (i : Nat) a b, c[i]? = some a → d[i]? = some b → b = 120 ∨ b = a
  | [], [] => by simp [inL]
  | [], _ :: _ => by simp [inL]
  | _ :: _, [] => by simp [inL]
  | a :: c, b :: d => by
    simp only [inL, inL_iff (c := c) (d := d), List.length_cons, Nat.add_right_cancel_iff]
    constructor
    · rintro ⟨h1, h2, h3⟩
      refine ⟨h2, fun i x y hx hy => ?_⟩
      cases i with
      | zero => simp at hx hy; subst hx hy; exact h1
      | succ i => exact h3 i x y (by simpa using hx) (by simpa using hy)
    · rintro ⟨h2, h3⟩
      exact ⟨h3 0 a b rfl rfl, h2, fun i x y hx hy => h3 (i + 1) x y (by simpa using hx) (by simpa using hy)⟩
open Classical in
noncomputable def nb {α : Type} (R : α → α → Prop) (c : α) (l : List α) : List α := l.filter fun x => decide (¬ R x c)
structure PutSt {α : Type} (R L : α → α → Prop) (k : List α) (c : α) (i : Nat) (m : List α) (done : Prop) : Prop where
  yes : done → m = insG L c (nb R c (k.take i)) ∧ ∃ x ∈ nb R c (k.take i), L c x
  no : ¬ done → m = nb R c (k.take i) ∧ ∀ x ∈ nb R c (k.take i), ¬ L c x
open Classical in
theorem insG_at {α : Type} {L : α → α → Prop} {c x : α} {l : List α} (h : ∀ y ∈ l, ¬ L c y) (hx : L c x) : insG L c (l ++ [x]) = l ++ [c, x] := by
  induction l with
  | nil => simp [insG, hx]
  | cons y l ih =>
    show insG L c (y :: (l ++ [x])) = _
    unfold insG
    rw [if_neg (h y (by simp)), ih fun z hz => h z (by simp [hz])]
    rfl
section
variable {α : Type} {R L : α → α → Prop} {k : List α} {c : α} {i : Nat} {m : List α} {done : Prop}
open Classical in
theorem nb_in {x : α} (h : k[i]? = some x) (hR : R x c) : nb R c (k.take (i + 1)) = nb R c (k.take i) := by
  unfold nb
  rw [take_snoc h, List.filter_append]
  simp [hR]
open Classical in
theorem nb_out {x : α} (h : k[i]? = some x) (hR : ¬ R x c) : nb R c (k.take (i + 1)) = nb R c (k.take i) ++ [x] := by
  unfold nb
  rw [take_snoc h, List.filter_append]
  simp [hR]
theorem PutSt.zero : PutSt R L k c 0 [] False := ⟨fun h => h.elim, fun _ => ⟨by simp [nb], by simp [nb]⟩⟩
theorem PutSt.skip {x : α} (h : PutSt R L k c i m done) (hx : k[i]? = some x) (hR : R x c) : PutSt R L k c (i + 1) m done := by
  have e := nb_in hx hR
  exact ⟨fun hd => by rw [e]; exact h.yes hd, fun hd => by rw [e]; exact h.no hd⟩
theorem PutSt.new {x : α} (h : PutSt R L k c i m done) (hx : k[i]? = some x) (hR : ¬ R x c) (hn : ¬ done) (hl : L c x) : PutSt R L k c (i + 1) (m ++ [c] ++ [x]) True := by
  have e := nb_out hx hR
  obtain ⟨h1, h2⟩ := h.no hn
  refine ⟨fun _ => ?_, fun h => absurd trivial h⟩
  rw [e, insG_at h2 hl, h1]
  exact ⟨by simp, x, by simp, hl⟩
end
end Go.Proofs.YtaiondckookpiaaGreatDoor
namespace Go.Proofs.YtaiondckookpiaaGreatDoor
open Go Go.Vx
theorem set_perm {α : Type} : ∀ {l : List α} {j : Nat} {x y : α}, l[j]? = some y → (y :: l.set j x).Perm (x :: l)
  | [], _, _, _, h => by simp at h
  | a :: l, 0, x, y, h => by simp at h; subst h; exact .swap x a l
  | a :: l, j + 1, x, y, h => by
    have ih := set_perm (l := l) (j := j) (x := x) (y := y) (by simpa using h)
    exact (List.Perm.swap a y _).trans ((ih.cons a).trans (.swap x a l))
theorem swapdel {α : Type} {l : List α} {j : Nat} {y z : α} (hy : l[j]? = some y) (hz : l[l.length - 1]? = some z) : (y :: (l.set j z).take (l.length - 1)).Perm l := by
  have hj := (List.getElem?_eq_some_iff.1 hy).1
  have hsplit : l = l.take (l.length - 1) ++ [z] := by
    have := take_snoc hz
    rw [show l.length - 1 + 1 = l.length by omega, List.take_length] at this
    exact this
  generalize hI : l.take (l.length - 1) = I at hsplit
  have hIl : I.length = l.length - 1 := by rw [← hI]; simp
  by_cases hjl : j = l.length - 1
  · subst hjl
    rw [hy] at hz
    cases hz
    have : (l.set (l.length - 1) y).take (l.length - 1) = I := by rw [List.take_set, hI, List.set_eq_of_length_le (by omega)]
    rw [this]
    conv => rhs; rw [hsplit]
    exact (List.perm_append_singleton y I).symm
  · have h1 : (l.set j z).take (l.length - 1) = I.set j z := by rw [List.take_set, hI]
    rw [h1]
    have h2 : I[j]? = some y := by
      rw [← hI, List.getElem?_take, if_pos (by omega)]
      exact hy
    refine (set_perm h2).trans ?_
    conv => rhs; rw [hsplit]
    exact (List.perm_append_singleton z I).symm
section
variable {α : Type} {f : α → Term}
structure Sel (f : α → Term) (K S W : List α) (m : Nat) : Prop where
  le : m ≤ W.length
  perm : (S ++ W.take m).Perm K
  sort : S.Pairwise fun a b => aheadT (f a) (f b)
  low : ∀ s ∈ S, ∀ y ∈ W.take m, aheadT (f s) (f y)
theorem Sel.zero {K : List α} : Sel f K [] K K.length := ⟨Nat.le_refl _, by simp, by simp, by simp⟩
theorem Sel.step {K S W : List α} {m j : Nat} {y z : α} (h : Sel f K S W m) (hnd : K.Pairwise fun a b => f a ≠ f b) (hy : W[j]? = some y) (hj : j < m) (hz : W[m - 1]? = some z) (hmin : ∀ i, i < m → ∀ x, W[i]? = some x → ¬ aheadT (f x) (f y)) :
    Sel f K (S ++ [y]) (W.set j z) (m - 1) := by
  have hle := h.le
  generalize hl : W.take m = l at *
  have hll : l.length = m := by rw [← hl]; simp; omega
  have hly : l[j]? = some y := by rw [← hl, List.getElem?_take, if_pos hj]; exact hy
  have hlz : l[l.length - 1]? = some z := by rw [hll, ← hl, List.getElem?_take, if_pos (by omega)]; exact hz
  have hp := swapdel hly hlz
  have e : (W.set j z).take (m - 1) = (l.set j z).take (l.length - 1) := by
    rw [hll, ← hl, ← List.take_set, List.take_take, Nat.min_eq_left (by omega)]
  have hperm := h.perm
  rw [hl] at hperm
  have hndl : (y :: (l.set j z).take (l.length - 1)).Pairwise fun a b => f a ≠ f b := by
    have h1 : (S ++ l).Pairwise fun a b => f a ≠ f b := (hperm.pairwise_iff fun {a b} hab => Ne.symm hab).2 hnd
    exact (hp.pairwise_iff fun {a b} hab => Ne.symm hab).2 (List.pairwise_append.1 h1).2.1
  have hlow := h.low
  rw [hl] at hlow
  have hyl : y ∈ l := List.mem_of_getElem? hly
  refine ⟨by simp; omega, ?_, ?_, ?_⟩
  · rw [e, List.append_assoc]
    exact (hp.append_left S).trans hperm
  · rw [List.pairwise_append]
    refine ⟨h.sort, by simp, fun a ha b hb => ?_⟩
    simp at hb
    subst hb
    exact hlow a ha b hyl
  · rw [e]
    intro s hs x hx
    have hxl : x ∈ l := hp.mem_iff.1 (List.mem_cons_of_mem _ hx)
    rcases List.mem_append.1 hs with hs | hs
    · exact hlow s hs x hxl
    · simp at hs
      subst hs
      have hne := (List.pairwise_cons.1 hndl).1 x hx
      obtain ⟨i, hi, hix⟩ := List.getElem_of_mem hxl
      have h2 : W[i]? = some x := by
        have : l[i]? = some x := by rw [List.getElem?_eq_getElem hi, hix]
        rw [← hl, List.getElem?_take, if_pos (by omega)] at this
        exact this
      rcases ahead_total hne with k | k
      · exact k
      · exact absurd k (hmin i (by omega) x h2)
end
end Go.Proofs.YtaiondckookpiaaGreatDoor
namespace Go.Proofs.YtaiondckookpiaaGreatDoor
open Go Go.Vx
def tTail (l : List Str) : Str := (l.map fun m => (45 : UInt8) :: m).flatten
def ttxt (t : Term) : Str := t.p ++ tTail t.less
def sepT (l : List Term) : Str := ((l.map fun t => (43 : UInt8) :: ttxt t).flatten).drop 1
open Classical in
noncomputable def textS (l : List Term) : Str := if l = [] then [110, 111, 110, 101] else sepT l
def preT (l : List Term) (i : Nat) : Str := if i = 0 then [] else sepT (l.take i) ++ [43]
theorem tTail_snoc {l : List Str} {j : Nat} {m : Str} (h : l[j]? = some m) : tTail (l.take (j + 1)) = tTail (l.take j) ++ [45] ++ m := by
  unfold tTail
  rw [take_snoc h]
  simp
theorem sepT_step {l : List Term} {i : Nat} {t : Term} (h : l[i]? = some t) : sepT (l.take (i + 1)) = preT l i ++ ttxt t := by
  have hi := (List.getElem?_eq_some_iff.1 h).1
  unfold preT
  split
  · rename_i h0
    subst h0
    rw [take_snoc h]
    simp [sepT]
  · rename_i h0
    rw [take_snoc h]
    unfold sepT
    rw [List.map_append, List.flatten_append, List.drop_append_of_le_length]
    · simp
    · cases l with
      | nil => simp at h
      | cons a r =>
        cases i with
        | zero => exact absurd rfl h0
        | succ i => simp
theorem sepT_nil : sepT [] = [] := rfl
def szS (l : List Term) : Nat := (l.map fun t => 1 + t.less.length).sum
theorem tTail_len {l : List Str} (h : ∀ m ∈ l, m.length ≤ 256) : (tTail l).length ≤ 257 * l.length := by
  induction l with
  | nil => simp [tTail]
  | cons m l ih =>
    have h1 := ih fun x hx => h x (by simp [hx])
    have h2 := h m (by simp)
    unfold tTail at h1 ⊢
    rw [List.map_cons, List.flatten_cons, List.length_append, List.length_cons, List.length_cons]
    omega
theorem ttxt_len {t : Term} (hp : t.p.length ≤ 256) (h : ∀ m ∈ t.less, m.length ≤ 256) : (ttxt t).length ≤ 257 * (1 + t.less.length) - 1 := by
  have := tTail_len h
  unfold ttxt
  rw [List.length_append]
  omega
theorem sepT_len {l : List Term} (h : ∀ t ∈ l, t.p.length ≤ 256 ∧ ∀ m ∈ t.less, m.length ≤ 256) : (sepT l).length ≤ 257 * szS l := by
  have key : ((l.map fun t => (43 : UInt8) :: ttxt t).flatten).length ≤ 257 * szS l := by
    induction l with
    | nil => simp
    | cons t l ih =>
      have h1 := ih fun x hx => h x (by simp [hx])
      have h2 := ttxt_len (h t (by simp)).1 (h t (by simp)).2
      simp only [szS, List.map_cons, List.flatten_cons, List.length_append, List.length_cons, List.sum_cons] at h1 ⊢
      rw [Nat.mul_add]
      omega
  unfold sepT
  rw [List.length_drop]
  omega
theorem szS_take (l : List Term) (i : Nat) : szS (l.take i) ≤ szS l := by
  unfold szS
  conv => rhs; rw [← List.take_append_drop i l]
  rw [List.map_append, List.sum_append]
  omega
theorem szS_mem {l : List Term} {t : Term} (h : t ∈ l) : 1 + t.less.length ≤ szS l := by
  unfold szS
  induction l with
  | nil => simp at h
  | cons a l ih =>
    simp only [List.map_cons, List.sum_cons]
    rcases List.mem_cons.1 h with rfl | h
    · omega
    · have := ih h; omega
theorem szS_len (l : List Term) : l.length ≤ szS l := by
  unfold szS
  induction l with
  | nil => simp
  | cons a l ih => simp only [List.map_cons, List.sum_cons, List.length_cons]; omega
theorem key_at {n : Nat} {p : Str} : ∀ {less : List Str} {j : Nat} {m : Str}, p.length = n → (∀ x ∈ less, x.length = n) → less[j]? = some m → ((p ++ less.flatten).take (n * (j + 1) + n)).drop (n * (j + 1)) = m
  | [], j, m, _, _, h => by simp at h
  | x :: less, 0, m, hp, hl, h => by
    simp at h
    subst h
    have hx := hl x (by simp)
    rw [List.flatten_cons, ← List.append_assoc, show n * (0 + 1) + n = (p ++ x).length by simp [hp, hx]]
    rw [List.take_left', show n * (0 + 1) = p.length by simp [hp]]
    · exact List.drop_left' rfl
    · rfl
  | x :: less, j + 1, m, hp, hl, h => by
    have hx := hl x (by simp)
    have ih := key_at (p := x) (less := less) (j := j) (m := m) hx (fun y hy => hl y (by simp [hy])) (by simpa using h)
    rw [List.flatten_cons]
    have e1 : n * (j + 1 + 1) = p.length + n * (j + 1) := by rw [hp, Nat.mul_add n (j + 1) 1]; omega
    rw [e1, Nat.add_assoc, List.take_append]
    rw [List.take_of_length_le (by omega), show p.length + (n * (j + 1) + n) - p.length = n * (j + 1) + n by omega, List.drop_append, List.drop_of_length_le (by omega), List.nil_append,
      show p.length + n * (j + 1) - p.length = n * (j + 1) by omega]
    exact ih
theorem key_head {n : Nat} {p : Str} {less : List Str} (hp : p.length = n) : (p ++ less.flatten).take n = p := List.take_left' hp
theorem key_len {n : Nat} {p : Str} {less : List Str} (hp : p.length = n) (h : ∀ x ∈ less, x.length = n) : (p ++ less.flatten).length = n * (less.length + 1) := by
  rw [List.length_append, hp, Nat.mul_add, Nat.mul_one, Nat.add_comm]
  congr 1
  induction less with
  | nil => simp
  | cons x l ih =>
    have := ih fun y hy => h y (by simp [hy])
    rw [List.flatten_cons, List.length_append, h x (by simp), this, List.length_cons, Nat.mul_add]
    omega
end Go.Proofs.YtaiondckookpiaaGreatDoor
namespace Go.Proofs.YtaiondckookpiaaGreatDoor
open Go Go.Vx
def okC (t : Str) : Prop := CT t ∧ t ≠ []
open Classical in
noncomputable def zer (t : Str) : Str := if okC t then t else []
open Classical in
noncomputable def perr (t : Str) : Int := if 256 < t.length then 2 else if okC t then 0 else 10
theorem zer_of {t : Str} (h : okC t) : zer t = t := by unfold zer; rw [if_pos h]
theorem zer_not {t : Str} (h : ¬ okC t) : zer t = [] := by unfold zer; rw [if_neg h]
theorem eqCube : EqT Tryz.prog 46 [.i .i64, .i .u64, .i .u64, .i .u64, .i .u64, .i .u64, .i .u64, .i .u64, .i .u64] := EqT.of_b tok (ti := _) rfl rfl (by kernel_rfl)
@[simp] theorem wof_car_nil (k : Nat) : wof (car []) k = 0#64 := BitVec.eq_of_getLsbD_eq fun i hi => by rw [wof_get _ _ _ hi]; simp [car]
@[simp] theorem wof_one_nil (k : Nat) : wof (one []) k = 0#64 := BitVec.eq_of_getLsbD_eq fun i hi => by rw [wof_get _ _ _ hi]; simp [one]
def cubOk (t : Str) : Prop := ∀ b ∈ t, b = 48 ∨ b = 49 ∨ b = 120
theorem cubOk_step {t : Str} {i : Nat} {b : UInt8} (h : cubOk (t.take i)) (hb : t[i]? = some b) (hd : b = 48 ∨ b = 49 ∨ b = 120) : cubOk (t.take (i + 1)) := by
  intro x hx
  rw [List.take_add_one, hb] at hx
  rcases List.mem_append.1 hx with hx | hx
  · exact h x hx
  · simp at hx; rw [hx]; exact hd
theorem u8_ne {b c : UInt8} (h : b ≠ c) : ¬ ((b.toNat : Nat) : Int) = ((c.toNat : Nat) : Int) := fun e => h (UInt8.toNat_inj.1 (by omega))
set_option maxHeartbeats 4000000 in
theorem parse_at (t : Str) : FSpec Tryz.prog T 45 [.s t] (fun d rows => d = .tup [.agg (crow (zer t)), .i .i64 (perr t)] ∧ rows = []) := by
  refine FSpec.of_ok tok Tryz.func45 rfl Tryz.call45 (by simp) ?_
  (try (conv => whnf)); repeat' (first | ((with_reducible_and_instances (first | refine nShr (by assumption) ?_ | refine nShl1' rfl (by assumption) ?_ | refine nAnd ?_ | refine nOr ?_ | refine nXor ?_ | refine nAndNot ?_ | refine nAnd1' rfl ?_)); conv => whnf) | refine Ok.seq ?_ | refine OkL.cons ?_ | ((first | refine Ok.region tok ?_ | refine Ok.region_draw tok follows (by kernel_rfl) ?_ | refine Ok.cond ?_); conv => whnf) | refine Ok.block ?_ | ((first | refine Ok.skip ?_ | refine Ok.exit ?_ | refine Ok.ret ?_ | refine nI ?_ | refine ix _ (by assumption) ?_ | refine ixI (by omega) (by assumption) ?_ | refine ix_new _ (by omega) fun _ _ => ?_ | refine ixI_new (by omega) (by omega) fun _ _ => ?_ | refine ⟨_, by assumption, ?_⟩ | refine Alt2.l (aI ?_) | refine Alt2.r (aI ?_)); conv => whnf) | (refine Ok.scope ?_) | ((first | refine Ok.label ?_ | refine rd rfl (by assumption) ?_ | refine ⟨_, .inl ⟨rfl, rfl⟩, ?_⟩ | refine ⟨_, _, rfl, rfl, ?_⟩); conv => whnf) | (refine ⟨fun _ => ?_, fun _ => ?_⟩ <;> (conv => whnf) <;> (try (exfalso; omega))) | ((first | refine aJ ?_ | refine num_any ?_ | refine ⟨_, rfl, ?_⟩); conv => whnf) | fail)
  · rename_i h
    refine Or.inl ?_; (conv => whnf)
    refine ⟨?_, rfl⟩
    rw [zer_not (fun h2 => by have := h2.1.len; omega), crow_nil]
    unfold perr
    rw [if_pos (by omega)]
    rfl
  · rename_i h0 h
    refine Or.inl ?_; (conv => whnf)
    refine ⟨?_, rfl⟩
    rw [zer_not (fun h2 => h2.2 h), crow_nil]
    unfold perr
    rw [if_neg (by omega), if_neg (fun h2 => h2.2 h)]
    rfl
  · rename_i h0 h1
    have hlen : t.length ≤ 256 := by omega
    have hne : t ≠ [] := h1
    refine Ok.loopU [0, 2, 4, 17] [18] 0 2 (fun (i : Nat) => [.i .i64 (i : Nat)]) (fun (i : Nat) (_ : List (List D)) => [[.i .i64 0, .i .u64 0, .i .u64 0, .i .u64 0, .i .u64 0, .i .u64 0, .i .u64 0, .i .u64 0, .i .u64 0], cells9 t.length (car (t.take i)) (one (t.take i))]) (fun _ r => r) (fun (i : Nat) => i ≤ t.length ∧ cubOk (t.take i)) (fun (i : Nat) => t.length - i) (0) (⟨Nat.zero_le _, by simp [cubOk]⟩) ?_; (conv => whnf); refine ⟨by ((conv => whnf); first | rfl | (simp [envCat, List.take_of_length_le, cells9]; done) | (simp [envCat, List.take_of_length_le, cells9]; rw [IntKind.wrap_i64]; omega)), ?_⟩
    rintro i ⟨hi, hok⟩
    (conv => whnf)
    by_cases hit : i < t.length
    · obtain ⟨b, hb⟩ : ∃ b, t[i]? = some b := ⟨_, List.getElem?_eq_getElem hit⟩
      have hbI : t[((i : Nat) : Int).toNat]? = some b := hb
      obtain ⟨q, r, hqr, hr, hq⟩ := split64 i (by omega)
      have hrem := rem64 hqr hr
      have hquo := quo64 hqr hr (by omega)
      have hrr : ((r : Nat) : Int) = ((r : Nat) : Int) ∧ r < 64 := ⟨rfl, hr⟩
      by_cases h49 : b = 49
      · subst h49
        have hn : (((49 : UInt8).toNat : Nat) : Int) = 49 := rfl
        rcases hq with rfl | rfl | rfl | rfl
        all_goals
          (try (conv => whnf)); repeat' (first | ((with_reducible_and_instances (first | refine nShr (by assumption) ?_ | refine nShl1' rfl (by assumption) ?_ | refine nAnd ?_ | refine nOr ?_ | refine nXor ?_ | refine nAndNot ?_ | refine nAnd1' rfl ?_)); conv => whnf) | refine Ok.seq ?_ | refine OkL.cons ?_ | ((first | refine Ok.region tok ?_ | refine ⟨_, (hquo.symm).symm, ?_⟩ | refine ⟨_, (hrem.symm).symm, ?_⟩ | refine Ok.region_draw tok follows (by kernel_rfl) ?_ | refine Ok.cond ?_); conv => whnf) | refine Ok.block ?_ | ((first | refine Ok.skip ?_ | refine Ok.exit ?_ | refine Ok.ret ?_ | refine nI ?_ | refine ix _ (by assumption) ?_ | refine ixI (by omega) (by assumption) ?_ | refine ix_new _ (by omega) fun _ _ => ?_ | refine ixI_new (by omega) (by omega) fun _ _ => ?_ | refine ⟨_, by assumption, ?_⟩ | refine Alt2.l (aI ?_) | refine Alt2.r (aI ?_)); conv => whnf) | (refine Ok.scope ?_) | ((first | refine Ok.label ?_ | refine rd rfl (by assumption) ?_ | refine ⟨_, .inl ⟨rfl, rfl⟩, ?_⟩ | refine ⟨_, _, rfl, rfl, ?_⟩); conv => whnf) | (refine ⟨fun _ => ?_, fun _ => ?_⟩ <;> (conv => whnf) <;> (try (exfalso; omega))) | ((first | refine aJ ?_ | refine num_any ?_ | refine ⟨_, rfl, ?_⟩); conv => whnf) | fail)
          refine Or.inr (Or.inr (Or.inl ?_)); (conv => whnf); refine ⟨_, _, Tryz.func101, rfl, Tryz.call101, ?_⟩; (conv => whnf)
          (try (conv => whnf)); repeat' (first | ((with_reducible_and_instances (first | refine nShr (by assumption) ?_ | refine nShl1' rfl (by assumption) ?_ | refine nAnd ?_ | refine nOr ?_ | refine nXor ?_ | refine nAndNot ?_ | refine nAnd1' rfl ?_)); conv => whnf) | refine Ok.seq ?_ | refine OkL.cons ?_ | ((first | refine Ok.region tok ?_ | refine Ok.region_plan (id := 0) tok follows [(5, 12, [])] [.q 0, .q 1, .q 2, .q 3, .q 4, .q 5, .q 6, .q 7, .q 8, .q 9, .q 10, .q 11, .l 12] (by kernel_rfl) ?_ | refine ⟨_, (hquo.symm).symm, ?_⟩ | refine ⟨_, (hrem.symm).symm, ?_⟩ | refine Ok.region_draw tok follows (by kernel_rfl) ?_ | refine Ok.cond ?_); conv => whnf) | refine Ok.block ?_ | ((first | refine Ok.skip ?_ | refine Ok.exit ?_ | refine Ok.ret ?_ | refine nI ?_ | refine ix _ (by assumption) ?_ | refine ixI (by omega) (by assumption) ?_ | refine ix_new _ (by omega) fun _ _ => ?_ | refine ixI_new (by omega) (by omega) fun _ _ => ?_ | refine ⟨_, by assumption, ?_⟩ | refine Alt2.l (aI ?_) | refine Alt2.r (aI ?_)); conv => whnf) | (refine Ok.scope ?_) | ((first | refine Ok.label ?_ | refine rd rfl (by assumption) ?_ | refine ⟨_, .inl ⟨rfl, rfl⟩, ?_⟩ | refine ⟨_, _, rfl, rfl, ?_⟩); conv => whnf) | (refine ⟨fun _ => ?_, fun _ => ?_⟩ <;> (conv => whnf) <;> (try (exfalso; omega))) | ((first | refine aJ ?_ | refine num_any ?_ | refine ⟨_, rfl, ?_⟩); conv => whnf) | fail)
          refine Or.inr (Or.inr (Or.inl ?_)); (conv => whnf); refine ⟨_, _, Tryz.func101, rfl, Tryz.call101, ?_⟩; (conv => whnf)
          (try (conv => whnf)); repeat' (first | ((with_reducible_and_instances (first | refine nShr (by assumption) ?_ | refine nShl1' rfl (by assumption) ?_ | refine nAnd ?_ | refine nOr ?_ | refine nXor ?_ | refine nAndNot ?_ | refine nAnd1' rfl ?_)); conv => whnf) | refine Ok.seq ?_ | refine OkL.cons ?_ | ((first | refine Ok.region tok ?_ | refine Ok.region_plan (id := 0) tok follows [(5, 12, [])] [.q 0, .q 1, .q 2, .q 3, .q 4, .q 5, .q 6, .q 7, .q 8, .q 9, .q 10, .q 11, .l 12] (by kernel_rfl) ?_ | refine ⟨_, (hquo.symm).symm, ?_⟩ | refine ⟨_, (hrem.symm).symm, ?_⟩ | refine Ok.region_draw tok follows (by kernel_rfl) ?_ | refine Ok.cond ?_); conv => whnf) | refine Ok.block ?_ | ((first | refine Ok.skip ?_ | refine Ok.exit ?_ | refine Ok.ret ?_ | refine nI ?_ | refine ix _ (by assumption) ?_ | refine ixI (by omega) (by assumption) ?_ | refine ix_new _ (by omega) fun _ _ => ?_ | refine ixI_new (by omega) (by omega) fun _ _ => ?_ | refine ⟨_, by assumption, ?_⟩ | refine Alt2.l (aI ?_) | refine Alt2.r (aI ?_)); conv => whnf) | (refine Ok.scope ?_) | ((first | refine Ok.label ?_ | refine rd rfl (by assumption) ?_ | refine ⟨_, .inl ⟨rfl, rfl⟩, ?_⟩ | refine ⟨_, _, rfl, rfl, ?_⟩); conv => whnf) | (refine ⟨fun _ => ?_, fun _ => ?_⟩ <;> (conv => whnf) <;> (try (exfalso; omega))) | ((first | refine aJ ?_ | refine num_any ?_ | refine ⟨_, rfl, ?_⟩); conv => whnf) | fail)
          refine ⟨i + 1, by omega, ⟨by omega, cubOk_step hok hb (by simp)⟩, ?_⟩
          have c0 := (put_word (f := car (t.take i)) (g := car (t.take (i + 1))) hqr hr (car_put hb rfl) 0).trans (by first | exact if_pos rfl | exact if_neg (by decide))
          have c1 := (put_word (f := car (t.take i)) (g := car (t.take (i + 1))) hqr hr (car_put hb rfl) 1).trans (by first | exact if_pos rfl | exact if_neg (by decide))
          have c2 := (put_word (f := car (t.take i)) (g := car (t.take (i + 1))) hqr hr (car_put hb rfl) 2).trans (by first | exact if_pos rfl | exact if_neg (by decide))
          have c3 := (put_word (f := car (t.take i)) (g := car (t.take (i + 1))) hqr hr (car_put hb rfl) 3).trans (by first | exact if_pos rfl | exact if_neg (by decide))
          have o0 := (put_word (f := one (t.take i)) (g := one (t.take (i + 1))) hqr hr (one_put hb) 0).trans (by first | exact if_pos rfl | exact if_neg (by decide))
          have o1 := (put_word (f := one (t.take i)) (g := one (t.take (i + 1))) hqr hr (one_put hb) 1).trans (by first | exact if_pos rfl | exact if_neg (by decide))
          have o2 := (put_word (f := one (t.take i)) (g := one (t.take (i + 1))) hqr hr (one_put hb) 2).trans (by first | exact if_pos rfl | exact if_neg (by decide))
          have o3 := (put_word (f := one (t.take i)) (g := one (t.take (i + 1))) hqr hr (one_put hb) 3).trans (by first | exact if_pos rfl | exact if_neg (by decide))
          (conv => whnf)
          simp only [envCat, cells9, c0, c1, c2, c3, o0, o1, o2, o3]
          rfl
      by_cases h48 : b = 48
      · subst h48
        have hn : (((48 : UInt8).toNat : Nat) : Int) = 48 := rfl
        rcases hq with rfl | rfl | rfl | rfl
        all_goals
          (try (conv => whnf)); repeat' (first | ((with_reducible_and_instances (first | refine nShr (by assumption) ?_ | refine nShl1' rfl (by assumption) ?_ | refine nAnd ?_ | refine nOr ?_ | refine nXor ?_ | refine nAndNot ?_ | refine nAnd1' rfl ?_)); conv => whnf) | refine Ok.seq ?_ | refine OkL.cons ?_ | ((first | refine Ok.region tok ?_ | refine ⟨_, (hquo.symm).symm, ?_⟩ | refine ⟨_, (hrem.symm).symm, ?_⟩ | refine Ok.region_draw tok follows (by kernel_rfl) ?_ | refine Ok.cond ?_); conv => whnf) | refine Ok.block ?_ | ((first | refine Ok.skip ?_ | refine Ok.exit ?_ | refine Ok.ret ?_ | refine nI ?_ | refine ix _ (by assumption) ?_ | refine ixI (by omega) (by assumption) ?_ | refine ix_new _ (by omega) fun _ _ => ?_ | refine ixI_new (by omega) (by omega) fun _ _ => ?_ | refine ⟨_, by assumption, ?_⟩ | refine Alt2.l (aI ?_) | refine Alt2.r (aI ?_)); conv => whnf) | (refine Ok.scope ?_) | ((first | refine Ok.label ?_ | refine rd rfl (by assumption) ?_ | refine ⟨_, .inl ⟨rfl, rfl⟩, ?_⟩ | refine ⟨_, _, rfl, rfl, ?_⟩); conv => whnf) | (refine ⟨fun _ => ?_, fun _ => ?_⟩ <;> (conv => whnf) <;> (try (exfalso; omega))) | ((first | refine aJ ?_ | refine num_any ?_ | refine ⟨_, rfl, ?_⟩); conv => whnf) | fail)
          refine Or.inr (Or.inr (Or.inl ?_)); (conv => whnf); refine ⟨_, _, Tryz.func101, rfl, Tryz.call101, ?_⟩; (conv => whnf)
          (try (conv => whnf)); repeat' (first | ((with_reducible_and_instances (first | refine nShr (by assumption) ?_ | refine nShl1' rfl (by assumption) ?_ | refine nAnd ?_ | refine nOr ?_ | refine nXor ?_ | refine nAndNot ?_ | refine nAnd1' rfl ?_)); conv => whnf) | refine Ok.seq ?_ | refine OkL.cons ?_ | ((first | refine Ok.region tok ?_ | refine Ok.region_plan (id := 0) tok follows [(5, 12, [])] [.q 0, .q 1, .q 2, .q 3, .q 4, .q 5, .q 6, .q 7, .q 8, .q 9, .q 10, .q 11, .l 12] (by kernel_rfl) ?_ | refine ⟨_, (hquo.symm).symm, ?_⟩ | refine ⟨_, (hrem.symm).symm, ?_⟩ | refine Ok.region_draw tok follows (by kernel_rfl) ?_ | refine Ok.cond ?_); conv => whnf) | refine Ok.block ?_ | ((first | refine Ok.skip ?_ | refine Ok.exit ?_ | refine Ok.ret ?_ | refine nI ?_ | refine ix _ (by assumption) ?_ | refine ixI (by omega) (by assumption) ?_ | refine ix_new _ (by omega) fun _ _ => ?_ | refine ixI_new (by omega) (by omega) fun _ _ => ?_ | refine ⟨_, by assumption, ?_⟩ | refine Alt2.l (aI ?_) | refine Alt2.r (aI ?_)); conv => whnf) | (refine Ok.scope ?_) | ((first | refine Ok.label ?_ | refine rd rfl (by assumption) ?_ | refine ⟨_, .inl ⟨rfl, rfl⟩, ?_⟩ | refine ⟨_, _, rfl, rfl, ?_⟩); conv => whnf) | (refine ⟨fun _ => ?_, fun _ => ?_⟩ <;> (conv => whnf) <;> (try (exfalso; omega))) | ((first | refine aJ ?_ | refine num_any ?_ | refine ⟨_, rfl, ?_⟩); conv => whnf) | fail)
          refine ⟨i + 1, by omega, ⟨by omega, cubOk_step hok hb (by simp)⟩, ?_⟩
          have c0 := (put_word (f := car (t.take i)) (g := car (t.take (i + 1))) hqr hr (car_put hb rfl) 0).trans (by first | exact if_pos rfl | exact if_neg (by decide))
          have c1 := (put_word (f := car (t.take i)) (g := car (t.take (i + 1))) hqr hr (car_put hb rfl) 1).trans (by first | exact if_pos rfl | exact if_neg (by decide))
          have c2 := (put_word (f := car (t.take i)) (g := car (t.take (i + 1))) hqr hr (car_put hb rfl) 2).trans (by first | exact if_pos rfl | exact if_neg (by decide))
          have c3 := (put_word (f := car (t.take i)) (g := car (t.take (i + 1))) hqr hr (car_put hb rfl) 3).trans (by first | exact if_pos rfl | exact if_neg (by decide))
          have o0 := one_same hb (by decide) 0
          have o1 := one_same hb (by decide) 1
          have o2 := one_same hb (by decide) 2
          have o3 := one_same hb (by decide) 3
          (conv => whnf)
          simp only [envCat, cells9, c0, c1, c2, c3, o0, o1, o2, o3]
          rfl
      have hn49 := u8_ne h49
      have hn48 := u8_ne h48
      have e49 : (((49 : UInt8).toNat : Nat) : Int) = 49 := rfl
      have e48 : (((48 : UInt8).toNat : Nat) : Int) = 48 := rfl
      rw [e49] at hn49
      rw [e48] at hn48
      by_cases h120 : b = 120
      · subst h120
        have hn : (((120 : UInt8).toNat : Nat) : Int) = 120 := rfl
        (try (conv => whnf)); repeat' (first | ((with_reducible_and_instances (first | refine nShr (by assumption) ?_ | refine nShl1' rfl (by assumption) ?_ | refine nAnd ?_ | refine nOr ?_ | refine nXor ?_ | refine nAndNot ?_ | refine nAnd1' rfl ?_)); conv => whnf) | refine Ok.seq ?_ | refine OkL.cons ?_ | ((first | refine Ok.region tok ?_ | refine Ok.region_draw tok follows (by kernel_rfl) ?_ | refine Ok.cond ?_); conv => whnf) | refine Ok.block ?_ | ((first | refine Ok.skip ?_ | refine Ok.exit ?_ | refine Ok.ret ?_ | refine nI ?_ | refine ix _ (by assumption) ?_ | refine ixI (by omega) (by assumption) ?_ | refine ix_new _ (by omega) fun _ _ => ?_ | refine ixI_new (by omega) (by omega) fun _ _ => ?_ | refine ⟨_, by assumption, ?_⟩ | refine Alt2.l (aI ?_) | refine Alt2.r (aI ?_)); conv => whnf) | (refine Ok.scope ?_) | ((first | refine Ok.label ?_ | refine rd rfl (by assumption) ?_ | refine ⟨_, .inl ⟨rfl, rfl⟩, ?_⟩ | refine ⟨_, _, rfl, rfl, ?_⟩); conv => whnf) | (refine ⟨fun _ => ?_, fun _ => ?_⟩ <;> (conv => whnf) <;> (try (exfalso; omega))) | ((first | refine aJ ?_ | refine num_any ?_ | refine ⟨_, rfl, ?_⟩); conv => whnf) | fail)
        refine ⟨i + 1, by omega, ⟨by omega, cubOk_step hok hb (by simp)⟩, ?_⟩
        have c0 := car_same hb rfl 0
        have c1 := car_same hb rfl 1
        have c2 := car_same hb rfl 2
        have c3 := car_same hb rfl 3
        have o0 := one_same hb (by decide) 0
        have o1 := one_same hb (by decide) 1
        have o2 := one_same hb (by decide) 2
        have o3 := one_same hb (by decide) 3
        (conv => whnf)
        simp only [envCat, cells9, c0, c1, c2, c3, o0, o1, o2, o3]
        rfl
      · have hn120 := u8_ne h120
        have e120 : (((120 : UInt8).toNat : Nat) : Int) = 120 := rfl
        rw [e120] at hn120
        (try (conv => whnf)); repeat' (first | ((with_reducible_and_instances (first | refine nShr (by assumption) ?_ | refine nShl1' rfl (by assumption) ?_ | refine nAnd ?_ | refine nOr ?_ | refine nXor ?_ | refine nAndNot ?_ | refine nAnd1' rfl ?_)); conv => whnf) | refine Ok.seq ?_ | refine OkL.cons ?_ | ((first | refine Ok.region tok ?_ | refine Ok.region_draw tok follows (by kernel_rfl) ?_ | refine Ok.cond ?_); conv => whnf) | refine Ok.block ?_ | ((first | refine Ok.skip ?_ | refine Ok.exit ?_ | refine Ok.ret ?_ | refine nI ?_ | refine ix _ (by assumption) ?_ | refine ixI (by omega) (by assumption) ?_ | refine ix_new _ (by omega) fun _ _ => ?_ | refine ixI_new (by omega) (by omega) fun _ _ => ?_ | refine ⟨_, by assumption, ?_⟩ | refine Alt2.l (aI ?_) | refine Alt2.r (aI ?_)); conv => whnf) | (refine Ok.scope ?_) | ((first | refine Ok.label ?_ | refine rd rfl (by assumption) ?_ | refine ⟨_, .inl ⟨rfl, rfl⟩, ?_⟩ | refine ⟨_, _, rfl, rfl, ?_⟩); conv => whnf) | (refine ⟨fun _ => ?_, fun _ => ?_⟩ <;> (conv => whnf) <;> (try (exfalso; omega))) | ((first | refine aJ ?_ | refine num_any ?_ | refine ⟨_, rfl, ?_⟩); conv => whnf) | fail)
        refine Or.inl ?_; (conv => whnf)
        refine ⟨?_, rfl⟩
        have hno : ¬ okC t := fun h2 => by
          rcases h2.1.cub b (List.mem_of_getElem? hb) with e | e | e
          · exact h48 e
          · exact h49 e
          · exact h120 e
        rw [zer_not hno, crow_nil]
        unfold perr
        rw [if_neg (by omega), if_neg hno]
        rfl
    · have he : i = t.length := by omega
      subst he
      rw [List.take_length] at *
      (try (conv => whnf)); repeat' (first | ((with_reducible_and_instances (first | refine nShr (by assumption) ?_ | refine nShl1' rfl (by assumption) ?_ | refine nAnd ?_ | refine nOr ?_ | refine nXor ?_ | refine nAndNot ?_ | refine nAnd1' rfl ?_)); conv => whnf) | refine Ok.seq ?_ | refine OkL.cons ?_ | ((first | refine Ok.region tok ?_ | refine Ok.region_draw tok follows (by kernel_rfl) ?_ | refine Ok.cond ?_); conv => whnf) | refine Ok.block ?_ | ((first | refine Ok.skip ?_ | refine Ok.exit ?_ | refine Ok.ret ?_ | refine nI ?_ | refine ix _ (by assumption) ?_ | refine ixI (by omega) (by assumption) ?_ | refine ix_new _ (by omega) fun _ _ => ?_ | refine ixI_new (by omega) (by omega) fun _ _ => ?_ | refine ⟨_, by assumption, ?_⟩ | refine Alt2.l (aI ?_) | refine Alt2.r (aI ?_)); conv => whnf) | (refine Ok.scope ?_) | ((first | refine Ok.label ?_ | refine rd rfl (by assumption) ?_ | refine ⟨_, .inl ⟨rfl, rfl⟩, ?_⟩ | refine ⟨_, _, rfl, rfl, ?_⟩); conv => whnf) | (refine ⟨fun _ => ?_, fun _ => ?_⟩ <;> (conv => whnf) <;> (try (exfalso; omega))) | ((first | refine aJ ?_ | refine num_any ?_ | refine ⟨_, rfl, ?_⟩); conv => whnf) | fail)
      refine Or.inl ?_; (conv => whnf)
      refine ⟨?_, rfl⟩
      have hyes : okC t := ⟨⟨hlen, hok⟩, hne⟩
      rw [zer_of hyes]
      unfold perr
      rw [if_neg (by omega), if_pos hyes]
      rfl
end Go.Proofs.YtaiondckookpiaaGreatDoor
namespace Go.Proofs.YtaiondckookpiaaGreatDoor
open Go Go.Vx
theorem fits_at (c d : Str) : FSpec Tryz.prog T 119 [.agg (crow c), .agg (crow d)] (fun r _ => r = .b (c.length = d.length ∧ 0 < c.length)) := by
  refine FSpec.of_ok tok Tryz.func119 rfl Tryz.call119 (by simp) ?_
  (try (conv => whnf)); repeat' (first | ((with_reducible_and_instances (first | refine nShr (by assumption) ?_ | refine nShl1' rfl (by assumption) ?_ | refine nAnd ?_ | refine nOr ?_ | refine nXor ?_ | refine nAndNot ?_ | refine nAnd1' rfl ?_)); conv => whnf) | refine Ok.seq ?_ | refine OkL.cons ?_ | ((first | refine Ok.region tok ?_ | refine Ok.region_draw tok follows (by kernel_rfl) ?_ | refine Ok.cond ?_); conv => whnf) | refine Ok.block ?_ | ((first | refine Ok.skip ?_ | refine Ok.exit ?_ | refine Ok.ret ?_ | refine nI ?_ | refine ix _ (by assumption) ?_ | refine ixI (by omega) (by assumption) ?_ | refine ix_new _ (by omega) fun _ _ => ?_ | refine ixI_new (by omega) (by omega) fun _ _ => ?_ | refine ⟨_, by assumption, ?_⟩ | refine Alt2.l (aI ?_) | refine Alt2.r (aI ?_)); conv => whnf) | (refine Ok.scope ?_) | ((first | refine Ok.label ?_ | refine rd rfl (by assumption) ?_ | refine ⟨_, .inl ⟨rfl, rfl⟩, ?_⟩ | refine ⟨_, _, rfl, rfl, ?_⟩); conv => whnf) | (refine ⟨fun _ => ?_, fun _ => ?_⟩ <;> (conv => whnf) <;> (try (exfalso; omega))) | ((first | refine aJ ?_ | refine num_any ?_ | refine ⟨_, rfl, ?_⟩); conv => whnf) | fail)
  all_goals
    refine Or.inl ?_; (conv => whnf)
    simp [oneD]
    omega
theorem mt_none {c d : Str} (h : meetT c d = none) : (D.tup [.agg [.i .i64 0, .i .u64 0, .i .u64 0, .i .u64 0, .i .u64 0, .i .u64 0, .i .u64 0, .i .u64 0, .i .u64 0], .b False]) = .tup [.agg (crow ((meetT c d).getD [])), .b ((meetT c d).isSome = true)] := by
  rw [h]
  simp [crow_nil]
set_option maxHeartbeats 4000000 in
theorem meet_at (c d : Str) (hc : CT c) (hd : CT d) : FSpec Tryz.prog T 71 [.agg (crow c), .agg (crow d)] (fun r rows => r = .tup [.agg (crow ((meetT c d).getD [])), .b ((meetT c d).isSome = true)] ∧ rows = []) := by
  refine FSpec.of_ok tok Tryz.func71 rfl Tryz.call71 (by simp) ?_
  (try (conv => whnf)); repeat' (first | ((with_reducible_and_instances (first | refine nShr (by assumption) ?_ | refine nShl1' rfl (by assumption) ?_ | refine nAnd ?_ | refine nOr ?_ | refine nXor ?_ | refine nAndNot ?_ | refine nAnd1' rfl ?_)); conv => whnf) | refine Ok.seq ?_ | refine OkL.cons ?_ | ((first | refine Ok.region tok ?_ | refine Ok.region_plan (id := 8) tok follows [(3, 11, []), (7, 11, [])] [.q 0, .q 1, .q 2, .q 3, .q 4, .q 5, .q 6, .q 7, .q 8, .q 9, .q 10, .l 11] (by kernel_rfl) ?_ | refine Ok.region_plan (id := 9) tok follows [(3, 11, []), (7, 11, [])] [.q 0, .q 1, .q 2, .q 3, .q 4, .q 5, .q 6, .q 7, .q 8, .q 9, .q 10, .l 11] (by kernel_rfl) ?_ | refine Ok.region_draw tok follows (by kernel_rfl) ?_ | refine Ok.cond ?_); conv => whnf) | refine Ok.block ?_ | ((first | refine Ok.skip ?_ | refine Ok.exit ?_ | refine Ok.ret ?_ | refine nI ?_ | refine ix _ (by assumption) ?_ | refine ixI (by omega) (by assumption) ?_ | refine ix_new _ (by omega) fun _ _ => ?_ | refine ixI_new (by omega) (by omega) fun _ _ => ?_ | refine ⟨_, by assumption, ?_⟩); conv => whnf) | (refine Or.inl ?_; (conv => whnf); (repeat (refine aI ?_; conv => whnf)); refine ⟨_, fits_at c d, rfl, ?_⟩; conv => whnf) | (refine ⟨_, fits_at c d, rfl, ?_⟩; conv => whnf) | (refine Or.inr (Or.inl ?_); (conv => whnf); (repeat (refine aI ?_; conv => whnf)); refine ⟨_, fits_at c d, ?_⟩; rintro _ _ ⟨rfl, rfl⟩; conv => whnf) | ((first | refine Alt2.l (aI ?_) | refine Alt2.r (aI ?_)); conv => whnf) | (refine Ok.scope ?_) | ((first | refine Ok.label ?_ | refine rd rfl (by assumption) ?_ | refine ⟨_, .inl ⟨rfl, rfl⟩, ?_⟩ | refine ⟨_, _, rfl, rfl, ?_⟩); conv => whnf) | (refine ⟨fun _ => ?_, fun _ => ?_⟩ <;> (conv => whnf) <;> (try (exfalso; omega))) | ((first | refine aJ ?_ | refine num_any ?_ | refine ⟨_, rfl, ?_⟩); conv => whnf) | fail)
  · rename_i h
    refine Or.inl ?_; (conv => whnf)
    refine ⟨mt_none ?_, rfl⟩
    unfold meetT
    split
    · rfl
    · rename_i hne
      cases hm : meetL c d with
      | none => rfl
      | some m => exact absurd ⟨by have := meetL_len hm; omega, List.length_pos_iff.2 hne⟩ h
  · rename_i h
    have hfit : c.length = d.length ∧ 0 < c.length := Classical.not_not.1 h
    have hne : c ≠ [] := List.length_pos_iff.1 hfit.2
    refine Ok.loopU [2, 3, 4] [12] 0 3 (fun (w : Nat) => [.i .i64 (w : Nat)]) (fun (w : Nat) (_ : List (List D)) => [mcells c.length w c d, crow d, [.i .i64 0, .i .u64 0, .i .u64 0, .i .u64 0, .i .u64 0, .i .u64 0, .i .u64 0, .i .u64 0, .i .u64 0]]) (fun _ r => r) (fun (w : Nat) => w ≤ 4 ∧ ∀ k, k < w → ((wof (cfl c d) k).toNat : Int) = 0) (fun (w : Nat) => 4 - w) (0) (⟨by omega, fun k hk => absurd hk (by omega)⟩) ?_; (conv => whnf); refine ⟨by ((conv => whnf); first | rfl | (simp [envCat, List.take_of_length_le, cells9, mcells]; done) | (simp [envCat, List.take_of_length_le, cells9, mcells]; rw [IntKind.wrap_i64]; omega)), ?_⟩
    rintro w ⟨hw, hz⟩
    (conv => whnf)
    by_cases hw4 : w = 4
    · subst hw4
      obtain ⟨m, hm, m1, m2⟩ := cfl_some hc hd hfit.1 hne (no_cfl hc hz)
      have hml := (meetT_ct hm hc hd).2.1
      (try (conv => whnf)); repeat' (first | ((with_reducible_and_instances (first | refine nShr (by assumption) ?_ | refine nShl1' rfl (by assumption) ?_ | refine nAnd ?_ | refine nOr ?_ | refine nXor ?_ | refine nAndNot ?_ | refine nAnd1' rfl ?_)); conv => whnf) | refine Ok.seq ?_ | refine OkL.cons ?_ | ((first | refine Ok.region tok ?_ | refine Ok.region_plan (id := 8) tok follows [(3, 11, []), (7, 11, [])] [.q 0, .q 1, .q 2, .q 3, .q 4, .q 5, .q 6, .q 7, .q 8, .q 9, .q 10, .l 11] (by kernel_rfl) ?_ | refine Ok.region_plan (id := 9) tok follows [(3, 11, []), (7, 11, [])] [.q 0, .q 1, .q 2, .q 3, .q 4, .q 5, .q 6, .q 7, .q 8, .q 9, .q 10, .l 11] (by kernel_rfl) ?_ | refine Ok.region_draw tok follows (by kernel_rfl) ?_ | refine Ok.cond ?_); conv => whnf) | refine Ok.block ?_ | ((first | refine Ok.skip ?_ | refine Ok.exit ?_ | refine Ok.ret ?_ | refine nI ?_ | refine ix _ (by assumption) ?_ | refine ixI (by omega) (by assumption) ?_ | refine ix_new _ (by omega) fun _ _ => ?_ | refine ixI_new (by omega) (by omega) fun _ _ => ?_ | refine ⟨_, by assumption, ?_⟩ | refine Alt2.l (aI ?_) | refine Alt2.r (aI ?_)); conv => whnf) | (refine Ok.scope ?_) | ((first | refine Ok.label ?_ | refine rd rfl (by assumption) ?_ | refine ⟨_, .inl ⟨rfl, rfl⟩, ?_⟩ | refine ⟨_, _, rfl, rfl, ?_⟩); conv => whnf) | (refine ⟨fun _ => ?_, fun _ => ?_⟩ <;> (conv => whnf) <;> (try (exfalso; omega))) | ((first | refine aJ ?_ | refine num_any ?_ | refine ⟨_, rfl, ?_⟩); conv => whnf) | fail)
      refine Or.inl ?_; (conv => whnf)
      refine ⟨?_, rfl⟩
      have hme := mcells_end hml m1 m2
      rw [hm]
      show D.tup [.agg (mcells c.length 4 c d), .b True] = _
      rw [hme]
      simp
    · rcases (by omega : w = 0 ∨ w = 1 ∨ w = 2 ∨ w = 3) with rfl | rfl | rfl | rfl
      · (try (conv => whnf)); repeat' (first | ((with_reducible_and_instances (first | refine nShr (by assumption) ?_ | refine nShl1' rfl (by assumption) ?_ | refine nAnd ?_ | refine nOr ?_ | refine nXor ?_ | refine nAndNot ?_ | refine nAnd1' rfl ?_)); conv => whnf) | refine Ok.seq ?_ | refine OkL.cons ?_ | ((first | refine Ok.region tok ?_ | refine Ok.region_plan (id := 8) tok follows [(3, 11, []), (7, 11, [])] [.q 0, .q 1, .q 2, .q 3, .q 4, .q 5, .q 6, .q 7, .q 8, .q 9, .q 10, .l 11] (by kernel_rfl) ?_ | refine Ok.region_plan (id := 9) tok follows [(3, 11, []), (7, 11, [])] [.q 0, .q 1, .q 2, .q 3, .q 4, .q 5, .q 6, .q 7, .q 8, .q 9, .q 10, .l 11] (by kernel_rfl) ?_ | refine Ok.region_draw tok follows (by kernel_rfl) ?_ | refine Ok.cond ?_); conv => whnf) | refine Ok.block ?_ | ((first | refine Ok.skip ?_ | refine Ok.exit ?_ | refine Ok.ret ?_ | refine nI ?_ | refine ix _ (by assumption) ?_ | refine ixI (by omega) (by assumption) ?_ | refine ix_new _ (by omega) fun _ _ => ?_ | refine ixI_new (by omega) (by omega) fun _ _ => ?_ | refine ⟨_, by assumption, ?_⟩ | refine Alt2.l (aI ?_) | refine Alt2.r (aI ?_)); conv => whnf) | (refine Ok.scope ?_) | ((first | refine Ok.label ?_ | refine rd rfl (by assumption) ?_ | refine ⟨_, .inl ⟨rfl, rfl⟩, ?_⟩ | refine ⟨_, _, rfl, rfl, ?_⟩); conv => whnf) | (refine ⟨fun _ => ?_, fun _ => ?_⟩ <;> (conv => whnf) <;> (try (exfalso; omega))) | ((first | refine aJ ?_ | refine num_any ?_ | refine ⟨_, rfl, ?_⟩); conv => whnf) | fail)
        · rename_i hx
          refine Or.inl ?_; (conv => whnf)
          have hx2 : ¬ ((wof (cfl c d) 0).toNat : Int) = 0 := by
            rw [← word_cfl]
            exact hx
          obtain ⟨i, hi⟩ := wof_nz hx2
          exact ⟨mt_none (cfl_none hc hd hi), rfl⟩
        · rename_i hx
          have hx2 : ((wof (cfl c d) 0).toNat : Int) = 0 := by
            rw [← word_cfl]
            exact Classical.not_not.1 hx
          refine ⟨1, by omega, ⟨by omega, fun k hk => ?_⟩, ?_⟩
          · by_cases hk2 : k = 0
            · rw [hk2]; exact hx2
            · exact hz k (by omega)
          · (conv => whnf)
            rfl
      · (try (conv => whnf)); repeat' (first | ((with_reducible_and_instances (first | refine nShr (by assumption) ?_ | refine nShl1' rfl (by assumption) ?_ | refine nAnd ?_ | refine nOr ?_ | refine nXor ?_ | refine nAndNot ?_ | refine nAnd1' rfl ?_)); conv => whnf) | refine Ok.seq ?_ | refine OkL.cons ?_ | ((first | refine Ok.region tok ?_ | refine Ok.region_plan (id := 8) tok follows [(3, 11, []), (7, 11, [])] [.q 0, .q 1, .q 2, .q 3, .q 4, .q 5, .q 6, .q 7, .q 8, .q 9, .q 10, .l 11] (by kernel_rfl) ?_ | refine Ok.region_plan (id := 9) tok follows [(3, 11, []), (7, 11, [])] [.q 0, .q 1, .q 2, .q 3, .q 4, .q 5, .q 6, .q 7, .q 8, .q 9, .q 10, .l 11] (by kernel_rfl) ?_ | refine Ok.region_draw tok follows (by kernel_rfl) ?_ | refine Ok.cond ?_); conv => whnf) | refine Ok.block ?_ | ((first | refine Ok.skip ?_ | refine Ok.exit ?_ | refine Ok.ret ?_ | refine nI ?_ | refine ix _ (by assumption) ?_ | refine ixI (by omega) (by assumption) ?_ | refine ix_new _ (by omega) fun _ _ => ?_ | refine ixI_new (by omega) (by omega) fun _ _ => ?_ | refine ⟨_, by assumption, ?_⟩ | refine Alt2.l (aI ?_) | refine Alt2.r (aI ?_)); conv => whnf) | (refine Ok.scope ?_) | ((first | refine Ok.label ?_ | refine rd rfl (by assumption) ?_ | refine ⟨_, .inl ⟨rfl, rfl⟩, ?_⟩ | refine ⟨_, _, rfl, rfl, ?_⟩); conv => whnf) | (refine ⟨fun _ => ?_, fun _ => ?_⟩ <;> (conv => whnf) <;> (try (exfalso; omega))) | ((first | refine aJ ?_ | refine num_any ?_ | refine ⟨_, rfl, ?_⟩); conv => whnf) | fail)
        · rename_i hx
          refine Or.inl ?_; (conv => whnf)
          have hx2 : ¬ ((wof (cfl c d) 1).toNat : Int) = 0 := by
            rw [← word_cfl]
            exact hx
          obtain ⟨i, hi⟩ := wof_nz hx2
          exact ⟨mt_none (cfl_none hc hd hi), rfl⟩
        · rename_i hx
          have hx2 : ((wof (cfl c d) 1).toNat : Int) = 0 := by
            rw [← word_cfl]
            exact Classical.not_not.1 hx
          refine ⟨2, by omega, ⟨by omega, fun k hk => ?_⟩, ?_⟩
          · by_cases hk2 : k = 1
            · rw [hk2]; exact hx2
            · exact hz k (by omega)
          · (conv => whnf)
            rfl
      · (try (conv => whnf)); repeat' (first | ((with_reducible_and_instances (first | refine nShr (by assumption) ?_ | refine nShl1' rfl (by assumption) ?_ | refine nAnd ?_ | refine nOr ?_ | refine nXor ?_ | refine nAndNot ?_ | refine nAnd1' rfl ?_)); conv => whnf) | refine Ok.seq ?_ | refine OkL.cons ?_ | ((first | refine Ok.region tok ?_ | refine Ok.region_plan (id := 8) tok follows [(3, 11, []), (7, 11, [])] [.q 0, .q 1, .q 2, .q 3, .q 4, .q 5, .q 6, .q 7, .q 8, .q 9, .q 10, .l 11] (by kernel_rfl) ?_ | refine Ok.region_plan (id := 9) tok follows [(3, 11, []), (7, 11, [])] [.q 0, .q 1, .q 2, .q 3, .q 4, .q 5, .q 6, .q 7, .q 8, .q 9, .q 10, .l 11] (by kernel_rfl) ?_ | refine Ok.region_draw tok follows (by kernel_rfl) ?_ | refine Ok.cond ?_); conv => whnf) | refine Ok.block ?_ | ((first | refine Ok.skip ?_ | refine Ok.exit ?_ | refine Ok.ret ?_ | refine nI ?_ | refine ix _ (by assumption) ?_ | refine ixI (by omega) (by assumption) ?_ | refine ix_new _ (by omega) fun _ _ => ?_ | refine ixI_new (by omega) (by omega) fun _ _ => ?_ | refine ⟨_, by assumption, ?_⟩ | refine Alt2.l (aI ?_) | refine Alt2.r (aI ?_)); conv => whnf) | (refine Ok.scope ?_) | ((first | refine Ok.label ?_ | refine rd rfl (by assumption) ?_ | refine ⟨_, .inl ⟨rfl, rfl⟩, ?_⟩ | refine ⟨_, _, rfl, rfl, ?_⟩); conv => whnf) | (refine ⟨fun _ => ?_, fun _ => ?_⟩ <;> (conv => whnf) <;> (try (exfalso; omega))) | ((first | refine aJ ?_ | refine num_any ?_ | refine ⟨_, rfl, ?_⟩); conv => whnf) | fail)
        · rename_i hx
          refine Or.inl ?_; (conv => whnf)
          have hx2 : ¬ ((wof (cfl c d) 2).toNat : Int) = 0 := by
            rw [← word_cfl]
            exact hx
          obtain ⟨i, hi⟩ := wof_nz hx2
          exact ⟨mt_none (cfl_none hc hd hi), rfl⟩
        · rename_i hx
          have hx2 : ((wof (cfl c d) 2).toNat : Int) = 0 := by
            rw [← word_cfl]
            exact Classical.not_not.1 hx
          refine ⟨3, by omega, ⟨by omega, fun k hk => ?_⟩, ?_⟩
          · by_cases hk2 : k = 2
            · rw [hk2]; exact hx2
            · exact hz k (by omega)
          · (conv => whnf)
            rfl
      · (try (conv => whnf)); repeat' (first | ((with_reducible_and_instances (first | refine nShr (by assumption) ?_ | refine nShl1' rfl (by assumption) ?_ | refine nAnd ?_ | refine nOr ?_ | refine nXor ?_ | refine nAndNot ?_ | refine nAnd1' rfl ?_)); conv => whnf) | refine Ok.seq ?_ | refine OkL.cons ?_ | ((first | refine Ok.region tok ?_ | refine Ok.region_plan (id := 8) tok follows [(3, 11, []), (7, 11, [])] [.q 0, .q 1, .q 2, .q 3, .q 4, .q 5, .q 6, .q 7, .q 8, .q 9, .q 10, .l 11] (by kernel_rfl) ?_ | refine Ok.region_plan (id := 9) tok follows [(3, 11, []), (7, 11, [])] [.q 0, .q 1, .q 2, .q 3, .q 4, .q 5, .q 6, .q 7, .q 8, .q 9, .q 10, .l 11] (by kernel_rfl) ?_ | refine Ok.region_draw tok follows (by kernel_rfl) ?_ | refine Ok.cond ?_); conv => whnf) | refine Ok.block ?_ | ((first | refine Ok.skip ?_ | refine Ok.exit ?_ | refine Ok.ret ?_ | refine nI ?_ | refine ix _ (by assumption) ?_ | refine ixI (by omega) (by assumption) ?_ | refine ix_new _ (by omega) fun _ _ => ?_ | refine ixI_new (by omega) (by omega) fun _ _ => ?_ | refine ⟨_, by assumption, ?_⟩ | refine Alt2.l (aI ?_) | refine Alt2.r (aI ?_)); conv => whnf) | (refine Ok.scope ?_) | ((first | refine Ok.label ?_ | refine rd rfl (by assumption) ?_ | refine ⟨_, .inl ⟨rfl, rfl⟩, ?_⟩ | refine ⟨_, _, rfl, rfl, ?_⟩); conv => whnf) | (refine ⟨fun _ => ?_, fun _ => ?_⟩ <;> (conv => whnf) <;> (try (exfalso; omega))) | ((first | refine aJ ?_ | refine num_any ?_ | refine ⟨_, rfl, ?_⟩); conv => whnf) | fail)
        · rename_i hx
          refine Or.inl ?_; (conv => whnf)
          have hx2 : ¬ ((wof (cfl c d) 3).toNat : Int) = 0 := by
            rw [← word_cfl]
            exact hx
          obtain ⟨i, hi⟩ := wof_nz hx2
          exact ⟨mt_none (cfl_none hc hd hi), rfl⟩
        · rename_i hx
          have hx2 : ((wof (cfl c d) 3).toNat : Int) = 0 := by
            rw [← word_cfl]
            exact Classical.not_not.1 hx
          refine ⟨4, by omega, ⟨by omega, fun k hk => ?_⟩, ?_⟩
          · by_cases hk2 : k = 3
            · rw [hk2]; exact hx2
            · exact hz k (by omega)
          · (conv => whnf)
            rfl
set_option maxRecDepth 100000 in
theorem within_at (c d : Str) (hc : CT c) (hd : CT d) : FSpec Tryz.prog T 133 [.agg (crow c), .agg (crow d)] (fun r _ => r = .b (inT c d)) := by
  refine FSpec.of_ok tok Tryz.func133 rfl Tryz.call133 (by simp) ?_
  (try (conv => whnf)); repeat' (first | ((with_reducible_and_instances (first | refine nShr (by assumption) ?_ | refine nShl1' rfl (by assumption) ?_ | refine nAnd ?_ | refine nOr ?_ | refine nXor ?_ | refine nAndNot ?_ | refine nAnd1' rfl ?_)); conv => whnf) | refine Ok.seq ?_ | refine OkL.cons ?_ | ((first | refine Ok.region tok ?_ | refine Ok.region_draw tok follows (by kernel_rfl) ?_ | refine Ok.cond ?_); conv => whnf) | refine Ok.block ?_ | ((first | refine Ok.skip ?_ | refine Ok.exit ?_ | refine Ok.ret ?_ | refine nI ?_ | refine ix _ (by assumption) ?_ | refine ixI (by omega) (by assumption) ?_ | refine ix_new _ (by omega) fun _ _ => ?_ | refine ixI_new (by omega) (by omega) fun _ _ => ?_ | refine ⟨_, by assumption, ?_⟩); conv => whnf) | (refine Or.inl ?_; (conv => whnf); (repeat (refine aI ?_; conv => whnf)); refine ⟨_, meet_at c d hc hd, rfl, ?_⟩; conv => whnf) | (refine ⟨_, meet_at c d hc hd, rfl, ?_⟩; conv => whnf) | (refine Or.inr (Or.inl ?_); (conv => whnf); (repeat (refine aI ?_; conv => whnf)); refine ⟨_, meet_at c d hc hd, ?_⟩; rintro _ _ ⟨rfl, rfl⟩; conv => whnf) | ((first | refine Alt2.l (aI ?_) | refine Alt2.r (aI ?_)); conv => whnf) | (refine Ok.scope ?_) | ((first | refine Ok.label ?_ | refine rd rfl (by assumption) ?_ | refine ⟨_, .inl ⟨rfl, rfl⟩, ?_⟩ | refine ⟨_, _, rfl, rfl, ?_⟩); conv => whnf) | (refine ⟨fun _ => ?_, fun _ => ?_⟩ <;> (conv => whnf) <;> (try (exfalso; omega))) | ((first | refine aJ ?_ | refine num_any ?_ | refine ⟨_, rfl, ?_⟩); conv => whnf) | fail)
  · rename_i h
    refine ⟨_, eqCube, by kernel_rfl, ?_⟩
    (conv => whnf)
    (try (conv => whnf)); repeat' (first | ((with_reducible_and_instances (first | refine nShr (by assumption) ?_ | refine nShl1' rfl (by assumption) ?_ | refine nAnd ?_ | refine nOr ?_ | refine nXor ?_ | refine nAndNot ?_ | refine nAnd1' rfl ?_)); conv => whnf) | refine Ok.seq ?_ | refine OkL.cons ?_ | ((first | refine Ok.region tok ?_ | refine Ok.region_draw tok follows (by kernel_rfl) ?_ | refine Ok.cond ?_); conv => whnf) | refine Ok.block ?_ | ((first | refine Ok.skip ?_ | refine Ok.exit ?_ | refine Ok.ret ?_ | refine nI ?_ | refine ix _ (by assumption) ?_ | refine ixI (by omega) (by assumption) ?_ | refine ix_new _ (by omega) fun _ _ => ?_ | refine ixI_new (by omega) (by omega) fun _ _ => ?_ | refine ⟨_, by assumption, ?_⟩ | refine Alt2.l (aI ?_) | refine Alt2.r (aI ?_)); conv => whnf) | (refine Ok.scope ?_) | ((first | refine Ok.label ?_ | refine rd rfl (by assumption) ?_ | refine ⟨_, .inl ⟨rfl, rfl⟩, ?_⟩ | refine ⟨_, _, rfl, rfl, ?_⟩); conv => whnf) | (refine ⟨fun _ => ?_, fun _ => ?_⟩ <;> (conv => whnf) <;> (try (exfalso; omega))) | ((first | refine aJ ?_ | refine num_any ?_ | refine ⟨_, rfl, ?_⟩); conv => whnf) | fail)
    refine Or.inl ?_; (conv => whnf)
    obtain ⟨m, hm⟩ := Option.isSome_iff_exists.1 h
    have hmc := (meetT_ct hm hc hd).1
    show D.b (eqDs (crow ((meetT c d).getD [])) (crow c)) = D.b (inT c d)
    rw [hm, inT_meet, hm]
    refine congrArg D.b (propext ⟨fun h => ?_, fun h => ?_⟩)
    · rw [crow_inj hmc hc h]
    · cases h
      exact eqDs_self _
  · rename_i h
    refine Or.inl ?_; (conv => whnf)
    show D.b False = D.b (inT c d)
    refine congrArg D.b (propext ⟨fun h => h.elim, fun h2 => ?_⟩)
    rw [inT_meet] at h2
    rw [h2] at h
    exact h rfl
end Go.Proofs.YtaiondckookpiaaGreatDoor
namespace Go.Proofs.YtaiondckookpiaaGreatDoor
open Go Go.Vx
theorem fill_at {t : Str} {i : Nat} (hi : i < t.length) : (t.take i ++ List.replicate (t.length - i) (0 : UInt8))[i]? = some 0 := by
  rw [List.getElem?_append_right (by simp; omega)]
  simp [List.getElem?_replicate]
  omega
theorem fill_set {t : Str} {i : Nat} {b : UInt8} (h : t[i]? = some b) : (t.take i ++ List.replicate (t.length - i) (0 : UInt8)).set i b = t.take (i + 1) ++ List.replicate (t.length - (i + 1)) 0 := by
  have hi : i < t.length := (List.getElem?_eq_some_iff.1 h).1
  rw [List.set_append, if_neg (by simp; omega)]
  rw [show t.length - i = (t.length - (i + 1)) + 1 by omega, List.replicate_succ]
  rw [show i - (t.take i).length = 0 by simp; omega]
  rw [List.set_cons_zero, List.take_add_one, h]
  simp
set_option maxHeartbeats 4000000 in
theorem text_at (t : Str) (ht : CT t) : FSpec Tryz.prog T 33 [.agg (crow t)] (fun r _ => r = .s t) := by
  have hlen := ht.len
  refine FSpec.of_ok tok Tryz.func33 rfl Tryz.call33 (by simp) ?_
  (try (conv => whnf)); repeat' (first | ((with_reducible_and_instances (first | refine nShr (by assumption) ?_ | refine nShl1' rfl (by assumption) ?_ | refine nAnd ?_ | refine nOr ?_ | refine nXor ?_ | refine nAndNot ?_ | refine nAnd1' rfl ?_)); conv => whnf) | refine Ok.seq ?_ | refine OkL.cons ?_ | ((first | refine Ok.region tok ?_ | refine Ok.region_draw tok follows (by kernel_rfl) ?_ | refine Ok.cond ?_); conv => whnf) | refine Ok.block ?_ | ((first | refine Ok.skip ?_ | refine Ok.exit ?_ | refine Ok.ret ?_ | refine nI ?_ | refine ix _ (by assumption) ?_ | refine ixI (by omega) (by assumption) ?_ | refine ix_new _ (by omega) fun _ _ => ?_ | refine ixI_new (by omega) (by omega) fun _ _ => ?_ | refine ⟨_, by assumption, ?_⟩ | refine Alt2.l (aI ?_) | refine Alt2.r (aI ?_)); conv => whnf) | (refine Ok.scope ?_) | ((first | refine Ok.label ?_ | refine rd rfl (by assumption) ?_ | refine ⟨_, .inl ⟨rfl, rfl⟩, ?_⟩ | refine ⟨_, _, rfl, rfl, ?_⟩); conv => whnf) | (refine ⟨fun _ => ?_, fun _ => ?_⟩ <;> (conv => whnf) <;> (try (exfalso; omega))) | ((first | refine aJ ?_ | refine num_any ?_ | refine ⟨_, rfl, ?_⟩); conv => whnf) | fail)
  refine Ok.loopU [1, 3, 9] [10] 1 1 (fun (i : Nat) => [.i .i64 (i : Nat)]) (fun (i : Nat) (_ : List (List D)) => [crow t]) (fun (i : Nat) (_ : Vx.Rows) => [some (5, (t.take i ++ List.replicate (t.length - i) 0).map bcell)]) (fun (i : Nat) => i ≤ t.length) (fun (i : Nat) => t.length - i) (0) (Nat.zero_le _) ?_; (conv => whnf); refine ⟨by ((conv => whnf); first | rfl | (simp [envCat, List.take_of_length_le, cells9, bcell]; done) | (simp [envCat, List.take_of_length_le, cells9, bcell]; rw [IntKind.wrap_i64]; omega)), ?_⟩
  rintro i hi
  have hll : (t.take i ++ List.replicate (t.length - i) (0 : UInt8)).length = t.length := by simp; omega
  have hlm : ((t.take i ++ List.replicate (t.length - i) (0 : UInt8)).map bcell).length = t.length := by rw [List.length_map, hll]
  (conv => whnf)
  by_cases hit : i < t.length
  · obtain ⟨b, hb⟩ : ∃ b, t[i]? = some b := ⟨_, List.getElem?_eq_getElem hit⟩
    obtain ⟨q, r, hqr, hr, hq⟩ := split64 i (by omega)
    have hrem := rem64 hqr hr
    have hquo := quo64 hqr hr (by omega)
    have hrr : ((r : Nat) : Int) = ((r : Nat) : Int) ∧ r < 64 := ⟨rfl, hr⟩
    have hca := at_word (f := car t) hqr hr
    have hoa := at_word (f := one t) hqr hr
    rw [(at_b hb).1] at hca
    rw [(at_b hb).2] at hoa
    have hfa := fill_at hit
    have hfs := fill_set hb
    rcases ht.cub b (List.mem_of_getElem? hb) with rfl | rfl | rfl
    · have hc := hca.2 rfl
      have ho : ¬ _ := fun e => absurd (hoa.1 e) (by decide)
      clear hca hoa
      rcases hq with rfl | rfl | rfl | rfl
      all_goals
        (try (conv => whnf)); repeat' (first | ((with_reducible_and_instances (first | refine nShr (by assumption) ?_ | refine nShl1' rfl (by assumption) ?_ | refine nAnd ?_ | refine nOr ?_ | refine nXor ?_ | refine nAndNot ?_ | refine nAnd1' rfl ?_)); conv => whnf) | refine Ok.seq ?_ | refine OkL.cons ?_ | ((first | refine Ok.region tok ?_ | refine ⟨_, (hquo.symm).symm, ?_⟩ | refine ⟨_, (hrem.symm).symm, ?_⟩ | refine Ok.region_draw tok follows (by kernel_rfl) ?_ | refine Ok.cond ?_); conv => whnf) | refine Ok.block ?_ | ((first | refine Ok.skip ?_ | refine Ok.exit ?_ | refine Ok.ret ?_ | refine nI ?_ | refine ix _ (by assumption) ?_ | refine ixI (by omega) (by assumption) ?_ | refine ix_new _ (by omega) fun _ _ => ?_ | refine ixI_new (by omega) (by omega) fun _ _ => ?_ | refine ⟨_, by assumption, ?_⟩ | refine Alt2.l (aI ?_) | refine Alt2.r (aI ?_)); conv => whnf) | (refine Ok.scope ?_) | ((first | refine Ok.label ?_ | refine rd rfl (by assumption) ?_ | refine ⟨_, .inl ⟨rfl, rfl⟩, ?_⟩ | refine ⟨_, _, rfl, rfl, ?_⟩); conv => whnf) | (refine ⟨fun _ => ?_, fun _ => ?_⟩ <;> (conv => whnf) <;> (try (exfalso; omega))) | ((first | refine aJ ?_ | refine num_any ?_ | refine ⟨_, rfl, ?_⟩); conv => whnf) | fail)
        refine Or.inr (Or.inr (Or.inl ?_)); (conv => whnf); refine ⟨_, _, Tryz.func89, rfl, Tryz.call89, ?_⟩; (conv => whnf)
        (try (conv => whnf)); repeat' (first | ((with_reducible_and_instances (first | refine nShr (by assumption) ?_ | refine nShl1' rfl (by assumption) ?_ | refine nAnd ?_ | refine nOr ?_ | refine nXor ?_ | refine nAndNot ?_ | refine nAnd1' rfl ?_)); conv => whnf) | refine Ok.seq ?_ | refine OkL.cons ?_ | ((first | refine Ok.region tok ?_ | refine ⟨_, (hquo.symm).symm, ?_⟩ | refine ⟨_, (hrem.symm).symm, ?_⟩ | refine Ok.region_draw tok follows (by kernel_rfl) ?_ | refine Ok.cond ?_); conv => whnf) | refine Ok.block ?_ | ((first | refine Ok.skip ?_ | refine Ok.exit ?_ | refine Ok.ret ?_ | refine nI ?_ | refine ix _ (by assumption) ?_ | refine ixI (by omega) (by assumption) ?_ | refine ix_new _ (by omega) fun _ _ => ?_ | refine ixI_new (by omega) (by omega) fun _ _ => ?_ | refine ⟨_, by assumption, ?_⟩ | refine Alt2.l (aI ?_) | refine Alt2.r (aI ?_)); conv => whnf) | (refine Ok.scope ?_) | ((first | refine Ok.label ?_ | refine rd rfl (by assumption) ?_ | refine ⟨_, .inl ⟨rfl, rfl⟩, ?_⟩ | refine ⟨_, _, rfl, rfl, ?_⟩); conv => whnf) | (refine ⟨fun _ => ?_, fun _ => ?_⟩ <;> (conv => whnf) <;> (try (exfalso; omega))) | ((first | refine aJ ?_ | refine num_any ?_ | refine ⟨_, rfl, ?_⟩); conv => whnf) | fail)
        refine Or.inr (Or.inr (Or.inl ?_)); (conv => whnf); refine ⟨_, _, Tryz.func89, rfl, Tryz.call89, ?_⟩; (conv => whnf)
        (try (conv => whnf)); repeat' (first | ((with_reducible_and_instances (first | refine nShr (by assumption) ?_ | refine nShl1' rfl (by assumption) ?_ | refine nAnd ?_ | refine nOr ?_ | refine nXor ?_ | refine nAndNot ?_ | refine nAnd1' rfl ?_)); conv => whnf) | refine Ok.seq ?_ | refine OkL.cons ?_ | ((first | refine Ok.region tok ?_ | refine ⟨_, (hquo.symm).symm, ?_⟩ | refine ⟨_, (hrem.symm).symm, ?_⟩ | refine Ok.region_draw tok follows (by kernel_rfl) ?_ | refine Ok.cond ?_); conv => whnf) | refine Ok.block ?_ | ((first | refine Ok.skip ?_ | refine Ok.exit ?_ | refine Ok.ret ?_ | refine nI ?_ | refine ix _ (by assumption) ?_ | refine ixI (by omega) (by assumption) ?_ | refine ix_new _ (by omega) fun _ _ => ?_ | refine ixI_new (by omega) (by omega) fun _ _ => ?_ | refine ⟨_, by assumption, ?_⟩ | refine Alt2.l (aI ?_) | refine Alt2.r (aI ?_)); conv => whnf) | (refine Ok.scope ?_) | ((first | refine Ok.label ?_ | refine rd rfl (by assumption) ?_ | refine ⟨_, .inl ⟨rfl, rfl⟩, ?_⟩ | refine ⟨_, _, rfl, rfl, ?_⟩); conv => whnf) | (refine ⟨fun _ => ?_, fun _ => ?_⟩ <;> (conv => whnf) <;> (try (exfalso; omega))) | ((first | refine aJ ?_ | refine num_any ?_ | refine ⟨_, rfl, ?_⟩); conv => whnf) | fail)
        refine st 48 hfa (by simp [bcell]) (by simp [setCells, bcell]) ?_
        (try (conv => whnf)); repeat' (first | ((with_reducible_and_instances (first | refine nShr (by assumption) ?_ | refine nShl1' rfl (by assumption) ?_ | refine nAnd ?_ | refine nOr ?_ | refine nXor ?_ | refine nAndNot ?_ | refine nAnd1' rfl ?_)); conv => whnf) | refine Ok.seq ?_ | refine OkL.cons ?_ | ((first | refine Ok.region tok ?_ | refine Ok.region_draw tok follows (by kernel_rfl) ?_ | refine Ok.cond ?_); conv => whnf) | refine Ok.block ?_ | ((first | refine Ok.skip ?_ | refine Ok.exit ?_ | refine Ok.ret ?_ | refine nI ?_ | refine ix _ (by assumption) ?_ | refine ixI (by omega) (by assumption) ?_ | refine ix_new _ (by omega) fun _ _ => ?_ | refine ixI_new (by omega) (by omega) fun _ _ => ?_ | refine ⟨_, by assumption, ?_⟩ | refine Alt2.l (aI ?_) | refine Alt2.r (aI ?_)); conv => whnf) | (refine Ok.scope ?_) | ((first | refine Ok.label ?_ | refine rd rfl (by assumption) ?_ | refine ⟨_, .inl ⟨rfl, rfl⟩, ?_⟩ | refine ⟨_, _, rfl, rfl, ?_⟩); conv => whnf) | (refine ⟨fun _ => ?_, fun _ => ?_⟩ <;> (conv => whnf) <;> (try (exfalso; omega))) | ((first | refine aJ ?_ | refine num_any ?_ | refine ⟨_, rfl, ?_⟩); conv => whnf) | fail)
        refine ⟨i + 1, by omega, by omega, ?_⟩
        (conv => whnf)
        simp only [toNat_cast, hfs, envCat]
        rfl
    · have hc := hca.2 rfl
      have ho := hoa.2 rfl
      clear hca hoa
      rcases hq with rfl | rfl | rfl | rfl
      all_goals
        (try (conv => whnf)); repeat' (first | ((with_reducible_and_instances (first | refine nShr (by assumption) ?_ | refine nShl1' rfl (by assumption) ?_ | refine nAnd ?_ | refine nOr ?_ | refine nXor ?_ | refine nAndNot ?_ | refine nAnd1' rfl ?_)); conv => whnf) | refine Ok.seq ?_ | refine OkL.cons ?_ | ((first | refine Ok.region tok ?_ | refine ⟨_, (hquo.symm).symm, ?_⟩ | refine ⟨_, (hrem.symm).symm, ?_⟩ | refine Ok.region_draw tok follows (by kernel_rfl) ?_ | refine Ok.cond ?_); conv => whnf) | refine Ok.block ?_ | ((first | refine Ok.skip ?_ | refine Ok.exit ?_ | refine Ok.ret ?_ | refine nI ?_ | refine ix _ (by assumption) ?_ | refine ixI (by omega) (by assumption) ?_ | refine ix_new _ (by omega) fun _ _ => ?_ | refine ixI_new (by omega) (by omega) fun _ _ => ?_ | refine ⟨_, by assumption, ?_⟩ | refine Alt2.l (aI ?_) | refine Alt2.r (aI ?_)); conv => whnf) | (refine Ok.scope ?_) | ((first | refine Ok.label ?_ | refine rd rfl (by assumption) ?_ | refine ⟨_, .inl ⟨rfl, rfl⟩, ?_⟩ | refine ⟨_, _, rfl, rfl, ?_⟩); conv => whnf) | (refine ⟨fun _ => ?_, fun _ => ?_⟩ <;> (conv => whnf) <;> (try (exfalso; omega))) | ((first | refine aJ ?_ | refine num_any ?_ | refine ⟨_, rfl, ?_⟩); conv => whnf) | fail)
        refine Or.inr (Or.inr (Or.inl ?_)); (conv => whnf); refine ⟨_, _, Tryz.func89, rfl, Tryz.call89, ?_⟩; (conv => whnf)
        (try (conv => whnf)); repeat' (first | ((with_reducible_and_instances (first | refine nShr (by assumption) ?_ | refine nShl1' rfl (by assumption) ?_ | refine nAnd ?_ | refine nOr ?_ | refine nXor ?_ | refine nAndNot ?_ | refine nAnd1' rfl ?_)); conv => whnf) | refine Ok.seq ?_ | refine OkL.cons ?_ | ((first | refine Ok.region tok ?_ | refine ⟨_, (hquo.symm).symm, ?_⟩ | refine ⟨_, (hrem.symm).symm, ?_⟩ | refine Ok.region_draw tok follows (by kernel_rfl) ?_ | refine Ok.cond ?_); conv => whnf) | refine Ok.block ?_ | ((first | refine Ok.skip ?_ | refine Ok.exit ?_ | refine Ok.ret ?_ | refine nI ?_ | refine ix _ (by assumption) ?_ | refine ixI (by omega) (by assumption) ?_ | refine ix_new _ (by omega) fun _ _ => ?_ | refine ixI_new (by omega) (by omega) fun _ _ => ?_ | refine ⟨_, by assumption, ?_⟩ | refine Alt2.l (aI ?_) | refine Alt2.r (aI ?_)); conv => whnf) | (refine Ok.scope ?_) | ((first | refine Ok.label ?_ | refine rd rfl (by assumption) ?_ | refine ⟨_, .inl ⟨rfl, rfl⟩, ?_⟩ | refine ⟨_, _, rfl, rfl, ?_⟩); conv => whnf) | (refine ⟨fun _ => ?_, fun _ => ?_⟩ <;> (conv => whnf) <;> (try (exfalso; omega))) | ((first | refine aJ ?_ | refine num_any ?_ | refine ⟨_, rfl, ?_⟩); conv => whnf) | fail)
        refine Or.inr (Or.inr (Or.inl ?_)); (conv => whnf); refine ⟨_, _, Tryz.func89, rfl, Tryz.call89, ?_⟩; (conv => whnf)
        (try (conv => whnf)); repeat' (first | ((with_reducible_and_instances (first | refine nShr (by assumption) ?_ | refine nShl1' rfl (by assumption) ?_ | refine nAnd ?_ | refine nOr ?_ | refine nXor ?_ | refine nAndNot ?_ | refine nAnd1' rfl ?_)); conv => whnf) | refine Ok.seq ?_ | refine OkL.cons ?_ | ((first | refine Ok.region tok ?_ | refine ⟨_, (hquo.symm).symm, ?_⟩ | refine ⟨_, (hrem.symm).symm, ?_⟩ | refine Ok.region_draw tok follows (by kernel_rfl) ?_ | refine Ok.cond ?_); conv => whnf) | refine Ok.block ?_ | ((first | refine Ok.skip ?_ | refine Ok.exit ?_ | refine Ok.ret ?_ | refine nI ?_ | refine ix _ (by assumption) ?_ | refine ixI (by omega) (by assumption) ?_ | refine ix_new _ (by omega) fun _ _ => ?_ | refine ixI_new (by omega) (by omega) fun _ _ => ?_ | refine ⟨_, by assumption, ?_⟩ | refine Alt2.l (aI ?_) | refine Alt2.r (aI ?_)); conv => whnf) | (refine Ok.scope ?_) | ((first | refine Ok.label ?_ | refine rd rfl (by assumption) ?_ | refine ⟨_, .inl ⟨rfl, rfl⟩, ?_⟩ | refine ⟨_, _, rfl, rfl, ?_⟩); conv => whnf) | (refine ⟨fun _ => ?_, fun _ => ?_⟩ <;> (conv => whnf) <;> (try (exfalso; omega))) | ((first | refine aJ ?_ | refine num_any ?_ | refine ⟨_, rfl, ?_⟩); conv => whnf) | fail)
        refine st 49 hfa (by simp [bcell]) (by simp [setCells, bcell]) ?_
        (try (conv => whnf)); repeat' (first | ((with_reducible_and_instances (first | refine nShr (by assumption) ?_ | refine nShl1' rfl (by assumption) ?_ | refine nAnd ?_ | refine nOr ?_ | refine nXor ?_ | refine nAndNot ?_ | refine nAnd1' rfl ?_)); conv => whnf) | refine Ok.seq ?_ | refine OkL.cons ?_ | ((first | refine Ok.region tok ?_ | refine Ok.region_draw tok follows (by kernel_rfl) ?_ | refine Ok.cond ?_); conv => whnf) | refine Ok.block ?_ | ((first | refine Ok.skip ?_ | refine Ok.exit ?_ | refine Ok.ret ?_ | refine nI ?_ | refine ix _ (by assumption) ?_ | refine ixI (by omega) (by assumption) ?_ | refine ix_new _ (by omega) fun _ _ => ?_ | refine ixI_new (by omega) (by omega) fun _ _ => ?_ | refine ⟨_, by assumption, ?_⟩ | refine Alt2.l (aI ?_) | refine Alt2.r (aI ?_)); conv => whnf) | (refine Ok.scope ?_) | ((first | refine Ok.label ?_ | refine rd rfl (by assumption) ?_ | refine ⟨_, .inl ⟨rfl, rfl⟩, ?_⟩ | refine ⟨_, _, rfl, rfl, ?_⟩); conv => whnf) | (refine ⟨fun _ => ?_, fun _ => ?_⟩ <;> (conv => whnf) <;> (try (exfalso; omega))) | ((first | refine aJ ?_ | refine num_any ?_ | refine ⟨_, rfl, ?_⟩); conv => whnf) | fail)
        refine ⟨i + 1, by omega, by omega, ?_⟩
        (conv => whnf)
        simp only [toNat_cast, hfs, envCat]
        rfl
    · have hc : ¬ _ := fun e => absurd (hca.1 e) (by decide)
      clear hca hoa
      rcases hq with rfl | rfl | rfl | rfl
      all_goals
        (try (conv => whnf)); repeat' (first | ((with_reducible_and_instances (first | refine nShr (by assumption) ?_ | refine nShl1' rfl (by assumption) ?_ | refine nAnd ?_ | refine nOr ?_ | refine nXor ?_ | refine nAndNot ?_ | refine nAnd1' rfl ?_)); conv => whnf) | refine Ok.seq ?_ | refine OkL.cons ?_ | ((first | refine Ok.region tok ?_ | refine ⟨_, (hquo.symm).symm, ?_⟩ | refine ⟨_, (hrem.symm).symm, ?_⟩ | refine Ok.region_draw tok follows (by kernel_rfl) ?_ | refine Ok.cond ?_); conv => whnf) | refine Ok.block ?_ | ((first | refine Ok.skip ?_ | refine Ok.exit ?_ | refine Ok.ret ?_ | refine nI ?_ | refine ix _ (by assumption) ?_ | refine ixI (by omega) (by assumption) ?_ | refine ix_new _ (by omega) fun _ _ => ?_ | refine ixI_new (by omega) (by omega) fun _ _ => ?_ | refine ⟨_, by assumption, ?_⟩ | refine Alt2.l (aI ?_) | refine Alt2.r (aI ?_)); conv => whnf) | (refine Ok.scope ?_) | ((first | refine Ok.label ?_ | refine rd rfl (by assumption) ?_ | refine ⟨_, .inl ⟨rfl, rfl⟩, ?_⟩ | refine ⟨_, _, rfl, rfl, ?_⟩); conv => whnf) | (refine ⟨fun _ => ?_, fun _ => ?_⟩ <;> (conv => whnf) <;> (try (exfalso; omega))) | ((first | refine aJ ?_ | refine num_any ?_ | refine ⟨_, rfl, ?_⟩); conv => whnf) | fail)
        refine Or.inr (Or.inr (Or.inl ?_)); (conv => whnf); refine ⟨_, _, Tryz.func89, rfl, Tryz.call89, ?_⟩; (conv => whnf)
        (try (conv => whnf)); repeat' (first | ((with_reducible_and_instances (first | refine nShr (by assumption) ?_ | refine nShl1' rfl (by assumption) ?_ | refine nAnd ?_ | refine nOr ?_ | refine nXor ?_ | refine nAndNot ?_ | refine nAnd1' rfl ?_)); conv => whnf) | refine Ok.seq ?_ | refine OkL.cons ?_ | ((first | refine Ok.region tok ?_ | refine ⟨_, (hquo.symm).symm, ?_⟩ | refine ⟨_, (hrem.symm).symm, ?_⟩ | refine Ok.region_draw tok follows (by kernel_rfl) ?_ | refine Ok.cond ?_); conv => whnf) | refine Ok.block ?_ | ((first | refine Ok.skip ?_ | refine Ok.exit ?_ | refine Ok.ret ?_ | refine nI ?_ | refine ix _ (by assumption) ?_ | refine ixI (by omega) (by assumption) ?_ | refine ix_new _ (by omega) fun _ _ => ?_ | refine ixI_new (by omega) (by omega) fun _ _ => ?_ | refine ⟨_, by assumption, ?_⟩ | refine Alt2.l (aI ?_) | refine Alt2.r (aI ?_)); conv => whnf) | (refine Ok.scope ?_) | ((first | refine Ok.label ?_ | refine rd rfl (by assumption) ?_ | refine ⟨_, .inl ⟨rfl, rfl⟩, ?_⟩ | refine ⟨_, _, rfl, rfl, ?_⟩); conv => whnf) | (refine ⟨fun _ => ?_, fun _ => ?_⟩ <;> (conv => whnf) <;> (try (exfalso; omega))) | ((first | refine aJ ?_ | refine num_any ?_ | refine ⟨_, rfl, ?_⟩); conv => whnf) | fail)
        refine st 120 hfa (by simp [bcell]) (by simp [setCells, bcell]) ?_
        (try (conv => whnf)); repeat' (first | ((with_reducible_and_instances (first | refine nShr (by assumption) ?_ | refine nShl1' rfl (by assumption) ?_ | refine nAnd ?_ | refine nOr ?_ | refine nXor ?_ | refine nAndNot ?_ | refine nAnd1' rfl ?_)); conv => whnf) | refine Ok.seq ?_ | refine OkL.cons ?_ | ((first | refine Ok.region tok ?_ | refine Ok.region_draw tok follows (by kernel_rfl) ?_ | refine Ok.cond ?_); conv => whnf) | refine Ok.block ?_ | ((first | refine Ok.skip ?_ | refine Ok.exit ?_ | refine Ok.ret ?_ | refine nI ?_ | refine ix _ (by assumption) ?_ | refine ixI (by omega) (by assumption) ?_ | refine ix_new _ (by omega) fun _ _ => ?_ | refine ixI_new (by omega) (by omega) fun _ _ => ?_ | refine ⟨_, by assumption, ?_⟩ | refine Alt2.l (aI ?_) | refine Alt2.r (aI ?_)); conv => whnf) | (refine Ok.scope ?_) | ((first | refine Ok.label ?_ | refine rd rfl (by assumption) ?_ | refine ⟨_, .inl ⟨rfl, rfl⟩, ?_⟩ | refine ⟨_, _, rfl, rfl, ?_⟩); conv => whnf) | (refine ⟨fun _ => ?_, fun _ => ?_⟩ <;> (conv => whnf) <;> (try (exfalso; omega))) | ((first | refine aJ ?_ | refine num_any ?_ | refine ⟨_, rfl, ?_⟩); conv => whnf) | fail)
        refine ⟨i + 1, by omega, by omega, ?_⟩
        (conv => whnf)
        simp only [toNat_cast, hfs, envCat]
        rfl
  · have he : i = t.length := by omega
    subst he
    rw [List.take_length, Nat.sub_self, List.replicate_zero, List.append_nil] at *
    (try (conv => whnf)); repeat' (first | ((with_reducible_and_instances (first | refine nShr (by assumption) ?_ | refine nShl1' rfl (by assumption) ?_ | refine nAnd ?_ | refine nOr ?_ | refine nXor ?_ | refine nAndNot ?_ | refine nAnd1' rfl ?_)); conv => whnf) | refine Ok.seq ?_ | refine OkL.cons ?_ | ((first | refine Ok.region tok ?_ | refine Ok.region_draw tok follows (by kernel_rfl) ?_ | refine Ok.cond ?_); conv => whnf) | refine Ok.block ?_ | ((first | refine Ok.skip ?_ | refine Ok.exit ?_ | refine Ok.ret ?_ | refine nI ?_ | refine ix _ (by assumption) ?_ | refine ixI (by omega) (by assumption) ?_ | refine ix_new _ (by omega) fun _ _ => ?_ | refine ixI_new (by omega) (by omega) fun _ _ => ?_ | refine ⟨_, by assumption, ?_⟩ | refine Alt2.l (aI ?_) | refine Alt2.r (aI ?_)); conv => whnf) | (refine Ok.scope ?_) | ((first | refine Ok.label ?_ | refine rd rfl (by assumption) ?_ | refine ⟨_, .inl ⟨rfl, rfl⟩, ?_⟩ | refine ⟨_, _, rfl, rfl, ?_⟩); conv => whnf) | (refine ⟨fun _ => ?_, fun _ => ?_⟩ <;> (conv => whnf) <;> (try (exfalso; omega))) | ((first | refine aJ ?_ | refine num_any ?_ | refine ⟨_, rfl, ?_⟩); conv => whnf) | fail)
    refine ⟨t, take_all bcell t, ?_⟩
    (try (conv => whnf)); repeat' (first | ((with_reducible_and_instances (first | refine nShr (by assumption) ?_ | refine nShl1' rfl (by assumption) ?_ | refine nAnd ?_ | refine nOr ?_ | refine nXor ?_ | refine nAndNot ?_ | refine nAnd1' rfl ?_)); conv => whnf) | refine Ok.seq ?_ | refine OkL.cons ?_ | ((first | refine Ok.region tok ?_ | refine Ok.region_draw tok follows (by kernel_rfl) ?_ | refine Ok.cond ?_); conv => whnf) | refine Ok.block ?_ | ((first | refine Ok.skip ?_ | refine Ok.exit ?_ | refine Ok.ret ?_ | refine nI ?_ | refine ix _ (by assumption) ?_ | refine ixI (by omega) (by assumption) ?_ | refine ix_new _ (by omega) fun _ _ => ?_ | refine ixI_new (by omega) (by omega) fun _ _ => ?_ | refine ⟨_, by assumption, ?_⟩ | refine Alt2.l (aI ?_) | refine Alt2.r (aI ?_)); conv => whnf) | (refine Ok.scope ?_) | ((first | refine Ok.label ?_ | refine rd rfl (by assumption) ?_ | refine ⟨_, .inl ⟨rfl, rfl⟩, ?_⟩ | refine ⟨_, _, rfl, rfl, ?_⟩); conv => whnf) | (refine ⟨fun _ => ?_, fun _ => ?_⟩ <;> (conv => whnf) <;> (try (exfalso; omega))) | ((first | refine aJ ?_ | refine num_any ?_ | refine ⟨_, rfl, ?_⟩); conv => whnf) | fail)
    refine Or.inl ?_; (conv => whnf)
    rfl
end Go.Proofs.YtaiondckookpiaaGreatDoor
namespace Go.Proofs.YtaiondckookpiaaGreatDoor
open Go Go.Vx
def CN (c : Str) : Prop := CT c ∧ c ≠ []
theorem within2_at (c d : Str) (hc : CT c) (hd : CT d) : FSpec Tryz.prog T 121 [.agg (crow c), .agg (crow d)] (fun r _ => r = .b (inT c d)) := by
  refine FSpec.of_ok tok Tryz.func121 rfl Tryz.call121 (by simp) ?_
  (try (conv => whnf)); repeat' (first | refine Ok.seq ?_ | refine OkL.cons ?_ | ((first | refine Ok.region tok ?_ | refine Ok.region_draw tok follows (by kernel_rfl) ?_ | refine Ok.cond ?_); conv => whnf) | refine Ok.block ?_ | ((first | refine Ok.skip ?_ | refine Ok.exit ?_ | refine Ok.ret ?_ | refine nI ?_ | refine ix _ (by assumption) ?_ | refine ixI (by omega) (by assumption) ?_ | refine ix_new _ (by omega) fun _ _ => ?_ | refine ixI_new (by omega) (by omega) fun _ _ => ?_ | refine ⟨_, by assumption, ?_⟩); conv => whnf) | (refine Or.inl ?_; (conv => whnf); (repeat (refine aI ?_; conv => whnf)); refine ⟨_, within_at c d hc hd, rfl, ?_⟩; conv => whnf) | (refine ⟨_, within_at c d hc hd, rfl, ?_⟩; conv => whnf) | (refine Or.inr (Or.inl ?_); (conv => whnf); (repeat (refine aI ?_; conv => whnf)); refine ⟨_, within_at c d hc hd, ?_⟩; rintro _ _ ⟨rfl, rfl⟩; conv => whnf) | ((first | refine Alt2.l (aI ?_) | refine Alt2.r (aI ?_)); conv => whnf) | (refine Ok.scope ?_) | ((first | refine Ok.label ?_ | refine rd rfl (by assumption) ?_ | refine ⟨_, .inl ⟨rfl, rfl⟩, ?_⟩ | refine ⟨_, _, rfl, rfl, ?_⟩); conv => whnf) | (refine ⟨fun _ => ?_, fun _ => ?_⟩ <;> (conv => whnf) <;> (try (exfalso; omega))) | ((first | refine aJ ?_ | refine num_any ?_ | refine ⟨_, rfl, ?_⟩); conv => whnf) | fail)
  all_goals
    refine Or.inl ?_; (conv => whnf)
    rfl
theorem withinC_at {c d : Str} (hc : CN c) (hd : CN d) : FSpec Tryz.prog T 121 [.agg (crow c), .agg (crow d)] (fun r _ => r = .b (inL c d)) := by
  have := within2_at c d hc.1 hd.1
  rwa [show inT c d = inL c d from propext ⟨fun h => h.2, fun h => ⟨hc.2, h⟩⟩] at this
set_option maxRecDepth 100000 in
set_option maxHeartbeats 4000000 in
theorem greatestC_at (l : List Str) {rl room : List (List D)} (hl : l.length ≤ 1048576) (hok : ∀ x ∈ l, CN x) (h : rl = l.map crow) : FSpec Tryz.prog T 120 [.lst 46 rl room, .fn 121 [] []]
    (fun d rows => ∃ W : List Str, Kept inL l l.length W ∧ d = .own 0 (grG inL l).length ∧ rows = [some (46, W.map crow)]) := by
  subst h
  have hll : (l.map crow).length = l.length := by simp
  refine FSpec.of_ok tok Tryz.func120 rfl Tryz.call120 (by simp) ?_
  (try (conv => whnf)); repeat' (first | refine Ok.seq ?_ | refine OkL.cons ?_ | ((first | refine Ok.region tok ?_ | refine Ok.cond ?_); conv => whnf) | refine Ok.block ?_ | ((first | refine Ok.skip ?_ | refine Ok.exit ?_ | refine Ok.ret ?_ | refine nI ?_ | refine ix _ (by assumption) ?_ | refine ixI (by omega) (by assumption) ?_ | refine ix_new _ (by omega) fun _ _ => ?_ | refine ixI_new (by omega) (by omega) fun _ _ => ?_ | refine ⟨_, by assumption, ?_⟩ | refine Alt2.l (aI ?_) | refine Alt2.r (aI ?_)); conv => whnf) | (refine Ok.scope ?_) | ((first | refine Ok.label ?_ | refine rd rfl (by assumption) ?_ | refine ⟨_, .inl ⟨rfl, rfl⟩, ?_⟩ | refine ⟨_, _, rfl, rfl, ?_⟩); conv => whnf) | (refine ⟨fun _ => ?_, fun _ => ?_⟩ <;> (conv => whnf) <;> (try (exfalso; omega))) | ((first | refine aJ ?_ | refine num_any ?_ | refine ⟨_, rfl, ?_⟩); conv => whnf) | fail)
  refine Ok.ghost 5 46 rfl ?_
  (conv => whnf)
  refine Ok.loopU [1, 13, 14] [5, 15] 1 0 (fun (x : Nat × List Str) => [.own 0 (grG inL (l.take x.1)).length, .i .i64 (x.1 : Nat)]) (fun _ b => b) (fun (x : Nat × List Str) (_ : Vx.Rows) => [some (46, x.2.map crow)]) (fun (x : Nat × List Str) => Kept inL l x.1 x.2) (fun (x : Nat × List Str) => l.length - x.1) ((0, [])) (Kept.zero) ?_; (conv => whnf); refine ⟨by ((conv => whnf); first | rfl | (simp [envCat, List.take_of_length_le, cells9]; done) | (simp [envCat, List.take_of_length_le, cells9]; rw [IntKind.wrap_i64]; omega)), ?_⟩
  rintro ⟨i, W⟩ hK
  dsimp only at hK ⊢
  have hWl : (W.map crow).length = W.length := by simp
  have hKn := hK.n
  have hKw := hK.w
  have hKi := hK.le
  (conv => whnf)
  by_cases hil : i < l.length
  · obtain ⟨x, hx⟩ : ∃ x, l[i]? = some x := ⟨_, List.getElem?_eq_getElem hil⟩
    have hxo := hok x (List.mem_of_getElem? hx)
    have hmem : ∀ y ∈ grG inL (l.take i), CN y := fun y hy => hok y (List.take_subset _ _ (grG_sub inL _ y hy))
    (try (conv => whnf)); repeat' (first | refine Ok.seq ?_ | refine OkL.cons ?_ | ((first | refine Ok.region tok ?_ | refine Ok.region_draw tok follows (by kernel_rfl) ?_ | refine Ok.cond ?_); conv => whnf) | refine Ok.block ?_ | ((first | refine Ok.skip ?_ | refine Ok.exit ?_ | refine Ok.ret ?_ | refine nI ?_ | refine ix _ (by assumption) ?_ | refine ixI (by omega) (by assumption) ?_ | refine ix_new _ (by omega) fun _ _ => ?_ | refine ixI_new (by omega) (by omega) fun _ _ => ?_ | refine ⟨_, by assumption, ?_⟩ | refine Alt2.l (aI ?_) | refine Alt2.r (aI ?_)); conv => whnf) | (refine Ok.scope ?_) | ((first | refine Ok.label ?_ | refine rd rfl (by assumption) ?_ | refine ⟨_, .inl ⟨rfl, rfl⟩, ?_⟩ | refine ⟨_, _, rfl, rfl, ?_⟩); conv => whnf) | (refine ⟨fun _ => ?_, fun _ => ?_⟩ <;> (conv => whnf) <;> (try (exfalso; omega))) | ((first | refine aJ ?_ | refine num_any ?_ | refine ⟨_, rfl, ?_⟩); conv => whnf) | fail)
    generalize hKK : grG inL (l.take i) = K at *
    refine Ok.loopU [1, 5, 7, 13, 14, 15, 19, 20] [21] 1 1 (fun (j : Nat) => [.i .i64 (j : Nat)]) (fun _ b => b) (fun _ r => r) (fun (j : Nat) => j ≤ K.length ∧ ∀ y ∈ K.take j, ¬ inL x y) (fun (j : Nat) => K.length - j) (0) (⟨Nat.zero_le _, by simp⟩) ?_; (conv => whnf); refine ⟨by ((conv => whnf); first | rfl | (simp [envCat, List.take_of_length_le, cells9]; done) | (simp [envCat, List.take_of_length_le, cells9]; rw [IntKind.wrap_i64]; omega)), ?_⟩
    rintro j ⟨hj, hno⟩
    (conv => whnf)
    by_cases hjl : j < K.length
    · obtain ⟨y, hy⟩ : ∃ y, K[j]? = some y := ⟨_, List.getElem?_eq_getElem hjl⟩
      have hyo := hmem y (List.mem_of_getElem? hy)
      have hWj : W[((j : Nat) : Int).toNat]? = some y := by
        have := hK.get (j := j) (by rw [hKK]; exact hjl)
        rw [hKK, hy] at this
        exact this
      (try (conv => whnf)); repeat' (first | refine Ok.seq ?_ | refine OkL.cons ?_ | ((first | refine Ok.region tok ?_ | refine Ok.region_draw tok follows (by kernel_rfl) ?_ | refine Ok.cond ?_); conv => whnf) | refine Ok.block ?_ | ((first | refine Ok.skip ?_ | refine Ok.exit ?_ | refine Ok.ret ?_ | refine nI ?_ | refine ix _ (by assumption) ?_ | refine ixI (by omega) (by assumption) ?_ | refine ix_new _ (by omega) fun _ _ => ?_ | refine ixI_new (by omega) (by omega) fun _ _ => ?_ | refine ⟨_, by assumption, ?_⟩); conv => whnf) | (refine Or.inl ?_; (conv => whnf); (repeat (refine aI ?_; conv => whnf)); refine ⟨_, withinC_at hxo hyo, rfl, ?_⟩; conv => whnf) | (refine ⟨_, withinC_at hxo hyo, rfl, ?_⟩; conv => whnf) | (refine Or.inr (Or.inl ?_); (conv => whnf); (repeat (refine aI ?_; conv => whnf)); refine ⟨_, withinC_at hxo hyo, ?_⟩; rintro _ _ ⟨rfl, rfl⟩; conv => whnf) | ((first | refine Alt2.l (aI ?_) | refine Alt2.r (aI ?_)); conv => whnf) | (refine Ok.scope ?_) | ((first | refine Ok.label ?_ | refine rd rfl (by assumption) ?_ | refine ⟨_, .inl ⟨rfl, rfl⟩, ?_⟩ | refine ⟨_, _, rfl, rfl, ?_⟩); conv => whnf) | (refine ⟨fun _ => ?_, fun _ => ?_⟩ <;> (conv => whnf) <;> (try (exfalso; omega))) | ((first | refine aJ ?_ | refine num_any ?_ | refine ⟨_, rfl, ?_⟩); conv => whnf) | fail)
      · rename_i hxy
        have hin : ∃ y ∈ grG inL (l.take i), inL x y := ⟨y, by rw [hKK]; exact List.mem_of_getElem? hy, hxy⟩
        obtain ⟨hs, he⟩ := hK.skip hx hin
        refine ⟨(i + 1, W), by dsimp only; omega, hs, ?_⟩
        dsimp only
        rw [he, hKK]
        (conv => whnf)
        rfl
      · rename_i hxy
        refine ⟨j + 1, by omega, ⟨by omega, fun z hz => ?_⟩, ?_⟩
        · rw [List.take_add_one, hy] at hz
          rcases List.mem_append.1 hz with hz | hz
          · exact hno z hz
          · simp at hz; rw [hz]; exact hxy
        · (conv => whnf)
          rfl
    · have hje : j = K.length := by omega
      subst hje
      rw [List.take_length] at hno
      (try (conv => whnf)); repeat' (first | refine Ok.seq ?_ | refine OkL.cons ?_ | ((first | refine Ok.region tok ?_ | refine Ok.region_draw tok follows (by kernel_rfl) ?_ | refine Ok.cond ?_); conv => whnf) | refine Ok.block ?_ | ((first | refine Ok.skip ?_ | refine Ok.exit ?_ | refine Ok.ret ?_ | refine nI ?_ | refine ix _ (by assumption) ?_ | refine ixI (by omega) (by assumption) ?_ | refine ix_new _ (by omega) fun _ _ => ?_ | refine ixI_new (by omega) (by omega) fun _ _ => ?_ | refine ⟨_, by assumption, ?_⟩ | refine Alt2.l (aI ?_) | refine Alt2.r (aI ?_)); conv => whnf) | (refine Ok.scope ?_) | ((first | refine Ok.label ?_ | refine rd rfl (by assumption) ?_ | refine ⟨_, .inl ⟨rfl, rfl⟩, ?_⟩ | refine ⟨_, _, rfl, rfl, ?_⟩); conv => whnf) | (refine ⟨fun _ => ?_, fun _ => ?_⟩ <;> (conv => whnf) <;> (try (exfalso; omega))) | ((first | refine aJ ?_ | refine num_any ?_ | refine ⟨_, rfl, ?_⟩); conv => whnf) | fail)
      refine ⟨0, rfl, rfl, by omega, ?_⟩
      (try (conv => whnf)); repeat' (first | refine Ok.seq ?_ | refine OkL.cons ?_ | ((first | refine Ok.region tok ?_ | refine Ok.region_draw tok follows (by kernel_rfl) ?_ | refine Ok.cond ?_); conv => whnf) | refine Ok.block ?_ | ((first | refine Ok.skip ?_ | refine Ok.exit ?_ | refine Ok.ret ?_ | refine nI ?_ | refine ix _ (by assumption) ?_ | refine ixI (by omega) (by assumption) ?_ | refine ix_new _ (by omega) fun _ _ => ?_ | refine ixI_new (by omega) (by omega) fun _ _ => ?_ | refine ⟨_, by assumption, ?_⟩ | refine Alt2.l (aI ?_) | refine Alt2.r (aI ?_)); conv => whnf) | (refine Ok.scope ?_) | ((first | refine Ok.label ?_ | refine rd rfl (by assumption) ?_ | refine ⟨_, .inl ⟨rfl, rfl⟩, ?_⟩ | refine ⟨_, _, rfl, rfl, ?_⟩); conv => whnf) | (refine ⟨fun _ => ?_, fun _ => ?_⟩ <;> (conv => whnf) <;> (try (exfalso; omega))) | ((first | refine aJ ?_ | refine num_any ?_ | refine ⟨_, rfl, ?_⟩); conv => whnf) | fail)
      refine Ok.loopU [1, 7, 13, 14, 15, 32, 33] [10, 34] 1 1 (fun (z : Nat × List Str) => [.own 0 (leftOf inL K x z.1).length, .i .i64 (z.1 : Nat)]) (fun _ b => b) (fun (z : Nat × List Str) (_ : Vx.Rows) => [some (46, z.2.map crow)]) (fun (z : Nat × List Str) => Mid inL K x W z.1 z.2) (fun (z : Nat × List Str) => K.length - z.1) ((0, W)) (Mid.zero) ?_; (conv => whnf); refine ⟨by ((conv => whnf); first | rfl | (simp [envCat, List.take_of_length_le, cells9]; done) | (simp [envCat, List.take_of_length_le, cells9]; rw [IntKind.wrap_i64]; omega)), ?_⟩
      rintro ⟨k, W'⟩ hM
      dsimp only at hM ⊢
      have hMk := hM.le
      have hMl := hM.len
      have hWl' : (W'.map crow).length = W'.length := by simp
      have hkept : W.take K.length = K := by
        have := hK.tk
        rw [hKK] at this
        exact this
      (conv => whnf)
      by_cases hkl : k < K.length
      · obtain ⟨y, hy⟩ : ∃ y, K[k]? = some y := ⟨_, List.getElem?_eq_getElem hkl⟩
        have hyo := hmem y (List.mem_of_getElem? hy)
        have hWj : W'[((k : Nat) : Int).toNat]? = some y := by
          rw [toNat_cast, hM.get hkept hkl, hy]
        by_cases hyx : inL y x
        · obtain ⟨hd, he⟩ := hM.drop hy hyx
          (try (conv => whnf)); repeat' (first | refine Ok.seq ?_ | refine OkL.cons ?_ | ((first | refine Ok.region tok ?_ | refine Ok.region_draw tok follows (by kernel_rfl) ?_ | refine Ok.cond ?_); conv => whnf) | refine Ok.block ?_ | ((first | refine Ok.skip ?_ | refine Ok.exit ?_ | refine Ok.ret ?_ | refine nI ?_ | refine ix _ (by assumption) ?_ | refine ixI (by omega) (by assumption) ?_ | refine ix_new _ (by omega) fun _ _ => ?_ | refine ixI_new (by omega) (by omega) fun _ _ => ?_ | refine ⟨_, by assumption, ?_⟩); conv => whnf) | (refine Or.inl ?_; (conv => whnf); (repeat (refine aI ?_; conv => whnf)); refine ⟨_, withinC_at hyo hxo, rfl, ?_⟩; conv => whnf) | (refine ⟨_, withinC_at hyo hxo, rfl, ?_⟩; conv => whnf) | (refine Or.inr (Or.inl ?_); (conv => whnf); (repeat (refine aI ?_; conv => whnf)); refine ⟨_, withinC_at hyo hxo, ?_⟩; rintro _ _ ⟨rfl, rfl⟩; conv => whnf) | ((first | refine Alt2.l (aI ?_) | refine Alt2.r (aI ?_)); conv => whnf) | (refine Ok.scope ?_) | ((first | refine Ok.label ?_ | refine rd rfl (by assumption) ?_ | refine ⟨_, .inl ⟨rfl, rfl⟩, ?_⟩ | refine ⟨_, _, rfl, rfl, ?_⟩); conv => whnf) | (refine ⟨fun _ => ?_, fun _ => ?_⟩ <;> (conv => whnf) <;> (try (exfalso; omega))) | ((first | refine aJ ?_ | refine num_any ?_ | refine ⟨_, rfl, ?_⟩); conv => whnf) | fail)
          · exact absurd hyx (by assumption)
          · refine ⟨(k + 1, W'), by dsimp only; omega, hd, ?_⟩
            dsimp only
            rw [he]
            (conv => whnf)
            rfl
        · obtain ⟨hd, he, hlt⟩ := hM.keep hKn hy hyx
          have hlt2 : (leftOf inL K x k).length < (W'.map crow).length := by omega
          have hnle : ¬ (leftOf inL K x k).length = (W'.map crow).length := by omega
          (try (conv => whnf)); repeat' (first | refine Ok.seq ?_ | refine OkL.cons ?_ | ((first | refine Ok.region tok ?_ | refine Ok.region_draw tok follows (by kernel_rfl) ?_ | refine Ok.cond ?_); conv => whnf) | refine Ok.block ?_ | ((first | refine Ok.skip ?_ | refine Ok.exit ?_ | refine Ok.ret ?_ | refine nI ?_ | refine ix _ (by assumption) ?_ | refine ixI (by omega) (by assumption) ?_ | refine ix_new _ (by omega) fun _ _ => ?_ | refine ixI_new (by omega) (by omega) fun _ _ => ?_ | refine ⟨_, by assumption, ?_⟩); conv => whnf) | (refine Or.inl ?_; (conv => whnf); (repeat (refine aI ?_; conv => whnf)); refine ⟨_, withinC_at hyo hxo, rfl, ?_⟩; conv => whnf) | (refine ⟨_, withinC_at hyo hxo, rfl, ?_⟩; conv => whnf) | (refine Or.inr (Or.inl ?_); (conv => whnf); (repeat (refine aI ?_; conv => whnf)); refine ⟨_, withinC_at hyo hxo, ?_⟩; rintro _ _ ⟨rfl, rfl⟩; conv => whnf) | ((first | refine Alt2.l (aI ?_) | refine Alt2.r (aI ?_)); conv => whnf) | (refine Ok.scope ?_) | ((first | refine Ok.label ?_ | refine rd rfl (by assumption) ?_ | refine ⟨_, .inl ⟨rfl, rfl⟩, ?_⟩ | refine ⟨_, _, rfl, rfl, ?_⟩); conv => whnf) | (refine ⟨fun _ => ?_, fun _ => ?_⟩ <;> (conv => whnf) <;> (try (exfalso; omega))) | ((first | refine aJ ?_ | refine num_any ?_ | refine ⟨_, rfl, ?_⟩); conv => whnf) | fail)
          · refine ⟨(k + 1, W'.set (leftOf inL K x k).length y), by dsimp only; omega, hd, ?_⟩
            dsimp only
            rw [he, List.length_append, List.map_set]
            (conv => whnf)
            rfl
          · rename_i hh
            exact absurd hyx hh
      · have hke : k = K.length := by omega
        subst hke
        obtain ⟨se, sl, sg⟩ := hK.step hx (by rw [hKK]; exact hno) (by rw [hKK]; exact hM)
        rw [hKK] at se sl sg
        by_cases hm : (leftOf inL K x K.length).length = W'.length
        · have hm2 : (leftOf inL K x K.length).length = (W'.map crow).length := by omega
          (try (conv => whnf)); repeat' (first | refine Ok.seq ?_ | refine OkL.cons ?_ | ((first | refine Ok.region tok ?_ | refine Ok.region_draw tok follows (by kernel_rfl) ?_ | refine Ok.cond ?_); conv => whnf) | refine Ok.block ?_ | ((first | refine Ok.skip ?_ | refine Ok.exit ?_ | refine Ok.ret ?_ | refine nI ?_ | refine ix _ (by assumption) ?_ | refine ixI (by omega) (by assumption) ?_ | refine ix_new _ (by omega) fun _ _ => ?_ | refine ixI_new (by omega) (by omega) fun _ _ => ?_ | refine ⟨_, by assumption, ?_⟩ | refine Alt2.l (aI ?_) | refine Alt2.r (aI ?_)); conv => whnf) | (refine Ok.scope ?_) | ((first | refine Ok.label ?_ | refine rd rfl (by assumption) ?_ | refine ⟨_, .inl ⟨rfl, rfl⟩, ?_⟩ | refine ⟨_, _, rfl, rfl, ?_⟩); conv => whnf) | (refine ⟨fun _ => ?_, fun _ => ?_⟩ <;> (conv => whnf) <;> (try (exfalso; omega))) | ((first | refine aJ ?_ | refine num_any ?_ | refine ⟨_, rfl, ?_⟩); conv => whnf) | fail)
          refine ⟨(i + 1, W' ++ [x]), by dsimp only; omega, sg hm, ?_⟩
          dsimp only
          rw [se, List.map_append]
          (conv => whnf)
          simp [envCat, hm]
        · have hle2 := hM.tk
          have hlt : (leftOf inL K x K.length).length < W'.length := by
            have := congrArg List.length hM.tk
            rw [List.length_take] at this
            omega
          have hlt2 : (leftOf inL K x K.length).length < (W'.map crow).length := by omega
          (try (conv => whnf)); repeat' (first | refine Ok.seq ?_ | refine OkL.cons ?_ | ((first | refine Ok.region tok ?_ | refine Ok.region_draw tok follows (by kernel_rfl) ?_ | refine Ok.cond ?_); conv => whnf) | refine Ok.block ?_ | ((first | refine Ok.skip ?_ | refine Ok.exit ?_ | refine Ok.ret ?_ | refine nI ?_ | refine ix _ (by assumption) ?_ | refine ixI (by omega) (by assumption) ?_ | refine ix_new _ (by omega) fun _ _ => ?_ | refine ixI_new (by omega) (by omega) fun _ _ => ?_ | refine ⟨_, by assumption, ?_⟩ | refine Alt2.l (aI ?_) | refine Alt2.r (aI ?_)); conv => whnf) | (refine Ok.scope ?_) | ((first | refine Ok.label ?_ | refine rd rfl (by assumption) ?_ | refine ⟨_, .inl ⟨rfl, rfl⟩, ?_⟩ | refine ⟨_, _, rfl, rfl, ?_⟩); conv => whnf) | (refine ⟨fun _ => ?_, fun _ => ?_⟩ <;> (conv => whnf) <;> (try (exfalso; omega))) | ((first | refine aJ ?_ | refine num_any ?_ | refine ⟨_, rfl, ?_⟩); conv => whnf) | fail)
          refine ⟨(i + 1, W'.set (leftOf inL K x K.length).length x), by dsimp only; omega, sl hlt, ?_⟩
          dsimp only
          rw [se, List.length_append, List.map_set]
          (conv => whnf)
          rfl
  · have hie : i = l.length := by omega
    subst hie
    rw [List.take_length] at *
    (try (conv => whnf)); repeat' (first | refine Ok.seq ?_ | refine OkL.cons ?_ | ((first | refine Ok.region tok ?_ | refine Ok.region_draw tok follows (by kernel_rfl) ?_ | refine Ok.cond ?_); conv => whnf) | refine Ok.block ?_ | ((first | refine Ok.skip ?_ | refine Ok.exit ?_ | refine Ok.ret ?_ | refine nI ?_ | refine ix _ (by assumption) ?_ | refine ixI (by omega) (by assumption) ?_ | refine ix_new _ (by omega) fun _ _ => ?_ | refine ixI_new (by omega) (by omega) fun _ _ => ?_ | refine ⟨_, by assumption, ?_⟩ | refine Alt2.l (aI ?_) | refine Alt2.r (aI ?_)); conv => whnf) | (refine Ok.scope ?_) | ((first | refine Ok.label ?_ | refine rd rfl (by assumption) ?_ | refine ⟨_, .inl ⟨rfl, rfl⟩, ?_⟩ | refine ⟨_, _, rfl, rfl, ?_⟩); conv => whnf) | (refine ⟨fun _ => ?_, fun _ => ?_⟩ <;> (conv => whnf) <;> (try (exfalso; omega))) | ((first | refine aJ ?_ | refine num_any ?_ | refine ⟨_, rfl, ?_⟩); conv => whnf) | fail)
    refine Or.inr (Or.inl ?_); (conv => whnf)
    exact ⟨W, hK, rfl, rfl⟩
structure TR where
  t : Term
  room : List (List D)
@[reducible] def trow (x : TR) : List D := [.i .i64 (x.t.p.length : Int), .i .u64 ((wof (car x.t.p) 0).toNat : Int), .i .u64 ((wof (car x.t.p) 1).toNat : Int), .i .u64 ((wof (car x.t.p) 2).toNat : Int), .i .u64 ((wof (car x.t.p) 3).toNat : Int), .i .u64 ((wof (one x.t.p) 0).toNat : Int), .i .u64 ((wof (one x.t.p) 1).toNat : Int), .i .u64 ((wof (one x.t.p) 2).toNat : Int), .i .u64 ((wof (one x.t.p) 3).toNat : Int), .lst 46 (x.t.less.map crow) x.room, .s x.t.key]
structure TN (x : TR) : Prop where
  p : CN x.t.p
  less : ∀ m ∈ x.t.less, CN m
  n : x.t.less.length ≤ 1048576
def covR (a b : TR) : Prop := covT a.t b.t
set_option maxHeartbeats 4000000 in
theorem covered_at {a b : TR} (ha : TN a) (hb : TN b) : FSpec Tryz.prog T 114 [.agg (trow a), .agg (trow b)] (fun r _ => r = .b (covR a b)) := by
  refine FSpec.of_ok tok Tryz.func114 rfl Tryz.call114 (by simp) ?_
  (try (conv => whnf)); repeat' (first | refine Ok.seq ?_ | refine OkL.cons ?_ | ((first | refine Ok.region tok ?_ | refine Ok.region_draw tok follows (by kernel_rfl) ?_ | refine Ok.cond ?_); conv => whnf) | refine Ok.block ?_ | ((first | refine Ok.skip ?_ | refine Ok.exit ?_ | refine Ok.ret ?_ | refine nI ?_ | refine ix _ (by assumption) ?_ | refine ixI (by omega) (by assumption) ?_ | refine ix_new _ (by omega) fun _ _ => ?_ | refine ixI_new (by omega) (by omega) fun _ _ => ?_ | refine ⟨_, by assumption, ?_⟩); conv => whnf) | (refine Or.inl ?_; (conv => whnf); (repeat (refine aI ?_; conv => whnf)); refine ⟨_, within_at a.t.p b.t.p ha.p.1 hb.p.1, rfl, ?_⟩; conv => whnf) | (refine ⟨_, within_at a.t.p b.t.p ha.p.1 hb.p.1, rfl, ?_⟩; conv => whnf) | (refine Or.inr (Or.inl ?_); (conv => whnf); (repeat (refine aI ?_; conv => whnf)); refine ⟨_, within_at a.t.p b.t.p ha.p.1 hb.p.1, ?_⟩; rintro _ _ ⟨rfl, rfl⟩; conv => whnf) | ((first | refine Alt2.l (aI ?_) | refine Alt2.r (aI ?_)); conv => whnf) | (refine Ok.scope ?_) | ((first | refine Ok.label ?_ | refine rd rfl (by assumption) ?_ | refine ⟨_, .inl ⟨rfl, rfl⟩, ?_⟩ | refine ⟨_, _, rfl, rfl, ?_⟩); conv => whnf) | (refine ⟨fun _ => ?_, fun _ => ?_⟩ <;> (conv => whnf) <;> (try (exfalso; omega))) | ((first | refine aJ ?_ | refine num_any ?_ | refine ⟨_, rfl, ?_⟩); conv => whnf) | fail)
  · rename_i h
    refine Or.inl ?_; (conv => whnf)
    show D.b False = _
    exact congrArg D.b (propext ⟨fun h => h.elim, fun h2 => h h2.1⟩)
  · rename_i h
    have hin : inT a.t.p b.t.p := Classical.not_not.1 h
    have hbn := hb.n
    have han := ha.n
    have hbl : (b.t.less.map crow).length = b.t.less.length := by simp
    have hal : (a.t.less.map crow).length = a.t.less.length := by simp
    refine Ok.loopU [2, 18, 19] [20] 0 2 (fun (i : Nat) => [.i .i64 (i : Nat)]) (fun _ b => b) (fun _ r => r) (fun (i : Nat) => i ≤ b.t.less.length ∧ ∀ m ∈ b.t.less.take i, ∀ c, meetT m a.t.p = some c → ∃ n ∈ a.t.less, inT c n) (fun (i : Nat) => b.t.less.length - i) (0) (⟨Nat.zero_le _, by simp⟩) ?_; (conv => whnf); refine ⟨by ((conv => whnf); first | rfl | (simp [envCat, List.take_of_length_le, cells9]; done) | (simp [envCat, List.take_of_length_le, cells9]; rw [IntKind.wrap_i64]; omega)), ?_⟩
    rintro i ⟨hi, hall⟩
    (conv => whnf)
    by_cases hil : i < b.t.less.length
    · obtain ⟨m, hm⟩ : ∃ m, b.t.less[i]? = some m := ⟨_, List.getElem?_eq_getElem hil⟩
      have hmo := hb.less m (List.mem_of_getElem? hm)
      have step : (∀ c, meetT m a.t.p = some c → ∃ n ∈ a.t.less, inT c n) → ∀ z ∈ b.t.less.take (i + 1), ∀ c, meetT z a.t.p = some c → ∃ n ∈ a.t.less, inT c n := fun h z hz => by
        rw [List.take_add_one, hm] at hz
        rcases List.mem_append.1 hz with hz | hz
        · exact hall z hz
        · simp at hz; rw [hz]; exact h
      cases hmt : meetT m a.t.p with
      | none =>
        have hsp := meet_at m a.t.p hmo.1 ha.p.1
        rw [hmt] at hsp
        (try (conv => whnf)); repeat' (first | refine Ok.seq ?_ | refine OkL.cons ?_ | ((first | refine Ok.region tok ?_ | refine Ok.region_draw tok follows (by kernel_rfl) ?_ | refine Ok.cond ?_); conv => whnf) | refine Ok.block ?_ | ((first | refine Ok.skip ?_ | refine Ok.exit ?_ | refine Ok.ret ?_ | refine nI ?_ | refine ix _ (by assumption) ?_ | refine ixI (by omega) (by assumption) ?_ | refine ix_new _ (by omega) fun _ _ => ?_ | refine ixI_new (by omega) (by omega) fun _ _ => ?_ | refine ⟨_, by assumption, ?_⟩); conv => whnf) | (refine Or.inl ?_; (conv => whnf); (repeat (refine aI ?_; conv => whnf)); refine ⟨_, hsp, rfl, ?_⟩; conv => whnf) | (refine ⟨_, hsp, rfl, ?_⟩; conv => whnf) | (refine Or.inr (Or.inl ?_); (conv => whnf); (repeat (refine aI ?_; conv => whnf)); refine ⟨_, hsp, ?_⟩; rintro _ _ ⟨rfl, rfl⟩; conv => whnf) | ((first | refine Alt2.l (aI ?_) | refine Alt2.r (aI ?_)); conv => whnf) | (refine Ok.scope ?_) | ((first | refine Ok.label ?_ | refine rd rfl (by assumption) ?_ | refine ⟨_, .inl ⟨rfl, rfl⟩, ?_⟩ | refine ⟨_, _, rfl, rfl, ?_⟩); conv => whnf) | (refine ⟨fun _ => ?_, fun _ => ?_⟩ <;> (conv => whnf) <;> (try (exfalso; omega))) | ((first | refine aJ ?_ | refine num_any ?_ | refine ⟨_, rfl, ?_⟩); conv => whnf) | fail)
        · refine ⟨i + 1, by omega, ⟨by omega, step fun c hc => by rw [hmt] at hc; cases hc⟩, ?_⟩
          (conv => whnf)
          rfl
        · rename_i h2
          exact absurd (by simp) h2
      | some c =>
        have hsp := meet_at m a.t.p hmo.1 ha.p.1
        have hcc := meetT_ct hmt hmo.1 ha.p.1
        rw [hmt] at hsp
        (try (conv => whnf)); repeat' (first | refine Ok.seq ?_ | refine OkL.cons ?_ | ((first | refine Ok.region tok ?_ | refine Ok.region_draw tok follows (by kernel_rfl) ?_ | refine Ok.cond ?_); conv => whnf) | refine Ok.block ?_ | ((first | refine Ok.skip ?_ | refine Ok.exit ?_ | refine Ok.ret ?_ | refine nI ?_ | refine ix _ (by assumption) ?_ | refine ixI (by omega) (by assumption) ?_ | refine ix_new _ (by omega) fun _ _ => ?_ | refine ixI_new (by omega) (by omega) fun _ _ => ?_ | refine ⟨_, by assumption, ?_⟩); conv => whnf) | (refine Or.inl ?_; (conv => whnf); (repeat (refine aI ?_; conv => whnf)); refine ⟨_, hsp, rfl, ?_⟩; conv => whnf) | (refine ⟨_, hsp, rfl, ?_⟩; conv => whnf) | (refine Or.inr (Or.inl ?_); (conv => whnf); (repeat (refine aI ?_; conv => whnf)); refine ⟨_, hsp, ?_⟩; rintro _ _ ⟨rfl, rfl⟩; conv => whnf) | ((first | refine Alt2.l (aI ?_) | refine Alt2.r (aI ?_)); conv => whnf) | (refine Ok.scope ?_) | ((first | refine Ok.label ?_ | refine rd rfl (by assumption) ?_ | refine ⟨_, .inl ⟨rfl, rfl⟩, ?_⟩ | refine ⟨_, _, rfl, rfl, ?_⟩); conv => whnf) | (refine ⟨fun _ => ?_, fun _ => ?_⟩ <;> (conv => whnf) <;> (try (exfalso; omega))) | ((first | refine aJ ?_ | refine num_any ?_ | refine ⟨_, rfl, ?_⟩); conv => whnf) | fail)
        · rename_i h2
          exact absurd rfl h2
        · refine Ok.loopU [2, 7, 18, 19, 20, 34, 35] [36] 0 4 (fun (j : Nat) => [.i .i64 (j : Nat)]) (fun _ b => b) (fun _ r => r) (fun (j : Nat) => j ≤ a.t.less.length ∧ ∀ n ∈ a.t.less.take j, ¬ inT c n) (fun (j : Nat) => a.t.less.length - j) (0) (⟨Nat.zero_le _, by simp⟩) ?_; (conv => whnf); refine ⟨by ((conv => whnf); first | rfl | (simp [envCat, List.take_of_length_le, cells9]; done) | (simp [envCat, List.take_of_length_le, cells9]; rw [IntKind.wrap_i64]; omega)), ?_⟩
          rintro j ⟨hj, hno⟩
          (conv => whnf)
          by_cases hjl : j < a.t.less.length
          · obtain ⟨n, hn⟩ : ∃ n, a.t.less[j]? = some n := ⟨_, List.getElem?_eq_getElem hjl⟩
            have hno' := ha.less n (List.mem_of_getElem? hn)
            (try (conv => whnf)); repeat' (first | refine Ok.seq ?_ | refine OkL.cons ?_ | ((first | refine Ok.region tok ?_ | refine Ok.region_draw tok follows (by kernel_rfl) ?_ | refine Ok.cond ?_); conv => whnf) | refine Ok.block ?_ | ((first | refine Ok.skip ?_ | refine Ok.exit ?_ | refine Ok.ret ?_ | refine nI ?_ | refine ix _ (by assumption) ?_ | refine ixI (by omega) (by assumption) ?_ | refine ix_new _ (by omega) fun _ _ => ?_ | refine ixI_new (by omega) (by omega) fun _ _ => ?_ | refine ⟨_, by assumption, ?_⟩); conv => whnf) | (refine Or.inl ?_; (conv => whnf); (repeat (refine aI ?_; conv => whnf)); refine ⟨_, within_at c n hcc.1 hno'.1, rfl, ?_⟩; conv => whnf) | (refine ⟨_, within_at c n hcc.1 hno'.1, rfl, ?_⟩; conv => whnf) | (refine Or.inr (Or.inl ?_); (conv => whnf); (repeat (refine aI ?_; conv => whnf)); refine ⟨_, within_at c n hcc.1 hno'.1, ?_⟩; rintro _ _ ⟨rfl, rfl⟩; conv => whnf) | ((first | refine Alt2.l (aI ?_) | refine Alt2.r (aI ?_)); conv => whnf) | (refine Ok.scope ?_) | ((first | refine Ok.label ?_ | refine rd rfl (by assumption) ?_ | refine ⟨_, .inl ⟨rfl, rfl⟩, ?_⟩ | refine ⟨_, _, rfl, rfl, ?_⟩); conv => whnf) | (refine ⟨fun _ => ?_, fun _ => ?_⟩ <;> (conv => whnf) <;> (try (exfalso; omega))) | ((first | refine aJ ?_ | refine num_any ?_ | refine ⟨_, rfl, ?_⟩); conv => whnf) | fail)
            · rename_i hcn
              refine ⟨i + 1, by omega, ⟨by omega, step fun c' hc' => ?_⟩, ?_⟩
              · rw [hmt] at hc'
                cases hc'
                exact ⟨n, List.mem_of_getElem? hn, hcn⟩
              · (conv => whnf)
                rfl
            · rename_i hcn
              refine ⟨j + 1, by omega, ⟨by omega, fun z hz => ?_⟩, ?_⟩
              · rw [List.take_add_one, hn] at hz
                rcases List.mem_append.1 hz with hz | hz
                · exact hno z hz
                · simp at hz; rw [hz]; exact hcn
              · (conv => whnf)
                rfl
          · have hje : j = a.t.less.length := by omega
            subst hje
            rw [List.take_length] at hno
            (try (conv => whnf)); repeat' (first | refine Ok.seq ?_ | refine OkL.cons ?_ | ((first | refine Ok.region tok ?_ | refine Ok.region_draw tok follows (by kernel_rfl) ?_ | refine Ok.cond ?_); conv => whnf) | refine Ok.block ?_ | ((first | refine Ok.skip ?_ | refine Ok.exit ?_ | refine Ok.ret ?_ | refine nI ?_ | refine ix _ (by assumption) ?_ | refine ixI (by omega) (by assumption) ?_ | refine ix_new _ (by omega) fun _ _ => ?_ | refine ixI_new (by omega) (by omega) fun _ _ => ?_ | refine ⟨_, by assumption, ?_⟩ | refine Alt2.l (aI ?_) | refine Alt2.r (aI ?_)); conv => whnf) | (refine Ok.scope ?_) | ((first | refine Ok.label ?_ | refine rd rfl (by assumption) ?_ | refine ⟨_, .inl ⟨rfl, rfl⟩, ?_⟩ | refine ⟨_, _, rfl, rfl, ?_⟩); conv => whnf) | (refine ⟨fun _ => ?_, fun _ => ?_⟩ <;> (conv => whnf) <;> (try (exfalso; omega))) | ((first | refine aJ ?_ | refine num_any ?_ | refine ⟨_, rfl, ?_⟩); conv => whnf) | fail)
            refine Or.inl ?_; (conv => whnf)
            show D.b False = _
            refine congrArg D.b (propext ⟨fun h => h.elim, fun h2 => ?_⟩)
            obtain ⟨n, hn, hcn⟩ := h2.2 m (List.mem_of_getElem? hm) c hmt
            exact hno n hn hcn
    · have hie : i = b.t.less.length := by omega
      subst hie
      rw [List.take_length] at hall
      (try (conv => whnf)); repeat' (first | refine Ok.seq ?_ | refine OkL.cons ?_ | ((first | refine Ok.region tok ?_ | refine Ok.region_draw tok follows (by kernel_rfl) ?_ | refine Ok.cond ?_); conv => whnf) | refine Ok.block ?_ | ((first | refine Ok.skip ?_ | refine Ok.exit ?_ | refine Ok.ret ?_ | refine nI ?_ | refine ix _ (by assumption) ?_ | refine ixI (by omega) (by assumption) ?_ | refine ix_new _ (by omega) fun _ _ => ?_ | refine ixI_new (by omega) (by omega) fun _ _ => ?_ | refine ⟨_, by assumption, ?_⟩ | refine Alt2.l (aI ?_) | refine Alt2.r (aI ?_)); conv => whnf) | (refine Ok.scope ?_) | ((first | refine Ok.label ?_ | refine rd rfl (by assumption) ?_ | refine ⟨_, .inl ⟨rfl, rfl⟩, ?_⟩ | refine ⟨_, _, rfl, rfl, ?_⟩); conv => whnf) | (refine ⟨fun _ => ?_, fun _ => ?_⟩ <;> (conv => whnf) <;> (try (exfalso; omega))) | ((first | refine aJ ?_ | refine num_any ?_ | refine ⟨_, rfl, ?_⟩); conv => whnf) | fail)
      refine Or.inl ?_; (conv => whnf)
      show D.b True = _
      exact congrArg D.b (propext ⟨fun _ => ⟨hin, hall⟩, fun _ => trivial⟩)
set_option maxRecDepth 100000 in
set_option maxHeartbeats 4000000 in
theorem greatestT_at (l : List TR) {rl room : List (List D)} (hl : l.length ≤ 1048576) (hok : ∀ x ∈ l, TN x) (h : rl = l.map trow) : FSpec Tryz.prog T 113 [.lst 112 rl room, .fn 114 [] []]
    (fun d rows => ∃ W : List TR, Kept covR l l.length W ∧ d = .own 0 (grG covR l).length ∧ rows = [some (112, W.map trow)]) := by
  subst h
  have hll : (l.map trow).length = l.length := by simp
  refine FSpec.of_ok tok Tryz.func113 rfl Tryz.call113 (by simp) ?_
  (try (conv => whnf)); repeat' (first | refine Ok.seq ?_ | refine OkL.cons ?_ | ((first | refine Ok.region tok ?_ | refine Ok.cond ?_); conv => whnf) | refine Ok.block ?_ | ((first | refine Ok.skip ?_ | refine Ok.exit ?_ | refine Ok.ret ?_ | refine nI ?_ | refine ix _ (by assumption) ?_ | refine ixI (by omega) (by assumption) ?_ | refine ix_new _ (by omega) fun _ _ => ?_ | refine ixI_new (by omega) (by omega) fun _ _ => ?_ | refine ⟨_, by assumption, ?_⟩ | refine Alt2.l (aI ?_) | refine Alt2.r (aI ?_)); conv => whnf) | (refine Ok.scope ?_) | ((first | refine Ok.label ?_ | refine rd rfl (by assumption) ?_ | refine ⟨_, .inl ⟨rfl, rfl⟩, ?_⟩ | refine ⟨_, _, rfl, rfl, ?_⟩); conv => whnf) | (refine ⟨fun _ => ?_, fun _ => ?_⟩ <;> (conv => whnf) <;> (try (exfalso; omega))) | ((first | refine aJ ?_ | refine num_any ?_ | refine ⟨_, rfl, ?_⟩); conv => whnf) | fail)
  refine Ok.ghost 5 112 rfl ?_
  (conv => whnf)
  refine Ok.loopU [1, 13, 14] [5, 15] 1 0 (fun (x : Nat × List TR) => [.own 0 (grG covR (l.take x.1)).length, .i .i64 (x.1 : Nat)]) (fun _ b => b) (fun (x : Nat × List TR) (_ : Vx.Rows) => [some (112, x.2.map trow)]) (fun (x : Nat × List TR) => Kept covR l x.1 x.2) (fun (x : Nat × List TR) => l.length - x.1) ((0, [])) (Kept.zero) ?_; (conv => whnf); refine ⟨by ((conv => whnf); first | rfl | (simp [envCat, List.take_of_length_le, cells9]; done) | (simp [envCat, List.take_of_length_le, cells9]; rw [IntKind.wrap_i64]; omega)), ?_⟩
  rintro ⟨i, W⟩ hK
  dsimp only at hK ⊢
  have hWl : (W.map trow).length = W.length := by simp
  have hKn := hK.n
  have hKw := hK.w
  have hKi := hK.le
  (conv => whnf)
  by_cases hil : i < l.length
  · obtain ⟨x, hx⟩ : ∃ x, l[i]? = some x := ⟨_, List.getElem?_eq_getElem hil⟩
    have hxo := hok x (List.mem_of_getElem? hx)
    have hmem : ∀ y ∈ grG covR (l.take i), TN y := fun y hy => hok y (List.take_subset _ _ (grG_sub covR _ y hy))
    (try (conv => whnf)); repeat' (first | refine Ok.seq ?_ | refine OkL.cons ?_ | ((first | refine Ok.region tok ?_ | refine Ok.region_draw tok follows (by kernel_rfl) ?_ | refine Ok.cond ?_); conv => whnf) | refine Ok.block ?_ | ((first | refine Ok.skip ?_ | refine Ok.exit ?_ | refine Ok.ret ?_ | refine nI ?_ | refine ix _ (by assumption) ?_ | refine ixI (by omega) (by assumption) ?_ | refine ix_new _ (by omega) fun _ _ => ?_ | refine ixI_new (by omega) (by omega) fun _ _ => ?_ | refine ⟨_, by assumption, ?_⟩ | refine Alt2.l (aI ?_) | refine Alt2.r (aI ?_)); conv => whnf) | (refine Ok.scope ?_) | ((first | refine Ok.label ?_ | refine rd rfl (by assumption) ?_ | refine ⟨_, .inl ⟨rfl, rfl⟩, ?_⟩ | refine ⟨_, _, rfl, rfl, ?_⟩); conv => whnf) | (refine ⟨fun _ => ?_, fun _ => ?_⟩ <;> (conv => whnf) <;> (try (exfalso; omega))) | ((first | refine aJ ?_ | refine num_any ?_ | refine ⟨_, rfl, ?_⟩); conv => whnf) | fail)
    generalize hKK : grG covR (l.take i) = K at *
    refine Ok.loopU [1, 5, 7, 13, 14, 15, 19, 20] [21] 1 1 (fun (j : Nat) => [.i .i64 (j : Nat)]) (fun _ b => b) (fun _ r => r) (fun (j : Nat) => j ≤ K.length ∧ ∀ y ∈ K.take j, ¬ covR x y) (fun (j : Nat) => K.length - j) (0) (⟨Nat.zero_le _, by simp⟩) ?_; (conv => whnf); refine ⟨by ((conv => whnf); first | rfl | (simp [envCat, List.take_of_length_le, cells9]; done) | (simp [envCat, List.take_of_length_le, cells9]; rw [IntKind.wrap_i64]; omega)), ?_⟩
    rintro j ⟨hj, hno⟩
    (conv => whnf)
    by_cases hjl : j < K.length
    · obtain ⟨y, hy⟩ : ∃ y, K[j]? = some y := ⟨_, List.getElem?_eq_getElem hjl⟩
      have hyo := hmem y (List.mem_of_getElem? hy)
      have hWj : W[((j : Nat) : Int).toNat]? = some y := by
        have := hK.get (j := j) (by rw [hKK]; exact hjl)
        rw [hKK, hy] at this
        exact this
      (try (conv => whnf)); repeat' (first | refine Ok.seq ?_ | refine OkL.cons ?_ | ((first | refine Ok.region tok ?_ | refine Ok.region_draw tok follows (by kernel_rfl) ?_ | refine Ok.cond ?_); conv => whnf) | refine Ok.block ?_ | ((first | refine Ok.skip ?_ | refine Ok.exit ?_ | refine Ok.ret ?_ | refine nI ?_ | refine ix _ (by assumption) ?_ | refine ixI (by omega) (by assumption) ?_ | refine ix_new _ (by omega) fun _ _ => ?_ | refine ixI_new (by omega) (by omega) fun _ _ => ?_ | refine ⟨_, by assumption, ?_⟩); conv => whnf) | (refine Or.inl ?_; (conv => whnf); (repeat (refine aI ?_; conv => whnf)); refine ⟨_, covered_at hxo hyo, rfl, ?_⟩; conv => whnf) | (refine ⟨_, covered_at hxo hyo, rfl, ?_⟩; conv => whnf) | (refine Or.inr (Or.inl ?_); (conv => whnf); (repeat (refine aI ?_; conv => whnf)); refine ⟨_, covered_at hxo hyo, ?_⟩; rintro _ _ ⟨rfl, rfl⟩; conv => whnf) | ((first | refine Alt2.l (aI ?_) | refine Alt2.r (aI ?_)); conv => whnf) | (refine Ok.scope ?_) | ((first | refine Ok.label ?_ | refine rd rfl (by assumption) ?_ | refine ⟨_, .inl ⟨rfl, rfl⟩, ?_⟩ | refine ⟨_, _, rfl, rfl, ?_⟩); conv => whnf) | (refine ⟨fun _ => ?_, fun _ => ?_⟩ <;> (conv => whnf) <;> (try (exfalso; omega))) | ((first | refine aJ ?_ | refine num_any ?_ | refine ⟨_, rfl, ?_⟩); conv => whnf) | fail)
      · rename_i hxy
        have hin : ∃ y ∈ grG covR (l.take i), covR x y := ⟨y, by rw [hKK]; exact List.mem_of_getElem? hy, hxy⟩
        obtain ⟨hs, he⟩ := hK.skip hx hin
        refine ⟨(i + 1, W), by dsimp only; omega, hs, ?_⟩
        dsimp only
        rw [he, hKK]
        (conv => whnf)
        rfl
      · rename_i hxy
        refine ⟨j + 1, by omega, ⟨by omega, fun z hz => ?_⟩, ?_⟩
        · rw [List.take_add_one, hy] at hz
          rcases List.mem_append.1 hz with hz | hz
          · exact hno z hz
          · simp at hz; rw [hz]; exact hxy
        · (conv => whnf)
          rfl
    · have hje : j = K.length := by omega
      subst hje
      rw [List.take_length] at hno
      (try (conv => whnf)); repeat' (first | refine Ok.seq ?_ | refine OkL.cons ?_ | ((first | refine Ok.region tok ?_ | refine Ok.region_draw tok follows (by kernel_rfl) ?_ | refine Ok.cond ?_); conv => whnf) | refine Ok.block ?_ | ((first | refine Ok.skip ?_ | refine Ok.exit ?_ | refine Ok.ret ?_ | refine nI ?_ | refine ix _ (by assumption) ?_ | refine ixI (by omega) (by assumption) ?_ | refine ix_new _ (by omega) fun _ _ => ?_ | refine ixI_new (by omega) (by omega) fun _ _ => ?_ | refine ⟨_, by assumption, ?_⟩ | refine Alt2.l (aI ?_) | refine Alt2.r (aI ?_)); conv => whnf) | (refine Ok.scope ?_) | ((first | refine Ok.label ?_ | refine rd rfl (by assumption) ?_ | refine ⟨_, .inl ⟨rfl, rfl⟩, ?_⟩ | refine ⟨_, _, rfl, rfl, ?_⟩); conv => whnf) | (refine ⟨fun _ => ?_, fun _ => ?_⟩ <;> (conv => whnf) <;> (try (exfalso; omega))) | ((first | refine aJ ?_ | refine num_any ?_ | refine ⟨_, rfl, ?_⟩); conv => whnf) | fail)
      refine ⟨0, rfl, rfl, by omega, ?_⟩
      (try (conv => whnf)); repeat' (first | refine Ok.seq ?_ | refine OkL.cons ?_ | ((first | refine Ok.region tok ?_ | refine Ok.region_draw tok follows (by kernel_rfl) ?_ | refine Ok.cond ?_); conv => whnf) | refine Ok.block ?_ | ((first | refine Ok.skip ?_ | refine Ok.exit ?_ | refine Ok.ret ?_ | refine nI ?_ | refine ix _ (by assumption) ?_ | refine ixI (by omega) (by assumption) ?_ | refine ix_new _ (by omega) fun _ _ => ?_ | refine ixI_new (by omega) (by omega) fun _ _ => ?_ | refine ⟨_, by assumption, ?_⟩ | refine Alt2.l (aI ?_) | refine Alt2.r (aI ?_)); conv => whnf) | (refine Ok.scope ?_) | ((first | refine Ok.label ?_ | refine rd rfl (by assumption) ?_ | refine ⟨_, .inl ⟨rfl, rfl⟩, ?_⟩ | refine ⟨_, _, rfl, rfl, ?_⟩); conv => whnf) | (refine ⟨fun _ => ?_, fun _ => ?_⟩ <;> (conv => whnf) <;> (try (exfalso; omega))) | ((first | refine aJ ?_ | refine num_any ?_ | refine ⟨_, rfl, ?_⟩); conv => whnf) | fail)
      refine Ok.loopU [1, 7, 13, 14, 15, 32, 33] [10, 34] 1 1 (fun (z : Nat × List TR) => [.own 0 (leftOf covR K x z.1).length, .i .i64 (z.1 : Nat)]) (fun _ b => b) (fun (z : Nat × List TR) (_ : Vx.Rows) => [some (112, z.2.map trow)]) (fun (z : Nat × List TR) => Mid covR K x W z.1 z.2) (fun (z : Nat × List TR) => K.length - z.1) ((0, W)) (Mid.zero) ?_; (conv => whnf); refine ⟨by ((conv => whnf); first | rfl | (simp [envCat, List.take_of_length_le, cells9]; done) | (simp [envCat, List.take_of_length_le, cells9]; rw [IntKind.wrap_i64]; omega)), ?_⟩
      rintro ⟨k, W'⟩ hM
      dsimp only at hM ⊢
      have hMk := hM.le
      have hMl := hM.len
      have hWl' : (W'.map trow).length = W'.length := by simp
      have hkept : W.take K.length = K := by
        have := hK.tk
        rw [hKK] at this
        exact this
      (conv => whnf)
      by_cases hkl : k < K.length
      · obtain ⟨y, hy⟩ : ∃ y, K[k]? = some y := ⟨_, List.getElem?_eq_getElem hkl⟩
        have hyo := hmem y (List.mem_of_getElem? hy)
        have hWj : W'[((k : Nat) : Int).toNat]? = some y := by
          rw [toNat_cast, hM.get hkept hkl, hy]
        by_cases hyx : covR y x
        · obtain ⟨hd, he⟩ := hM.drop hy hyx
          (try (conv => whnf)); repeat' (first | refine Ok.seq ?_ | refine OkL.cons ?_ | ((first | refine Ok.region tok ?_ | refine Ok.region_draw tok follows (by kernel_rfl) ?_ | refine Ok.cond ?_); conv => whnf) | refine Ok.block ?_ | ((first | refine Ok.skip ?_ | refine Ok.exit ?_ | refine Ok.ret ?_ | refine nI ?_ | refine ix _ (by assumption) ?_ | refine ixI (by omega) (by assumption) ?_ | refine ix_new _ (by omega) fun _ _ => ?_ | refine ixI_new (by omega) (by omega) fun _ _ => ?_ | refine ⟨_, by assumption, ?_⟩); conv => whnf) | (refine Or.inl ?_; (conv => whnf); (repeat (refine aI ?_; conv => whnf)); refine ⟨_, covered_at hyo hxo, rfl, ?_⟩; conv => whnf) | (refine ⟨_, covered_at hyo hxo, rfl, ?_⟩; conv => whnf) | (refine Or.inr (Or.inl ?_); (conv => whnf); (repeat (refine aI ?_; conv => whnf)); refine ⟨_, covered_at hyo hxo, ?_⟩; rintro _ _ ⟨rfl, rfl⟩; conv => whnf) | ((first | refine Alt2.l (aI ?_) | refine Alt2.r (aI ?_)); conv => whnf) | (refine Ok.scope ?_) | ((first | refine Ok.label ?_ | refine rd rfl (by assumption) ?_ | refine ⟨_, .inl ⟨rfl, rfl⟩, ?_⟩ | refine ⟨_, _, rfl, rfl, ?_⟩); conv => whnf) | (refine ⟨fun _ => ?_, fun _ => ?_⟩ <;> (conv => whnf) <;> (try (exfalso; omega))) | ((first | refine aJ ?_ | refine num_any ?_ | refine ⟨_, rfl, ?_⟩); conv => whnf) | fail)
          · exact absurd hyx (by assumption)
          · refine ⟨(k + 1, W'), by dsimp only; omega, hd, ?_⟩
            dsimp only
            rw [he]
            (conv => whnf)
            rfl
        · obtain ⟨hd, he, hlt⟩ := hM.keep hKn hy hyx
          have hlt2 : (leftOf covR K x k).length < (W'.map trow).length := by omega
          have hnle : ¬ (leftOf covR K x k).length = (W'.map trow).length := by omega
          (try (conv => whnf)); repeat' (first | refine Ok.seq ?_ | refine OkL.cons ?_ | ((first | refine Ok.region tok ?_ | refine Ok.region_draw tok follows (by kernel_rfl) ?_ | refine Ok.cond ?_); conv => whnf) | refine Ok.block ?_ | ((first | refine Ok.skip ?_ | refine Ok.exit ?_ | refine Ok.ret ?_ | refine nI ?_ | refine ix _ (by assumption) ?_ | refine ixI (by omega) (by assumption) ?_ | refine ix_new _ (by omega) fun _ _ => ?_ | refine ixI_new (by omega) (by omega) fun _ _ => ?_ | refine ⟨_, by assumption, ?_⟩); conv => whnf) | (refine Or.inl ?_; (conv => whnf); (repeat (refine aI ?_; conv => whnf)); refine ⟨_, covered_at hyo hxo, rfl, ?_⟩; conv => whnf) | (refine ⟨_, covered_at hyo hxo, rfl, ?_⟩; conv => whnf) | (refine Or.inr (Or.inl ?_); (conv => whnf); (repeat (refine aI ?_; conv => whnf)); refine ⟨_, covered_at hyo hxo, ?_⟩; rintro _ _ ⟨rfl, rfl⟩; conv => whnf) | ((first | refine Alt2.l (aI ?_) | refine Alt2.r (aI ?_)); conv => whnf) | (refine Ok.scope ?_) | ((first | refine Ok.label ?_ | refine rd rfl (by assumption) ?_ | refine ⟨_, .inl ⟨rfl, rfl⟩, ?_⟩ | refine ⟨_, _, rfl, rfl, ?_⟩); conv => whnf) | (refine ⟨fun _ => ?_, fun _ => ?_⟩ <;> (conv => whnf) <;> (try (exfalso; omega))) | ((first | refine aJ ?_ | refine num_any ?_ | refine ⟨_, rfl, ?_⟩); conv => whnf) | fail)
          · refine ⟨(k + 1, W'.set (leftOf covR K x k).length y), by dsimp only; omega, hd, ?_⟩
            dsimp only
            rw [he, List.length_append, List.map_set]
            (conv => whnf)
            rfl
          · rename_i hh
            exact absurd hyx hh
      · have hke : k = K.length := by omega
        subst hke
        obtain ⟨se, sl, sg⟩ := hK.step hx (by rw [hKK]; exact hno) (by rw [hKK]; exact hM)
        rw [hKK] at se sl sg
        by_cases hm : (leftOf covR K x K.length).length = W'.length
        · have hm2 : (leftOf covR K x K.length).length = (W'.map trow).length := by omega
          (try (conv => whnf)); repeat' (first | refine Ok.seq ?_ | refine OkL.cons ?_ | ((first | refine Ok.region tok ?_ | refine Ok.region_draw tok follows (by kernel_rfl) ?_ | refine Ok.cond ?_); conv => whnf) | refine Ok.block ?_ | ((first | refine Ok.skip ?_ | refine Ok.exit ?_ | refine Ok.ret ?_ | refine nI ?_ | refine ix _ (by assumption) ?_ | refine ixI (by omega) (by assumption) ?_ | refine ix_new _ (by omega) fun _ _ => ?_ | refine ixI_new (by omega) (by omega) fun _ _ => ?_ | refine ⟨_, by assumption, ?_⟩ | refine Alt2.l (aI ?_) | refine Alt2.r (aI ?_)); conv => whnf) | (refine Ok.scope ?_) | ((first | refine Ok.label ?_ | refine rd rfl (by assumption) ?_ | refine ⟨_, .inl ⟨rfl, rfl⟩, ?_⟩ | refine ⟨_, _, rfl, rfl, ?_⟩); conv => whnf) | (refine ⟨fun _ => ?_, fun _ => ?_⟩ <;> (conv => whnf) <;> (try (exfalso; omega))) | ((first | refine aJ ?_ | refine num_any ?_ | refine ⟨_, rfl, ?_⟩); conv => whnf) | fail)
          refine ⟨(i + 1, W' ++ [x]), by dsimp only; omega, sg hm, ?_⟩
          dsimp only
          rw [se, List.map_append]
          (conv => whnf)
          simp [envCat, hm]
        · have hle2 := hM.tk
          have hlt : (leftOf covR K x K.length).length < W'.length := by
            have := congrArg List.length hM.tk
            rw [List.length_take] at this
            omega
          have hlt2 : (leftOf covR K x K.length).length < (W'.map trow).length := by omega
          (try (conv => whnf)); repeat' (first | refine Ok.seq ?_ | refine OkL.cons ?_ | ((first | refine Ok.region tok ?_ | refine Ok.region_draw tok follows (by kernel_rfl) ?_ | refine Ok.cond ?_); conv => whnf) | refine Ok.block ?_ | ((first | refine Ok.skip ?_ | refine Ok.exit ?_ | refine Ok.ret ?_ | refine nI ?_ | refine ix _ (by assumption) ?_ | refine ixI (by omega) (by assumption) ?_ | refine ix_new _ (by omega) fun _ _ => ?_ | refine ixI_new (by omega) (by omega) fun _ _ => ?_ | refine ⟨_, by assumption, ?_⟩ | refine Alt2.l (aI ?_) | refine Alt2.r (aI ?_)); conv => whnf) | (refine Ok.scope ?_) | ((first | refine Ok.label ?_ | refine rd rfl (by assumption) ?_ | refine ⟨_, .inl ⟨rfl, rfl⟩, ?_⟩ | refine ⟨_, _, rfl, rfl, ?_⟩); conv => whnf) | (refine ⟨fun _ => ?_, fun _ => ?_⟩ <;> (conv => whnf) <;> (try (exfalso; omega))) | ((first | refine aJ ?_ | refine num_any ?_ | refine ⟨_, rfl, ?_⟩); conv => whnf) | fail)
          refine ⟨(i + 1, W'.set (leftOf covR K x K.length).length x), by dsimp only; omega, sl hlt, ?_⟩
          dsimp only
          rw [se, List.length_append, List.map_set]
          (conv => whnf)
          rfl
  · have hie : i = l.length := by omega
    subst hie
    rw [List.take_length] at *
    (try (conv => whnf)); repeat' (first | refine Ok.seq ?_ | refine OkL.cons ?_ | ((first | refine Ok.region tok ?_ | refine Ok.region_draw tok follows (by kernel_rfl) ?_ | refine Ok.cond ?_); conv => whnf) | refine Ok.block ?_ | ((first | refine Ok.skip ?_ | refine Ok.exit ?_ | refine Ok.ret ?_ | refine nI ?_ | refine ix _ (by assumption) ?_ | refine ixI (by omega) (by assumption) ?_ | refine ix_new _ (by omega) fun _ _ => ?_ | refine ixI_new (by omega) (by omega) fun _ _ => ?_ | refine ⟨_, by assumption, ?_⟩ | refine Alt2.l (aI ?_) | refine Alt2.r (aI ?_)); conv => whnf) | (refine Ok.scope ?_) | ((first | refine Ok.label ?_ | refine rd rfl (by assumption) ?_ | refine ⟨_, .inl ⟨rfl, rfl⟩, ?_⟩ | refine ⟨_, _, rfl, rfl, ?_⟩); conv => whnf) | (refine ⟨fun _ => ?_, fun _ => ?_⟩ <;> (conv => whnf) <;> (try (exfalso; omega))) | ((first | refine aJ ?_ | refine num_any ?_ | refine ⟨_, rfl, ?_⟩); conv => whnf) | fail)
    refine Or.inr (Or.inl ?_); (conv => whnf)
    exact ⟨W, hK, rfl, rfl⟩
end Go.Proofs.YtaiondckookpiaaGreatDoor
namespace Go.Proofs.YtaiondckookpiaaGreatDoor
open Go Go.Vx Go.Shelf Go.RowKit Go.Lib Go.Sort
theorem bExtra : Builder.Extra Tryz.prog Tryz.vxStr_ren where
  sizeBuilder := by kernel_rfl
  liesBuilder := by kernel_rfl
  t5 := by kernel_rfl
  a5 := fun _ => by kernel_rfl
  z5 := fun _ => by kernel_rfl
  v5 := fun _ => by kernel_rfl
  infoByte := by kernel_rfl
  cellsByte := by kernel_rfl
  sizeByte := by kernel_rfl
  neB5 := by decide
theorem strAt : StrC Tryz.prog 111 5 := strC Tryz.vxStr bExtra Tryz.call111
theorem bSize : ∃ j, Tryz.prog.info? 146 = some j ∧ j.size = 2 := Option.map_eq_some_iff.1 (by kernel_rfl : (Tryz.prog.info? 146).map (·.size) = some 2)
theorem bPtr : Tryz.prog.underlying 144 = some (.pointer 146) := by kernel_rfl
theorem bUns : Tryz.prog.underlying 172 = some .unsafePointer := by kernel_rfl
theorem bLies : liesAt Tryz.prog Tryz.prog.depth 146 (2 / Tryz.prog.cellsOf 146) 0 146 1 = true := by kernel_rfl
set_option maxHeartbeats 1000000 in
set_option maxRecDepth 100000 in
theorem copy_used (b : Nat) (w : World) (h0 : w.cell? ⟨b, 0, none⟩ = some (.pointer (some ⟨b, 0, none⟩))) :
    Calls Tryz.prog 132 #[.pointer (some ⟨b, 0, none⟩)] w fun e w' => e = .returned (.tuple #[]) ∧ w' = w := by
  obtain ⟨j, hj, hjs⟩ := bSize
  go_enter Tryz.func132, Tryz.ntmps132
  go_wp2
  rw [Lib.run_neq_ptr_same w _ bPtr hj]
  go_wp2
  go_end0
  exact ⟨rfl, rfl⟩
set_option maxHeartbeats 1000000 in
set_option maxRecDepth 100000 in
theorem copy_fresh (b : Nat) (w : World) (h0 : w.cell? ⟨b, 0, none⟩ = some (.pointer none)) (hsh : w.shape? b = some (146, 2)) (hfz : w.frozen? ⟨b, 0, none⟩ = false) :
    Calls Tryz.prog 132 #[.pointer (some ⟨b, 0, none⟩)] w fun e w' => e = .returned (.tuple #[]) ∧ w' = w.setCell ⟨b, 0, none⟩ (.pointer (some ⟨b, 0, none⟩)) := by
  obtain ⟨j, hj, hjs⟩ := bSize
  go_enter Tryz.func132, Tryz.ntmps132
  go_wp2
  rw [Lib.run_to_unsafe w ⟨b, 0, none⟩ bPtr bUns hj (by rw [hjs]; decide) hsh (Nat.zero_lt_succ 1)]
  simp only [Result.andThen]
  rw [Oper.upon_value]
  go_wp2
  rw [run_callFunc_extern Tryz.func144 (by kernel_rfl) (by kernel_rfl) (by kernel_rfl) (e := Extern.AbiNoEscape.same) (by kernel_rfl)]
  rw [Lib.run_noEscape]
  simp only [Result.andThen]
  rw [Oper.upon_value]
  go_wp2
  rw [Lib.run_from_unsafe w ⟨b, 0, none⟩ bUns bPtr hj hsh bLies]
  simp only [Result.andThen]
  rw [Oper.upon_value]
  go_wp2
  go_end0
  exact ⟨rfl, rfl⟩
theorem copyAt : CopyC Tryz.prog 132 146 := ⟨Tryz.call132, copy_fresh, copy_used⟩
theorem swo_bytes {α : Type} (key : α → List UInt8) : SWO (fun x y : α => Op.bytesLess (key x) (key y)) where
  irrefl := fun x => by
    cases h : Op.bytesLess (key x) (key x) with
    | false => rfl
    | true => exact absurd h (bl_irrefl _)
  trans := fun x y z h k => bl_trans h k
  ntrans := fun x y z h k => by
    cases h2 : Op.bytesLess (key x) (key z) with
    | false => rfl
    | true =>
      exfalso
      by_cases e : key x = key y
      · rw [e, k] at h2; cases h2
      · rcases bl_total e with q | q
        · rw [h] at q; cases q
        · have := bl_trans q h2
          rw [k] at this
          cases this
set_option maxHeartbeats 2000000 in
theorem less_told (blk c Bs size : Nat) (W : World) (G : Nat → List UInt8) (hs : W.cell? ⟨Bs, 0, none⟩ = some (.slice (some ⟨blk, 0, none⟩) size c))
    (hc : ∀ t, t < size → W.cell? ⟨blk, 0 + (t * 10 + 9), none⟩ = some (.string (bstr (G t)))) (i j : Nat) (hi : i < size) (hj : j < size) (_hsz : size < 4611686018427387904) :
    Calls Tryz.prog 122 #[.int .i64 i, .int .i64 j, .pointer (some ⟨Bs, 0, none⟩)] W fun e w' => e = .returned (.bool (Op.bytesLess (G i) (G j))) ∧ ∃ q, w' = W.drewN q := by
  have ci := hc i hi
  have cj := hc j hj
  rw [Nat.zero_add] at ci cj
  go_enter Tryz.func122, Tryz.ntmps122
  go_wp2
  go_quiet (fail)
  go_wp2
  go_ret
  refine ⟨?_, nq, rfl⟩
  show Ending.returned (.bool (Op.bytesLess (bstr (G i)).toList (bstr (G j)).toList)) = _
  rw [bstr_toList, bstr_toList]
noncomputable def sitoldT : TypeInfo := (Tryz.prog.info? 162).get (by kernel_rfl)
noncomputable def sitoldE : TypeInfo := (Tryz.prog.info? 164).get (by kernel_rfl)
theorem sitoldK (n : Nat) (h2 : 2 ≤ n) : Lib.swapperK n sitoldE 25 = 9 := by
  have a : sitoldE.hasPointers = true := by kernel_rfl
  have b : (sitoldE.bytes == 8) = false := by kernel_rfl
  have c : (n == 0) = false := by simp; omega
  have d : (n == 1) = false := by simp; omega
  simp [Lib.swapperK, a, b, c, d]
set_option maxHeartbeats 2000000 in
theorem sort_told : SortC Tryz.prog 115 162 10 9 122 where
  call := Tryz.call115
  conc := by kernel_rfl
  big := fun α _ enc key hk h1 hkey blk c Bs d h2 hsz w hH hblk hBs hB1 hB2 => by
    have hless : LessReadsK Tryz.prog 122 #[.pointer (some ⟨Bs, 0, none⟩)] enc 10 (fun x y => Op.bytesLess (key x) (key y)) blk 0 d.size w := by
      intro m os dk hs i j hi hj
      have e : sortWorldK enc 10 w blk 0 m dk os = putRowK enc 10 (grow (Sort.ahead w m) os) blk 0 dk := by
        unfold sortWorldK; rw [putRowK_grow _ _ (Sort.ahead w m) _ blk 0 _ hblk]
      have hHg : HoldsK enc 10 (grow (Sort.ahead w m) os) blk 0 d := holdsK_grow _ _ _ _ blk 0 d hblk (holdsK_ahead _ _ _ _ _ _ _ hH)
      refine less_told blk c Bs d.size _ (fun t => key dk[t]!) ?_ (fun t ht => ?_) i j hi hj (by omega)
      · rw [e, cell?_putRowK_other _ _ _ blk 0 dk _ (by exact hB2), cell?_grow _ _ _ (by exact hB1)]; exact hBs
      · rw [e]
        have h3 := ((holdsK_putRowK _ _ _ blk 0 d dk hHg hs).cell (i := t) (c := 9) (by omega) (by omega)).1
        refine h3.trans ?_
        exact congrArg some (List.getElem!_of_getElem? (hkey dk[t]!))
    exact Any.sort_Slice_cells_sorted Tryz.vxSort 162 164 sitoldT sitoldE (by kernel_rfl) (by kernel_rfl) (by kernel_rfl) (by kernel_rfl) 25 (fun _ => by kernel_rfl) enc 10 hk (by kernel_rfl) (fun _ => by kernel_rfl)
      h1 _ (swo_bytes key) 122 _
      (enters_of Tryz.func122 (by kernel_rfl) rfl) blk 0 c d h2 hsz 153 (by rw [sitoldK _ h2]; kernel_rfl) false
      (fun args W => run_callFunc_extern Tryz.func153 (by kernel_rfl) (by kernel_rfl) (by kernel_rfl) (e := Extern.ReflectliteSwapper.swap false) (by kernel_rfl) args W) w hless hH hblk
  tiny := fun p n c lb w h1 => by
    rcases Nat.eq_zero_or_pos n with h | h
    · subst h
      exact Any.sort_Slice_tiny Tryz.vxSort 162 164 sitoldT sitoldE (by kernel_rfl) (by kernel_rfl) (by kernel_rfl) (by kernel_rfl) 25 (fun _ => by kernel_rfl) p 0 c h1 145 (by kernel_rfl) (.func 122) #[] lb w
    · obtain rfl : n = 1 := by omega
      exact Any.sort_Slice_tiny Tryz.vxSort 162 164 sitoldT sitoldE (by kernel_rfl) (by kernel_rfl) (by kernel_rfl) (by kernel_rfl) 25 (fun _ => by kernel_rfl) p 1 c h1 146 (by kernel_rfl) (.func 122) #[] lb w
set_option maxHeartbeats 2000000 in
theorem less_term (blk c Bs size : Nat) (W : World) (G : Nat → List UInt8) (hs : W.cell? ⟨Bs, 0, none⟩ = some (.slice (some ⟨blk, 0, none⟩) size c))
    (hc : ∀ t, t < size → W.cell? ⟨blk, 0 + (t * 11 + 10), none⟩ = some (.string (bstr (G t)))) (i j : Nat) (hi : i < size) (hj : j < size) (_hsz : size < 4611686018427387904) :
    Calls Tryz.prog 116 #[.int .i64 i, .int .i64 j, .pointer (some ⟨Bs, 0, none⟩)] W fun e w' => e = .returned (.bool (Op.bytesLess (G i) (G j))) ∧ ∃ q, w' = W.drewN q := by
  have ci := hc i hi
  have cj := hc j hj
  rw [Nat.zero_add] at ci cj
  go_enter Tryz.func116, Tryz.ntmps116
  go_wp2
  go_quiet (fail)
  go_wp2
  go_ret
  refine ⟨?_, nq, rfl⟩
  show Ending.returned (.bool (Op.bytesLess (bstr (G i)).toList (bstr (G j)).toList)) = _
  rw [bstr_toList, bstr_toList]
noncomputable def sitermT : TypeInfo := (Tryz.prog.info? 22).get (by kernel_rfl)
noncomputable def sitermE : TypeInfo := (Tryz.prog.info? 112).get (by kernel_rfl)
theorem sitermK (n : Nat) (h2 : 2 ≤ n) : Lib.swapperK n sitermE 25 = 9 := by
  have a : sitermE.hasPointers = true := by kernel_rfl
  have b : (sitermE.bytes == 8) = false := by kernel_rfl
  have c : (n == 0) = false := by simp; omega
  have d : (n == 1) = false := by simp; omega
  simp [Lib.swapperK, a, b, c, d]
set_option maxHeartbeats 2000000 in
theorem sort_term : SortC Tryz.prog 115 22 11 10 116 where
  call := Tryz.call115
  conc := by kernel_rfl
  big := fun α _ enc key hk h1 hkey blk c Bs d h2 hsz w hH hblk hBs hB1 hB2 => by
    have hless : LessReadsK Tryz.prog 116 #[.pointer (some ⟨Bs, 0, none⟩)] enc 11 (fun x y => Op.bytesLess (key x) (key y)) blk 0 d.size w := by
      intro m os dk hs i j hi hj
      have e : sortWorldK enc 11 w blk 0 m dk os = putRowK enc 11 (grow (Sort.ahead w m) os) blk 0 dk := by
        unfold sortWorldK; rw [putRowK_grow _ _ (Sort.ahead w m) _ blk 0 _ hblk]
      have hHg : HoldsK enc 11 (grow (Sort.ahead w m) os) blk 0 d := holdsK_grow _ _ _ _ blk 0 d hblk (holdsK_ahead _ _ _ _ _ _ _ hH)
      refine less_term blk c Bs d.size _ (fun t => key dk[t]!) ?_ (fun t ht => ?_) i j hi hj (by omega)
      · rw [e, cell?_putRowK_other _ _ _ blk 0 dk _ (by exact hB2), cell?_grow _ _ _ (by exact hB1)]; exact hBs
      · rw [e]
        have h3 := ((holdsK_putRowK _ _ _ blk 0 d dk hHg hs).cell (i := t) (c := 10) (by omega) (by omega)).1
        refine h3.trans ?_
        exact congrArg some (List.getElem!_of_getElem? (hkey dk[t]!))
    exact Any.sort_Slice_cells_sorted Tryz.vxSort 22 112 sitermT sitermE (by kernel_rfl) (by kernel_rfl) (by kernel_rfl) (by kernel_rfl) 25 (fun _ => by kernel_rfl) enc 11 hk (by kernel_rfl) (fun _ => by kernel_rfl)
      h1 _ (swo_bytes key) 116 _
      (enters_of Tryz.func116 (by kernel_rfl) rfl) blk 0 c d h2 hsz 153 (by rw [sitermK _ h2]; kernel_rfl) false
      (fun args W => run_callFunc_extern Tryz.func153 (by kernel_rfl) (by kernel_rfl) (by kernel_rfl) (e := Extern.ReflectliteSwapper.swap false) (by kernel_rfl) args W) w hless hH hblk
  tiny := fun p n c lb w h1 => by
    rcases Nat.eq_zero_or_pos n with h | h
    · subst h
      exact Any.sort_Slice_tiny Tryz.vxSort 22 112 sitermT sitermE (by kernel_rfl) (by kernel_rfl) (by kernel_rfl) (by kernel_rfl) 25 (fun _ => by kernel_rfl) p 0 c h1 145 (by kernel_rfl) (.func 116) #[] lb w
    · obtain rfl : n = 1 := by omega
      exact Any.sort_Slice_tiny Tryz.vxSort 22 112 sitermT sitermE (by kernel_rfl) (by kernel_rfl) (by kernel_rfl) (by kernel_rfl) 25 (fun _ => by kernel_rfl) p 1 c h1 146 (by kernel_rfl) (.func 116) #[] lb w
end Go.Proofs.YtaiondckookpiaaGreatDoor
namespace Go.Proofs.YtaiondckookpiaaGreatDoor
open Go Go.Vx
structure LR where
  l : List Str
  room : List (List D)
@[reducible] def lrow (x : LR) : List D := [.lst 46 (x.l.map crow) x.room]
def allL (lss : List LR) : List Str := (lss.map LR.l).flatten
theorem allL_take {lss : List LR} {i : Nat} {x : LR} (h : lss[i]? = some x) : allL (lss.take (i + 1)) = allL (lss.take i) ++ x.l := by
  unfold allL
  rw [take_snoc h]
  simp
theorem allL_le (lss : List LR) (i : Nat) : (allL (lss.take i)).length ≤ (allL lss).length := by
  unfold allL
  conv => rhs; rw [← List.take_append_drop i lss]
  rw [List.map_append, List.flatten_append, List.length_append]
  omega
theorem allL_le2 {lss : List LR} {i : Nat} {x : LR} (h : lss[i]? = some x) (j : Nat) : (allL (lss.take i) ++ x.l.take j).length ≤ (allL lss).length := by
  have h1 := allL_le lss (i + 1)
  rw [allL_take h] at h1
  simp at h1 ⊢
  omega
@[reducible] def trow2 (x : Str × Str) : List D := [.i .i64 (x.1.length : Int), .i .u64 ((wof (car x.1) 0).toNat : Int), .i .u64 ((wof (car x.1) 1).toNat : Int), .i .u64 ((wof (car x.1) 2).toNat : Int), .i .u64 ((wof (car x.1) 3).toNat : Int), .i .u64 ((wof (one x.1) 0).toNat : Int), .i .u64 ((wof (one x.1) 1).toNat : Int), .i .u64 ((wof (one x.1) 2).toNat : Int), .i .u64 ((wof (one x.1) 3).toNat : Int), .s x.2]
def dup (c : Str) : Str × Str := (c, c)
theorem take_all2 {α : Type} {l : List α} {n : Nat} (h : l.length = n) : l.take n = l := List.take_of_length_le (by omega)
theorem drop_all2 {α : Type} {l : List α} {n : Nat} (h : l.length = n) : l.drop n = [] := List.drop_of_length_le (by omega)
def kf (p : Str) (ks : List Str) (i : Nat) : Str := p ++ (ks.take i).flatten
theorem kf_zero (p : Str) (ks : List Str) : kf p ks 0 = p := by simp [kf]
theorem kf_step {p : Str} {ks : List Str} {i : Nat} {c : Str} (h : ks[i]? = some c) : kf p ks (i + 1) = kf p ks i ++ c := by
  unfold kf
  rw [take_snoc h]
  simp
theorem kf_len {p : Str} {ks : List Str} {i n : Nat} (hp : p.length ≤ 256) (h : ∀ c ∈ ks, c.length ≤ 256) (hi : i ≤ n) : (kf p ks i).length ≤ 256 + n * 256 := by
  have h1 := flat_len (l := ks.take i) (n := 256) fun x hx => h x (List.mem_of_mem_take hx)
  have h2 : (ks.take i).length * 256 ≤ n * 256 := Nat.mul_le_mul_right _ (by simp; omega)
  unfold kf
  rw [List.length_append]
  omega
theorem kf_key {p : Str} {ks : List Str} {n : Nat} (h : ks.length = n) : Term.key ⟨p, ks⟩ = kf p ks n := by
  unfold kf Term.key
  rw [← h, List.take_length]
theorem kf_ne {p : Str} {ks : List Str} {n : Nat} (h : p ≠ []) : kf p ks n ≠ [] := fun e => h (List.append_eq_nil_iff.1 e).1
theorem byteT : ByteT Tryz.prog 5 := by unfold ByteT; kernel_rfl
@[reducible] def tzero : List D := [.i .i64 0, .i .u64 0, .i .u64 0, .i .u64 0, .i .u64 0, .i .u64 0, .i .u64 0, .i .u64 0, .i .u64 0, .nilS, .s []]
def NewT (p : Str) (less : List Str) (d : D) (rows : Vx.Rows) : Prop :=
  rows = [] ∧ ((termT p less = none ∧ d = .tup [.agg (trow ⟨⟨[], []⟩, []⟩), .b False]) ∨ ∃ t rm, termT p less = some t ∧ d = .tup [.agg (trow ⟨t, rm⟩), .b True])
set_option maxRecDepth 100000 in
set_option maxHeartbeats 8000000 in
theorem newTerm_at (p : Str) (lss : List LR) {rl room : List (List D)} (hp : CN p) (hok : ∀ x ∈ lss, ∀ m ∈ x.l, CT m) (hn : (allL lss).length ≤ 100000) (h1 : lss.length ≤ 100000) (h : rl = lss.map lrow) :
    FSpec Tryz.prog T 72 [.agg (crow p), .lst 58 rl room] (NewT p (allL lss)) := by
  subst h
  have hll : (lss.map lrow).length = lss.length := by simp
  refine FSpec.of_ok tok Tryz.func72 rfl Tryz.call72 (by simp) ?_
  (try (conv => whnf)); repeat' (first | refine Ok.seq ?_ | refine OkL.cons ?_ | ((first | refine Ok.region tok ?_ | refine Ok.cond ?_); conv => whnf) | refine Ok.block ?_ | ((first | refine Ok.skip ?_ | refine Ok.exit ?_ | refine Ok.ret ?_ | refine nI ?_ | refine ix _ (by assumption) ?_ | refine ixI (by omega) (by assumption) ?_ | refine ix_new _ (by omega) fun _ _ => ?_ | refine ixI_new (by omega) (by omega) fun _ _ => ?_ | refine ⟨_, by assumption, ?_⟩ | refine Alt2.l (aI ?_) | refine Alt2.r (aI ?_)); conv => whnf) | (refine Ok.scope ?_) | ((first | refine Ok.label ?_ | refine rd rfl (by assumption) ?_ | refine ⟨_, .inl ⟨rfl, rfl⟩, ?_⟩ | refine ⟨_, _, rfl, rfl, ?_⟩); conv => whnf) | (refine ⟨fun _ => ?_, fun _ => ?_⟩ <;> (conv => whnf) <;> (try (exfalso; omega))) | ((first | refine aJ ?_ | refine num_any ?_ | refine ⟨_, rfl, ?_⟩); conv => whnf) | fail)
  refine Ok.ghost 6 46 rfl ?_
  (conv => whnf)
  refine Ok.loopU [2, 4, 21, 22] [6, 23] 1 2 (fun (i : Nat) => [.own 0 (metL p (allL (lss.take i))).length, .i .i64 (i : Nat)]) (fun _ b => b) (fun (i : Nat) (_ : Vx.Rows) => [some (46, (metL p (allL (lss.take i))).map crow)]) (fun (i : Nat) => i ≤ lss.length) (fun (i : Nat) => lss.length - i) (0) (Nat.zero_le _) ?_; (conv => whnf); refine ⟨by ((conv => whnf); first | rfl | (simp [envCat, List.take_of_length_le, cells9, crow, trow2, kf_zero]; done) | (simp [envCat, List.take_of_length_le, cells9, crow, trow2, kf_zero]; rw [IntKind.wrap_i64]; omega)), ?_⟩
  rintro i hi
  (conv => whnf)
  by_cases hil : i < lss.length
  · obtain ⟨x, hx⟩ : ∃ x, lss[i]? = some x := ⟨_, List.getElem?_eq_getElem hil⟩
    have hxo := hok x (List.mem_of_getElem? hx)
    have hxl : (x.l.map crow).length = x.l.length := by simp
    have hat := allL_take hx
    have hxl2 : x.l.length ≤ 100000 := by have := allL_le2 hx x.l.length; rw [List.take_length, List.length_append] at this; omega
    (try (conv => whnf)); repeat' (first | refine Ok.seq ?_ | refine OkL.cons ?_ | ((first | refine Ok.region tok ?_ | refine Ok.region_plan (id := 24) tok follows [(5, 6, []), (0, 9, []), (4, 9, []), (5, 9, [6]), (6, 9, []), (0, 12, []), (2, 12, []), (4, 12, []), (5, 12, []), (6, 12, []), (9, 12, [])] [.q 0, .q 1, .q 2, .q 3, .q 4, .q 5, .l 6, .q 7, .q 8, .l 9, .q 10, .q 11, .l 12] (by kernel_rfl) ?_ | refine Ok.region_plan (id := 35) tok follows [(0, 4, []), (2, 4, [])] [.q 0, .q 1, .l 2, .q 3, .l 4, .q 5] (by kernel_rfl) ?_ | refine Ok.region_draw tok follows (by kernel_rfl) ?_ | refine Ok.cond ?_); conv => whnf) | refine Ok.block ?_ | ((first | refine Ok.skip ?_ | refine Ok.exit ?_ | refine Ok.ret ?_ | refine nI ?_ | refine ix _ (by assumption) ?_ | refine ixI (by omega) (by assumption) ?_ | refine ix_new _ (by omega) fun _ _ => ?_ | refine ixI_new (by omega) (by omega) fun _ _ => ?_ | refine ⟨_, by assumption, ?_⟩ | refine Alt2.l (aI ?_) | refine Alt2.r (aI ?_)); conv => whnf) | (refine Ok.scope ?_) | ((first | refine Ok.label ?_ | refine rd rfl (by assumption) ?_ | refine ⟨_, .inl ⟨rfl, rfl⟩, ?_⟩ | refine ⟨_, _, rfl, rfl, ?_⟩); conv => whnf) | (refine ⟨fun _ => ?_, fun _ => ?_⟩ <;> (conv => whnf) <;> (try (exfalso; omega))) | ((first | refine aJ ?_ | refine num_any ?_ | refine ⟨_, rfl, ?_⟩); conv => whnf) | fail)
    refine Ok.loopU [2, 4, 21, 22, 23, 27, 28] [6, 29] 1 2 (fun (j : Nat) => [.own 0 (metL p (allL (lss.take i) ++ x.l.take j)).length, .i .i64 (j : Nat)]) (fun _ b => b) (fun (j : Nat) (_ : Vx.Rows) => [some (46, (metL p (allL (lss.take i) ++ x.l.take j)).map crow)]) (fun (j : Nat) => j ≤ x.l.length) (fun (j : Nat) => x.l.length - j) (0) (Nat.zero_le _) ?_; (conv => whnf); refine ⟨by ((conv => whnf); first | rfl | (simp [envCat, List.take_of_length_le, cells9, crow, trow2, kf_zero]; done) | (simp [envCat, List.take_of_length_le, cells9, crow, trow2, kf_zero]; rw [IntKind.wrap_i64]; omega)), ?_⟩
    rintro j hj
    have hle := allL_le2 hx j
    have hle2 := metL_le p (allL (lss.take i) ++ x.l.take j)
    generalize hM : metL p (allL (lss.take i) ++ x.l.take j) = M at *
    have hMl : (M.map crow).length = M.length := by simp
    (conv => whnf)
    by_cases hjl : j < x.l.length
    · obtain ⟨m, hm⟩ : ∃ m, x.l[j]? = some m := ⟨_, List.getElem?_eq_getElem hjl⟩
      have hmo := hxo m (List.mem_of_getElem? hm)
      have hsp := meet_at m p hmo hp.1
      have hnext : metL p (allL (lss.take i) ++ x.l.take (j + 1)) = M ++ metL p [m] := by rw [take_snoc hm, ← List.append_assoc, metL_app, hM]
      cases hmt : meetT m p with
      | none =>
        rw [hmt] at hsp
        (try (conv => whnf)); repeat' (first | refine Ok.seq ?_ | refine OkL.cons ?_ | ((first | refine Ok.region tok ?_ | refine Ok.region_plan (id := 24) tok follows [(5, 6, []), (0, 9, []), (4, 9, []), (5, 9, [6]), (6, 9, []), (0, 12, []), (2, 12, []), (4, 12, []), (5, 12, []), (6, 12, []), (9, 12, [])] [.q 0, .q 1, .q 2, .q 3, .q 4, .q 5, .l 6, .q 7, .q 8, .l 9, .q 10, .q 11, .l 12] (by kernel_rfl) ?_ | refine Ok.region_plan (id := 35) tok follows [(0, 4, []), (2, 4, [])] [.q 0, .q 1, .l 2, .q 3, .l 4, .q 5] (by kernel_rfl) ?_ | refine Ok.region_draw tok follows (by kernel_rfl) ?_ | refine Ok.cond ?_); conv => whnf) | refine Ok.block ?_ | ((first | refine Ok.skip ?_ | refine Ok.exit ?_ | refine Ok.ret ?_ | refine nI ?_ | refine ix _ (by assumption) ?_ | refine ixI (by omega) (by assumption) ?_ | refine ix_new _ (by omega) fun _ _ => ?_ | refine ixI_new (by omega) (by omega) fun _ _ => ?_ | refine ⟨_, by assumption, ?_⟩); conv => whnf) | (refine Or.inl ?_; (conv => whnf); (repeat (refine aI ?_; conv => whnf)); refine ⟨_, hsp, rfl, ?_⟩; conv => whnf) | (refine ⟨_, hsp, rfl, ?_⟩; conv => whnf) | (refine Or.inr (Or.inl ?_); (conv => whnf); (repeat (refine aI ?_; conv => whnf)); refine ⟨_, hsp, ?_⟩; rintro _ _ ⟨rfl, rfl⟩; conv => whnf) | ((first | refine Alt2.l (aI ?_) | refine Alt2.r (aI ?_)); conv => whnf) | (refine Ok.scope ?_) | ((first | refine Ok.label ?_ | refine rd rfl (by assumption) ?_ | refine ⟨_, .inl ⟨rfl, rfl⟩, ?_⟩ | refine ⟨_, _, rfl, rfl, ?_⟩); conv => whnf) | (refine ⟨fun _ => ?_, fun _ => ?_⟩ <;> (conv => whnf) <;> (try (exfalso; omega))) | ((first | refine aJ ?_ | refine num_any ?_ | refine ⟨_, rfl, ?_⟩); conv => whnf) | fail)
        · rename_i h2
          exact absurd h2 (by simp)
        · refine ⟨j + 1, by omega, by omega, ?_⟩
          rw [hnext, metL_none hmt, List.append_nil]
          (conv => whnf)
          rfl
      | some c =>
        rw [hmt] at hsp
        (try (conv => whnf)); repeat' (first | refine Ok.seq ?_ | refine OkL.cons ?_ | ((first | refine Ok.region tok ?_ | refine Ok.region_plan (id := 24) tok follows [(5, 6, []), (0, 9, []), (4, 9, []), (5, 9, [6]), (6, 9, []), (0, 12, []), (2, 12, []), (4, 12, []), (5, 12, []), (6, 12, []), (9, 12, [])] [.q 0, .q 1, .q 2, .q 3, .q 4, .q 5, .l 6, .q 7, .q 8, .l 9, .q 10, .q 11, .l 12] (by kernel_rfl) ?_ | refine Ok.region_plan (id := 35) tok follows [(0, 4, []), (2, 4, [])] [.q 0, .q 1, .l 2, .q 3, .l 4, .q 5] (by kernel_rfl) ?_ | refine Ok.region_draw tok follows (by kernel_rfl) ?_ | refine Ok.cond ?_); conv => whnf) | refine Ok.block ?_ | ((first | refine Ok.skip ?_ | refine Ok.exit ?_ | refine Ok.ret ?_ | refine nI ?_ | refine ix _ (by assumption) ?_ | refine ixI (by omega) (by assumption) ?_ | refine ix_new _ (by omega) fun _ _ => ?_ | refine ixI_new (by omega) (by omega) fun _ _ => ?_ | refine ⟨_, by assumption, ?_⟩); conv => whnf) | (refine Or.inl ?_; (conv => whnf); (repeat (refine aI ?_; conv => whnf)); refine ⟨_, hsp, rfl, ?_⟩; conv => whnf) | (refine ⟨_, hsp, rfl, ?_⟩; conv => whnf) | (refine Or.inr (Or.inl ?_); (conv => whnf); (repeat (refine aI ?_; conv => whnf)); refine ⟨_, hsp, ?_⟩; rintro _ _ ⟨rfl, rfl⟩; conv => whnf) | ((first | refine Alt2.l (aI ?_) | refine Alt2.r (aI ?_)); conv => whnf) | (refine Ok.scope ?_) | ((first | refine Ok.label ?_ | refine rd rfl (by assumption) ?_ | refine ⟨_, .inl ⟨rfl, rfl⟩, ?_⟩ | refine ⟨_, _, rfl, rfl, ?_⟩); conv => whnf) | (refine ⟨fun _ => ?_, fun _ => ?_⟩ <;> (conv => whnf) <;> (try (exfalso; omega))) | ((first | refine aJ ?_ | refine num_any ?_ | refine ⟨_, rfl, ?_⟩); conv => whnf) | fail)
        · refine ⟨j + 1, by omega, by omega, ?_⟩
          rw [hnext, metL_some hmt]
          (conv => whnf)
          simp [envCat]
        · rename_i h2
          exact absurd rfl h2
    · have hje : j = x.l.length := by omega
      subst hje
      (try (conv => whnf)); repeat' (first | refine Ok.seq ?_ | refine OkL.cons ?_ | ((first | refine Ok.region tok ?_ | refine Ok.region_plan (id := 24) tok follows [(5, 6, []), (0, 9, []), (4, 9, []), (5, 9, [6]), (6, 9, []), (0, 12, []), (2, 12, []), (4, 12, []), (5, 12, []), (6, 12, []), (9, 12, [])] [.q 0, .q 1, .q 2, .q 3, .q 4, .q 5, .l 6, .q 7, .q 8, .l 9, .q 10, .q 11, .l 12] (by kernel_rfl) ?_ | refine Ok.region_plan (id := 35) tok follows [(0, 4, []), (2, 4, [])] [.q 0, .q 1, .l 2, .q 3, .l 4, .q 5] (by kernel_rfl) ?_ | refine Ok.region_draw tok follows (by kernel_rfl) ?_ | refine Ok.cond ?_); conv => whnf) | refine Ok.block ?_ | ((first | refine Ok.skip ?_ | refine Ok.exit ?_ | refine Ok.ret ?_ | refine nI ?_ | refine ix _ (by assumption) ?_ | refine ixI (by omega) (by assumption) ?_ | refine ix_new _ (by omega) fun _ _ => ?_ | refine ixI_new (by omega) (by omega) fun _ _ => ?_ | refine ⟨_, by assumption, ?_⟩ | refine Alt2.l (aI ?_) | refine Alt2.r (aI ?_)); conv => whnf) | (refine Ok.scope ?_) | ((first | refine Ok.label ?_ | refine rd rfl (by assumption) ?_ | refine ⟨_, .inl ⟨rfl, rfl⟩, ?_⟩ | refine ⟨_, _, rfl, rfl, ?_⟩); conv => whnf) | (refine ⟨fun _ => ?_, fun _ => ?_⟩ <;> (conv => whnf) <;> (try (exfalso; omega))) | ((first | refine aJ ?_ | refine num_any ?_ | refine ⟨_, rfl, ?_⟩); conv => whnf) | fail)
      refine ⟨i + 1, by omega, by omega, ?_⟩
      rw [hat]
      rw [List.take_length] at hM
      rw [hM]
      (conv => whnf)
      rfl
  · have hie : i = lss.length := by omega
    subst hie
    rw [List.take_length]
    generalize hM : metL p (allL lss) = M
    have hML : M.length ≤ 100000 := by have := metL_le p (allL lss); rw [hM] at this; omega
    have hMl : (M.map crow).length = M.length := by simp
    have hMok : ∀ c ∈ M, CN c ∧ c.length = p.length := by
      intro c hc
      rw [← hM] at hc
      obtain ⟨m, hm1, hm2⟩ := List.mem_filterMap.1 hc
      have hmc : CT m := by
        unfold allL at hm1
        obtain ⟨y, hy1, hy2⟩ := List.mem_flatten.1 hm1
        obtain ⟨z, hz1, rfl⟩ := List.mem_map.1 hy1
        exact hok z hz1 m hy2
      have h3 := meetT_ct hm2 hmc hp.1
      have h4 := meetL_len ((meetT_eq h3.2.2).symm.trans hm2)
      exact ⟨⟨h3.1, fun e => hp.2 (by rw [e] at h4; exact List.eq_nil_of_length_eq_zero (by simpa using h4.2))⟩, h4.2.symm⟩
    (try (conv => whnf)); repeat' (first | refine Ok.seq ?_ | refine OkL.cons ?_ | ((first | refine Ok.region tok ?_ | refine Ok.region_plan (id := 24) tok follows [(5, 6, []), (0, 9, []), (4, 9, []), (5, 9, [6]), (6, 9, []), (0, 12, []), (2, 12, []), (4, 12, []), (5, 12, []), (6, 12, []), (9, 12, [])] [.q 0, .q 1, .q 2, .q 3, .q 4, .q 5, .l 6, .q 7, .q 8, .l 9, .q 10, .q 11, .l 12] (by kernel_rfl) ?_ | refine Ok.region_plan (id := 35) tok follows [(0, 4, []), (2, 4, [])] [.q 0, .q 1, .l 2, .q 3, .l 4, .q 5] (by kernel_rfl) ?_ | refine Ok.region_draw tok follows (by kernel_rfl) ?_ | refine Ok.cond ?_); conv => whnf) | refine Ok.block ?_ | ((first | refine Ok.skip ?_ | refine Ok.exit ?_ | refine Ok.ret ?_ | refine nI ?_ | refine ix _ (by assumption) ?_ | refine ixI (by omega) (by assumption) ?_ | refine ix_new _ (by omega) fun _ _ => ?_ | refine ixI_new (by omega) (by omega) fun _ _ => ?_ | refine ⟨_, by assumption, ?_⟩); conv => whnf) | (refine Or.inr (Or.inr (Or.inr (Or.inl ?_))); (conv => whnf); (repeat (refine aI ?_; conv => whnf)); refine ⟨_, greatestC_at M (by omega) (fun c hc => (hMok c hc).1) (take_all crow M) , ?_⟩; rintro _ _ ⟨W, hW, rfl, rfl⟩ <;> (refine And.intro (by simp [gRowsP, grounds, D.ground, cells9, crow, trow2, kf_zero]) ?_; conv => whnf)) | (refine Or.inr (Or.inr (Or.inl ?_)); (conv => whnf); (repeat (refine aI ?_; conv => whnf)); refine ⟨_, greatestC_at M (by omega) (fun c hc => (hMok c hc).1) (take_all crow M) , ?_⟩; rintro _ _ ⟨W, hW, rfl, rfl⟩ <;> (refine And.intro (by simp [gRowsP, grounds, D.ground, cells9, crow, trow2, kf_zero]) ?_; conv => whnf)) | ((first | refine Alt2.l (aI ?_) | refine Alt2.r (aI ?_)); conv => whnf) | (refine Ok.scope ?_) | ((first | refine Ok.label ?_ | refine rd rfl (by assumption) ?_ | refine ⟨_, .inl ⟨rfl, rfl⟩, ?_⟩ | refine ⟨_, _, rfl, rfl, ?_⟩); conv => whnf) | (refine ⟨fun _ => ?_, fun _ => ?_⟩ <;> (conv => whnf) <;> (try (exfalso; omega))) | ((first | refine aJ ?_ | refine num_any ?_ | refine ⟨_, rfl, ?_⟩); conv => whnf) | fail)
    have hWk := hW.n
    have hWt := hW.tk
    have hWw := hW.w
    rw [List.take_length] at hWk hWt
    have hKM : ∀ c ∈ grG inL M, c ∈ M := grG_sub inL M
    have hvoid : p ∈ grG inL M → termT p (allL lss) = none := fun h => termT_void (by rw [hM]; exact h)
    have hsome : ∀ ks : List Str, p ∉ grG inL M → ks.Perm (grG inL M) → ks.Pairwise (fun t u => Op.bytesLess u t ≠ true) → termT p (allL lss) = some ⟨p, ks⟩ := fun ks h1 h2 h3 => termT_some (by rw [hM]; exact h1) (by rw [hM]; exact h2) h3
    generalize hK : grG inL M = K at *
    have hKok : ∀ c ∈ K, CN c ∧ c.length = p.length := fun c hc => hMok c (hKM c hc)
    have hKl : K.length ≤ 100000 := by omega
    have hWl : (W.map crow).length = W.length := by simp
    have hWg : ∀ i, i < K.length → W[i]? = K[i]? := fun i hi => by
      have := congrArg (fun z : List Str => z[i]?) hWt
      simp only [List.getElem?_take, if_pos hi] at this
      exact this
    refine Ok.loopU [2, 4, 6, 48, 49] [50] 2 2 (fun (i : Nat) => [.i .i64 (i : Nat)]) (fun _ b => b) (fun _ r => r) (fun (i : Nat) => i ≤ K.length ∧ ∀ m ∈ K.take i, m ≠ p) (fun (i : Nat) => K.length - i) (0) (⟨Nat.zero_le _, by simp⟩) ?_; (conv => whnf); refine ⟨by ((conv => whnf); first | rfl | (simp [envCat, List.take_of_length_le, cells9, crow, trow2, kf_zero]; done) | (simp [envCat, List.take_of_length_le, cells9, crow, trow2, kf_zero]; rw [IntKind.wrap_i64]; omega)), ?_⟩
    rintro i ⟨hi2, hne⟩
    (conv => whnf)
    by_cases hil2 : i < K.length
    · obtain ⟨c, hc⟩ : ∃ c, K[i]? = some c := ⟨_, List.getElem?_eq_getElem hil2⟩
      have hWi : W[((i : Nat) : Int).toNat]? = some c := by rw [toNat_cast, hWg i hil2, hc]
      have hcK := hKok c (List.mem_of_getElem? hc)
      (try (conv => whnf)); repeat' (first | refine Ok.seq ?_ | refine OkL.cons ?_ | ((first | refine Ok.region tok ?_ | refine Ok.region_plan (id := 24) tok follows [(5, 6, []), (0, 9, []), (4, 9, []), (5, 9, [6]), (6, 9, []), (0, 12, []), (2, 12, []), (4, 12, []), (5, 12, []), (6, 12, []), (9, 12, [])] [.q 0, .q 1, .q 2, .q 3, .q 4, .q 5, .l 6, .q 7, .q 8, .l 9, .q 10, .q 11, .l 12] (by kernel_rfl) ?_ | refine Ok.region_plan (id := 35) tok follows [(0, 4, []), (2, 4, [])] [.q 0, .q 1, .l 2, .q 3, .l 4, .q 5] (by kernel_rfl) ?_ | refine Ok.region_draw tok follows (by kernel_rfl) ?_ | refine Ok.cond ?_); conv => whnf) | refine Ok.block ?_ | ((first | refine Ok.skip ?_ | refine Ok.exit ?_ | refine Ok.ret ?_ | refine nI ?_ | refine ix _ (by assumption) ?_ | refine ixI (by omega) (by assumption) ?_ | refine ix_new _ (by omega) fun _ _ => ?_ | refine ixI_new (by omega) (by omega) fun _ _ => ?_ | refine ⟨_, by assumption, ?_⟩ | refine Alt2.l (aI ?_) | refine Alt2.r (aI ?_)); conv => whnf) | (refine Ok.scope ?_) | ((first | refine Ok.label ?_ | refine rd rfl (by assumption) ?_ | refine ⟨_, .inl ⟨rfl, rfl⟩, ?_⟩ | refine ⟨_, _, rfl, rfl, ?_⟩); conv => whnf) | (refine ⟨fun _ => ?_, fun _ => ?_⟩ <;> (conv => whnf) <;> (try (exfalso; omega))) | ((first | refine aJ ?_ | refine num_any ?_ | refine ⟨_, rfl, ?_⟩); conv => whnf) | fail)
      refine ⟨_, eqCube, by kernel_rfl, ?_⟩
      (conv => whnf)
      (try (conv => whnf)); repeat' (first | refine Ok.seq ?_ | refine OkL.cons ?_ | ((first | refine Ok.region tok ?_ | refine Ok.region_plan (id := 24) tok follows [(5, 6, []), (0, 9, []), (4, 9, []), (5, 9, [6]), (6, 9, []), (0, 12, []), (2, 12, []), (4, 12, []), (5, 12, []), (6, 12, []), (9, 12, [])] [.q 0, .q 1, .q 2, .q 3, .q 4, .q 5, .l 6, .q 7, .q 8, .l 9, .q 10, .q 11, .l 12] (by kernel_rfl) ?_ | refine Ok.region_plan (id := 35) tok follows [(0, 4, []), (2, 4, [])] [.q 0, .q 1, .l 2, .q 3, .l 4, .q 5] (by kernel_rfl) ?_ | refine Ok.region_draw tok follows (by kernel_rfl) ?_ | refine Ok.cond ?_); conv => whnf) | refine Ok.block ?_ | ((first | refine Ok.skip ?_ | refine Ok.exit ?_ | refine Ok.ret ?_ | refine nI ?_ | refine ix _ (by assumption) ?_ | refine ixI (by omega) (by assumption) ?_ | refine ix_new _ (by omega) fun _ _ => ?_ | refine ixI_new (by omega) (by omega) fun _ _ => ?_ | refine ⟨_, by assumption, ?_⟩ | refine Alt2.l (aI ?_) | refine Alt2.r (aI ?_)); conv => whnf) | (refine Ok.scope ?_) | ((first | refine Ok.label ?_ | refine rd rfl (by assumption) ?_ | refine ⟨_, .inl ⟨rfl, rfl⟩, ?_⟩ | refine ⟨_, _, rfl, rfl, ?_⟩); conv => whnf) | (refine ⟨fun _ => ?_, fun _ => ?_⟩ <;> (conv => whnf) <;> (try (exfalso; omega))) | ((first | refine aJ ?_ | refine num_any ?_ | refine ⟨_, rfl, ?_⟩); conv => whnf) | fail)
      · rename_i he
        refine Or.inl ?_; (conv => whnf)
        refine ⟨rfl, .inl ⟨hvoid ?_, ?_⟩⟩
        · rw [← crow_inj hcK.1.1 hp.1 he]
          exact List.mem_of_getElem? hc
        · simp [oneD, Term.key]
      · rename_i he
        refine ⟨i + 1, by omega, ⟨by omega, fun z hz => ?_⟩, ?_⟩
        · rw [take_snoc hc] at hz
          rcases List.mem_append.1 hz with hz | hz
          · exact hne z hz
          · simp at hz
            rw [hz]
            intro e
            rw [e] at he
            exact he (eqDs_self p)
        · (conv => whnf)
          rfl
    · have hie2 : i = K.length := by omega
      subst hie2
      rw [List.take_length] at hne
      have hpK : p ∉ K := fun h => hne p h rfl
      (try (conv => whnf)); repeat' (first | refine Ok.seq ?_ | refine OkL.cons ?_ | ((first | refine Ok.region tok ?_ | refine Ok.region_plan (id := 24) tok follows [(5, 6, []), (0, 9, []), (4, 9, []), (5, 9, [6]), (6, 9, []), (0, 12, []), (2, 12, []), (4, 12, []), (5, 12, []), (6, 12, []), (9, 12, [])] [.q 0, .q 1, .q 2, .q 3, .q 4, .q 5, .l 6, .q 7, .q 8, .l 9, .q 10, .q 11, .l 12] (by kernel_rfl) ?_ | refine Ok.region_plan (id := 35) tok follows [(0, 4, []), (2, 4, [])] [.q 0, .q 1, .l 2, .q 3, .l 4, .q 5] (by kernel_rfl) ?_ | refine Ok.region_draw tok follows (by kernel_rfl) ?_ | refine Ok.cond ?_); conv => whnf) | refine Ok.block ?_ | ((first | refine Ok.skip ?_ | refine Ok.exit ?_ | refine Ok.ret ?_ | refine nI ?_ | refine ix _ (by assumption) ?_ | refine ixI (by omega) (by assumption) ?_ | refine ix_new _ (by omega) fun _ _ => ?_ | refine ixI_new (by omega) (by omega) fun _ _ => ?_ | refine ⟨_, by assumption, ?_⟩ | refine Alt2.l (aI ?_) | refine Alt2.r (aI ?_)); conv => whnf) | (refine Ok.scope ?_) | ((first | refine Ok.label ?_ | refine rd rfl (by assumption) ?_ | refine ⟨_, .inl ⟨rfl, rfl⟩, ?_⟩ | refine ⟨_, _, rfl, rfl, ?_⟩); conv => whnf) | (refine ⟨fun _ => ?_, fun _ => ?_⟩ <;> (conv => whnf) <;> (try (exfalso; omega))) | ((first | refine aJ ?_ | refine num_any ?_ | refine ⟨_, rfl, ?_⟩); conv => whnf) | fail)
      refine Ok.loopU [2, 4, 6, 15, 62, 63] [64] 3 3 (fun (i : Nat) => [.i .i64 (i : Nat)]) (fun _ b => b) (fun (i : Nat) (_ : Vx.Rows) => [some (46, M.map crow), some (46, W.map crow), some (164, ((K.map dup).take i ++ List.replicate (K.length - i) ([], [])).map trow2)]) (fun (i : Nat) => i ≤ K.length) (fun (i : Nat) => K.length - i) (0) (Nat.zero_le _) ?_; (conv => whnf); refine ⟨by ((conv => whnf); first | rfl | (simp [envCat, List.take_of_length_le, cells9, crow, trow2, kf_zero]; done) | (simp [envCat, List.take_of_length_le, cells9, crow, trow2, kf_zero]; rw [IntKind.wrap_i64]; omega)), ?_⟩
      rintro i hi3
      have hdl : (K.map dup).length = K.length := by simp
      have hrl : ((K.map dup).take i ++ List.replicate (K.length - i) (([], []) : Str × Str)).length = K.length := by simp; omega
      have hrl2 : (((K.map dup).take i ++ List.replicate (K.length - i) (([], []) : Str × Str)).map trow2).length = K.length := by rw [List.length_map, hrl]
      (conv => whnf)
      by_cases hil3 : i < K.length
      · obtain ⟨c, hc⟩ : ∃ c, K[i]? = some c := ⟨_, List.getElem?_eq_getElem hil3⟩
        have hWi : W[((i : Nat) : Int).toNat]? = some c := by rw [toNat_cast, hWg i hil3, hc]
        have hcK := hKok c (List.mem_of_getElem? hc)
        have hdi : (K.map dup)[i]? = some (dup c) := by simp [hc]
        have hz := room_at2 (ks := K.map dup) (i := i) (([], []) : Str × Str) hdl (by omega)
        have hst := room_set2 (z := (([], []) : Str × Str)) hdl hdi
        generalize hL : (K.map dup).take i ++ List.replicate (K.length - i) (([], []) : Str × Str) = L at *
        have hL2 : ∀ y : Str × Str, (L.set i y)[i]? = some y := fun y => List.getElem?_set_self (by omega)
        have hL3 : ∀ y : Str × Str, ((L.set i y).map trow2).length = K.length := fun y => by simp [hrl]
        (try (conv => whnf)); repeat' (first | refine Ok.seq ?_ | refine OkL.cons ?_ | ((first | refine Ok.region tok ?_ | refine Ok.region_plan (id := 24) tok follows [(5, 6, []), (0, 9, []), (4, 9, []), (5, 9, [6]), (6, 9, []), (0, 12, []), (2, 12, []), (4, 12, []), (5, 12, []), (6, 12, []), (9, 12, [])] [.q 0, .q 1, .q 2, .q 3, .q 4, .q 5, .l 6, .q 7, .q 8, .l 9, .q 10, .q 11, .l 12] (by kernel_rfl) ?_ | refine Ok.region_plan (id := 35) tok follows [(0, 4, []), (2, 4, [])] [.q 0, .q 1, .l 2, .q 3, .l 4, .q 5] (by kernel_rfl) ?_ | refine Ok.region_draw tok follows (by kernel_rfl) ?_ | refine Ok.cond ?_); conv => whnf) | refine Ok.block ?_ | ((first | refine Ok.skip ?_ | refine Ok.exit ?_ | refine Ok.ret ?_ | refine nI ?_ | refine ix _ (by assumption) ?_ | refine ixI (by omega) (by assumption) ?_ | refine ix_new _ (by omega) fun _ _ => ?_ | refine ixI_new (by omega) (by omega) fun _ _ => ?_ | refine ⟨_, by assumption, ?_⟩); conv => whnf) | (refine Or.inl ?_; (conv => whnf); (repeat (refine aI ?_; conv => whnf)); refine ⟨_, text_at c hcK.1.1, rfl, ?_⟩; conv => whnf) | (refine ⟨_, text_at c hcK.1.1, rfl, ?_⟩; conv => whnf) | (refine Or.inr (Or.inl ?_); (conv => whnf); (repeat (refine aI ?_; conv => whnf)); refine ⟨_, text_at c hcK.1.1, ?_⟩; rintro _ _ ⟨rfl, rfl⟩; conv => whnf) | ((first | refine Alt2.l (aI ?_) | refine Alt2.r (aI ?_)); conv => whnf) | (refine Ok.scope ?_) | ((first | refine Ok.label ?_ | refine rd rfl (by assumption) ?_ | refine ⟨_, .inl ⟨rfl, rfl⟩, ?_⟩ | refine ⟨_, _, rfl, rfl, ?_⟩); conv => whnf) | (refine ⟨fun _ => ?_, fun _ => ?_⟩ <;> (conv => whnf) <;> (try (exfalso; omega))) | ((first | refine aJ ?_ | refine num_any ?_ | refine ⟨_, rfl, ?_⟩); conv => whnf) | fail)
        refine st (c, []) hz (by simp) (by simp [setCells]) ?_
        rw [toNat_cast]
        (try (conv => whnf)); repeat' (first | refine Ok.seq ?_ | refine OkL.cons ?_ | ((first | refine Ok.region tok ?_ | refine Ok.region_plan (id := 24) tok follows [(5, 6, []), (0, 9, []), (4, 9, []), (5, 9, [6]), (6, 9, []), (0, 12, []), (2, 12, []), (4, 12, []), (5, 12, []), (6, 12, []), (9, 12, [])] [.q 0, .q 1, .q 2, .q 3, .q 4, .q 5, .l 6, .q 7, .q 8, .l 9, .q 10, .q 11, .l 12] (by kernel_rfl) ?_ | refine Ok.region_plan (id := 35) tok follows [(0, 4, []), (2, 4, [])] [.q 0, .q 1, .l 2, .q 3, .l 4, .q 5] (by kernel_rfl) ?_ | refine Ok.region_draw tok follows (by kernel_rfl) ?_ | refine Ok.cond ?_); conv => whnf) | refine Ok.block ?_ | ((first | refine Ok.skip ?_ | refine Ok.exit ?_ | refine Ok.ret ?_ | refine nI ?_ | refine ix _ (by assumption) ?_ | refine ixI (by omega) (by assumption) ?_ | refine ix_new _ (by omega) fun _ _ => ?_ | refine ixI_new (by omega) (by omega) fun _ _ => ?_ | refine ⟨_, by assumption, ?_⟩); conv => whnf) | (refine Or.inl ?_; (conv => whnf); (repeat (refine aI ?_; conv => whnf)); refine ⟨_, text_at c hcK.1.1, rfl, ?_⟩; conv => whnf) | (refine ⟨_, text_at c hcK.1.1, rfl, ?_⟩; conv => whnf) | (refine Or.inr (Or.inl ?_); (conv => whnf); (repeat (refine aI ?_; conv => whnf)); refine ⟨_, text_at c hcK.1.1, ?_⟩; rintro _ _ ⟨rfl, rfl⟩; conv => whnf) | ((first | refine Alt2.l (aI ?_) | refine Alt2.r (aI ?_)); conv => whnf) | (refine Ok.scope ?_) | ((first | refine Ok.label ?_ | refine rd rfl (by assumption) ?_ | refine ⟨_, .inl ⟨rfl, rfl⟩, ?_⟩ | refine ⟨_, _, rfl, rfl, ?_⟩); conv => whnf) | (refine ⟨fun _ => ?_, fun _ => ?_⟩ <;> (conv => whnf) <;> (try (exfalso; omega))) | ((first | refine aJ ?_ | refine num_any ?_ | refine ⟨_, rfl, ?_⟩); conv => whnf) | fail)
        refine st (c, c) (hL2 (c, [])) (by simp) (by simp [setCells]) ?_
        rw [toNat_cast, set_set_same, show ((c, c) : Str × Str) = dup c from rfl, hst]
        (try (conv => whnf)); repeat' (first | refine Ok.seq ?_ | refine OkL.cons ?_ | ((first | refine Ok.region tok ?_ | refine Ok.region_plan (id := 24) tok follows [(5, 6, []), (0, 9, []), (4, 9, []), (5, 9, [6]), (6, 9, []), (0, 12, []), (2, 12, []), (4, 12, []), (5, 12, []), (6, 12, []), (9, 12, [])] [.q 0, .q 1, .q 2, .q 3, .q 4, .q 5, .l 6, .q 7, .q 8, .l 9, .q 10, .q 11, .l 12] (by kernel_rfl) ?_ | refine Ok.region_plan (id := 35) tok follows [(0, 4, []), (2, 4, [])] [.q 0, .q 1, .l 2, .q 3, .l 4, .q 5] (by kernel_rfl) ?_ | refine Ok.region_draw tok follows (by kernel_rfl) ?_ | refine Ok.cond ?_); conv => whnf) | refine Ok.block ?_ | ((first | refine Ok.skip ?_ | refine Ok.exit ?_ | refine Ok.ret ?_ | refine nI ?_ | refine ix _ (by assumption) ?_ | refine ixI (by omega) (by assumption) ?_ | refine ix_new _ (by omega) fun _ _ => ?_ | refine ixI_new (by omega) (by omega) fun _ _ => ?_ | refine ⟨_, by assumption, ?_⟩ | refine Alt2.l (aI ?_) | refine Alt2.r (aI ?_)); conv => whnf) | (refine Ok.scope ?_) | ((first | refine Ok.label ?_ | refine rd rfl (by assumption) ?_ | refine ⟨_, .inl ⟨rfl, rfl⟩, ?_⟩ | refine ⟨_, _, rfl, rfl, ?_⟩); conv => whnf) | (refine ⟨fun _ => ?_, fun _ => ?_⟩ <;> (conv => whnf) <;> (try (exfalso; omega))) | ((first | refine aJ ?_ | refine num_any ?_ | refine ⟨_, rfl, ?_⟩); conv => whnf) | fail)
        refine ⟨i + 1, by omega, by omega, ?_⟩
        (conv => whnf)
        rfl
      · have hie3 : i = K.length := by omega
        subst hie3
        rw [Nat.sub_self, List.replicate_zero, List.append_nil, List.take_of_length_le (by simp)]
        have hkeys : ∀ x ∈ ((K.map dup).map trow2).take K.length, ∃ l, x[9]? = some (.s l) := by
          intro x hx
          obtain ⟨y, _, rfl⟩ := List.mem_map.1 (List.mem_of_mem_take hx)
          exact ⟨y.2, rfl⟩
        have hdl2 : K.length ≤ ((K.map dup).map trow2).length := by simp
        (try (conv => whnf)); repeat' (first | (refine Ok.sortSlice tok sort_told (by (conv => whnf); exact ⟨rfl, rfl⟩) rfl rfl rfl hdl2 rfl (by decide) (by decide) hkeys (by omega) ?_) | refine Ok.seq ?_ | refine OkL.cons ?_ | ((first | refine Ok.region tok ?_ | refine Ok.region_plan (id := 24) tok follows [(5, 6, []), (0, 9, []), (4, 9, []), (5, 9, [6]), (6, 9, []), (0, 12, []), (2, 12, []), (4, 12, []), (5, 12, []), (6, 12, []), (9, 12, [])] [.q 0, .q 1, .q 2, .q 3, .q 4, .q 5, .l 6, .q 7, .q 8, .l 9, .q 10, .q 11, .l 12] (by kernel_rfl) ?_ | refine Ok.region_plan (id := 35) tok follows [(0, 4, []), (2, 4, [])] [.q 0, .q 1, .l 2, .q 3, .l 4, .q 5] (by kernel_rfl) ?_ | refine Ok.region_draw tok follows (by kernel_rfl) ?_ | refine Ok.cond ?_); conv => whnf) | refine Ok.block ?_ | ((first | refine Ok.skip ?_ | refine Ok.exit ?_ | refine Ok.ret ?_ | refine nI ?_ | refine ix _ (by assumption) ?_ | refine ixI (by omega) (by assumption) ?_ | refine ix_new _ (by omega) fun _ _ => ?_ | refine ixI_new (by omega) (by omega) fun _ _ => ?_ | refine ⟨_, by assumption, ?_⟩ | refine Alt2.l (aI ?_) | refine Alt2.r (aI ?_)); conv => whnf) | (refine Ok.scope ?_) | ((first | refine Ok.label ?_ | refine rd rfl (by assumption) ?_ | refine ⟨_, .inl ⟨rfl, rfl⟩, ?_⟩ | refine ⟨_, _, rfl, rfl, ?_⟩); conv => whnf) | (refine ⟨fun _ => ?_, fun _ => ?_⟩ <;> (conv => whnf) <;> (try (exfalso; omega))) | ((first | refine aJ ?_ | refine num_any ?_ | refine ⟨_, rfl, ?_⟩); conv => whnf) | fail)
        intro ys hperm hup
        rw [take_all2 (by simp : ((K.map dup).map trow2).length = K.length)] at hperm
        rw [drop_all2 (by simp : ((K.map dup).map trow2).length = K.length), List.append_nil]
        obtain ⟨zs, hz1, rfl⟩ := perm_map_ex hperm _ rfl
        obtain ⟨ks, hks, rfl⟩ := perm_map_ex hz1 _ rfl
        have hsort : ks.Pairwise fun t u => Op.bytesLess u t ≠ true := by
          unfold RowsUp at hup
          rw [List.pairwise_map, List.pairwise_map] at hup
          refine hup.imp fun {a b} h => ?_
          have h2 := h a b rfl rfl
          rw [h2]
          decide
        have hterm := hsome ks hpK hks hsort
        have hkl : ks.length = K.length := hks.length_eq
        have hkok : ∀ c ∈ ks, CN c ∧ c.length = p.length := fun c hc => hKok c (hks.mem_iff.1 hc)
        clear hup hperm hz1 hsort hsome hvoid hkeys
        have hpl := hp.1.len
        (conv => whnf)
        refine Ok.seq ?_
        (refine Ok.region tok ?_; conv => whnf)
        refine Ok.ghostB 3 1 5 rfl rfl ?_
        (conv => whnf)
        (try (conv => whnf)); repeat' (first | refine Ok.seq ?_ | refine OkL.cons ?_ | ((first | refine Ok.region tok ?_ | refine Ok.region_plan (id := 24) tok follows [(5, 6, []), (0, 9, []), (4, 9, []), (5, 9, [6]), (6, 9, []), (0, 12, []), (2, 12, []), (4, 12, []), (5, 12, []), (6, 12, []), (9, 12, [])] [.q 0, .q 1, .q 2, .q 3, .q 4, .q 5, .l 6, .q 7, .q 8, .l 9, .q 10, .q 11, .l 12] (by kernel_rfl) ?_ | refine Ok.region_plan (id := 35) tok follows [(0, 4, []), (2, 4, [])] [.q 0, .q 1, .l 2, .q 3, .l 4, .q 5] (by kernel_rfl) ?_ | refine Ok.region_draw tok follows (by kernel_rfl) ?_ | refine Ok.cond ?_); conv => whnf) | refine Ok.block ?_ | ((first | refine Ok.skip ?_ | refine Ok.exit ?_ | refine Ok.ret ?_ | refine nI ?_ | refine ix _ (by assumption) ?_ | refine ixI (by omega) (by assumption) ?_ | refine ix_new _ (by omega) fun _ _ => ?_ | refine ixI_new (by omega) (by omega) fun _ _ => ?_ | refine ⟨_, by assumption, ?_⟩); conv => whnf) | (refine Or.inl ?_; (conv => whnf); (repeat (refine aI ?_; conv => whnf)); refine ⟨_, text_at p hp.1, rfl, ?_⟩; conv => whnf) | (refine ⟨_, text_at p hp.1, rfl, ?_⟩; conv => whnf) | (refine Or.inr (Or.inl ?_); (conv => whnf); (repeat (refine aI ?_; conv => whnf)); refine ⟨_, text_at p hp.1, ?_⟩; rintro _ _ ⟨rfl, rfl⟩; conv => whnf) | ((first | refine Alt2.l (aI ?_) | refine Alt2.r (aI ?_)); conv => whnf) | (refine Ok.scope ?_) | ((first | refine Ok.label ?_ | refine rd rfl (by assumption) ?_ | refine ⟨_, .inl ⟨rfl, rfl⟩, ?_⟩ | refine ⟨_, _, rfl, rfl, ?_⟩); conv => whnf) | (refine ⟨fun _ => ?_, fun _ => ?_⟩ <;> (conv => whnf) <;> (try (exfalso; omega))) | ((first | refine aJ ?_ | refine num_any ?_ | refine ⟨_, rfl, ?_⟩); conv => whnf) | fail)
        refine Or.inr (Or.inr (Or.inl ?_)); (conv => whnf); refine ⟨_, _, Tryz.func110, rfl, Tryz.call110, ?_⟩; (conv => whnf)
        (try (conv => whnf)); repeat' (first | refine Ok.seq ?_ | refine OkL.cons ?_ | ((first | refine Ok.region tok ?_ | refine Ok.region_plan (id := 24) tok follows [(5, 6, []), (0, 9, []), (4, 9, []), (5, 9, [6]), (6, 9, []), (0, 12, []), (2, 12, []), (4, 12, []), (5, 12, []), (6, 12, []), (9, 12, [])] [.q 0, .q 1, .q 2, .q 3, .q 4, .q 5, .l 6, .q 7, .q 8, .l 9, .q 10, .q 11, .l 12] (by kernel_rfl) ?_ | refine Ok.region_plan (id := 35) tok follows [(0, 4, []), (2, 4, [])] [.q 0, .q 1, .l 2, .q 3, .l 4, .q 5] (by kernel_rfl) ?_ | refine Ok.region_draw tok follows (by kernel_rfl) ?_ | refine Ok.cond ?_); conv => whnf) | refine Ok.block ?_ | ((first | refine Ok.skip ?_ | refine Ok.exit ?_ | refine Ok.ret ?_ | refine nI ?_ | refine ix _ (by assumption) ?_ | refine ixI (by omega) (by assumption) ?_ | refine ix_new _ (by omega) fun _ _ => ?_ | refine ixI_new (by omega) (by omega) fun _ _ => ?_ | refine ⟨_, by assumption, ?_⟩ | refine Alt2.l (aI ?_) | refine Alt2.r (aI ?_)); conv => whnf) | (refine Ok.scope ?_) | ((first | refine Ok.label ?_ | refine rd rfl (by assumption) ?_ | refine ⟨_, .inl ⟨rfl, rfl⟩, ?_⟩ | refine ⟨_, _, rfl, rfl, ?_⟩); conv => whnf) | (refine ⟨fun _ => ?_, fun _ => ?_⟩ <;> (conv => whnf) <;> (try (exfalso; omega))) | ((first | refine aJ ?_ | refine num_any ?_ | refine ⟨_, rfl, ?_⟩); conv => whnf) | fail)
        refine Or.inr (Or.inr (Or.inr (Or.inr ?_)))
        (conv => whnf)
        refine effW_fresh copyAt rfl ?_
        (conv => whnf)
        (try (conv => whnf)); repeat' (first | ((refine And.intro byteT ?_); (conv => whnf)) | refine Ok.seq ?_ | refine OkL.cons ?_ | ((first | refine Ok.region tok ?_ | refine Ok.region_plan (id := 24) tok follows [(5, 6, []), (0, 9, []), (4, 9, []), (5, 9, [6]), (6, 9, []), (0, 12, []), (2, 12, []), (4, 12, []), (5, 12, []), (6, 12, []), (9, 12, [])] [.q 0, .q 1, .q 2, .q 3, .q 4, .q 5, .l 6, .q 7, .q 8, .l 9, .q 10, .q 11, .l 12] (by kernel_rfl) ?_ | refine Ok.region_plan (id := 35) tok follows [(0, 4, []), (2, 4, [])] [.q 0, .q 1, .l 2, .q 3, .l 4, .q 5] (by kernel_rfl) ?_ | refine Ok.region_draw tok follows (by kernel_rfl) ?_ | refine Ok.cond ?_); conv => whnf) | refine Ok.block ?_ | ((first | refine Ok.skip ?_ | refine Ok.exit ?_ | refine Ok.ret ?_ | refine nI ?_ | refine ix _ (by assumption) ?_ | refine ixI (by omega) (by assumption) ?_ | refine ix_new _ (by omega) fun _ _ => ?_ | refine ixI_new (by omega) (by omega) fun _ _ => ?_ | refine ⟨_, by assumption, ?_⟩ | refine Alt2.l (aI ?_) | refine Alt2.r (aI ?_)); conv => whnf) | (refine Ok.scope ?_) | ((first | refine Ok.label ?_ | refine rd rfl (by assumption) ?_ | refine ⟨_, .inl ⟨rfl, rfl⟩, ?_⟩ | refine ⟨_, _, rfl, rfl, ?_⟩); conv => whnf) | (refine ⟨fun _ => ?_, fun _ => ?_⟩ <;> (conv => whnf) <;> (try (exfalso; omega))) | ((first | refine aJ ?_ | refine num_any ?_ | refine ⟨_, rfl, ?_⟩); conv => whnf) | fail)
        refine Ok.loopU [2, 4, 6, 18, 88, 89] [90] 4 4 (fun (i : Nat) => [.i .i64 (i : Nat)]) (fun (i : Nat) (_ : List (List D)) => [crow p, tzero, [.own 2 K.length], [.bp 3 0, .own 3 (kf p ks i).length]]) (fun (i : Nat) (_ : Vx.Rows) => [some (46, M.map crow), some (46, (ks.take i ++ W.drop i).map crow), some (164, (ks.map dup).map trow2), some (5, (kf p ks i).map bcell)]) (fun (i : Nat) => i ≤ K.length) (fun (i : Nat) => K.length - i) (0) (Nat.zero_le _) ?_; (conv => whnf); refine ⟨by ((conv => whnf); first | rfl | (simp [envCat, List.take_of_length_le, cells9, crow, trow2, kf_zero]; done) | (simp [envCat, List.take_of_length_le, cells9, crow, trow2, kf_zero]; rw [IntKind.wrap_i64]; omega)), ?_⟩
        rintro i hi4
        have hfl : (kf p ks i).length ≤ 256 + 100000 * 256 := kf_len hpl (fun c hc => (hkok c hc).1.1.len) (by omega)
        have hbl : ((kf p ks i).map bcell).length = (kf p ks i).length := List.length_map _
        have htl : ((ks.map dup).map trow2).length = K.length := by simp [hkl]
        have hml : ((ks.take i ++ W.drop i).map crow).length = W.length := by simp; omega
        have hml2 : ∀ y, (((ks.take i ++ W.drop i).set i y).map crow).length = W.length := fun y => by simp; omega
        (conv => whnf)
        by_cases hil4 : i < K.length
        · obtain ⟨c, hc⟩ : ∃ c, ks[i]? = some c := ⟨_, List.getElem?_eq_getElem (by omega)⟩
          have hco := hkok c (List.mem_of_getElem? hc)
          have hcl := hco.1.1.len
          have hdi : (ks.map dup)[((i : Nat) : Int).toNat]? = some (dup c) := by simp [hc]
          obtain ⟨y, hy⟩ := over_at (ks := ks) (W := W) (i := i) (by omega) (by omega)
          have hst := over_set (W := W) hc (by omega)
          have hnx := kf_step (p := p) hc
          (try (conv => whnf)); repeat' (first | refine Ok.seq ?_ | refine OkL.cons ?_ | ((first | refine Ok.region tok ?_ | refine Ok.region_plan (id := 24) tok follows [(5, 6, []), (0, 9, []), (4, 9, []), (5, 9, [6]), (6, 9, []), (0, 12, []), (2, 12, []), (4, 12, []), (5, 12, []), (6, 12, []), (9, 12, [])] [.q 0, .q 1, .q 2, .q 3, .q 4, .q 5, .l 6, .q 7, .q 8, .l 9, .q 10, .q 11, .l 12] (by kernel_rfl) ?_ | refine Ok.region_plan (id := 35) tok follows [(0, 4, []), (2, 4, [])] [.q 0, .q 1, .l 2, .q 3, .l 4, .q 5] (by kernel_rfl) ?_ | refine Ok.region_draw tok follows (by kernel_rfl) ?_ | refine Ok.cond ?_); conv => whnf) | refine Ok.block ?_ | ((first | refine Ok.skip ?_ | refine Ok.exit ?_ | refine Ok.ret ?_ | refine nI ?_ | refine ix _ (by assumption) ?_ | refine ixI (by omega) (by assumption) ?_ | refine ix_new _ (by omega) fun _ _ => ?_ | refine ixI_new (by omega) (by omega) fun _ _ => ?_ | refine ⟨_, by assumption, ?_⟩ | refine Alt2.l (aI ?_) | refine Alt2.r (aI ?_)); conv => whnf) | (refine Ok.scope ?_) | ((first | refine Ok.label ?_ | refine rd rfl (by assumption) ?_ | refine ⟨_, .inl ⟨rfl, rfl⟩, ?_⟩ | refine ⟨_, _, rfl, rfl, ?_⟩); conv => whnf) | (refine ⟨fun _ => ?_, fun _ => ?_⟩ <;> (conv => whnf) <;> (try (exfalso; omega))) | ((first | refine aJ ?_ | refine num_any ?_ | refine ⟨_, rfl, ?_⟩); conv => whnf) | fail)
          refine st c hy (by simp) (by simp [setCells, dup]) ?_
          rw [toNat_cast]
          (try (conv => whnf)); repeat' (first | refine Ok.seq ?_ | refine OkL.cons ?_ | ((first | refine Ok.region tok ?_ | refine Ok.region_plan (id := 24) tok follows [(5, 6, []), (0, 9, []), (4, 9, []), (5, 9, [6]), (6, 9, []), (0, 12, []), (2, 12, []), (4, 12, []), (5, 12, []), (6, 12, []), (9, 12, [])] [.q 0, .q 1, .q 2, .q 3, .q 4, .q 5, .l 6, .q 7, .q 8, .l 9, .q 10, .q 11, .l 12] (by kernel_rfl) ?_ | refine Ok.region_plan (id := 35) tok follows [(0, 4, []), (2, 4, [])] [.q 0, .q 1, .l 2, .q 3, .l 4, .q 5] (by kernel_rfl) ?_ | refine Ok.region_draw tok follows (by kernel_rfl) ?_ | refine Ok.cond ?_); conv => whnf) | refine Ok.block ?_ | ((first | refine Ok.skip ?_ | refine Ok.exit ?_ | refine Ok.ret ?_ | refine nI ?_ | refine ix _ (by assumption) ?_ | refine ixI (by omega) (by assumption) ?_ | refine ix_new _ (by omega) fun _ _ => ?_ | refine ixI_new (by omega) (by omega) fun _ _ => ?_ | refine ⟨_, by assumption, ?_⟩ | refine Alt2.l (aI ?_) | refine Alt2.r (aI ?_)); conv => whnf) | (refine Ok.scope ?_) | ((first | refine Ok.label ?_ | refine rd rfl (by assumption) ?_ | refine ⟨_, .inl ⟨rfl, rfl⟩, ?_⟩ | refine ⟨_, _, rfl, rfl, ?_⟩); conv => whnf) | (refine ⟨fun _ => ?_, fun _ => ?_⟩ <;> (conv => whnf) <;> (try (exfalso; omega))) | ((first | refine aJ ?_ | refine num_any ?_ | refine ⟨_, rfl, ?_⟩); conv => whnf) | fail)
          refine Or.inr (Or.inr (Or.inl ?_)); (conv => whnf); refine ⟨_, _, Tryz.func110, rfl, Tryz.call110, ?_⟩; (conv => whnf)
          (try (conv => whnf)); repeat' (first | refine Ok.seq ?_ | refine OkL.cons ?_ | ((first | refine Ok.region tok ?_ | refine Ok.region_plan (id := 24) tok follows [(5, 6, []), (0, 9, []), (4, 9, []), (5, 9, [6]), (6, 9, []), (0, 12, []), (2, 12, []), (4, 12, []), (5, 12, []), (6, 12, []), (9, 12, [])] [.q 0, .q 1, .q 2, .q 3, .q 4, .q 5, .l 6, .q 7, .q 8, .l 9, .q 10, .q 11, .l 12] (by kernel_rfl) ?_ | refine Ok.region_plan (id := 35) tok follows [(0, 4, []), (2, 4, [])] [.q 0, .q 1, .l 2, .q 3, .l 4, .q 5] (by kernel_rfl) ?_ | refine Ok.region_draw tok follows (by kernel_rfl) ?_ | refine Ok.cond ?_); conv => whnf) | refine Ok.block ?_ | ((first | refine Ok.skip ?_ | refine Ok.exit ?_ | refine Ok.ret ?_ | refine nI ?_ | refine ix _ (by assumption) ?_ | refine ixI (by omega) (by assumption) ?_ | refine ix_new _ (by omega) fun _ _ => ?_ | refine ixI_new (by omega) (by omega) fun _ _ => ?_ | refine ⟨_, by assumption, ?_⟩ | refine Alt2.l (aI ?_) | refine Alt2.r (aI ?_)); conv => whnf) | (refine Ok.scope ?_) | ((first | refine Ok.label ?_ | refine rd rfl (by assumption) ?_ | refine ⟨_, .inl ⟨rfl, rfl⟩, ?_⟩ | refine ⟨_, _, rfl, rfl, ?_⟩); conv => whnf) | (refine ⟨fun _ => ?_, fun _ => ?_⟩ <;> (conv => whnf) <;> (try (exfalso; omega))) | ((first | refine aJ ?_ | refine num_any ?_ | refine ⟨_, rfl, ?_⟩); conv => whnf) | fail)
          refine Or.inr (Or.inr (Or.inr (Or.inr ?_)))
          (conv => whnf)
          refine effW_used copyAt rfl ?_
          (conv => whnf)
          have hdc : (dup c).2.length ≤ 256 := hcl
          (try (conv => whnf)); repeat' (first | ((refine And.intro byteT ?_); (conv => whnf)) | refine Ok.seq ?_ | refine OkL.cons ?_ | ((first | refine Ok.region tok ?_ | refine Ok.region_plan (id := 24) tok follows [(5, 6, []), (0, 9, []), (4, 9, []), (5, 9, [6]), (6, 9, []), (0, 12, []), (2, 12, []), (4, 12, []), (5, 12, []), (6, 12, []), (9, 12, [])] [.q 0, .q 1, .q 2, .q 3, .q 4, .q 5, .l 6, .q 7, .q 8, .l 9, .q 10, .q 11, .l 12] (by kernel_rfl) ?_ | refine Ok.region_plan (id := 35) tok follows [(0, 4, []), (2, 4, [])] [.q 0, .q 1, .l 2, .q 3, .l 4, .q 5] (by kernel_rfl) ?_ | refine Ok.region_draw tok follows (by kernel_rfl) ?_ | refine Ok.cond ?_); conv => whnf) | refine Ok.block ?_ | ((first | refine Ok.skip ?_ | refine Ok.exit ?_ | refine Ok.ret ?_ | refine nI ?_ | refine ix _ (by assumption) ?_ | refine ixI (by omega) (by assumption) ?_ | refine ix_new _ (by omega) fun _ _ => ?_ | refine ixI_new (by omega) (by omega) fun _ _ => ?_ | refine ⟨_, by assumption, ?_⟩ | refine Alt2.l (aI ?_) | refine Alt2.r (aI ?_)); conv => whnf) | (refine Ok.scope ?_) | ((first | refine Ok.label ?_ | refine rd rfl (by assumption) ?_ | refine ⟨_, .inl ⟨rfl, rfl⟩, ?_⟩ | refine ⟨_, _, rfl, rfl, ?_⟩); conv => whnf) | (refine ⟨fun _ => ?_, fun _ => ?_⟩ <;> (conv => whnf) <;> (try (exfalso; omega))) | ((first | refine aJ ?_ | refine num_any ?_ | refine ⟨_, rfl, ?_⟩); conv => whnf) | fail)
          refine ⟨i + 1, by omega, by omega, ?_⟩
          rw [← hst, hnx]
          (conv => whnf)
          simp [envCat, dup]
        · have hie4 : i = K.length := by omega
          subst hie4
          (try (conv => whnf)); repeat' (first | refine Ok.seq ?_ | refine OkL.cons ?_ | ((first | refine Ok.region tok ?_ | refine Ok.region_plan (id := 24) tok follows [(5, 6, []), (0, 9, []), (4, 9, []), (5, 9, [6]), (6, 9, []), (0, 12, []), (2, 12, []), (4, 12, []), (5, 12, []), (6, 12, []), (9, 12, [])] [.q 0, .q 1, .q 2, .q 3, .q 4, .q 5, .l 6, .q 7, .q 8, .l 9, .q 10, .q 11, .l 12] (by kernel_rfl) ?_ | refine Ok.region_plan (id := 35) tok follows [(0, 4, []), (2, 4, [])] [.q 0, .q 1, .l 2, .q 3, .l 4, .q 5] (by kernel_rfl) ?_ | refine Ok.region_draw tok follows (by kernel_rfl) ?_ | refine Ok.cond ?_); conv => whnf) | refine Ok.block ?_ | ((first | refine Ok.skip ?_ | refine Ok.exit ?_ | refine Ok.ret ?_ | refine nI ?_ | refine ix _ (by assumption) ?_ | refine ixI (by omega) (by assumption) ?_ | refine ix_new _ (by omega) fun _ _ => ?_ | refine ixI_new (by omega) (by omega) fun _ _ => ?_ | refine ⟨_, by assumption, ?_⟩ | refine Alt2.l (aI ?_) | refine Alt2.r (aI ?_)); conv => whnf) | (refine Ok.scope ?_) | ((first | refine Ok.label ?_ | refine rd rfl (by assumption) ?_ | refine ⟨_, .inl ⟨rfl, rfl⟩, ?_⟩ | refine ⟨_, _, rfl, rfl, ?_⟩); conv => whnf) | (refine ⟨fun _ => ?_, fun _ => ?_⟩ <;> (conv => whnf) <;> (try (exfalso; omega))) | ((first | refine aJ ?_ | refine num_any ?_ | refine ⟨_, rfl, ?_⟩); conv => whnf) | fail)
          have hkey := kf_key (p := p) hkl
          have hne0 : kf p ks K.length ≠ [] := kf_ne hp.2
          have htk : ((ks.take K.length ++ W.drop K.length).map crow).take K.length = ks.map crow := by
            rw [← hkl, List.take_length, List.map_append]
            exact List.take_left' (by simp)
          refine Or.inr (Or.inr (Or.inr ?_))
          (conv => whnf)
          refine effK_string strAt rfl rfl rfl (by rw [hbl]; exact Nat.le_refl _) (take_all bcell _) hne0 ?_
          (conv => whnf)
          (try (conv => whnf)); repeat' (first | refine Ok.seq ?_ | refine OkL.cons ?_ | ((first | refine Ok.region tok ?_ | refine Ok.region_plan (id := 24) tok follows [(5, 6, []), (0, 9, []), (4, 9, []), (5, 9, [6]), (6, 9, []), (0, 12, []), (2, 12, []), (4, 12, []), (5, 12, []), (6, 12, []), (9, 12, [])] [.q 0, .q 1, .q 2, .q 3, .q 4, .q 5, .l 6, .q 7, .q 8, .l 9, .q 10, .q 11, .l 12] (by kernel_rfl) ?_ | refine Ok.region_plan (id := 35) tok follows [(0, 4, []), (2, 4, [])] [.q 0, .q 1, .l 2, .q 3, .l 4, .q 5] (by kernel_rfl) ?_ | refine Ok.region_draw tok follows (by kernel_rfl) ?_ | refine Ok.cond ?_); conv => whnf) | refine Ok.block ?_ | ((first | refine Ok.skip ?_ | refine Ok.exit ?_ | refine Ok.ret ?_ | refine nI ?_ | refine ix _ (by assumption) ?_ | refine ixI (by omega) (by assumption) ?_ | refine ix_new _ (by omega) fun _ _ => ?_ | refine ixI_new (by omega) (by omega) fun _ _ => ?_ | refine ⟨_, by assumption, ?_⟩ | refine Alt2.l (aI ?_) | refine Alt2.r (aI ?_)); conv => whnf) | (refine Ok.scope ?_) | ((first | refine Ok.label ?_ | refine rd rfl (by assumption) ?_ | refine ⟨_, .inl ⟨rfl, rfl⟩, ?_⟩ | refine ⟨_, _, rfl, rfl, ?_⟩); conv => whnf) | (refine ⟨fun _ => ?_, fun _ => ?_⟩ <;> (conv => whnf) <;> (try (exfalso; omega))) | ((first | refine aJ ?_ | refine num_any ?_ | refine ⟨_, rfl, ?_⟩); conv => whnf) | fail)
          refine Or.inl ?_; (conv => whnf)
          refine ⟨rfl, .inr ⟨⟨p, ks⟩, ((ks.take K.length ++ W.drop K.length).map crow).drop K.length, hterm, ?_⟩⟩
          rw [htk]
          simp only [oneD, trow, hkey]
end Go.Proofs.YtaiondckookpiaaGreatDoor
namespace Go.Proofs.YtaiondckookpiaaGreatDoor
open Go Go.Vx
def szT (l : List Term) : Nat := (l.map fun t => 1 + t.less.length).sum
theorem szT_snoc (l : List Term) (t : Term) : szT (l ++ [t]) = szT l + (1 + t.less.length) := by simp [szT]
theorem szT_le {l : List Term} (h : ∀ t ∈ l, t.less.length ≤ 1048576) : szT l ≤ l.length * 1048577 := by
  induction l with
  | nil => simp [szT]
  | cons t l ih =>
    have h1 := ih fun x hx => h x (by simp [hx])
    have h2 := h t (by simp)
    simp only [szT, List.map_cons, List.sum_cons, List.length_cons] at h1 ⊢
    rw [Nat.add_mul]
    omega
end Go.Proofs.YtaiondckookpiaaGreatDoor
