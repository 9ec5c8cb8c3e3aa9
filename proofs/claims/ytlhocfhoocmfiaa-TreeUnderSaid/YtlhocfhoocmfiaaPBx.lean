/- Laws of trees: plain. TreeNames: the mixing of a word more tells words apart; plain. Conditions: numbers are words. TreeKids, TreeMore: plain. Conditions: none. -/
import Derived.Test.YtlhocfhoocmfiaaL3
import Derived.Test.YtlhocfhoocmfiaaPLt
namespace Go.Mg

theorem noneLaw {l : List Bk} {id low : ID} : F15 l id low = some true := by
  simp only [F15, F41_eq, ob, Bool.not_true, cf]
  by_cases hl : (l.length : Int) > 40
  · rw [decide_eq_true hl]; rfl
  have hl' : l.length ≤ 1000 := by omega
  rw [decide_eq_false hl, cf, F52_eq, F53_eq, F43_eq]
  simp only [ob, few_of hl', ct, eqID0]
  have last : slotOfB l id = (0, false) → findOf l id = -1 → chainOf l id = [] → ((bif findOf l id == -1 then bif (slotOfB l id).1 == 0 then bif !(slotOfB l id).2 then bif ((chainOf l id).length : Int) == 0 then some (!(decide (indexOf (chainOf l id) low ≥ 0))) else some false else some false else some false else some false) : Option Bool) = some true := by
    intro h1 h2 h3
    rw [h1, h2, h3]; rfl
  cases hp : places l with
  | none =>
    simp only [Option.isSome_none, cf, ob, sl]
    exact last (by simp [slotOfB, hp]) (by simp [findOf, hp]) (by simp [chainOf, hp])
  | some m =>
    simp only [Option.isSome_some, ct]
    by_cases hf : findOf l id ≥ 0
    · rw [decide_eq_true hf]; rfl
    · rw [decide_eq_false hf, cf]
      by_cases hz : id = (0, 0)
      · rw [decide_eq_true hz]; rfl
      · rw [decide_eq_false hz]
        simp only [cf, ob, sl]
        have hn : findE m id = none := by
          rcases Option.eq_none_or_eq_some (findE m id) with h | ⟨i, h⟩
          · exact h
          · exfalso
            rcases known_ix hp h with ⟨-, h2⟩ | ⟨b, h0, -⟩
            · exact hz h2
            · apply hf; simp only [findOf, hp, h]; exact h0
        exact last (by simp [slotOfB, hp, hn]) (by simp [findOf, hp, hn]) (by simp [chainOf, hp, hn])

theorem treeUnderLaw {l : List Bk} {a b c : ID} : F11 l a b c = some true := by
  simp only [F11, F41_eq, ob, Bool.not_true, cf]
  by_cases hl : (l.length : Int) > 40
  · rw [decide_eq_true hl]; rfl
  have hl' : l.length ≤ 1000 := by omega
  rw [decide_eq_false hl]
  simp only [cf, few_of hl', ct, eqID]
  by_cases he : chainOf l a = []
  · rw [he]; rfl
  have hn : (((chainOf l a).length : Int) == 0) = false := by
    have : (chainOf l a).length ≠ 0 := fun e => he (List.eq_nil_of_length_eq_zero e)
    simpa using he
  rw [hn, cf]
  have h1 : indexOf (chainOf l a) a ≥ 0 := indexOf_mem.2 (List.mem_of_getElem? (chain_head he))
  have h2 : indexOf (chainOf l a) (0, 0) ≥ 0 := indexOf_mem.2 (chain_zero he)
  rw [decide_eq_true h1, decide_eq_true h2]
  have hfirst : (bif !true then (some (.inr false) : Option (Unit ⊕ Bool)) else bif !true then some (.inr false) else bif decide (indexOf (chainOf l b) a ≥ 0) then bif decide (indexOf (chainOf l c) b ≥ 0) then bif !(decide (indexOf (chainOf l c) a ≥ 0)) then some (.inr false) else some (.inl ()) else some (.inl ()) else some (.inl ())) = some (.inl ()) := by
    by_cases h3 : indexOf (chainOf l b) a ≥ 0
    · by_cases h4 : indexOf (chainOf l c) b ≥ 0
      · have h5 : indexOf (chainOf l c) a ≥ 0 := indexOf_mem.2 (chain_sub (indexOf_mem.1 h3) (indexOf_mem.1 h4))
        rw [decide_eq_true h3, decide_eq_true h4, decide_eq_true h5]; rfl
      · rw [decide_eq_true h3, decide_eq_false h4]; rfl
    · rw [decide_eq_false h3]; rfl
  rw [hfirst]
  simp only [ob, sl]
  have hsecond : (bif decide (indexOf (chainOf l c) a ≥ 0) then bif decide (indexOf (chainOf l c) b ≥ 0) then bif !(decide (indexOf (chainOf l b) a ≥ 0)) then bif !(decide (indexOf (chainOf l a) b ≥ 0)) then (some (.inr false) : Option (Unit ⊕ Bool)) else some (.inl ()) else some (.inl ()) else some (.inl ()) else some (.inl ())) = some (.inl ()) := by
    by_cases h3 : indexOf (chainOf l c) a ≥ 0
    · by_cases h4 : indexOf (chainOf l c) b ≥ 0
      · rw [decide_eq_true h3, decide_eq_true h4]
        have m3 := indexOf_mem.1 h3
        have m4 := indexOf_mem.1 h4
        by_cases h5 : indexOf (chainOf l b) a ≥ 0
        · rw [decide_eq_true h5]; rfl
        · have h6 : indexOf (chainOf l a) b ≥ 0 := by
            refine indexOf_mem.2 ((chain_le m3 m4).2 ?_)
            have := mt (chain_le m4 m3).2 (fun h => h5 (indexOf_mem.2 h))
            omega
          rw [decide_eq_false h5, decide_eq_true h6]; rfl
      · rw [decide_eq_true h3, decide_eq_false h4]; rfl
    · rw [decide_eq_false h3]; rfl
  rw [hsecond]
  simp only [ob, sl]
  by_cases h3 : indexOf (chainOf l b) a ≥ 0
  · rw [decide_eq_true h3]
    by_cases h4 : indexOf (chainOf l a) b ≥ 0
    · rw [decide_eq_true h4]
      have e : a = b := by
        have m3 := indexOf_mem.1 h3
        have m4 := indexOf_mem.1 h4
        have hb := chain_self m4
        have h5 := (chain_le hb m3).1 m3
        have h6 := (chain_le m3 hb).1 m4
        obtain ⟨i, g1, g2⟩ := chain_mem m3
        obtain ⟨j, g3, g4⟩ := chain_mem hb
        rw [g2, g4] at h5 h6
        have : i = j := by omega
        subst this
        rw [g1] at g3; cases g3; rfl
      rw [decide_eq_true e]; rfl
    · rw [decide_eq_false h4]; rfl
  · rw [decide_eq_false h3]; rfl

/-- One step down a chain. -/
theorem chain_next {l : List Bk} {id x y : ID} {i : Nat} (hx : (chainOf l id)[i]? = some x) (hy : (chainOf l id)[i + 1]? = some y) :
    ∃ m k p b, places l = some m ∧ findE m x = some k ∧ 0 ≤ k ∧ k < l.length ∧ l[k.toNat]? = some b ∧ nm b = x ∧ b.Parent = y ∧ findE m y = some p ∧ slotIx l p < b.Slot := by
  have hc := chain_at hx
  have hy' : (chainOf l x)[1]? = some y := by rw [hc, List.getElem?_drop]; exact hy
  unfold chainOf at hy'
  cases hp : places l with
  | none => rw [hp] at hy'; simp at hy'
  | some m =>
    rw [hp] at hy'
    simp only at hy'
    cases hf : findE m x with
    | none => rw [hf] at hy'; simp at hy'
    | some k =>
      rw [hf] at hy'
      simp only at hy'
      rcases (places_inv hp).known _ _ hf with ⟨h, h'⟩ | ⟨b, p, h0, h1, h2, h3, h4, h5, h6, h7⟩
      · subst h
        simp [chainF] at hy'
      · rw [chainF_step (id := x) hp (by omega) h0 h2 h4 h5 h6] at hy'
        have hh : chainF l (p + 1).toNat b.Parent p = chainOf l b.Parent := by simp only [chainOf, hp, h4]
        have hne : chainOf l b.Parent ≠ [] := by
          intro e
          rw [hh, e] at hy'; simp at hy'
        have := chain_head hne
        rw [hh] at hy'
        simp only [List.getElem?_cons_succ] at hy'
        rw [this] at hy'
        cases hy'
        exact ⟨m, k, p, b, rfl, hf, h0, h1, h2, h3, rfl, h4, h7⟩

theorem chain_last {l : List Bk} {id : ID} (hne : chainOf l id ≠ []) : (chainOf l id)[(chainOf l id).length - 1]? = some (0, 0) := by
  obtain ⟨a, h3, h4⟩ := chain_mem (chain_zero hne)
  have h5 := chain_at h3
  have h6 : (chainOf l (0, 0)).length = 1 := by
    unfold chainOf
    cases hp : places l with
    | none => unfold chainOf at hne; rw [hp] at hne; exact absurd rfl hne
    | some m => simp only [(places_inv hp).zero]; rfl
  have ha := (List.getElem?_eq_some_iff.1 h3).1
  rw [h5, List.length_drop] at h6
  rw [show (chainOf l id).length - 1 = a by omega]; exact h3

theorem F10_s2_loop {l : List Bk} {id : ID} {x1 : F10_L1} {K : List ID} {i : Nat} {x : ID} (hi : x1.i = i) (hx : (chainOf l id)[i]? = some x) (hK : x ∈ K) (hl : K.length ≤ 1000) :
    ∃ b, iter (F10_s2 l id x1 K) big ⟨false, 0⟩ = some b ∧ b.v_is = true := by
  have ⟨q, hq⟩ := List.getElem?_of_mem hK
  refine iter_inv (step := F10_s2 l id x1 K) (fun s => ∃ n : Nat, s.j = n ∧ n ≤ K.length ∧ (q < n → s.v_is = true)) (fun s => K.length - s.j.toNat) (fun b => b.v_is = true) ?_ ⟨0, rfl, Nat.zero_le _, fun h => by omega⟩ (big_gt (by simp only; omega))
  rintro ⟨u, j⟩ ⟨n, rfl, hn, hu⟩
  simp only at hu ⊢
  by_cases hlt : n < K.length
  case neg =>
    right
    refine ⟨⟨u, n⟩, ?_, hu (by have := (List.getElem?_eq_some_iff.1 hq).1; omega)⟩
    simp only [F10_s2]; rw [decide_eq_false (by omega)]; rfl
  obtain ⟨y, hy, -⟩ := get_of hlt
  left
  cases u with
  | true =>
    refine ⟨⟨true, IntKind.i64.wrap ((n : Int) + 1)⟩, ?_, ⟨n + 1, wrap_succ (n := n) (by omega), by omega, fun _ => rfl⟩, ?_⟩
    · simp only [F10_s2]; rw [decide_eq_true (by omega)]; rfl
    · simp only [wrap_succ (show n < 4000000000 by omega)]; omega
  | false =>
    refine ⟨⟨decide (y = x), IntKind.i64.wrap ((n : Int) + 1)⟩, ?_, ⟨n + 1, wrap_succ (n := n) (by omega), by omega, fun h => ?_⟩, ?_⟩
    · simp only [F10_s2, hi]
      rw [decide_eq_true (show (n : Int) < (K.length : Int) by omega), ix_nat hy, ix_nat hx]
      simp only [ct, cf, ob, eqID]
    · have : n = q := by
        rcases Nat.lt_succ_iff_lt_or_eq.1 h with h | h
        · have := hu h; cases this
        · exact h.symm
      subst this
      rw [hy] at hq; cases hq
      exact decide_eq_true rfl
    · simp only [wrap_succ (show n < 4000000000 by omega)]; omega

theorem chainsLaw {l : List Bk} {id : ID} : F10 l id = some true := by
  simp only [F10, F41_eq, ob, Bool.not_true, cf]
  by_cases hl : (l.length : Int) > 40
  · rw [decide_eq_true hl]; rfl
  have hl' : l.length ≤ 1000 := by omega
  rw [decide_eq_false hl]
  simp only [cf, few_of hl', ct]
  have hcl := chain_len (l := l) id
  generalize hc : chainOf l id = c
  rw [hc] at hcl
  by_cases he : c = []
  · subst he
    rw [show ((([] : List ID).length : Int) == 0) = true from rfl, ct, F52_eq]
    simp only [ob]
    cases hp : places l with
    | none => rfl
    | some m =>
      simp only [Option.isSome_some, Bool.not_true, cf, F53_eq, ob, eqID0]
      have hn : findE m id = none := by
        rcases Option.eq_none_or_eq_some (findE m id) with h | ⟨i, h⟩
        · exact h
        · exfalso
          have : chainOf l id ≠ [] := by
            simp only [chainOf, hp, h]
            rcases (places_inv hp).known _ _ h with ⟨h1, h'⟩ | ⟨b, p, h0, h1, h2, h3, h4, h5, h6, h7⟩
            · subst h1; simp [chainF]
            · rw [chainF_step (id := id) hp (by omega) h0 h2 h4 h5 h6]; simp
          exact this hc
      have hz : id ≠ (0, 0) := by
        intro e; subst e
        rw [(places_inv hp).zero] at hn; cases hn
      have : findOf l id = -1 := by simp only [findOf, hp, hn]; rfl
      rw [this, decide_eq_false hz]; rfl
  have hlen : 0 < c.length := List.length_pos_iff.2 he
  have hne : chainOf l id ≠ [] := by rw [hc]; exact he
  rw [show ((c.length : Int) == 0) = false by simp; omega, cf]
  have h0 : c[0]? = some id := by rw [← hc]; exact chain_head hne
  have h1 : c[c.length - 1]? = some (0, 0) := by have := chain_last hne; rwa [hc] at this
  have hw : IntKind.i64.wrap ((c.length : Int) - 1) = ((c.length - 1 : Nat) : Int) := by rw [wrapI (by omega) (by omega)]; omega
  have hw2 : IntKind.i64.wrap ((l.length : Int) + 1) = ((l.length + 1 : Nat) : Int) := wrap_succ (by omega)
  rw [show ix c 0 = some id from ix_nat (n := 0) h0, hw, ix_nat h1, hw2]
  simp only [ob, eqID, eqID0, decide_true, Bool.not_true, cf]
  rw [decide_eq_false (show ¬ (c.length : Int) > ((l.length + 1 : Nat) : Int) by omega)]
  simp only [cf]
  have key := iter_inv (step := F10_s1 l id) (fun x => ∃ n : Nat, x.i = n ∧ n + 1 ≤ c.length) (fun x => c.length - x.i.toNat) (fun b => ∃ v, b = .inl v) (by
    rintro ⟨i⟩ ⟨n, rfl, hn⟩
    simp only
    have hwn : IntKind.i64.wrap ((n : Int) + 1) = ((n + 1 : Nat) : Int) := wrap_succ (by omega)
    by_cases hlt : n + 1 < c.length
    case neg =>
      right
      refine ⟨.inl ⟨n⟩, ?_, ⟨_, rfl⟩⟩
      simp only [F10_s1, hc, hwn]; rw [decide_eq_false (by omega)]; rfl
    obtain ⟨x, hx, -⟩ := get_of (l := c) (n := n) (by omega)
    obtain ⟨y, hy, hym⟩ := get_of (l := c) (n := n + 1) hlt
    left
    obtain ⟨m, k, p, b, g1, g2, g3, g4, g5, g6, g7, g8, g9⟩ := chain_next (by rw [hc]; exact hx) (by rw [hc]; exact hy)
    have gk : findOf l x = k := by simp only [findOf, g1, g2]; rfl
    have gs : slotOfB l x = (b.Slot, true) := by simp only [slotOfB, g1, g2]; simp [slotIx, g5, show ¬ k = -1 by omega]
    have gt : slotOfB l y = (slotIx l p, true) := by simp only [slotOfB, g1, g8]
    have gy : indexOf c y ≥ 0 := indexOf_mem.2 hym
    have gK : x ∈ kidsOf l y := by
      simp only [kidsOf, g1]
      exact List.mem_map.2 ⟨b, List.mem_filter.2 ⟨List.mem_of_getElem? g5, by simp [g7]⟩, g6⟩
    have gKl : (kidsOf l y).length ≤ 1000 := by
      simp only [kidsOf, g1, List.length_map]
      exact Nat.le_trans (List.length_filter_le _ _) hl'
    obtain ⟨d, hd, hdt⟩ := F10_s2_loop (l := l) (id := id) (x1 := ⟨n⟩) (K := kidsOf l y) (i := n) rfl (by rw [hc]; exact hx) gK gKl
    refine ⟨⟨((n + 1 : Nat) : Int)⟩, ?_, ⟨n + 1, rfl, by omega⟩, by simp only; omega⟩
    simp only [F10_s1, hc, hwn]
    rw [decide_eq_true (show ((n + 1 : Nat) : Int) < (c.length : Int) by omega), ix_nat hx, ix_nat hy]
    simp only [ct, ob, F43_eq, F53_eq, gk, gs, gt]
    rw [decide_eq_false (show ¬ b.Slot ≤ slotIx l p by omega), decide_eq_false (show ¬ k < 0 by omega), ix_of g3 g5]
    simp only [cf, ob, eqID, g7, decide_true, Bool.not_true, few_of hl', ct]
    rw [decide_eq_true gy]
    simp only [Bool.not_true, cf, ob, F46_eq hl', hd, hdt]) (x := ⟨0⟩) ⟨0, rfl, by omega⟩ (n := big) (big_gt (by simp only; omega))
  obtain ⟨b, hb, v, rfl⟩ := key
  rw [hb]; rfl
end Go.Mg

namespace Go.Mg

def mul1 : BitVec 64 := 13787848793156543929
def mul2 : BitVec 64 := 10723151780598845931
def xs (k : Nat) (x : BitVec 64) : BitVec 64 := x ^^^ (x >>> k)
def wB (x : BitVec 64) : BitVec 64 := xs 31 (xs 27 (xs 30 x * mul1) * mul2)

theorem xs_inj (k : Nat) (hk : 64 ≤ 3 * k) {x y : BitVec 64} (h : xs k x = xs k y) : x = y := by
  have inv : ∀ z : BitVec 64, xs k z ^^^ (xs k z >>> k) ^^^ (xs k z >>> (k + k)) = z := by
    intro z
    unfold xs
    rw [BitVec.ushiftRight_xor_distrib, BitVec.ushiftRight_xor_distrib, ← BitVec.shiftRight_add, ← BitVec.shiftRight_add]
    have h0 : z >>> (k + (k + k)) = 0#64 := by
      apply BitVec.eq_of_toNat_eq
      rw [BitVec.toNat_ushiftRight, Nat.shiftRight_eq_div_pow]
      have h1 : z.toNat < 2 ^ 64 := z.isLt
      have h2 : (2 : Nat) ^ 64 ≤ 2 ^ (k + (k + k)) := Nat.pow_le_pow_right (by omega) (by omega)
      rw [Nat.div_eq_of_lt (by omega)]; rfl
    rw [h0, BitVec.xor_zero]
    rw [BitVec.xor_assoc, BitVec.xor_assoc, BitVec.xor_assoc]
    rw [← BitVec.xor_assoc (z >>> k) (z >>> k), BitVec.xor_self, BitVec.zero_xor, BitVec.xor_self, BitVec.xor_zero]
  rw [← inv x, h, inv y]

theorem mul_inj {c d : BitVec 64} (h : c * d = 1#64) {x y : BitVec 64} (e : x * c = y * c) : x = y := by
  have : x * c * d = y * c * d := by rw [e]
  rwa [BitVec.mul_assoc, BitVec.mul_assoc, h, BitVec.mul_one, BitVec.mul_one] at this

theorem wB_inj {x y : BitVec 64} (h : wB x = wB y) : x = y := by
  have h1 := xs_inj 31 (by omega) h
  have h2 := mul_inj (c := mul2) (d := 3573116690164977347) (by decide) h1
  have h3 := xs_inj 27 (by omega) h2
  have h4 := mul_inj (c := mul1) (d := 10871156337175269513) (by decide) h3
  exact xs_inj 30 (by omega) h4

def U64 (x : Int) : Prop := 0 ≤ x ∧ x ≤ 18446744073709551615
theorem toNat_U64 (v : BitVec 64) : U64 (v.toNat : Int) := by have := v.isLt; constructor <;> omega

theorem wrap_toNat (v : BitVec 64) : IntKind.u64.wrap (v.toNat : Int) = v.toNat := wrapU (toNat_U64 v).1 (toNat_U64 v).2

theorem bits_xor (x y : Int) : bits .xor .u64 x y = ((BitVec.ofInt 64 x ^^^ BitVec.ofInt 64 y).toNat : Int) := by
  have : bits .xor .u64 x y = IntKind.u64.wrap ((BitVec.ofInt 64 x ^^^ BitVec.ofInt 64 y).toNat : Int) := rfl
  rw [this, wrap_toNat]

theorem ofInt_toNat (v : BitVec 64) : BitVec.ofInt 64 (v.toNat : Int) = v := by
  apply BitVec.eq_of_toNat_eq
  rw [BitVec.toNat_ofInt]
  have := v.isLt
  omega

theorem toNat_ofU {x : Int} (h : U64 x) : ((BitVec.ofInt 64 x).toNat : Int) = x := by
  rw [BitVec.toNat_ofInt]
  have := h.1; have := h.2
  omega

theorem shift_ofInt (v : BitVec 64) (k : Nat) (hk : k ≤ 64) : BitVec.ofInt 64 ((v.toNat : Int).fdiv (2 ^ (min (Int.toNat k) IntKind.u64.bits))) = v >>> k := by
  apply BitVec.eq_of_toNat_eq
  have hm : min (Int.toNat (k : Int)) IntKind.u64.bits = k := by
    show min (Int.toNat (k : Int)) 64 = k
    omega
  rw [hm, BitVec.toNat_ofInt, BitVec.toNat_ushiftRight, Nat.shiftRight_eq_div_pow]
  have e : (v.toNat : Int).fdiv (2 ^ k) = ((v.toNat / 2 ^ k : Nat) : Int) := by
    rw [Int.fdiv_eq_ediv_of_nonneg _ (by exact Int.le_of_lt (Int.pow_pos (by omega)))]
    push_cast; rfl
  rw [e]
  have h1 : v.toNat / 2 ^ k ≤ v.toNat := Nat.div_le_self _ _
  have := v.isLt
  generalize v.toNat / 2 ^ k = q at h1 ⊢
  omega

theorem xs_int (v : BitVec 64) (k : Nat) (hk : k ≤ 64) : bits .xor .u64 (v.toNat : Int) ((v.toNat : Int).fdiv (2 ^ (min (Int.toNat k) IntKind.u64.bits))) = ((xs k v).toNat : Int) := by
  rw [bits_xor, ofInt_toNat, shift_ofInt v k hk]; rfl

theorem mul_int (v c : BitVec 64) : IntKind.u64.wrap ((v.toNat : Int) * (c.toNat : Int)) = ((v * c).toNat : Int) := by
  rw [BitVec.toNat_mul]
  have e : (v.toNat : Int) * (c.toNat : Int) = ((v.toNat * c.toNat : Nat) : Int) := by push_cast; rfl
  rw [e]
  show (((v.toNat * c.toNat : Nat) : Int) % (2 ^ 64 : Int)) = _
  norm_cast

theorem word_bv (v : BitVec 64) : word (v.toNat : Int) = ((wB v).toNat : Int) := by
  unfold word wB
  have h1 := xs_int v 30 (by omega)
  have h2 := mul_int (xs 30 v) mul1
  have h3 := xs_int (xs 30 v * mul1) 27 (by omega)
  have h4 := mul_int (xs 27 (xs 30 v * mul1)) mul2
  have h5 := xs_int (xs 27 (xs 30 v * mul1) * mul2) 31 (by omega)
  have c1 : ((mul1).toNat : Int) = 13787848793156543929 := by decide
  have c2 : ((mul2).toNat : Int) = 10723151780598845931 := by decide
  rw [c1] at h2; rw [c2] at h4
  have e1 := h1
  exact (by
    show bits .xor .u64 (IntKind.u64.wrap (bits .xor .u64 (IntKind.u64.wrap (bits .xor .u64 (v.toNat : Int) ((v.toNat : Int).fdiv (2 ^ (min (Int.toNat ((30 : Nat) : Int)) IntKind.u64.bits))) * 13787848793156543929)) ((IntKind.u64.wrap (bits .xor .u64 (v.toNat : Int) ((v.toNat : Int).fdiv (2 ^ (min (Int.toNat ((30 : Nat) : Int)) IntKind.u64.bits))) * 13787848793156543929)).fdiv (2 ^ (min (Int.toNat ((27 : Nat) : Int)) IntKind.u64.bits))) * 10723151780598845931)) ((IntKind.u64.wrap (bits .xor .u64 (IntKind.u64.wrap (bits .xor .u64 (v.toNat : Int) ((v.toNat : Int).fdiv (2 ^ (min (Int.toNat ((30 : Nat) : Int)) IntKind.u64.bits))) * 13787848793156543929)) ((IntKind.u64.wrap (bits .xor .u64 (v.toNat : Int) ((v.toNat : Int).fdiv (2 ^ (min (Int.toNat ((30 : Nat) : Int)) IntKind.u64.bits))) * 13787848793156543929)).fdiv (2 ^ (min (Int.toNat ((27 : Nat) : Int)) IntKind.u64.bits))) * 10723151780598845931)).fdiv (2 ^ (min (Int.toNat ((31 : Nat) : Int)) IntKind.u64.bits))) = _
    rw [h1, h2, h3, h4, h5])

theorem word_inj {x y : Int} (hx : U64 x) (hy : U64 y) (h : word x = word y) : x = y := by
  have h1 := word_bv (BitVec.ofInt 64 x)
  have h2 := word_bv (BitVec.ofInt 64 y)
  rw [toNat_ofU hx] at h1
  rw [toNat_ofU hy] at h2
  rw [h1, h2] at h
  have h3 : wB (BitVec.ofInt 64 x) = wB (BitVec.ofInt 64 y) := BitVec.eq_of_toNat_eq (by omega)
  have h4 := wB_inj h3
  rw [← toNat_ofU hx, ← toNat_ofU hy, h4]

theorem word_U (x : Int) : U64 (word x) := by
  unfold word; simp only
  rw [bits_xor]; exact toNat_U64 _

theorem wrap_inj {x y c : Int} (hx : U64 x) (hy : U64 y) (h : IntKind.u64.wrap (x + c) = IntKind.u64.wrap (y + c)) : x = y := by
  have e : ∀ z, IntKind.u64.wrap z = z % 18446744073709551616 := fun z => rfl
  rw [e, e] at h
  have := hx.1; have := hx.2; have := hy.1; have := hy.2
  omega

theorem xor_U (x y : Int) : U64 (bits .xor .u64 x y) := by rw [bits_xor]; exact toNat_U64 _

theorem wrap_U (x : Int) : U64 (IntKind.u64.wrap x) := inKind_wrap .u64 x

theorem step_inj2 {h x y : Int} (hx : U64 x) (hy : U64 y) (e : step h x = step h y) : x = y := by
  have h1 := word_inj (wrap_U _) (wrap_U _) e
  have h2 := wrap_inj (xor_U _ _) (xor_U _ _) h1
  rw [bits_xor, bits_xor] at h2
  have h3 : BitVec.ofInt 64 h ^^^ BitVec.ofInt 64 x = BitVec.ofInt 64 h ^^^ BitVec.ofInt 64 y := BitVec.eq_of_toNat_eq (by omega)
  have h4 := (BitVec.xor_right_inj _).1 h3
  rw [← toNat_ofU hx, ← toNat_ofU hy, h4]

theorem step_inj1 {h g x : Int} (hh : U64 h) (hg : U64 g) (e : step h x = step g x) : h = g := by
  have h1 := word_inj (wrap_U _) (wrap_U _) e
  have h2 := wrap_inj (xor_U _ _) (xor_U _ _) h1
  rw [bits_xor, bits_xor] at h2
  have h3 : BitVec.ofInt 64 h ^^^ BitVec.ofInt 64 x = BitVec.ofInt 64 g ^^^ BitVec.ofInt 64 x := BitVec.eq_of_toNat_eq (by omega)
  have h4 := (BitVec.xor_left_inj _).1 h3
  rw [← toNat_ofU hh, ← toNat_ofU hg, h4]

def preN (b : Bk) : Int × Int := [1, IntKind.u64.wrap b.Slot, IntKind.u64.wrap b.From, b.Parent.1, b.Parent.2].foldl mixStep (1, 2)
theorem nm_pre (b : Bk) : nm b = mixStep (mixStep (preN b) b.Salt) 6 := rfl

theorem nm_salt {b : Bk} {s : Int} (hb : U64 b.Salt) (hs : U64 s) (h : nm b = nm ⟨b.Slot, b.From, b.Parent, s⟩) : b.Salt = s := by
  rw [nm_pre, nm_pre] at h
  have h1 : step (step (preN b).1 b.Salt) 6 = step (step (preN ⟨b.Slot, b.From, b.Parent, s⟩).1 s) 6 := congrArg Prod.fst h
  have hp : preN ⟨b.Slot, b.From, b.Parent, s⟩ = preN b := rfl
  rw [hp] at h1
  exact step_inj2 hb hs (step_inj1 (word_U _) (word_U _) h1)

theorem names_plain {b : Bk} {salt slot : Int} {x y z : ID} (hx : nm b = x) (hy : nm ⟨b.Slot, b.From, b.Parent, salt⟩ = y) (hz : nm ⟨slot, b.From, b.Parent, b.Salt⟩ = z) (h1 : x = y ↔ b.Salt = salt) (h2 : b.Slot = slot → z = x) : F14 b salt slot = some true := by
  simp only [F14, F41_eq, ob, ct, hx, hy, hz, eqID]
  have : (decide (x = y) == (b.Salt == salt)) = true := by
    by_cases h : x = y
    · rw [decide_eq_true h, h1.1 h]; simp
    · rw [decide_eq_false h]
      have := mt h1.2 h
      simp [this]
  rw [this, ct]
  by_cases h : b.Slot = slot
  · have e : (b.Slot != slot) = false := by simp [h]
    rw [e, cf, decide_eq_true (h2 h)]
  · have e : (b.Slot != slot) = true := by simp [h]
    rw [e, ct]

theorem namesLaw {b : Bk} {salt slot : Int} (hb : BkOk b) (hs : InKind .u64 salt) : F14 b salt slot = some true := by
  refine names_plain rfl rfl rfl ⟨fun h => nm_salt hb.2.2.2.2 hs h, fun h => ?_⟩ fun h => ?_
  · subst h; rfl
  · subst h; rfl
end Go.Mg

namespace Go.Mg

/-! Kids: each block stands on just one. -/

theorem sum_ind {p : ID} : ∀ {I : List ID}, I.Nodup → (p ∈ I → (I.map fun id => if p = id then 1 else 0).sum = 1) ∧ (p ∉ I → (I.map fun id => if p = id then (1 : Nat) else 0).sum = 0)
  | [], _ => ⟨fun h => by simp at h, fun _ => rfl⟩
  | a :: I, hn => by
    rw [List.nodup_cons] at hn
    obtain ⟨h1, h2⟩ := sum_ind (p := p) hn.2
    constructor
    · intro h
      simp only [List.map_cons, List.sum_cons]
      by_cases e : p = a
      · subst e
        rw [if_pos rfl, h2 hn.1]
      · rw [if_neg e, h1 (by simpa [e] using h)]
    · intro h
      simp only [List.mem_cons, not_or] at h
      simp only [List.map_cons, List.sum_cons]
      rw [if_neg h.1, h2 h.2]

theorem sum_add {α : Type} (f g : α → Nat) : ∀ I : List α, (I.map fun x => f x + g x).sum = (I.map f).sum + (I.map g).sum
  | [] => rfl
  | a :: I => by simp only [List.map_cons, List.sum_cons, sum_add f g I]; omega

theorem sum_count {I : List ID} (hn : I.Nodup) : ∀ {l : List Bk}, (∀ b ∈ l, b.Parent ∈ I) → (I.map fun id => (l.filter fun b => decide (b.Parent = id)).length).sum = l.length
  | [], _ => by
    simp only [List.filter_nil, List.length_nil]
    induction I with
    | nil => rfl
    | cons a I ih => rw [List.map_cons, List.sum_cons, ih (List.nodup_cons.1 hn).2 (fun b hb => by simp at hb)]
  | b :: l, h => by
    have ih := sum_count hn (l := l) fun c hc => h c (.tail _ hc)
    have e : ∀ id, ((b :: l).filter fun b => decide (b.Parent = id)).length = (l.filter fun b => decide (b.Parent = id)).length + if b.Parent = id then 1 else 0 := by
      intro id
      by_cases hb : b.Parent = id <;> simp [hb]
    simp only [e]
    rw [sum_add, ih, (sum_ind hn).1 (h b (.head _)), List.length_cons]

theorem names_nodup {l : List Bk} {m : List (ID × Int)} (h : places l = some m) : ((0, 0) :: l.map nm).Nodup := by
  rw [List.nodup_cons]
  refine ⟨fun hm => ?_, ?_⟩
  · obtain ⟨b, hb, e⟩ := List.mem_map.1 hm
    obtain ⟨i, hi⟩ := List.getElem?_of_mem hb
    have h1 := (places_inv h).names i b (List.getElem?_eq_some_iff.1 hi).1 hi
    rw [e, (places_inv h).zero] at h1
    cases h1
  · rw [List.Nodup, List.pairwise_iff_getElem]
    intro i j hi hj hij e
    simp only [List.length_map] at hi hj
    have h1 := (places_inv h).names i l[i] hi (List.getElem?_eq_getElem hi)
    have h2 := (places_inv h).names j l[j] hj (List.getElem?_eq_getElem hj)
    rw [List.getElem_map, List.getElem_map] at e
    rw [e, h2] at h1
    cases h1
    omega

theorem parents_known {l : List Bk} {m : List (ID × Int)} (h : places l = some m) : ∀ b ∈ l, b.Parent ∈ ((0, 0) :: l.map nm : List ID) := by
  intro b hb
  obtain ⟨i, hi⟩ := List.getElem?_of_mem hb
  have h1 := (places_inv h).names i b (List.getElem?_eq_some_iff.1 hi).1 hi
  rcases (places_inv h).known _ _ h1 with ⟨h2, -⟩ | ⟨b', p, h0, h2, h3, h4, h5, -⟩
  · omega
  · rw [Int.toNat_natCast, hi] at h3
    cases h3
    rcases known_ix h h5 with ⟨-, e⟩ | ⟨c, -, -, g1, g2, -⟩
    · rw [e]; exact .head _
    · exact .tail _ (List.mem_map.2 ⟨c, List.mem_of_getElem? g1, g2⟩)

def cnt (l : List Bk) (id : ID) : Nat := (l.filter fun b => decide (b.Parent = id)).length
def cntTo (l : List Bk) (n : Nat) : Nat := cnt l (0, 0) + (((l.take n).map nm).map (cnt l)).sum

theorem cntTo_all {l : List Bk} {m : List (ID × Int)} (h : places l = some m) : cntTo l l.length = l.length := by
  have := sum_count (names_nodup h) (parents_known h)
  simp only [List.map_cons, List.sum_cons] at this
  unfold cntTo
  rw [List.take_length]
  exact this

theorem cntTo_succ {l : List Bk} {n : Nat} {y : Bk} (hy : l[n]? = some y) : cntTo l (n + 1) = cntTo l n + cnt l (nm y) := by
  unfold cntTo
  rw [List.take_add_one, hy]
  simp; omega

theorem cntTo_le {l : List Bk} (n : Nat) : cntTo l n ≤ (n + 1) * l.length := by
  induction n with
  | zero => unfold cntTo cnt; simp; exact List.length_filter_le _ _
  | succ n ih =>
    cases hy : l[n]? with
    | none =>
      have : l.length ≤ n := by simpa using hy
      have e : cntTo l (n + 1) = cntTo l n := by unfold cntTo; rw [List.take_of_length_le (by omega), List.take_of_length_le (by omega)]
      rw [e]; exact Nat.le_trans ih (Nat.mul_le_mul_right _ (by omega))
    | some y =>
      rw [cntTo_succ hy]
      have : cnt l (nm y) ≤ l.length := List.length_filter_le _ _
      have e : (n + 1 + 1) * l.length = (n + 1) * l.length + l.length := by rw [Nat.add_mul, Nat.one_mul]
      omega

theorem F13_step {l K : List _} {n : Nat} {y : Bk} {v : ID} {q : Nat} (hl : l.length ≤ 1000) (hn : n < l.length) (hy : l[n]? = some y) (hv : nm y = v) (h46 : F46 l v = some K) (h43 : F43 l v = some (y.Slot, true)) (h53 : F53 l v = some (n : Int))
    (hch : indexOf (chainOf l v) y.Parent ≥ 0) : F13_s1 l ⟨(q : Int), n⟩ = some (.inl ⟨IntKind.i64.wrap ((q : Int) + (K.length : Int)), IntKind.i64.wrap ((n : Int) + 1)⟩) := by
  simp only [F13_s1]
  rw [decide_eq_true (show (n : Int) < (l.length : Int) by omega), ix_nat hy]
  simp only [ct, ob, hv, h46, h43, h53, few_of hl]
  rw [decide_eq_true hch, show ((n : Int) != (n : Int)) = false by simp, show (y.Slot != y.Slot) = false by simp]
  simp only [cf, Bool.not_true]

theorem kidsLaw {l : List Bk} : F13 l = some true := by
  simp only [F13, F41_eq, ob, Bool.not_true, cf]
  by_cases hl : (l.length : Int) > 40
  · rw [decide_eq_true hl]; rfl
  have hl' : l.length ≤ 1000 := by omega
  rw [decide_eq_false hl]
  simp only [ob, cf, F46_eq hl', F52_eq, F53_eq]
  cases hp : places l with
  | none =>
    simp only [Option.isSome_none, Bool.not_false, ct, kidsOf, findOf, hp]
    rfl
  | some m =>
    simp only [Option.isSome_some, Bool.not_true, cf]
    have hk : ∀ id, (kidsOf l id).length = cnt l id := fun id => by simp only [kidsOf, hp, List.length_map]; rfl
    have key := iter_inv (step := F13_s1 l) (fun x => ∃ n : Nat, x.i = n ∧ n ≤ l.length ∧ x.n = cntTo l n) (fun x => l.length - x.i.toNat) (fun b => ∃ v, b = .inl v ∧ v.n = l.length) (by
      rintro ⟨q, i⟩ ⟨n, rfl, hn, rfl⟩
      simp only
      by_cases hlt : n < l.length
      case neg =>
        right
        refine ⟨.inl ⟨(cntTo l n : Int), n⟩, ?_, ⟨_, rfl, ?_⟩⟩
        · simp only [F13_s1]; rw [decide_eq_false (by omega)]; rfl
        · have : n = l.length := by omega
          subst this
          rw [cntTo_all hp]
      obtain ⟨y, hy, hym⟩ := get_of hlt
      have hf := (places_inv hp).names n y hlt hy
      have h1 : slotOfB l (nm y) = (y.Slot, true) := by simp only [slotOfB, hp, hf]; simp [slotIx, hy, show ¬ ((n : Int) = -1) by omega]
      have h2 : findOf l (nm y) = n := by simp only [findOf, hp, hf]; rfl
      have h3 : indexOf (chainOf l (nm y)) y.Parent ≥ 0 := by
        refine indexOf_mem.2 ?_
        rcases (places_inv hp).known _ _ hf with ⟨h, -⟩ | ⟨b, p, h0, g1, g2, g3, g4, g5, g6, g7⟩
        · omega
        · rw [Int.toNat_natCast, hy] at g2
          cases g2
          have e : chainOf l (nm y) = nm y :: chainF l (p + 1).toNat y.Parent p := by
            simp only [chainOf, hp, hf]
            exact chainF_step hp (by omega) (by omega) (by rw [Int.toNat_natCast]; exact hy) g4 g5 g6
          rw [e]
          have e2 : chainF l (p + 1).toNat y.Parent p = chainOf l y.Parent := by simp only [chainOf, hp, g4]
          rw [e2]
          have hne : chainOf l y.Parent ≠ [] := by
            intro hnil
            rw [hnil] at e2
            cases hq : (p + 1).toNat with
            | zero => rw [hq] at e2; simp [chainF] at e2
            | succ k =>
              rw [hq] at e2
              simp only [chainF] at e2
              repeat' split at e2
              all_goals simp at e2
          exact .tail _ (List.mem_of_getElem? (chain_head hne))
      have hb := cntTo_le (l := l) n
      have hb2 : (n + 1) * l.length ≤ 1000 * 1000 := Nat.mul_le_mul (by omega) hl'
      have hb3 : cnt l (nm y) ≤ l.length := List.length_filter_le _ _
      left
      refine ⟨_, F13_step hl' hlt hy rfl (F46_eq hl' _) (by rw [F43_eq, h1]) (by rw [F53_eq, h2]) h3, ⟨n + 1, wrap_succ (n := n) (by omega), by omega, ?_⟩, ?_⟩
      · simp only [hk]
        rw [cntTo_succ hy, wrapI (by omega) (by omega)]; omega
      · simp only [wrap_succ (show n < 4000000000 by omega)]; omega) (x := ⟨((kidsOf l (0, 0)).length : Int), 0⟩) ⟨0, rfl, Nat.zero_le _, by simp only [hk]; unfold cntTo; simp⟩ (n := big) (big_gt (by simp only; omega))
    obtain ⟨b, hb, v, rfl, hv⟩ := key
    rw [hb]
    simp only [ob, sl, hv]
    simp

/-! One block more. -/

/-- Does the n-th block fit behind those ahead? -/
def okAt (l : List Bk) (n : Nat) : Prop := ∃ y p, l[n]? = some y ∧ findE (mAt l n) y.Parent = some p ∧ ¬ y.Slot ≤ slotIx l p ∧ findE (mAt l n) (nm y) = none

theorem go_iff {l : List Bk} : ∀ (r n : Nat), l.length - n = r → n ≤ l.length → ((placesGo l (l.drop n) n (mAt l n)).isSome = true ↔ ∀ i, n ≤ i → i < l.length → okAt l i)
  | 0, n, hr, hn => by
    have : n = l.length := by omega
    subst this
    rw [List.drop_length]
    exact ⟨fun _ i h1 h2 => by omega, fun _ => rfl⟩
  | r + 1, n, hr, hn => by
    obtain ⟨y, hy, -⟩ := get_of (l := l) (n := n) (by omega)
    have ih := go_iff (l := l) r (n + 1) (by omega) (by omega)
    have e : mAt l (n + 1) = mAt l n ++ [(nm y, (n : Int))] := by simp only [mAt, hy]
    rw [e] at ih
    rw [placesGo_at hy]
    constructor
    · intro h i h1 h2
      cases hp : findE (mAt l n) y.Parent with
      | none => rw [hp] at h; cases h
      | some p =>
        rw [hp] at h
        simp only at h
        by_cases hs : y.Slot ≤ slotIx l p
        · rw [if_pos hs] at h; cases h
        · rw [if_neg hs] at h
          cases hq : findE (mAt l n) (nm y) with
          | some q => rw [hq] at h; cases h
          | none =>
            rw [hq] at h
            by_cases hin : i = n
            · subst hin; exact ⟨y, p, hy, hp, hs, hq⟩
            · exact ih.1 h i (by omega) h2
    · intro h
      obtain ⟨y', p, hy', hp, hs, hq⟩ := h n (Nat.le_refl _) (by omega)
      rw [hy] at hy'; cases hy'
      rw [hp]; simp only
      rw [if_neg hs, hq]
      exact ih.2 fun i h1 h2 => h i (by omega) h2

theorem may_iff {l : List Bk} : (places l).isSome = true ↔ ∀ i, i < l.length → okAt l i := by
  have := go_iff (l := l) l.length 0 (by omega) (Nat.zero_le _)
  rw [show (places l) = placesGo l (l.drop 0) 0 (mAt l 0) from rfl, this]
  exact ⟨fun h i hi => h i (Nat.zero_le _) hi, fun h i _ hi => h i hi⟩

theorem mAt_prefix {l m : List Bk} : ∀ n, (∀ i, i < n → l[i]? = m[i]?) → mAt l n = mAt m n
  | 0, _ => rfl
  | n + 1, h => by
    simp only [mAt, h n (by omega), mAt_prefix n fun i hi => h i (by omega)]

theorem okAt_prefix {l m : List Bk} {n : Nat} (h : ∀ i, i ≤ n → l[i]? = m[i]?) (ho : okAt l n) (hn : n < l.length) : okAt m n := by
  obtain ⟨y, p, h1, h2, h3, h4⟩ := ho
  have e := mAt_prefix n fun i hi => h i (by omega)
  refine ⟨y, p, by rw [← h n (Nat.le_refl _)]; exact h1, by rw [← e]; exact h2, ?_, by rw [← e]; exact h4⟩
  have hp : p = -1 ∨ 0 ≤ p ∧ p < n := by
    rw [mAt_find _ n (by omega)] at h2
    split at h2
    · cases h2; exact .inl rfl
    · split at h2
      · rename_i hi
        obtain ⟨j, b, g1, g2, -⟩ := mAt_slot hi
        cases h2
        exact .inr ⟨by omega, by omega⟩
      · cases h2
  rcases hp with rfl | ⟨h5, h6⟩
  · simpa [slotIx] using h3
  · have : slotIx m p = slotIx l p := by
      simp only [slotIx, h p.toNat (by omega)]
    rw [this]; exact h3

theorem may_take {l : List Bk} {k : Nat} (h : (places l).isSome = true) (hk : k ≤ l.length) : (places (l.take k)).isSome = true := by
  rw [may_iff] at h ⊢
  intro i hi
  simp only [List.length_take] at hi
  refine okAt_prefix (fun j hj => ?_) (h i (by omega)) (by omega)
  rw [List.getElem?_take_of_lt (by omega)]

/-- What one more asks for. -/
def fineB (l : List Bk) (b : Bk) : Bool := (slotOfB l b.Parent).2 && decide (b.Slot > (slotOfB l b.Parent).1) && !decide (nm b = (0, 0)) && decide (findOf l (nm b) < 0)

theorem may_more {l : List Bk} {m : List (ID × Int)} {b : Bk} (h : places l = some m) : (places (l ++ [b])).isSome = fineB l b := by
  have hl : ∀ i, i < l.length → okAt l i := may_iff.1 (by rw [h]; rfl)
  have hpre : ∀ i, i < l.length → l[i]? = (l ++ [b])[i]? := fun i hi => by rw [List.getElem?_append_left hi]
  have hm : mAt (l ++ [b]) l.length = m := by rw [← mAt_prefix l.length hpre, ← places_is h]
  have hb : (l ++ [b])[l.length]? = some b := by simp
  have hslot : ∀ p i, findE m p = some i → slotIx (l ++ [b]) i = slotIx l i := by
    intro p i hf
    rcases known_ix h hf with ⟨rfl, -⟩ | ⟨c, h0, h1, h2, -⟩
    · rfl
    · have : ¬ i = -1 := by omega
      simp only [slotIx, if_neg this, ← hpre i.toNat (by omega)]
  have key : (places (l ++ [b])).isSome = true ↔ okAt (l ++ [b]) l.length := by
    rw [may_iff]
    constructor
    · intro h1; exact h1 l.length (by simp)
    · intro h1 i hi
      simp only [List.length_append, List.length_singleton] at hi
      by_cases e : i = l.length
      · subst e; exact h1
      · exact okAt_prefix (fun j hj => hpre j (by omega)) (hl i (by omega)) (by omega)
  rw [Bool.eq_iff_iff, key]
  constructor
  · rintro ⟨y, p, h1, h2, h3, h4⟩
    rw [hb] at h1; cases h1
    rw [hm] at h2 h4
    rw [hslot _ _ h2] at h3
    have hz : ¬ nm b = (0, 0) := fun e => by rw [e, (places_inv h).zero] at h4; cases h4
    have g1 : slotOfB l b.Parent = (slotIx l p, true) := by simp only [slotOfB, h, h2]
    have g2 : findOf l (nm b) = -1 := by simp only [findOf, h, h4]; rfl
    unfold fineB
    rw [g1, g2, decide_eq_true (show b.Slot > slotIx l p by omega), decide_eq_false hz]; rfl
  · intro hf
    unfold fineB at hf
    simp only [Bool.and_eq_true, Bool.not_eq_true', decide_eq_true_eq, decide_eq_false_iff_not] at hf
    obtain ⟨⟨⟨h1, h2⟩, h3⟩, h4⟩ := hf
    cases hp : findE m b.Parent with
    | none => simp only [slotOfB, h, hp] at h1; cases h1
    | some p =>
      simp only [slotOfB, h, hp] at h2
      refine ⟨b, p, hb, by rw [hm]; exact hp, by rw [hslot _ _ hp]; omega, ?_⟩
      rw [hm]
      rcases Option.eq_none_or_eq_some (findE m (nm b)) with h5 | ⟨i, h5⟩
      · exact h5
      · exfalso
        simp only [findOf, h, h5, Option.getD_some] at h4
        rcases known_ix h h5 with ⟨-, e⟩ | ⟨c, h0, -⟩
        · exact h3 e
        · omega

/-- A chain stays with a block more. -/
theorem chain_more {l : List Bk} {m : List (ID × Int)} {b : Bk} {id : ID} (h : places l = some m) (hf : fineB l b = true) (hne : chainOf l id ≠ []) : chainOf (l ++ [b]) id = chainOf l id := by
  have h2 : (places (l ++ [b])).isSome = true := by rw [may_more h]; exact hf
  obtain ⟨m', hm'⟩ := Option.isSome_iff_exists.1 h2
  have hpre : ∀ i, i < l.length → l[i]? = (l ++ [b])[i]? := fun i hi => by rw [List.getElem?_append_left hi]
  have e : m' = m ++ [(nm b, (l.length : Int))] := by
    rw [places_is hm', places_is h]
    have : (l ++ [b]).length = l.length + 1 := by simp
    rw [this]
    simp only [mAt, show (l ++ [b])[l.length]? = some b by simp]
    rw [← mAt_prefix l.length hpre]
  have old : ∀ k i, findE m k = some i → findE m' k = some i := fun k i hk => by rw [e, findE_append, hk]; rfl
  have go : ∀ n id i, findE m id = some i → chainF (l ++ [b]) n id i = chainF l n id i := by
    intro n
    induction n with
    | zero => intro id i _; rfl
    | succ n ih =>
      intro id i hi
      rcases (places_inv h).known _ _ hi with ⟨g, -⟩ | ⟨c, p, h0, g1, g2, g3, g4, g5, g6, g7⟩
      · simp [chainF, g]
      · simp only [chainF, if_neg (show ¬ i = -1 by omega), ← hpre i.toNat (by omega), g2, hm', h, old _ _ g4, g4]
        rw [ih _ _ g4]
  unfold chainOf at hne ⊢
  rw [h] at hne ⊢
  rw [hm']
  simp only at hne ⊢
  cases hi : findE m id with
  | none => rw [hi] at hne; exact absurd rfl hne
  | some i => rw [old _ _ hi]; exact go _ _ _ hi

theorem more_plain {l : List Bk} {b : Bk} {v_at : Int} {low id v : ID} (hl : l.length ≤ 40) (h0 : 0 ≤ v_at) (h1 : v_at ≤ l.length) (hv : nm b = v) {s : Int × Bool} {f : Int} {fine : Bool} (h52 : F52 l = some true) (h43 : F43 l b.Parent = some s) (h53 : F53 l v = some f)
    (hfine : (s.2 && decide (b.Slot > s.1) && !decide (v = (0, 0)) && decide (f < 0)) = fine) (ht : F52 (l.take v_at.toNat) = some true) (hm : F52 (l ++ [b]) = some fine)
    (hc : fine = true → chainOf l id ≠ [] → chainOf (l ++ [b]) id = chainOf l id) : F12 l b v_at low id = some true := by
  simp only [F12, F41_eq, ob, Bool.not_true, cf, h52]
  rw [decide_eq_false (show ¬ (l.length : Int) > 40 by omega), decide_eq_false (show ¬ v_at < 0 by omega), decide_eq_false (show ¬ v_at > (l.length : Int) by omega)]
  simp only [ob, cf]
  rw [room_ok (by omega) (by omega), room_ok (by simp; omega) (by omega)]
  simp only [ct, h43, ob, hv, h53, eqID0, inL_hi h0 h1, ht, hm]
  have e : (bif s.2 then bif decide (b.Slot > s.1) then bif !(decide (v = (0, 0))) then some (decide (f < 0)) else some false else some false else (some false : Option Bool)) = some fine := by
    rw [← hfine]
    cases s.2 <;> cases decide (b.Slot > s.1) <;> cases decide (v = (0, 0)) <;> rfl
  rw [e]
  simp only [ob, Bool.not_true, cf, beq_self_eq_true]
  cases hfi : fine with
  | false => rfl
  | true =>
    simp only [Bool.not_true, cf, few_of (show l.length ≤ 1000 by omega), few_of (show (l ++ [b]).length ≤ 1000 by simp; omega), ct]
    by_cases hn : chainOf l id = []
    · rw [hn]; rfl
    · rw [hc hfi hn]
      cases ((chainOf l id).length : Int) == 0 <;> simp

theorem moreLaw {l : List Bk} {b : Bk} {v_at : Int} {low id : ID} : F12 l b v_at low id = some true := by
  by_cases hl : (l.length : Int) > 40
  · simp only [F12, F41_eq, ob, Bool.not_true, cf]
    rw [decide_eq_true hl]; rfl
  have hl' : l.length ≤ 1000 := by omega
  cases hp : places l with
  | none =>
    simp only [F12, F41_eq, ob, Bool.not_true, cf]
    rw [decide_eq_false hl, F52_eq, hp]; rfl
  | some m =>
  have h52 : F52 l = some true := by rw [F52_eq, hp]; rfl
  by_cases h0 : v_at < 0
  · simp only [F12, F41_eq, ob, Bool.not_true, cf, h52]
    rw [decide_eq_false hl, decide_eq_true h0]; rfl
  by_cases h1 : v_at > (l.length : Int)
  · simp only [F12, F41_eq, ob, Bool.not_true, cf, h52]
    rw [decide_eq_false hl, decide_eq_false h0, decide_eq_true h1]; rfl
  refine more_plain (by omega) (by omega) (by omega) rfl h52 (F43_eq _) (F53_eq _) (fine := fineB l b) rfl ?_ ?_ (fun h => chain_more hp h)
  · rw [F52_eq, may_take (by rw [hp]; rfl) (by omega)]
  · rw [F52_eq, may_more hp]
end Go.Mg
