/- Operations that compute: moves, numbers, bools, comparisons of structs, fields, builds. Conditions: none. -/
import Derived.Test.YtlhocfhoocmfiaaMg4
import Derived.ChangeKeysEq
namespace Go.Mg

section
variable {P : Program} {o : Oper} {env : Env} {H : List LObj}

theorem LOp.val {x : LV} (h : ∀ a w μ I, St μ I w H → EOn μ I w o env a → ∃ v, (execOp a.eval o).run P w = .ok (.value v) w ∧ LRep μ I w x v) : LOp P o env H (Is x H) := by
  intro a w μ I hs he K Q hK
  obtain ⟨v, hrun, hv⟩ := h a w μ I hs he
  unfold Oper.wp
  rw [hrun]
  exact hK x H v w μ I ⟨rfl, rfl⟩ hs hv (Ext.refl _ _ _ _ (Nat.le_refl _))

theorem LOp.move {x : Operand} {l : LV} (ho : o.op = .move x) (hx : lev env x = some l) : LOp P o env H (Is l H) :=
  LOp.val fun a w μ I _ he => ⟨a.eval x, by simp [execOp, ho], he.ev (by simp [ho, Op.operands]) hx⟩

theorem LOp.assign {x : Operand} {l : LV} (ho : o.op = .assign x) (hx : lev env x = some l) : LOp P o env H (Is l H) :=
  LOp.val fun a w μ I _ he => ⟨a.eval x, by simp [execOp, ho], he.ev (by simp [ho, Op.operands]) hx⟩

theorem lrep_bool {μ : List Blk} {I : Nat → Prop} {w : World} {b : Bool} {v : Value} (h : LRep μ I w (.p (.bool b)) v) : v = .bool b := by
  cases h with
  | p h => cases h; rfl

theorem lrep_int {μ : List Blk} {I : Nat → Prop} {w : World} {k : IntKind} {n : Int} {v : Value} (h : LRep μ I w (.p (.int k n)) v) : v = .int k n ∧ InKind k n := by
  cases h with
  | p h => cases h with | int h => exact ⟨rfl, h⟩

theorem LOp.pickT {c x y : Operand} {l : LV} (ho : o.op = .pick c x y) (hc : lev env c = some (.p (.bool true))) (hx : lev env x = some l) : LOp P o env H (Is l H) :=
  LOp.val fun a w μ I _ he => by
    have h1 := lrep_bool (he.ev (x := c) (by simp [ho, Op.operands]) hc)
    exact ⟨a.eval x, by simp [execOp, ho, h1, asBool], he.ev (by simp [ho, Op.operands]) hx⟩

theorem LOp.pickF {c x y : Operand} {l : LV} (ho : o.op = .pick c x y) (hc : lev env c = some (.p (.bool false))) (hx : lev env y = some l) : LOp P o env H (Is l H) :=
  LOp.val fun a w μ I _ he => by
    have h1 := lrep_bool (he.ev (x := c) (by simp [ho, Op.operands]) hc)
    exact ⟨a.eval y, by simp [execOp, ho, h1, asBool], he.ev (by simp [ho, Op.operands]) hx⟩

theorem LOp.extract {t : Operand} {i : Nat} {ls : List LV} {l : LV} (ho : o.op = .extract t i) (ht : lev env t = some (.tup ls)) (hi : ls[i]? = some l) : LOp P o env H (Is l H) :=
  LOp.val fun a w μ I _ he => by
    have h1 := he.ev (x := t) (by simp [ho, Op.operands]) ht
    generalize hv : a.eval t = v at h1
    cases h1 with
    | @tup _ vs hl h =>
      have hlt := (List.getElem?_eq_some_iff.1 hi).1
      have hg : vs[i]? = some vs[i] := Array.getElem?_eq_getElem (by omega)
      exact ⟨vs[i], by simp [execOp, ho, hv, Instr.extract, hg], h i l _ hi hg⟩

theorem LOp.not {x : Operand} {t : TypeId} {b : Bool} (ho : o.op = .unOp .not t x) (hx : lev env x = some (.p (.bool b))) : LOp P o env H (Is (.p (.bool (!b))) H) :=
  LOp.val fun a w μ I _ he => by
    have h1 := lrep_bool (he.ev (x := x) (by simp [ho, Op.operands]) hx)
    exact ⟨.bool (!b), by simp [execOp, ho, h1, Op.unary], .p .bool⟩

/-! Numbers. -/

theorem inKind_wrap (k : IntKind) (n : Int) : InKind k (k.wrap n) := by
  unfold InKind IntKind.wrap IntKind.min IntKind.max
  cases k <;> simp [IntKind.signed, IntKind.bits] <;> omega

/-- What an operation on two numbers of one kind comes to; for division and shifts see below. -/
def binI (op : BinOp) (k : IntKind) (m n : Int) : Option PV :=
  match op with
  | .add => some (.int k (k.wrap (m + n)))
  | .sub => some (.int k (k.wrap (m - n)))
  | .mul => some (.int k (k.wrap (m * n)))
  | .and => some (.int k (bits .and k m n))
  | .or => some (.int k (bits .or k m n))
  | .xor => some (.int k (bits .xor k m n))
  | .andNot => some (.int k (bits .andNot k m n))
  | .eql => some (.bool (m == n))
  | .neq => some (.bool (m != n))
  | .lss => some (.bool (decide (m < n)))
  | .leq => some (.bool (decide (m ≤ n)))
  | .gtr => some (.bool (decide (m > n)))
  | .geq => some (.bool (decide (m ≥ n)))
  | _ => none

theorem binI_run {op : BinOp} {k : IntKind} {m n : Int} {r : PV} (h : binI op k m n = some r) (t : TypeId) (I : Nat → Prop) (w : World) :
    ∃ v, (binOp op t (.int k m) (.int k n)).run P w = .ok v w ∧ Rep I w r v := by
  cases op <;> simp only [binI, Option.some.injEq, reduceCtorEq] at h <;> subst h
  case and => exact ⟨.int k (bits .and k m n), by simp [binOp, Op.intBits, bits], .int (inKind_wrap _ _)⟩
  case or => exact ⟨.int k (bits .or k m n), by simp [binOp, Op.intBits, bits], .int (inKind_wrap _ _)⟩
  case xor => exact ⟨.int k (bits .xor k m n), by simp [binOp, Op.intBits, bits], .int (inKind_wrap _ _)⟩
  case andNot => exact ⟨.int k (bits .andNot k m n), by simp [binOp, Op.intBits, bits], .int (inKind_wrap _ _)⟩
  all_goals simp [binOp, Op.intArith, Op.intCmp]
  all_goals first
    | exact .bool
    | exact .int (inKind_wrap k _)

theorem LOp.bin {op : BinOp} {t t' : TypeId} {x y : Operand} {k : IntKind} {m n : Int} {r : PV} (ho : o.op = .binOp op t x y t') (hx : lev env x = some (.p (.int k m)))
    (hy : lev env y = some (.p (.int k n))) (h : binI op k m n = some r) : LOp P o env H (Is (.p r) H) :=
  LOp.val fun a w μ I _ he => by
    have h1 := (lrep_int (he.ev (x := x) (by simp [ho, Op.operands]) hx)).1
    have h2 := (lrep_int (he.ev (x := y) (by simp [ho, Op.operands]) hy)).1
    obtain ⟨v, hv, hr⟩ := binI_run (P := P) h t I w
    exact ⟨v, by simp [execOp, ho, h1, h2, hv, eqGuard_at_int], .p hr⟩

theorem LOp.rem {t t' : TypeId} {x y : Operand} {k : IntKind} {m n : Int} (ho : o.op = .binOp .rem t x y t') (hx : lev env x = some (.p (.int k m)))
    (hy : lev env y = some (.p (.int k n))) (h : n ≠ 0) : LOp P o env H (Is (.p (.int k (m.tmod n))) H) :=
  LOp.val fun a w μ I _ he => by
    obtain ⟨h1, h1'⟩ := lrep_int (he.ev (x := x) (by simp [ho, Op.operands]) hx)
    have h2 := (lrep_int (he.ev (x := y) (by simp [ho, Op.operands]) hy)).1
    refine ⟨.int k (m.tmod n), by simp [execOp, ho, h1, h2, eqGuard_at_int, binOp, Op.intDiv, h], .p (.int ?_)⟩
    unfold InKind at *
    have hk : k.min ≤ 0 ∧ 0 ≤ k.max := by unfold IntKind.min IntKind.max; cases k <;> simp [IntKind.signed, IntKind.bits]
    rcases Int.le_total 0 m with hm | hm
    · have := Int.tmod_nonneg n hm
      have h3 : m.tmod n ≤ m := by
        have e := Int.tmod_add_mul_tdiv m n
        have : 0 ≤ n * m.tdiv n := by
          rcases Int.le_total 0 n with hn | hn
          · exact Int.mul_nonneg hn (Int.tdiv_nonneg hm hn)
          · have : m.tdiv n ≤ 0 := Int.tdiv_nonpos_of_nonneg_of_nonpos hm hn
            exact Int.mul_nonneg_of_nonpos_of_nonpos hn this
        omega
      omega
    · have e := Int.neg_tmod (a := -m) (b := n)
      rw [Int.neg_neg] at e
      have h0 := Int.tmod_nonneg n (show 0 ≤ -m by omega)
      have h3 : (-m).tmod n ≤ -m := by
        have e := Int.tmod_add_mul_tdiv (-m) n
        have : 0 ≤ n * (-m).tdiv n := by
          rcases Int.le_total 0 n with hn | hn
          · exact Int.mul_nonneg hn (Int.tdiv_nonneg (by omega) hn)
          · have : (-m).tdiv n ≤ 0 := Int.tdiv_nonpos_of_nonneg_of_nonpos (by omega) hn
            exact Int.mul_nonneg_of_nonpos_of_nonpos hn this
        omega
      omega

theorem LOp.quo {t t' : TypeId} {x y : Operand} {k : IntKind} {m n : Int} (ho : o.op = .binOp .quo t x y t') (hx : lev env x = some (.p (.int k m)))
    (hy : lev env y = some (.p (.int k n))) (h : n ≠ 0) : LOp P o env H (Is (.p (.int k (k.wrap (m.tdiv n)))) H) :=
  LOp.val fun a w μ I _ he => by
    obtain ⟨h1, h1'⟩ := lrep_int (he.ev (x := x) (by simp [ho, Op.operands]) hx)
    have h2 := (lrep_int (he.ev (x := y) (by simp [ho, Op.operands]) hy)).1
    exact ⟨.int k (k.wrap (m.tdiv n)), by simp [execOp, ho, h1, h2, eqGuard_at_int, binOp, Op.intDiv, h], .p (.int (inKind_wrap _ _))⟩

theorem LOp.shr {t t' : TypeId} {x y : Operand} {k yk : IntKind} {m n : Int} (ho : o.op = .binOp .shr t x y t') (hx : lev env x = some (.p (.int k m)))
    (hy : lev env y = some (.p (.int yk n))) (h : 0 ≤ n) : LOp P o env H (Is (.p (.int k (m.fdiv (2 ^ (min n.toNat k.bits))))) H) :=
  LOp.val fun a w μ I _ he => by
    obtain ⟨h1, h1'⟩ := lrep_int (he.ev (x := x) (by simp [ho, Op.operands]) hx)
    have h2 := (lrep_int (he.ev (x := y) (by simp [ho, Op.operands]) hy)).1
    refine ⟨.int k (m.fdiv (2 ^ (min n.toNat k.bits))), by simp [execOp, ho, h1, h2, eqGuard_at_int, binOp, Op.shift, show ¬ n < 0 by omega], .p (.int ?_)⟩
    unfold InKind at *
    have hk : k.min ≤ 0 ∧ 0 ≤ k.max := by unfold IntKind.min IntKind.max; cases k <;> simp [IntKind.signed, IntKind.bits]
    have h2p : (0 : Int) < 2 ^ (min n.toNat k.bits) := Int.pow_pos (by omega)
    generalize (2 : Int) ^ (min n.toNat k.bits) = q at h2p
    rw [Int.fdiv_eq_ediv_of_nonneg _ (by omega)]
    rcases Int.le_total 0 m with hm | hm
    · have := Int.ediv_nonneg hm (show 0 ≤ q by omega)
      have := Int.ediv_le_self q hm
      omega
    · have h5 : m / q ≤ 0 := Int.ediv_nonpos_of_nonpos_of_neg hm (by omega)
      have h6 : m ≤ m / q := by
        rw [Int.le_ediv_iff_mul_le h2p]
        have h7 : 0 ≤ (-m) * (q - 1) := Int.mul_nonneg (by omega) (by omega)
        have h8 : (-m) * (q - 1) = m - m * q := by rw [Int.mul_sub, Int.mul_one, Int.neg_mul]; omega
        omega
      omega

theorem LOp.shl {t t' : TypeId} {x y : Operand} {k yk : IntKind} {m n : Int} (ho : o.op = .binOp .shl t x y t') (hx : lev env x = some (.p (.int k m)))
    (hy : lev env y = some (.p (.int yk n))) (h : 0 ≤ n) : LOp P o env H (Is (.p (.int k (k.wrap (m * 2 ^ (min n.toNat k.bits))))) H) :=
  LOp.val fun a w μ I _ he => by
    obtain ⟨h1, h1'⟩ := lrep_int (he.ev (x := x) (by simp [ho, Op.operands]) hx)
    have h2 := (lrep_int (he.ev (x := y) (by simp [ho, Op.operands]) hy)).1
    exact ⟨.int k (k.wrap (m * 2 ^ (min n.toNat k.bits))), by simp [execOp, ho, h1, h2, eqGuard_at_int, binOp, Op.shift, show ¬ n < 0 by omega], .p (.int (inKind_wrap _ _))⟩

theorem LOp.neg {x : Operand} {t : TypeId} {k : IntKind} {n : Int} (ho : o.op = .unOp .neg t x) (hx : lev env x = some (.p (.int k n))) : LOp P o env H (Is (.p (.int k (k.wrap (0 - n)))) H) :=
  LOp.val fun a w μ I _ he => by
    have h1 := (lrep_int (he.ev (x := x) (by simp [ho, Op.operands]) hx)).1
    exact ⟨.int k (k.wrap (0 - n)), by simp [execOp, ho, h1, Op.unary, Op.intArith], .p (.int (inKind_wrap _ _))⟩

theorem LOp.compl {x : Operand} {t : TypeId} {k : IntKind} {n : Int} (ho : o.op = .unOp .xor t x) (hx : lev env x = some (.p (.int k n))) :
    LOp P o env H (Is (.p (.int k (bits .xor k (if k.signed then -1 else k.max) n))) H) :=
  LOp.val fun a w μ I _ he => by
    have h1 := (lrep_int (he.ev (x := x) (by simp [ho, Op.operands]) hx)).1
    exact ⟨_, by simp [execOp, ho, h1, Op.unary, Op.intBits]; rfl, .p (.int (inKind_wrap _ _))⟩

def convTy (P : Program) (s d : TypeId) (k : IntKind) : Bool :=
  (P.underlying s).isSome && (match P.underlying d with | some (.int k') => decide (k' = k) | _ => false)

theorem LOp.convert {s d : TypeId} {x : Operand} {k k' : IntKind} {n : Int} (ho : o.op = .convert s d x) (hx : lev env x = some (.p (.int k n))) (hT : convTy P s d k' = true) :
    LOp P o env H (Is (.p (.int k' (k'.wrap n))) H) :=
  LOp.val fun a w μ I _ he => by
    have h1 := (lrep_int (he.ev (x := x) (by simp [ho, Op.operands]) hx)).1
    simp only [convTy, Bool.and_eq_true] at hT
    have hd : P.underlying d = some (.int k') := by
      cases hu : P.underlying d with
      | none => simp [hu] at hT
      | some q => cases q <;> simp [hu] at hT; rw [hT.2]
    have hk : P.intKind d = k' := by simp [Program.intKind, hd]
    have := run_convert_int (P := P) w s d k n hT.1 (by rw [hk]; exact hd)
    rw [hk] at this
    exact ⟨.int k' (k'.wrap n), by simp [execOp, ho, h1, this], .p (.int (inKind_wrap _ _))⟩

/-! Comparing bools and structs. -/

theorem LOp.eqlBool {t t' : TypeId} {x y : Operand} {a b : Bool} (ho : o.op = .binOp .eql t x y t') (hx : lev env x = some (.p (.bool a))) (hy : lev env y = some (.p (.bool b)))
    (hT : P.underlying t = some .bool) : LOp P o env H (Is (.p (.bool (a == b))) H) :=
  LOp.val fun ac w μ I _ he => by
    have h1 := lrep_bool (he.ev (x := x) (by simp [ho, Op.operands]) hx)
    have h2 := lrep_bool (he.ev (x := y) (by simp [ho, Op.operands]) hy)
    exact ⟨.bool (a == b), by simp only [execOp, ho, h1, h2, eqGuard_at_bool, binOp]; simp [run_equal_bool w t a b hT], .p .bool⟩

theorem LOp.neqBool {t t' : TypeId} {x y : Operand} {a b : Bool} (ho : o.op = .binOp .neq t x y t') (hx : lev env x = some (.p (.bool a))) (hy : lev env y = some (.p (.bool b)))
    (hT : P.underlying t = some .bool) : LOp P o env H (Is (.p (.bool (!(a == b)))) H) :=
  LOp.val fun ac w μ I _ he => by
    have h1 := lrep_bool (he.ev (x := x) (by simp [ho, Op.operands]) hx)
    have h2 := lrep_bool (he.ev (x := y) (by simp [ho, Op.operands]) hy)
    exact ⟨.bool (!(a == b)), by simp only [execOp, ho, h1, h2, eqGuard_at_bool, binOp]; simp [run_equal_bool w t a b hT], .p .bool⟩

def eqv1 : Value → Value → Option Bool
  | .int k a, .int k' b => if k = k' then some (a == b) else none
  | _, _ => none

def eqVals : List Value → List Value → Option Bool
  | [], [] => some true
  | x :: xs, y :: ys => match eqv1 x y, eqVals xs ys with | some a, some b => some (a && b) | _, _ => none
  | _, _ => none

theorem eqVals_append : ∀ {xs ys : List Value} {a : Bool} {us vs : List Value} {b : Bool}, eqVals xs ys = some a → eqVals us vs = some b → eqVals (xs ++ us) (ys ++ vs) = some (a && b)
  | [], [], _, _, _, _, h, h' => by simp [eqVals] at h; subst h; simpa using h'
  | x :: xs, y :: ys, a, us, vs, b, h, h' => by
    simp only [eqVals] at h
    split at h
    · rename_i c d hc hd
      cases h
      have := eqVals_append hd h'
      simp [eqVals, hc, this, Bool.and_assoc]
    · cases h
  | [], _ :: _, _, _, _, _, h, _ => by simp [eqVals] at h
  | _ :: _, [], _, _, _, _, h, _ => by simp [eqVals] at h

theorem eqVals_split : ∀ (n : Nat) {xs ys : List Value} {r : Bool}, eqVals xs ys = some r →
    ∃ a b, eqVals (xs.take n) (ys.take n) = some a ∧ eqVals (xs.drop n) (ys.drop n) = some b ∧ r = (a && b)
  | 0, xs, ys, r, h => ⟨true, r, by simp [eqVals], by simpa using h, by simp⟩
  | n + 1, [], [], r, h => ⟨true, true, by simp [eqVals], by simp [eqVals], by simp [eqVals] at h; simp [h]⟩
  | n + 1, x :: xs, y :: ys, r, h => by
    simp only [eqVals] at h
    split at h
    · rename_i c d hc hd
      cases h
      obtain ⟨a, b, h1, h2, h3⟩ := eqVals_split n hd
      exact ⟨c && a, b, by simp [eqVals, hc, h1], by simpa using h2, by rw [h3, Bool.and_assoc]⟩
    · cases h
  | n + 1, [], _ :: _, r, h => by simp [eqVals] at h
  | n + 1, _ :: _, [], r, h => by simp [eqVals] at h

theorem eqVals_len : ∀ {xs ys : List Value} {r : Bool}, eqVals xs ys = some r → xs.length = ys.length
  | [], [], _, _ => rfl
  | x :: xs, y :: ys, r, h => by
    simp only [eqVals] at h
    split at h
    · rename_i hd; simp [eqVals_len hd]
    · cases h
  | [], _ :: _, r, h => by simp [eqVals] at h
  | _ :: _, [], r, h => by simp [eqVals] at h

/-- How many cells a type of numbers alone has. -/
def sTy (P : Program) : Nat → TypeId → Option Nat
  | 0, _ => none
  | d + 1, t =>
    match P.underlying t with
    | some (.int _) => if ((P.info? t).map (·.size)) == some 1 then some 1 else none
    | some (.array n e) =>
      match sTy P d e with
      | some m => if ((P.info? e).map (·.size)) == some m && ((P.info? t).map (·.size)) == some (n * m) then some (n * m) else none
      | none => none
    | some (.struct fs) =>
      if P.stoodInHeld t then none else
      match fs.toList.foldl (fun acc f => match acc with
        | some off => if f.name != "_" && f.offset == off then (match sTy P d f.type with | some m => some (off + m) | none => none) else none
        | none => none) (some 0) with
      | some n => if ((P.info? t).map (·.size)) == some n then some n else none
      | none => none
    | _ => none

theorem sTy_size {d : Nat} {t : TypeId} {n : Nat} (h : sTy P d t = some n) : (P.info? t).map (·.size) = some n := by
  cases d with
  | zero => cases h
  | succ d =>
    unfold sTy at h
    split at h
    · split at h
      · rename_i h1; cases h; simpa using h1
      · cases h
    · split at h
      · split at h
        · rename_i h1; cases h; simp only [Bool.and_eq_true, beq_iff_eq] at h1; exact h1.2
        · cases h
      · cases h
    · split at h
      · cases h
      · split at h
        · split at h
          · rename_i h1; cases h; simpa using h1
          · cases h
        · cases h
    · cases h

/-- The part of a row, as the list that it is. -/
def partV (P : Program) (t : TypeId) (xs : List Value) : Value :=
  match P.underlying t with
  | some (.struct _) => .agg xs.toArray
  | some (.array _ _) => .agg xs.toArray
  | _ => xs.headD undef

theorem run_part {d : Nat} {t : TypeId} {m : Nat} (h : sTy P d t = some m) (w : World) (xs : Array Value) (off : Nat) (hl : off + m ≤ xs.size) :
    (part t xs off).run P w = .ok (partV P t ((xs.toList.drop off).take m)) w := by
  have hsz := sTy_size h
  have hso : (sizeOf t).run P w = .ok m w := by
    cases hi : P.info? t with
    | none => simp [hi] at hsz
    | some i => simp [hi] at hsz; simp [sizeOf, typeInfo, hi, hsz]
  have hex : ∀ n, xs.extract off (off + n) = ((xs.toList.drop off).take n).toArray := by
    intro n
    apply Array.ext'
    simp [List.extract_eq_take_drop]
  cases d with
  | zero => cases h
  | succ d =>
    unfold sTy at h
    unfold part partV isAgg
    cases hu : P.underlying t with
    | none => simp [hu] at h
    | some q =>
      cases q with
      | int k =>
        simp [hu] at h
        obtain ⟨-, rfl⟩ := h
        have hg : xs[off]? = some xs[off] := Array.getElem?_eq_getElem (by omega)
        have he : (xs.toList.drop off).take 1 = [xs[off]] := by
          rw [List.drop_eq_getElem_cons (by simpa using (show off < xs.size by omega))]; simp
        simp [run_underlying hu, hg, he]
      | array n e => simp [run_underlying hu, hso, hex]
      | struct fs => simp [run_underlying hu, hso, hex]
      | _ => simp [hu] at h

theorem take_take_drop {α : Type} (xs : List α) (a m n : Nat) (h : a + m ≤ n) : ((xs.take n).drop a).take m = (xs.drop a).take m := by
  rw [List.drop_take, List.take_take, Nat.min_eq_left (by omega)]

theorem eqItems_flat {D : Nat} {e : TypeId} {m : Nat}
    (ih : ∀ (w : World) (xs ys : List Value) (r : Bool), xs.length = m → eqVals xs ys = some r → (Op.equalIn D e (partV P e xs) (partV P e ys)).run P w = .ok r w)
    (hp : ∀ (w : World) (xs : Array Value) (off : Nat), off + m ≤ xs.size → (part e xs off).run P w = .ok (partV P e ((xs.toList.drop off).take m)) w) (hc : P.cellsOf e = m)
    (w : World) (xs ys : Array Value) : ∀ (k s : Nat) (r : Bool), s * m + k * m = xs.size → xs.size = ys.size → eqVals (xs.toList.drop (s * m)) (ys.toList.drop (s * m)) = some r →
      (Op.eqItems D e (P.cellsOf e) xs ys (List.range' s k)).run P w = .ok r w
  | 0, s, r, h1, h2, h3 => by
    rw [List.drop_eq_nil_of_le (by simp; omega), List.drop_eq_nil_of_le (by simp; omega)] at h3
    simp [eqVals] at h3
    subst h3
    simp [Op.eqItems]
  | k + 1, s, r, h1, h2, h3 => by
    have hm : s * m + m ≤ xs.size := by rw [← h1, Nat.add_mul]; omega
    obtain ⟨a, b, ha, hb, rfl⟩ := eqVals_split m h3
    rw [List.drop_drop, List.drop_drop] at hb
    have hs1 : (s + 1) * m = s * m + m := by rw [Nat.add_mul, Nat.one_mul]
    rw [← hs1] at hb
    have hrec := eqItems_flat ih hp hc w xs ys k (s + 1) b (by rw [hs1, ← h1, Nat.add_mul]; omega) h2 hb
    have hx := ih w _ _ a (by rw [List.length_take, List.length_drop, Array.length_toList]; omega) ha
    rw [List.range'_succ]
    simp only [Op.eqItems, Sem.run_bind, hc, hp w xs _ hm, hp w ys (s * m) (by omega), Result.andThen_ok, hx]
    rw [hc] at hrec
    cases a
    · simp
    · simpa using hrec

theorem eqFields_flat {D d : Nat}
    (ih : ∀ {t : TypeId} {m : Nat}, sTy P d t = some m → ∀ (w : World) (xs ys : List Value) (r : Bool), xs.length = m → eqVals xs ys = some r → (Op.equalIn D t (partV P t xs) (partV P t ys)).run P w = .ok r w)
    (w : World) (xs ys : Array Value) : ∀ (fs : List Field) (s n : Nat) (r : Bool),
      fs.foldl (fun acc f => match acc with
        | some off => if f.name != "_" && f.offset == off then (match sTy P d f.type with | some m => some (off + m) | none => none) else none
        | none => none) (some s) = some n → n = xs.size → xs.size = ys.size → eqVals (xs.toList.drop s) (ys.toList.drop s) = some r →
      (Op.eqFields D xs ys fs).run P w = .ok r w
  | [], s, n, r, h0, h1, h2, h3 => by
    simp at h0
    subst h0
    rw [List.drop_eq_nil_of_le (by simp; omega), List.drop_eq_nil_of_le (by simp; omega)] at h3
    simp [eqVals] at h3
    subst h3
    simp [Op.eqFields]
  | f :: fs, s, n, r, h0, h1, h2, h3 => by
    have none_fold : ∀ (fs : List Field), fs.foldl (fun acc f => match acc with
        | some off => if f.name != "_" && f.offset == off then (match sTy P d f.type with | some m => some (off + m) | none => none) else none
        | none => none) none = none := by
      intro fs
      induction fs with
      | nil => rfl
      | cons f fs ih => simpa using ih
    have mono : ∀ (fs : List Field) (s n : Nat), fs.foldl (fun acc f => match acc with
        | some off => if f.name != "_" && f.offset == off then (match sTy P d f.type with | some m => some (off + m) | none => none) else none
        | none => none) (some s) = some n → s ≤ n := by
      intro fs
      induction fs with
      | nil => intro s n h; simp at h; omega
      | cons f fs ih =>
        intro s n h
        rw [List.foldl_cons] at h
        dsimp only at h
        split at h
        · split at h
          · have := ih _ _ h; omega
          · rw [none_fold] at h; cases h
        · rw [none_fold] at h; cases h
    rw [List.foldl_cons] at h0
    dsimp only at h0
    split at h0
    · rename_i hnm
      simp only [Bool.and_eq_true, bne_iff_ne, ne_eq, beq_iff_eq] at hnm
      split at h0
      · rename_i m hm
        have hle := mono _ _ _ h0
        obtain ⟨a, b, ha, hb, rfl⟩ := eqVals_split m h3
        rw [List.drop_drop, List.drop_drop] at hb
        have hrec := eqFields_flat ih w xs ys fs (s + m) n b h0 h1 h2 hb
        have hx := ih hm w _ _ a (by rw [List.length_take, List.length_drop, Array.length_toList]; omega) ha
        have p1 := run_part hm w xs s (by omega)
        have p2 := run_part hm w ys s (by omega)
        simp only [Op.eqFields, hnm.1, hnm.2, ne_eq, not_false_eq_true, if_true, Sem.run_bind, p1, p2, Result.andThen_ok, hx]
        cases a
        · simp
        · simpa using hrec
      · rw [none_fold] at h0; cases h0
    · rw [none_fold] at h0; cases h0

theorem run_equalIn_flat : ∀ {d : Nat} {t : TypeId} {n : Nat}, sTy P d t = some n → ∀ (D : Nat), d ≤ D → ∀ (w : World) (xs ys : List Value) (r : Bool), xs.length = n → eqVals xs ys = some r →
    (Op.equalIn D t (partV P t xs) (partV P t ys)).run P w = .ok r w := by
  intro d
  induction d with
  | zero => intro t n h; cases h
  | succ d ih =>
    intro t n h D hD w xs ys r hl hr
    obtain ⟨D, rfl⟩ : ∃ E, D = E + 1 := ⟨D - 1, by omega⟩
    have hyl := eqVals_len hr
    have hsz := sTy_size h
    unfold sTy at h
    unfold partV
    cases hu : P.underlying t with
    | none => simp [hu] at h
    | some q =>
      cases q with
      | int k =>
        simp [hu] at h
        obtain ⟨-, rfl⟩ := h
        match xs, ys, hl, hyl with
        | [x], [y], _, _ =>
          simp only [eqVals] at hr
          split at hr
          · rename_i a b ha hb
            cases hb; cases hr
            unfold eqv1 at ha
            split at ha
            · split at ha
              · cases ha; rename_i hk; subst hk; simp [Op.equalIn, run_underlying hu]
              · cases ha
            · cases ha
          · cases hr
      | array len e =>
        simp only [hu] at h
        split at h
        · rename_i m hm
          split at h
          · rename_i hs
            cases h
            have hse := sTy_size hm
            obtain ⟨i, hi⟩ : ∃ i, P.info? e = some i := by
              cases hi : P.info? e with
              | none => simp [hi] at hse
              | some i => exact ⟨i, rfl⟩
            have hc : P.cellsOf e = m := by simp [Program.cellsOf, hse]
            dsimp only
            rw [run_equalIn_array w D _ _ hu hi, List.range_eq_range']
            exact eqItems_flat (fun w xs ys r hl hr => ih hm D (by omega) w xs ys r hl hr) (fun w xs off hle => run_part hm w xs off hle) hc w xs.toArray ys.toArray len 0 r
              (by simp; omega) (by simp; omega) (by simpa using hr)
          · cases h
        · cases h
      | struct fs =>
        simp only [hu] at h
        split at h
        · cases h
        · rename_i hst
          split at h
          · rename_i n' hf
            split at h
            · cases h
              dsimp only
              have hfo : P.fieldsOf t = fs := by simp [Program.fieldsOf, hu]
              rw [run_equalIn_struct w D t _ _ (by rw [hfo]; exact hu) (by simpa using hst), hfo]
              exact eqFields_flat (fun hm w xs ys r hl hr => ih hm D (by omega) w xs ys r hl hr) w xs.toArray ys.toArray fs.toList 0 n r hf (by simp; omega) (by simp; omega) (by simpa using hr)
            · cases h
          · cases h
      | _ => simp [hu] at h

/-- The cells of two plain values, compared. -/
def eqCells : List PV → List PV → Option Bool
  | [], [] => some true
  | .int k a :: xs, .int k' b :: ys => if k = k' then (match eqCells xs ys with | some r => some ((a == b) && r) | none => none) else none
  | _, _ => none

theorem eqCells_vals {I : Nat → Prop} {w : World} : ∀ {ps qs : List PV} {r : Bool} {xs ys : List Value}, eqCells ps qs = some r → xs.length = ps.length → ys.length = qs.length →
    (∀ (i : Nat) c v, ps[i]? = some c → xs[i]? = some v → Rep I w c v) → (∀ (i : Nat) c v, qs[i]? = some c → ys[i]? = some v → Rep I w c v) → eqVals xs ys = some r
  | [], [], r, xs, ys, h, hx, hy, _, _ => by
    simp [eqCells] at h; subst h
    obtain rfl := List.length_eq_zero_iff.1 hx
    obtain rfl := List.length_eq_zero_iff.1 hy
    rfl
  | .int k a :: ps, .int k' b :: qs, r, x :: xs, y :: ys, h, hx, hy, h1, h2 => by
    simp only [eqCells] at h
    split at h
    · rename_i hk
      split at h
      · rename_i r' hr
        cases h
        have e1 := h1 0 _ x rfl rfl
        have e2 := h2 0 _ y rfl rfl
        cases e1; cases e2
        have := eqCells_vals (xs := xs) (ys := ys) hr (by simpa using hx) (by simpa using hy) (fun i c v hc hv => h1 (i + 1) c v (by simpa using hc) (by simpa using hv))
          (fun i c v hc hv => h2 (i + 1) c v (by simpa using hc) (by simpa using hv))
        simp [eqVals, eqv1, hk, this]
      · cases h
    · cases h
  | .int _ _ :: _, _, _, [], _, _, hx, _, _, _ => by simp at hx
  | .int _ _ :: _, .int _ _ :: _, _, _ :: _, [], _, _, hy, _, _ => by simp at hy
  | [], _ :: _, _, _, _, h, _, _, _, _ => by simp [eqCells] at h
  | .int _ _ :: _, [], _, _, _, h, _, _, _, _ => by simp [eqCells] at h
  | .int _ _ :: _, .bool _ :: _, _, _, _, h, _, _, _, _ => by simp [eqCells] at h
  | .int _ _ :: _, .agg _ :: _, _, _, _, h, _, _, _, _ => by simp [eqCells] at h
  | .int _ _ :: _, .slice _ _ :: _, _, _, _, h, _, _, _, _ => by simp [eqCells] at h
  | .bool _ :: _, _, _, _, _, h, _, _, _, _ => by simp [eqCells] at h
  | .agg _ :: _, _, _, _, _, h, _, _, _, _ => by simp [eqCells] at h
  | .slice _ _ :: _, _, _, _, _, h, _, _, _, _ => by simp [eqCells] at h

/-- A struct or array of numbers, n cells, that can be compared. -/
def eqTy (P : Program) (t : TypeId) (n : Nat) : Bool := sTy P 9 t == some n && tAgg P t n && !P.eqGuardType P.depth t

theorem run_equal_agg {t : TypeId} {n : Nat} (hT : eqTy P t n = true) (w : World) {xs ys : Array Value} {r : Bool} (hl : xs.size = n) (h : eqVals xs.toList ys.toList = some r) :
    (Op.equal t (.agg xs) (.agg ys)).run P w = .ok r w := by
  simp only [eqTy, Bool.and_eq_true, beq_iff_eq] at hT
  have := run_equalIn_flat hT.1.1 Op.maxDepth (by decide) w xs.toList ys.toList r (by simpa using hl) h
  have e : ∀ (zs : Array Value), partV P t zs.toList = .agg zs := by
    intro zs
    have h2 := hT.1.2
    unfold tAgg at h2
    unfold partV
    cases hu : P.underlying t with
    | none => simp [hu] at h2
    | some q => cases q <;> simp [hu] at h2 <;> simp
  rw [e, e] at this
  exact this

theorem rep_agg {μ : List Blk} {I : Nat → Prop} {w : World} {cs : List PV} {v : Value} (h : LRep μ I w (.p (.agg cs)) v) :
    ∃ vs : Array Value, v = .agg vs ∧ vs.size = cs.length ∧ (∀ c ∈ cs, c.one) ∧ ∀ (i : Nat) c u, cs[i]? = some c → vs[i]? = some u → Rep I w c u := by
  cases h with
  | p h => cases h with | agg hl ho h => exact ⟨_, rfl, hl, ho, h⟩

theorem eqCells_len : ∀ {ps qs : List PV} {r : Bool}, eqCells ps qs = some r → ps.length = qs.length
  | [], [], _, _ => rfl
  | .int k a :: ps, .int k' b :: qs, r, h => by
    simp only [eqCells] at h
    split at h
    · split at h
      · rename_i hr; simp [eqCells_len hr]
      · cases h
    · cases h
  | [], _ :: _, _, h => by simp [eqCells] at h
  | .int _ _ :: _, [], _, h => by simp [eqCells] at h
  | .int _ _ :: _, .bool _ :: _, _, h => by simp [eqCells] at h
  | .int _ _ :: _, .agg _ :: _, _, h => by simp [eqCells] at h
  | .int _ _ :: _, .slice _ _ :: _, _, h => by simp [eqCells] at h
  | .bool _ :: _, _, _, h => by simp [eqCells] at h
  | .agg _ :: _, _, _, h => by simp [eqCells] at h
  | .slice _ _ :: _, _, _, h => by simp [eqCells] at h

theorem run_eqGuard_agg {t : TypeId} {n : Nat} (hT : eqTy P t n = true) (op : BinOp) (x y : Operand) (w : World) (xs ys : Array Value) : (eqGuard op t x y (.agg xs) (.agg ys)).run P w = .ok () w := by
  simp only [eqTy, Bool.and_eq_true] at hT
  have h3 : P.eqGuardType P.depth t = false := by simpa using hT.2
  cases op <;> simp [eqGuard, h3]

theorem LOp.eqlAgg {t t' : TypeId} {x y : Operand} {ps qs : List PV} {n : Nat} {r : Bool} (ho : o.op = .binOp .eql t x y t') (hx : lev env x = some (.p (.agg ps))) (hy : lev env y = some (.p (.agg qs)))
    (h : eqCells ps qs = some r) (hn : ps.length = n) (hT : eqTy P t n = true) : LOp P o env H (Is (.p (.bool r)) H) :=
  LOp.val fun ac w μ I _ he => by
    obtain ⟨xs, e1, hl1, -, h1⟩ := rep_agg (he.ev (x := x) (by simp [ho, Op.operands]) hx)
    obtain ⟨ys, e2, hl2, -, h2⟩ := rep_agg (he.ev (x := y) (by simp [ho, Op.operands]) hy)
    have hv : eqVals xs.toList ys.toList = some r := eqCells_vals h (by simpa using hl1) (by simpa using hl2) (fun i c v hc hv => h1 i c v hc (by simpa using hv)) (fun i c v hc hv => h2 i c v hc (by simpa using hv))
    refine ⟨.bool r, ?_, .p .bool⟩
    simp only [execOp, ho, e1, e2]
    simp [run_eqGuard_agg hT, binOp, run_equal_agg hT w (by omega) hv]

theorem LOp.neqAgg {t t' : TypeId} {x y : Operand} {ps qs : List PV} {n : Nat} {r : Bool} (ho : o.op = .binOp .neq t x y t') (hx : lev env x = some (.p (.agg ps))) (hy : lev env y = some (.p (.agg qs)))
    (h : eqCells ps qs = some r) (hn : ps.length = n) (hT : eqTy P t n = true) : LOp P o env H (Is (.p (.bool (!r))) H) :=
  LOp.val fun ac w μ I _ he => by
    obtain ⟨xs, e1, hl1, -, h1⟩ := rep_agg (he.ev (x := x) (by simp [ho, Op.operands]) hx)
    obtain ⟨ys, e2, hl2, -, h2⟩ := rep_agg (he.ev (x := y) (by simp [ho, Op.operands]) hy)
    have hv : eqVals xs.toList ys.toList = some r := eqCells_vals h (by simpa using hl1) (by simpa using hl2) (fun i c v hc hv => h1 i c v hc (by simpa using hv)) (fun i c v hc hv => h2 i c v hc (by simpa using hv))
    refine ⟨.bool (!r), ?_, .p .bool⟩
    simp only [execOp, ho, e1, e2]
    simp [run_eqGuard_agg hT, binOp, run_equal_agg hT w (by omega) hv]
end
end Go.Mg
