/- Plain laws of views: which views may be. Plain laws of views: what is taken. Plain laws of views: what is taken, as the program does it. Plain laws of views: votes that are taken, as the program does it. Plain laws of views: view.Take. Plain laws of views: what holds of what is taken. Laws of views. The laws of views' example. Laws of views. Laws of views: ViewOnly, ViewJoin. Laws of views. Laws of views. Laws of views: ViewMay, ViewKeeps. Plain laws of views: what is counted, as a set. Laws of views. Laws of views. Laws of views. Plain laws of views: order, and all. Nets, plain: how much nodes have; what they have together. The votes of a committee, and the head by them, plain. Laws of nets, plain. What arguments are: offers, nodes. How the program's own line of words reads, letter by letter; facts of the whole program that each row asks for. Conditions: none. -/
import Derived.Test.YtabjakfgaodocaaGreatX9
import Derived.Test.YtabjakfgaodocaaGreatX8
import Derived.Test.YtabjakfgaodocaaGreatX7
import Derived.Test.YtabjakfgaodocaaGreatRows
import Derived.ProofKit
import Derived.OpenShut
namespace Go.Mg
def slotQ (B : List Bk) (id : ID) : Option Int := if id = (0, 0) then some 0 else (B.find? fun b => decide (nm b = id)).map Bk.Slot
def ValidB (B : List Bk) : Prop := (places B).isSome = true
theorem valid_names {B : List Bk} (h : ValidB B) : ((0, 0) :: B.map nm).Nodup := by
  obtain ⟨m, hm⟩ := Option.isSome_iff_exists.1 h
  exact names_nodup hm
def forB (B : List Bk) (v : Vt) : Prop := ∃ s, slotQ B v.Head = some s ∧ s ≤ v.Slot
structure MayW (c : Cf) (w : Vw) : Prop where
  conf : MayC c
  valid : ValidB w.B
  lenB : w.B.length ≤ 60
  lenV : w.V.length ≤ 240
  mayB : ∀ b ∈ w.B, mayB c b = true
  mayV : ∀ v ∈ w.V, mayV c v = true
  nodup : w.V.Nodup
  forB : ∀ v ∈ w.V, forB w.B v
def goneB (B : List Bk) (b : Bk) : Bool := (slotQ B (nm b)).isSome || (match slotQ B b.Parent with | some s => decide (s ≥ b.Slot) | none => false)
def waitB (B : List Bk) (upto : Int) (b : Bk) : Bool := match slotQ B b.Parent with | some _ => decide (b.Slot > upto) | none => true
def goneV (B : List Bk) (V : List Vt) (v : Vt) : Bool := decide (v ∈ V) || (match slotQ B v.Head with | some s => decide (s > v.Slot) | none => false)
def waitV (B : List Bk) (upto : Int) (v : Vt) : Bool := match slotQ B v.Head with | some _ => decide (v.Slot > upto) | none => true
def SmOk (B : List Bk) (sm : List (ID × Int)) : Prop := ∀ id, findE sm id = slotQ B id
def HmOk (V : List Vt) (hm : List (Vt × Bool)) : Prop := ∀ v, findE hm v = if v ∈ V then some true else none
structure SmR (B : List Bk) (sm : List (ID × Int)) : Prop where
  find : SmOk B sm
  len : sm.length ≤ B.length + 1
structure HmR (V : List Vt) (hm : List (Vt × Bool)) : Prop where
  find : HmOk V hm
  len : hm.length ≤ V.length
structure PreL {α : Type} (lB : List α) (k : Nat) (l : List α) : Prop where
  take : lB.take k = l
  le : k ≤ lB.length
theorem PreL.len {α : Type} {lB l : List α} {k : Nat} (h : PreL lB k l) : l.length = k := by
  rw [← h.take, List.length_take]; have := h.le; omega
structure Mv {α : Type} (l a : List α) (i j : Nat) (left : List α) : Prop where
  ij : i < j
  jl : j ≤ l.length
  len : l.length ≤ a.length
  left : a.take i = left
  rest : ∀ q, j ≤ q → q < l.length → a[q]? = l[q]?
structure GvS where
  B : List Bk
  V : List Vt
  full : Bool
  lB : List Bk
  lV : List Vt
def BelowT (s : GvS) : Prop := s.B.length ≤ 60 ∧ s.V.length ≤ 240
structure RepT (s : GvS) (x : F90_L1) : Prop where
  o6 : x.o6 = s.B
  o7 : x.o7 = s.V
  full : x.x_5 = s.full
  sm : SmR s.B x.o8
  hm : HmR s.V x.o9
  lB : PreL x.o14 x.left_0 s.lB
  lV : PreL x.o15 x.left_1 s.lV
structure InvT (w o : Vw) (upto : Int) (s : GvS) : Prop where
  preB : ∃ t, s.B = w.B ++ t ∧ ∀ b ∈ t, b ∈ o.B ∧ b.Slot ≤ upto
  preV : ∃ t, s.V = w.V ++ t ∧ ∀ v ∈ t, v ∈ o.V ∧ v.Slot ≤ upto
  valid : ValidB s.B
  nodup : s.V.Nodup
  forB : ∀ v ∈ s.V, forB s.B v
  below : BelowT s
  subB : s.lB.Sublist o.B
  subV : s.lV.Sublist o.V
  allB : ∀ b ∈ o.B, b ∈ s.lB ∨ goneB s.B b = true
  allV : ∀ v ∈ o.V, v ∈ s.lV ∨ goneV s.B s.V v = true
structure EndT (upto : Int) (s : GvS) : Prop where
  B : ∀ b ∈ s.lB, goneB s.B b = false ∧ (waitB s.B upto b = true ∨ 60 ≤ s.B.length ∧ s.full = true)
  V : ∀ v ∈ s.lV, goneV s.B s.V v = false ∧ (waitV s.B upto v = true ∨ 240 ≤ s.V.length ∧ s.full = true)
structure Took (c : Cf) (w inp : Vw) (upto : Int) (r : Vw × Vw × Bool) : Prop where
  may : MayW c r.1
  preB : ∃ t, r.1.B = w.B ++ t ∧ ∀ b ∈ t, b ∈ (onlyP c inp).B ∧ b.Slot ≤ upto
  preV : ∃ t, r.1.V = w.V ++ t ∧ ∀ v ∈ t, v ∈ (onlyP c inp).V ∧ v.Slot ≤ upto
  subB : r.2.1.B.Sublist (onlyP c inp).B
  subV : r.2.1.V.Sublist (onlyP c inp).V
  allB : ∀ b ∈ (onlyP c inp).B, b ∈ r.2.1.B ∨ goneB r.1.B b = true
  allV : ∀ v ∈ (onlyP c inp).V, v ∈ r.2.1.V ∨ goneV r.1.B r.1.V v = true
  endB : ∀ b ∈ r.2.1.B, goneB r.1.B b = false ∧ (waitB r.1.B upto b = true ∨ 60 ≤ r.1.B.length ∧ r.2.2 = true)
  endV : ∀ v ∈ r.2.1.V, goneV r.1.B r.1.V v = false ∧ (waitV r.1.B upto v = true ∨ 240 ≤ r.1.V.length ∧ r.2.2 = true)
open Go.Proofs
open Go.Proofs
theorem inL_len {α : Type} {l : List α} {n : Nat} (h : n ≤ l.length) : inL l 0 (n : Int) = true := inL_hi (by omega) (by omega)
open Go.Proofs
open Go.Proofs
inductive CB (base o : List Bk) (upto : Int) : Bk → Prop
  | base {b : Bk} : b ∈ base → CB base o upto b
  | root {b : Bk} : b ∈ o → b.Slot ≤ upto → b.Parent = (0, 0) → 0 < b.Slot → CB base o upto b
  | step {b p : Bk} : b ∈ o → b.Slot ≤ upto → CB base o upto p → nm p = b.Parent → p.Slot < b.Slot → CB base o upto b
theorem CB.mono {base base' o o' : List Bk} {upto upto' : Int} (h1 : ∀ b ∈ base, CB base' o' upto' b) (h2 : ∀ b ∈ o, b ∈ o') (h3 : upto ≤ upto') {b : Bk} (h : CB base o upto b) : CB base' o' upto' b := by
  induction h with
  | base h => exact h1 _ h
  | root a1 a2 a3 a4 => exact .root (h2 _ a1) (Int.le_trans a2 h3) a3 a4
  | step a1 a2 _ a4 a5 ih => exact .step (h2 _ a1) (Int.le_trans a2 h3) ih a4 a5
structure Rm (U : Vw) : Prop where
  inj : ∀ a ∈ U.B, ∀ b ∈ U.B, nm a = nm b → a = b
  B : U.B.length < 60
  V : U.V.length < 240
open Go.Proofs
open Go.Proofs
open Go.Proofs
def namesP (l : List Bk) : List (ID × Bool) := l.foldl (fun m b => setE m (nm b) true) (setE [] (0, 0) true)
theorem namesP_snoc (l : List Bk) (b : Bk) : namesP (l ++ [b]) = setE (namesP l) (nm b) true := by unfold namesP; rw [List.foldl_append]; rfl
theorem names_go : ∀ (l : List Bk) (m : List (ID × Bool)), (l.foldl (fun m b => setE m (nm b) true) m).length ≤ m.length + l.length ∧
    ((l.foldl (fun m b => setE m (nm b) true) m).length = m.length + l.length ↔ (l.map nm).Nodup ∧ ∀ x ∈ l.map nm, x ∉ m.map Prod.fst)
  | [], m => by simp
  | b :: r, m => by
    have ih := names_go r (setE m (nm b) true)
    have hk := keys_set (nm b) true m
    have hlen := congrArg List.length hk
    rw [List.length_map] at hlen
    simp only [List.foldl_cons, List.length_cons, List.map_cons, List.nodup_cons, List.mem_cons, forall_eq_or_imp]
    by_cases h : nm b ∈ m.map Prod.fst
    · rw [if_pos h] at hlen hk
      rw [List.length_map] at hlen
      refine ⟨by omega, ⟨fun e => by omega, fun e => absurd h e.2.1⟩⟩
    · rw [if_neg h] at hlen hk
      rw [List.length_append, List.length_map, List.length_singleton] at hlen
      refine ⟨by omega, ?_⟩
      rw [show m.length + (r.length + 1) = (setE m (nm b) true).length + r.length by omega, ih.2, hk]
      constructor
      · rintro ⟨h1, h2⟩
        refine ⟨⟨fun h3 => ?_, h1⟩, h, fun x hx h3 => h2 x hx (List.mem_append_left _ h3)⟩
        exact h2 _ h3 (List.mem_append_right _ (List.mem_singleton.2 rfl))
      · rintro ⟨⟨h1, h2⟩, -, h4⟩
        refine ⟨h2, fun x hx h5 => ?_⟩
        rcases List.mem_append.1 h5 with h6 | h6
        · exact h4 x hx h6
        · rw [List.mem_singleton] at h6; subst h6; exact h1 hx
theorem names_len (l : List Bk) : (namesP l).length ≤ l.length + 1 ∧ ((namesP l).length = l.length + 1 ↔ ((0, 0) :: l.map nm).Nodup) := by
  have h := names_go l (setE [] (0, 0) true)
  have e : setE ([] : List (ID × Bool)) (0, 0) true = [((0, 0), true)] := rfl
  rw [e] at h
  simp only [List.length_singleton, List.map_cons, List.map_nil, List.mem_singleton] at h
  have e2 : namesP l = l.foldl (fun m b => setE m (nm b) true) [((0, 0), true)] := rfl
  rw [e2]
  refine ⟨by omega, ?_⟩
  rw [show l.length + 1 = 1 + l.length by omega, h.2, List.nodup_cons]
  exact ⟨fun ⟨h1, h2⟩ => ⟨fun h3 => h2 _ h3 rfl, h1⟩, fun ⟨h1, h2⟩ => ⟨h2, fun x hx e => h1 (e ▸ hx)⟩⟩
def clashP (l : List Bk) : Bool := decide (¬ ((0, 0) :: l.map nm).Nodup)
theorem F3034_eq {w : Vw} (hl : w.B.length ≤ 90000) : F3034 w = some (clashP w.B) := by
  have e := count_loop (step := F3034_s1 w) (n := w.B.length) (fun k => F3034_L1.mk (k : Int) (namesP (w.B.take k))) (F3034_L1.mk (w.B.length : Int) (namesP w.B)) (fun k hk => by
    obtain ⟨y, hy, -⟩ := get_of hk
    have et : w.B.take (k + 1) = w.B.take k ++ [y] := by rw [List.take_add_one, hy]; rfl
    unfold F3034_s1
    simp only
    rw [decide_eq_true (show (k : Int) < (w.B.length : Int) by omega), ct, ix_nat hy, ob, et, namesP_snoc, wrap_succ (n := k) (by omega)]) (by
    unfold F3034_s1
    simp only
    rw [decide_eq_false (show ¬ (w.B.length : Int) < (w.B.length : Int) by omega), cf, List.take_length]) (by omega)
  have e' : iter (F3034_s1 w) big (F3034_L1.mk 0 (setE [] (0, 0) true)) = _ := e
  have hn := names_len w.B
  unfold F3034
  rw [e', ob]
  simp only
  rw [show fewE (namesP w.B) = true from decide_eq_true (by omega), ct, wrap_succ (n := w.B.length) (by omega)]
  congr 1
  unfold clashP
  rw [Bool.eq_iff_iff, decide_eq_true_iff, ← hn.2, bne_iff_ne]
  omega
theorem clash_take (l : List Bk) (k : Nat) (h : clashP (l.take k) = true) : clashP l = true := by
  unfold clashP at *
  rw [decide_eq_true_iff] at *
  refine fun h2 => h (h2.sublist ?_)
  rw [List.map_take]
  exact (List.take_sublist k (l.map nm)).cons_cons _
theorem clash_valid {l : List Bk} (h : ValidB l) : clashP l = false := by
  unfold clashP
  rw [decide_eq_false_iff_not, Decidable.not_not]
  exact valid_names h
theorem netClash (ha : F3029 = some true) (l : List Bk) (at_ : Int) : F3009 l at_ = some true := by
  unfold F3009
  rw [ha, ob, Bool.not_true, cf]
  by_cases h1 : (l.length : Int) > 40
  · rw [decide_eq_true h1, ct, ob, ct]
  rw [decide_eq_false h1, cf]
  by_cases h2 : at_ < 0
  · rw [decide_eq_true h2, ct, ob, ct]
  rw [decide_eq_false h2, cf, ob]
  by_cases h3 : at_ > (l.length : Int)
  · rw [decide_eq_true h3, ct]
  rw [decide_eq_false h3, cf]
  obtain ⟨n, rfl⟩ : ∃ n : Nat, at_ = n := ⟨at_.toNat, by omega⟩
  rw [F3034_eq (by simp only; omega), ob, inL_len (by omega), ct, Int.toNat_natCast, F3034_eq (by simp only [List.length_take]; omega), ob, F52_eq]
  simp only [Option.bind_some]
  have h4 := clash_take l n
  have h5 : (places l).isSome = true → clashP l = false := clash_valid
  cases hc : clashP l <;> cases ht : clashP (l.take n) <;> cases hp : (places l).isSome <;> simp_all
end Go.Mg
namespace Go.Proofs.YtabjakfgaodocaaGreat
def io : List Nat := [104, 97, 114, 110, 101, 115, 115, 32, 56, 49, 54, 54, 102, 99, 100, 102, 54, 101, 102, 56, 52, 53, 57, 51, 98, 52, 98, 97, 101, 98, 49, 51, 97, 99, 50, 49, 100, 54, 48, 97, 49, 101, 97, 54, 52, 98, 97, 100, 50, 101, 49, 97, 55, 52, 57, 54, 55, 56, 51, 102, 99, 98, 50, 53, 56, 57, 57, 102, 98, 51, 51, 57, 32, 99, 117, 116, 32, 97, 116, 32, 109, 97, 114, 105, 103, 111, 108, 100, 47, 109, 97, 114, 105, 103, 111, 108, 100, 108, 97, 119, 49, 56, 46, 78, 111, 100, 101, 75, 101, 101, 112, 115, 32, 109, 97, 114, 105, 103, 111, 108, 100, 47, 109, 97, 114, 105, 103, 111, 108, 100, 108, 97, 119, 49, 56, 46, 78, 111, 100, 101, 87, 97, 105, 116, 115, 32, 109, 97, 114, 105, 103, 111, 108, 100, 47, 109, 97, 114, 105, 103, 111, 108, 100, 108, 97, 119, 49, 56, 46, 78, 111, 100, 101, 86, 111, 116, 101, 115, 32, 109, 97, 114, 105, 103, 111, 108, 100, 47, 109, 97, 114, 105, 103, 111, 108, 100, 108, 97, 119, 49, 56, 46, 78, 111, 100, 101, 75, 110, 111, 119, 110, 32, 109, 97, 114, 105, 103, 111, 108, 100, 47, 109, 97, 114, 105, 103, 111, 108, 100, 108, 97, 119, 49, 57, 46, 78, 101, 116, 65, 108, 108, 32, 109, 97, 114, 105, 103, 111, 108, 100, 47, 109, 97, 114, 105, 103, 111, 108, 100, 108, 97, 119, 49, 57, 46, 78, 101, 116, 79, 114, 100, 101, 114, 32, 109, 97, 114, 105, 103, 111, 108, 100, 47, 109, 97, 114, 105, 103, 111, 108, 100, 108, 97, 119, 49, 57, 46, 78, 101, 116, 67, 108, 97, 115, 104, 32, 109, 97, 114, 105, 103, 111, 108, 100, 47, 109, 97, 114, 105, 103, 111, 108, 100, 108, 97, 119, 49, 57, 46, 78, 101, 116, 72, 101, 97, 100, 115, 32, 109, 97, 114, 105, 103, 111, 108, 100, 47, 109, 97, 114, 105, 103, 111, 108, 100, 108, 97, 119, 49, 56, 46, 78, 111, 100, 101, 84, 105, 99, 107, 115, 32, 109, 97, 114, 105, 103, 111, 108, 100, 47, 109, 97, 114, 105, 103, 111, 108, 100, 108, 97, 119, 49, 56, 46, 78, 111, 100, 101, 83, 116, 101, 112, 115]
theorem ioEq : Tryz.prog.initOrder = String.ofList (io.map Char.ofNat) := by kernel_rfl
theorem ioList : Tryz.prog.initOrder.toList = io.map Char.ofNat := by rw [ioEq, String.toList_ofList]
def ws : List (List Nat) := [[99, 117, 116], [97, 116], [109, 97, 114, 105, 103, 111, 108, 100, 47, 109, 97, 114, 105, 103, 111, 108, 100, 108, 97, 119, 49, 56, 46, 78, 111, 100, 101, 75, 101, 101, 112, 115], [109, 97, 114, 105, 103, 111, 108, 100, 47, 109, 97, 114, 105, 103, 111, 108, 100, 108, 97, 119, 49, 56, 46, 78, 111, 100, 101, 87, 97, 105, 116, 115], [109, 97, 114, 105, 103, 111, 108, 100, 47, 109, 97, 114, 105, 103, 111, 108, 100, 108, 97, 119, 49, 56, 46, 78, 111, 100, 101, 86, 111, 116, 101, 115], [109, 97, 114, 105, 103, 111, 108, 100, 47, 109, 97, 114, 105, 103, 111, 108, 100, 108, 97, 119, 49, 56, 46, 78, 111, 100, 101, 75, 110, 111, 119, 110], [109, 97, 114, 105, 103, 111, 108, 100, 47, 109, 97, 114, 105, 103, 111, 108, 100, 108, 97, 119, 49, 57, 46, 78, 101, 116, 65, 108, 108], [109, 97, 114, 105, 103, 111, 108, 100, 47, 109, 97, 114, 105, 103, 111, 108, 100, 108, 97, 119, 49, 57, 46, 78, 101, 116, 79, 114, 100, 101, 114], [109, 97, 114, 105, 103, 111, 108, 100, 47, 109, 97, 114, 105, 103, 111, 108, 100, 108, 97, 119, 49, 57, 46, 78, 101, 116, 67, 108, 97, 115, 104], [109, 97, 114, 105, 103, 111, 108, 100, 47, 109, 97, 114, 105, 103, 111, 108, 100, 108, 97, 119, 49, 57, 46, 78, 101, 116, 72, 101, 97, 100, 115], [109, 97, 114, 105, 103, 111, 108, 100, 47, 109, 97, 114, 105, 103, 111, 108, 100, 108, 97, 119, 49, 56, 46, 78, 111, 100, 101, 84, 105, 99, 107, 115], [109, 97, 114, 105, 103, 111, 108, 100, 47, 109, 97, 114, 105, 103, 111, 108, 100, 108, 97, 119, 49, 56, 46, 78, 111, 100, 101, 83, 116, 101, 112, 115]]
theorem words : behindMainWord (wordsSigns Tryz.prog.initOrder.toList) = ws.map (List.map Char.ofNat) := by
  rw [ioList]
  kernel_rfl
theorem strip : stripLifts liftWords (ws.map (List.map Char.ofNat)) = ([], ws.map (List.map Char.ofNat)) := by kernel_rfl
theorem rows0 : Tryz.prog.doorRows = [] := by kernel_rfl
theorem lays : Tryz.prog.laysLater = false := by kernel_rfl
theorem refl0 : Tryz.prog.bearsReflect = false := by kernel_rfl
theorem headw : (ws.map (List.map Char.ofNat)).head? = some "cut".toList := by kernel_rfl
theorem enters (P : Program) (W : List (List Char)) (hW : behindMainWord (wordsSigns P.initOrder.toList) = W) (hs : stripLifts liftWords W = ([], W)) (hh : W.head? = some "cut".toList) (hr : P.doorRows = []) (hl : P.laysLater = false) (hb : P.bearsReflect = false) : P.mayEnter = true := by
  unfold Program.mayEnter
  rw [hW]
  cases W with
  | nil => cases hh
  | cons c r =>
    simp only [hs, hh, hl, hb, Program.doorFits, hr]
    simp
theorem mayEnter : Tryz.prog.mayEnter = true := enters Tryz.prog _ words strip headw rows0 lays refl0
theorem own : ownKnob Tryz.prog.godebug = none := by kernel_rfl
theorem laidOut : laidOutB Tryz.prog = true := by kernel_rfl
theorem rowed : mapsRowed Tryz.prog = true := by kernel_rfl
theorem heard : Tryz.prog.stopsHeard = true := by kernel_rfl
theorem make_of (P : Program) (W : List (List Char)) (hW : behindMainWord (wordsSigns P.initOrder.toList) = W) (hh : W.head? = some "cut".toList) : P.make = some .cut := by
  unfold Program.make
  rw [hW]
  cases W with
  | nil => cases hh
  | cons c r =>
    have e : c = "cut".toList := by simpa using hh
    subst e
    show (if _ then _ else _) = _
    rw [if_neg (by decide), if_pos (by simp)]
theorem makes : Tryz.prog.make = some .cut := make_of Tryz.prog _ words headw
theorem lifts : Tryz.prog.liftsFinal = false := by
  unfold Program.liftsFinal Program.headLifts
  rw [words]
  kernel_rfl
end Go.Proofs.YtabjakfgaodocaaGreat
