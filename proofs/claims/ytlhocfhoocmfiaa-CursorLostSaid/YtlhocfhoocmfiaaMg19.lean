/- Arguments as a row reads them, opened into plain data; a row of a law that answers true, from the law's contract. Conditions: none. -/
import Derived.Test.YtlhocfhoocmfiaaMg18
import Derived.Deep.Slices
import Derived.ProofKit
import Derived.OpenShut
namespace Go.Mg
open Go.ChangeShapes Go.WideShapes Go.ChangeAt Go.RowKit

/-- The shape of plain data. -/
inductive TS where
  | int (k : IntKind)
  | bool
  | agg (cs : List TS)
  | slice (m : Nat) (e : TS)

def TS.cells : TS → List TS
  | .agg cs => cs
  | t => [t]

def fieldsTs (g : TypeId → Option TS) (size : TypeId → Nat) : List Field → Nat → Option (List TS)
  | [], _ => some []
  | f :: r, off => match g f.type with
    | none => none
    | some E => if f.offset = off ∧ size f.type = E.cells.length then (match fieldsTs g size r (off + size f.type) with | some cs => some (E.cells ++ cs) | none => none) else none

def repl (n : Nat) (cs : List TS) : List TS := match n with
  | 0 => []
  | n + 1 => cs ++ repl n cs

def tsOf (P : Program) : Nat → TypeId → Option TS
  | 0, _ => none
  | d + 1, t => match P.underlying t with
    | some (.int k) => some (.int k)
    | some .bool => some .bool
    | some (.slice e) => match tsOf P d e with
      | none => none
      | some E => if P.cellsOf e = E.cells.length ∧ 0 < P.cellsOf e then some (.slice (P.cellsOf e) E) else none
    | some (.struct fs) => match fieldsTs (tsOf P d) P.cellsOf fs.toList 0 with
      | none => none
      | some cs => if cs.length = P.cellsOf t then some (.agg cs) else none
    | some (.array n e) => match tsOf P d e with
      | none => none
      | some E => if P.cellsOf e = E.cells.length ∧ n * P.cellsOf e = P.cellsOf t then some (.agg (repl n E.cells)) else none
    | _ => none

mutual
inductive TIs : TS → PV → Prop
  | int {k : IntKind} {n : Int} (h : InKind k n) : TIs (.int k) (.int k n)
  | bool {b : Bool} : TIs .bool (.bool b)
  | agg {cs : List TS} {ps : List PV} (h : TIss cs ps) : TIs (.agg cs) (.agg ps)
  | slice {m : Nat} {e : TS} {xs : List PV} (h : ∀ x ∈ xs, TIs e x) : TIs (.slice m e) (.slice m xs)
inductive TIss : List TS → List PV → Prop
  | nil : TIss [] []
  | cons {t : TS} {p : PV} {ts : List TS} {ps : List PV} (h : TIs t p) (hs : TIss ts ps) : TIss (t :: ts) (p :: ps)
end

/-- Cells by cells. -/
inductive RepC (I : Nat → Prop) (w : World) : List TS → List PV → List Value → Prop
  | nil : RepC I w [] [] []
  | cons {t : TS} {p : PV} {v : Value} {ts : List TS} {ps : List PV} {vs : List Value} (h : TIs t p) (ho : p.one) (hr : Rep I w p v) (hs : RepC I w ts ps vs) : RepC I w (t :: ts) (p :: ps) (v :: vs)

theorem RepC.append {I : Nat → Prop} {w : World} {ts ts' : List TS} {ps ps' : List PV} {vs vs' : List Value} (h : RepC I w ts ps vs) (h' : RepC I w ts' ps' vs') : RepC I w (ts ++ ts') (ps ++ ps') (vs ++ vs') := by
  induction h with
  | nil => exact h'
  | cons h ho hr hs ih => exact .cons h ho hr ih

theorem RepC.len {I : Nat → Prop} {w : World} {ts : List TS} {ps : List PV} {vs : List Value} (h : RepC I w ts ps vs) : ps.length = ts.length ∧ vs.length = ts.length := by
  induction h with
  | nil => exact ⟨rfl, rfl⟩
  | cons h ho hr hs ih => simp [ih]

theorem RepC.tiss {I : Nat → Prop} {w : World} {ts : List TS} {ps : List PV} {vs : List Value} (h : RepC I w ts ps vs) : TIss ts ps := by
  induction h with
  | nil => exact .nil
  | cons h ho hr hs ih => exact .cons h ih

theorem RepC.get {I : Nat → Prop} {w : World} {ts : List TS} {ps : List PV} {vs : List Value} (h : RepC I w ts ps vs) : ∀ (i : Nat) c v, ps[i]? = some c → vs[i]? = some v → c.one ∧ Rep I w c v := by
  induction h with
  | nil => intro i c v hc; simp at hc
  | cons h ho hr hs ih =>
    intro i c v hc hv
    cases i with
    | zero => simp at hc hv; subst hc; subst hv; exact ⟨ho, hr⟩
    | succ i => simp at hc hv; exact ih i c v hc hv

theorem inKind_wf {k : IntKind} {n : Int} (h : (Lit.int k n).wf = true) : InKind k n := by
  simp only [Lit.wf, Bool.and_eq_true, decide_eq_true_eq] at h
  exact h

section
variable {H : Type} {enc : TypeId × Value → H} {P : Program} {w : World} {base : Nat} {spare : Nat → Bool} {held : Bool}

/-- Data of one shape out of its cells. -/
def mkP : TS → List PV → PV
  | .agg _, ps => .agg ps
  | _, p :: _ => p
  | _, [] => .bool false

theorem mkP_is {I : Nat → Prop} {T : TS} {ps : List PV} {vs : List Value} (h : RepC I w T.cells ps vs) (hone : ∀ cs, T ≠ .agg cs → True) : TIs T (mkP T ps) ∧ (mkP T ps).cells = ps := by
  cases T with
  | agg cs => exact ⟨.agg h.tiss, rfl⟩
  | int k => cases h with | cons h ho hr hs => cases hs; cases h; exact ⟨.int (by assumption), rfl⟩
  | bool => cases h with | cons h ho hr hs => cases hs; cases h; exact ⟨.bool, rfl⟩
  | slice m e => cases h with | cons h ho hr hs => cases hs; cases h; exact ⟨.slice (by assumption), rfl⟩

theorem cells_of {a : Addr} {n : Nat} {cs : List Value} (h : w.cells? base a n = some cs) : cs.length = n ∧ ∀ (i : Nat) v, cs[i]? = some v → w.cell? (a.add i) = some v := by
  obtain ⟨_, h1, h2⟩ := World.cells?_some h
  refine ⟨h1, fun i v hv => ?_⟩
  have hi := (List.getElem?_eq_some_iff.1 hv).1
  have := h2 i (by omega)
  rw [this, hv]

theorem cell_none {a : Addr} {v : Value} (h : w.cell? a = some v) : a = ⟨a.block, a.off, none⟩ ∧ a.block < w.heap.size := by
  obtain ⟨b, o, s⟩ := a
  unfold World.cell? at h
  split at h
  · rename_i c t f hb
    split at h
    · cases h
    · rename_i hs
      have hlt := (Array.getElem?_eq_some_iff.1 hb).1
      cases s with
      | none => exact ⟨rfl, hlt⟩
      | some s => simp at hs
  · cases h

theorem add_add {b o i j : Nat} {s : Option Nat} : ((⟨b, o, s⟩ : Addr).add i).add j = if i + j = 0 then ⟨b, o, s⟩ else ⟨b, o + (i + j), none⟩ := by
  unfold Addr.add
  by_cases hi : i = 0 <;> by_cases hj : j = 0 <;> simp [hi, hj]
  · omega

theorem fields_open (g : TypeId → Option TS) (hg : ∀ t T, g t = some T → ∀ fuel cs x, DataW.trod enc P w base spare held fuel t cs = some x → ∃ ps, RepC (· < w.heap.size) w T.cells ps cs) (fuel : Nat) (vs : List Value) :
    ∀ (fs : List Field) (off : Nat) (cs : List TS), fieldsTs g P.cellsOf fs off = some cs → (∀ f ∈ fs, ∃ x, DataW.trod enc P w base spare held fuel f.type ((vs.drop f.offset).take (P.cellsOf f.type)) = some x) →
      ∃ ps, RepC (· < w.heap.size) w cs ps ((vs.drop off).take cs.length)
  | [], off, cs, h, _ => by
    cases h
    exact ⟨[], by simpa using RepC.nil⟩
  | f :: r, off, cs, h, hx => by
    unfold fieldsTs at h
    split at h
    · cases h
    · rename_i E hE
      split at h
      · rename_i hc
        split at h
        · rename_i cs' hr
          cases h
          obtain ⟨x, hx0⟩ := hx f (.head _)
          obtain ⟨ps, h1⟩ := hg _ _ hE _ _ _ hx0
          obtain ⟨ps', h2⟩ := fields_open g hg fuel vs r _ cs' hr fun f' hf => hx f' (.tail _ hf)
          rw [hc.1] at h1
          refine ⟨ps ++ ps', ?_⟩
          have := h1.append h2
          rw [hc.2] at this
          have e : (vs.drop off).take (E.cells ++ cs').length = (vs.drop off).take E.cells.length ++ (vs.drop (off + E.cells.length)).take cs'.length := by
            rw [List.length_append, List.take_add, List.drop_drop]
          rw [e]; exact this
        · cases h
      · cases h

theorem repl_len (n : Nat) (cs : List TS) : (repl n cs).length = n * cs.length := by
  induction n with
  | zero => simp [repl]
  | succ n ih => simp [repl, ih, Nat.add_mul, Nat.add_comm]

theorem array_open {E : TS} {m : Nat} (hm : m = E.cells.length) (vs : List Value) : ∀ (n k : Nat), (∀ i, i < n → ∃ ps, RepC (· < w.heap.size) w E.cells ps ((vs.drop ((k + i) * m)).take m)) →
    ∃ ps, RepC (· < w.heap.size) w (repl n E.cells) ps ((vs.drop (k * m)).take (n * m))
  | 0, k, _ => ⟨[], by simpa [repl] using RepC.nil⟩
  | n + 1, k, h => by
    obtain ⟨ps, h1⟩ := h 0 (by omega)
    obtain ⟨ps', h2⟩ := array_open hm vs n (k + 1) fun i hi => by
      have := h (i + 1) (by omega)
      rwa [show k + (i + 1) = k + 1 + i by omega] at this
    refine ⟨ps ++ ps', ?_⟩
    have := h1.append h2
    have e : (vs.drop (k * m)).take ((n + 1) * m) = (vs.drop ((k + 0) * m)).take m ++ (vs.drop ((k + 1) * m)).take (n * m) := by
      rw [show (n + 1) * m = m + n * m by rw [Nat.add_mul]; omega, List.take_add, List.drop_drop, Nat.add_zero, Nat.add_mul, Nat.one_mul]
    rw [e]; exact this

/-- The cells of an argument. -/
theorem trod_open : ∀ (d : Nat) (t : TypeId) (T : TS), tsOf P d t = some T → ∀ fuel cs x, DataW.trod enc P w base spare held fuel t cs = some x → ∃ ps, RepC (· < w.heap.size) w T.cells ps cs := by
  intro d
  induction d with
  | zero => intro t T h; cases h
  | succ d ih =>
    intro t T h fuel cs x hx
    unfold tsOf at h
    split at h
    · rename_i k hu
      cases h
      obtain ⟨n, rfl, -, hwf⟩ := DataW.trod_int hu hx
      exact ⟨[.int k n], .cons (.int (inKind_wf hwf)) trivial (.int (inKind_wf hwf)) .nil⟩
    · rename_i hu
      cases h
      obtain ⟨b, rfl, -⟩ := DataW.trod_bool hu hx
      exact ⟨[.bool b], .cons .bool trivial .bool .nil⟩
    · rename_i e hu
      split at h
      · cases h
      · rename_i E hE
        split at h
        · rename_i hc
          cases h
          rcases Deep.open_slice hu hx with ⟨rfl, -⟩ | ⟨a, len, cap, m, n, D, Pl, rfl, -, hlc, hmax, hm, -, hel⟩
          · exact ⟨[.slice (P.cellsOf e) []], .cons (.slice (by simp)) trivial (.slice (fun _ => undef) rfl (Nat.le_refl _) (Nat.zero_le _) .nil (fun i c h => by simp [flat] at h) (fun i c h => by simp [flat] at h)) .nil⟩
          · have hlm : len ≤ m := by rw [hm]; split <;> omega
            -- the elements, one by one
            have hone : ∀ i, i < len → ∃ x : PV, TIs E x ∧ x.cells.length = P.cellsOf e ∧ (∀ c ∈ x.cells, c.one) ∧
                ∀ (j : Nat) c, x.cells[j]? = some c → ∃ v, w.cell? ((a.add (i * P.cellsOf e)).add j) = some v ∧ Rep (· < w.heap.size) w c v := by
              intro i hi
              obtain ⟨cs', h1, h2⟩ := hel i (by omega)
              obtain ⟨hl, hcell⟩ := cells_of h1
              obtain ⟨ps, hps⟩ := ih e E hE n cs' _ h2
              obtain ⟨hmk1, hmk2⟩ := mkP_is hps (fun _ _ => trivial)
              obtain ⟨hl1, hl2⟩ := hps.len
              refine ⟨mkP E ps, hmk1, by rw [hmk2]; omega, fun c hcm => ?_, fun j c hj => ?_⟩
              · rw [hmk2] at hcm
                obtain ⟨j, hj, rfl⟩ := List.mem_iff_getElem.1 hcm
                exact (hps.get j _ (cs'[j]'(by omega)) (List.getElem?_eq_getElem hj) (List.getElem?_eq_getElem (by omega))).1
              · rw [hmk2] at hj
                have hjl := (List.getElem?_eq_some_iff.1 hj).1
                have hv : cs'[j]? = some (cs'[j]'(by omega)) := List.getElem?_eq_getElem (by omega)
                exact ⟨_, hcell j _ hv, (hps.get j c _ hj hv).2⟩
            obtain ⟨X, hX⟩ : ∃ X : Nat → PV, ∀ i, i < len → TIs E (X i) ∧ (X i).cells.length = P.cellsOf e ∧ (∀ c ∈ (X i).cells, c.one) ∧
                ∀ (j : Nat) c, (X i).cells[j]? = some c → ∃ v, w.cell? ((a.add (i * P.cellsOf e)).add j) = some v ∧ Rep (· < w.heap.size) w c v := by
              classical
              refine ⟨fun i => if h : i < len then (hone i h).choose else .bool false, fun i hi => ?_⟩
              simp only [dif_pos hi]
              exact (hone i hi).choose_spec
            let xs := (List.range len).map X
            have hel' : Elems (P.cellsOf e) xs := fun x hx => by
              obtain ⟨i, hi, rfl⟩ := List.mem_map.1 hx
              have := hX i (by simpa using hi)
              exact ⟨this.2.1, this.2.2.1⟩
            have hpos := hc.2
            -- a cell of the whole
            have hcellq : ∀ (q : Nat) c, (flat xs)[q]? = some c → ∃ i j, i < len ∧ q = P.cellsOf e * i + j ∧ (X i).cells[j]? = some c := by
              intro q c hq
              have hql := (List.getElem?_eq_some_iff.1 hq).1
              rw [flat_length hel'] at hql
              have hxl : xs.length = len := by simp [xs]
              rw [hxl] at hql
              have hi : q / P.cellsOf e < len := Nat.div_lt_of_lt_mul hql
              have hxi : xs[q / P.cellsOf e]? = some (X (q / P.cellsOf e)) := by simp [xs, hi]
              have hjl : q % P.cellsOf e < (X (q / P.cellsOf e)).cells.length := by rw [(hX _ hi).2.1]; exact Nat.mod_lt _ hpos
              have hj : (X (q / P.cellsOf e)).cells[q % P.cellsOf e]? = some ((X (q / P.cellsOf e)).cells[q % P.cellsOf e]) := List.getElem?_eq_getElem hjl
              have := flat_get hel' hxi hj
              rw [Nat.div_add_mod] at this
              refine ⟨_, _, hi, (Nat.div_add_mod q (P.cellsOf e)).symm, ?_⟩
              rw [hj, ← this, hq]
            have hat : ∀ (q : Nat) c, (flat xs)[q]? = some c → ∃ v, a = ⟨a.block, a.off, none⟩ ∧ a.block < w.heap.size ∧ w.cell? ⟨a.block, a.off + q, none⟩ = some v ∧ Rep (· < w.heap.size) w c v := by
              intro q c hq
              obtain ⟨i, j, hi, rfl, hj⟩ := hcellq q c hq
              obtain ⟨v, hv, hr⟩ := (hX i hi).2.2.2 j c hj
              -- the slice's own address has no spot: its first cell is there
              have h0 : ∃ u, w.cell? a = some u := by
                obtain ⟨c0, hc0⟩ : ∃ c0, (X 0).cells[0]? = some c0 := ⟨_, List.getElem?_eq_getElem (by rw [(hX 0 (by omega)).2.1]; exact hpos)⟩
                obtain ⟨u, hu, -⟩ := (hX 0 (by omega)).2.2.2 0 c0 hc0
                exact ⟨u, by simpa [Addr.add] using hu⟩
              obtain ⟨u, hu⟩ := h0
              obtain ⟨ha, hab⟩ := cell_none hu
              refine ⟨v, ha, hab, ?_, hr⟩
              rw [ha, add_add] at hv
              split at hv
              · rename_i he
                have : P.cellsOf e * i + j = 0 := by rw [Nat.mul_comm]; exact he
                rw [this]; simpa using hv
              · rw [Nat.mul_comm]; exact hv
            refine ⟨[.slice (P.cellsOf e) xs], .cons (.slice fun x hx => ?_) trivial ?_ .nil⟩
            · obtain ⟨i, hi, rfl⟩ := List.mem_map.1 hx
              exact (hX i (by simpa using hi)).1
            · refine .slice (fun q => (w.cell? ⟨a.block, a.off + q, none⟩).getD undef) (by simp [xs]) hlc hmax hel' (fun q c hq => ?_) (fun q c hq => ?_)
              · obtain ⟨v, h1, h2, h3, h4⟩ := hat q c hq
                exact ⟨a.block, a.off, congrArg some h1, h2, by rw [h3]; rfl⟩
              · obtain ⟨v, h1, h2, h3, h4⟩ := hat q c hq
                simp only [h3, Option.getD_some]; exact h4
        · cases h
    · rename_i fs hu
      split at h
      · cases h
      · rename_i Cs hCs
        split at h
        · rename_i hc
          cases h
          obtain ⟨xs, n, -, -, hl, hxl, hf⟩ := DataW.trod_struct hu hx
          obtain ⟨ps, hps⟩ := fields_open (tsOf P d) (fun t T hT fuel cs x hx => ih t T hT fuel cs x hx) n cs fs.toList 0 Cs hCs (fun f hfm => by
            obtain ⟨i, hi, rfl⟩ := List.mem_iff_getElem.1 hfm
            have hi' : i < fs.size := by simpa using hi
            have := hf i fs[i] (Array.getElem?_eq_getElem hi')
            exact ⟨xs[i]'(by omega), by simpa [List.getElem?_eq_getElem (show i < xs.length by omega)] using this⟩)
          refine ⟨ps, ?_⟩
          rw [List.drop_zero, List.take_of_length_le (by omega)] at hps
          exact hps
        · cases h
    · rename_i n e hu
      split at h
      · cases h
      · rename_i E hE
        split at h
        · rename_i hc
          cases h
          obtain ⟨xs, m, -, -, hl, hxl, hf⟩ := DataW.trod_array hu hx
          obtain ⟨ps, hps⟩ := array_open (w := w) hc.1 cs n 0 (fun i hi => by
            have := hf i hi
            rw [List.getElem?_eq_getElem (by omega)] at this
            obtain ⟨ps, hps⟩ := ih e E hE m _ _ this
            exact ⟨ps, by rw [Nat.zero_add]; exact hps⟩)
          refine ⟨ps, ?_⟩
          rw [Nat.zero_mul, List.drop_zero, List.take_of_length_le (by omega)] at hps
          exact hps
        · cases h
    · cases h

end
end Go.Mg
