/- Maps: entries that are stored in two steps, in regions of every order; how many there are. Parts of slices of one's own: a beginning of one, stores into it, its end cleared. Slices that are nil or not; functions of data that hand back a slice of one's own, also where its object is to come. Objects that nobody needs; the last object alone; objects framed. Conditions: none. -/
import Derived.Test.YtlhocfhoocmfiaaS1
namespace Go.Mg
section
variable {α β : Type} [DecidableEq α]
/-- Where a key is. -/
def ixE : List (α × β) → α → Nat
  | [], _ => 0
  | (a, _) :: r, k => if a = k then 0 else ixE r k + 1
def fewE (m : List (α × β)) : Bool := decide (m.length ≤ 1000000)
theorem findE_ix {f : α → PV} {g : β → LV} {n : Nat} {ag : Bool} (hk : KeyOk f n ag) : ∀ {m : List (α × β)} {k : α} {v : β} (u : β), findE m k = some v →
    MFind (f k) (entsOf f g m) (some (ixE m k)) ∧ (entsOf f g m)[ixE m k]? = some (f k, g v) ∧ entsOf f g (setE m k u) = (entsOf f g m).set (ixE m k) (f k, g u)
  | [], k, v, u, h => by cases h
  | (b, c) :: r, k, v, u, h => by
    unfold findE at h
    split at h
    · rename_i e
      subst e
      cases h
      unfold ixE
      rw [if_pos rfl]
      exact ⟨.hit rfl (by rw [hk.eq]; simp) (fun j _ hj => by omega), by simp [entsOf], by simp [setE, entsOf]⟩
    · rename_i hne
      obtain ⟨h1, h3, h2⟩ := findE_ix (g := g) hk u h
      unfold ixE
      rw [if_neg hne]
      refine ⟨?_, by simpa [entsOf] using h3, by simp only [setE, if_neg hne, entsOf, List.map_cons, List.set_cons_succ] at h2 ⊢; rw [h2]⟩
      cases h1 with
      | hit hi he hlt =>
        refine .hit (e := _) (by simpa [entsOf] using hi) he fun j e hj hje => ?_
        cases j with
        | zero => simp [entsOf] at hje; subst hje; rw [hk.eq]; simp [Ne.symm hne]
        | succ j => exact hlt j e (by omega) (by simpa [entsOf] using hje)
theorem findE_self {m : List (α × β)} {k : α} {v : β} : findE (setE m k v) k = some v := by
  induction m with
  | nil => simp [setE, findE]
  | cons p r ih =>
    obtain ⟨a, b⟩ := p
    unfold setE
    by_cases h : a = k
    · rw [if_pos h]; simp [findE]
    · rw [if_neg h]; simp only [findE, if_neg h]; exact ih
theorem setE_twice {m : List (α × β)} {k : α} {u v : β} : setE (setE m k u) k v = setE m k v := by
  induction m with
  | nil => simp [setE]
  | cons p r ih =>
    obtain ⟨a, b⟩ := p
    by_cases h : a = k
    · simp [setE, h]
    · simp [setE, h, ih]
theorem ixE_new {m : List (α × β)} {k : α} (h : findE m k = none) : ixE m k = m.length := by
  induction m with
  | nil => rfl
  | cons p r ih =>
    obtain ⟨b, u⟩ := p
    unfold findE at h
    unfold ixE
    split at h
    · cases h
    · rename_i hne; rw [if_neg hne, ih h]; rfl
theorem ixE_set {m : List (α × β)} {k : α} {v : β} : ixE (setE m k v) k = ixE m k := by
  induction m with
  | nil => simp [setE, ixE]
  | cons p r ih =>
    obtain ⟨a, b⟩ := p
    by_cases h : a = k
    · simp [setE, ixE, h]
    · simp [setE, ixE, h, ih]
variable {P : Program} {o : Oper} {env : Env} {H : List LObj}
variable {t ek ev : TypeId} {x y : Operand} {id n : Nat} {ag : Bool} {f : α → PV} {g : β → LV} {m : List (α × β)}
/-- The place of a key, made where it is not there. -/
theorem LOp.mapEntryX {z r : LV} {H' : List LObj} (a : α) (z0 : β) (hk : KeyOk f n ag) (ho : o.op = .mapEntry t x y) (hx : lev env x = some (.map id)) (hy : lev env y = some (.p (f a)))
    (hH : nth H id = some (.map (entsOf f g m))) (hT : mapTy P t = some (ek, ev, n, ag)) (hz : zeroL P ev = some z) (hz' : z = g z0) (hf : fewE m = true) (hr : r = .tup [g ((findE m a).getD z0), .p (.int .i64 (ixE m a : Int))])
    (hH' : setC H id (.map (entsOf f g (setE m a ((findE m a).getD z0)))) = some H') : LOp P o env H (Is r H') :=
  LOp.step fun A w μ I hst he => by
    have hrx := he.ev (x := x) (by simp [ho, Op.operands]) hx
    have hry := he.ev (x := y) (by simp [ho, Op.operands]) hy
    obtain ⟨e1, e2⟩ := setC_eq hH'
    subst e1 hr hz'
    have hfew := of_decide_eq_true hf
    cases hry with
    | p hry =>
      obtain ⟨b, ms, clock, hv, hid, hb, hl, hrep, hclock, hborn⟩ := lrep_map hst hrx hH
      have hu := (mapTy_spec hT).1
      have hfits := hk.fits a
      have h1 := run_checkKey_of hT hfits hry false w
      have hbl := (Array.getElem?_eq_some_iff.1 hb).1
      have hlm : ms.size = m.length := by rw [hl]; simp [entsOf]
      cases hfe : findE m a with
      | none =>
        have h2 := run_findKey hT hfits hry (findE_miss (g := g) hk hfe) (ms := ms.toList) (by simpa using hl) (fun i c q hc hm => (hrep i c q hc (by simpa using hm)).1) w
        obtain ⟨zv, hzr, hzl⟩ := run_zeroL hz w
        have hrun : (Instr.mapEntry t (.map (some b)) (A.eval y)).run P w =
            .ok (.tuple #[zv, goInt clock]) { w with heap := w.heap.setIfInBounds b (.map (ms.push { key := A.eval y, val := zv, born := clock }) (clock + 1)) } := by
          unfold Instr.mapEntry
          simp only [Sem.run_bind, run_underlying hu, Result.andThen_ok, run_getMap hb, h1, h2, Option.bind_none, hzr, run_setMap hb, Sem.run_pure]
        rw [setE_new hfe, Option.getD_none]
        have eL : entsOf f g (m ++ [(a, z0)]) = entsOf f g m ++ [(f a, g z0)] := by simp [entsOf]
        rw [eL]
        obtain ⟨hs', hE⟩ := hst.write (o := .map (entsOf f g m ++ [(f a, g z0)])) hid (w' := { w with heap := w.heap.setIfInBounds b (.map (ms.push { key := A.eval y, val := zv, born := clock }) (clock + 1)) })
          (fun c hc => Array.getElem?_setIfInBounds_ne (fun h => hc h.symm)) (by simp) rfl rfl rfl (fun c e f h => by rw [hb] at h; cases h)
          (fun hE => by
            refine .map (ms := ms.push { key := A.eval y, val := zv, born := clock }) (clock := clock + 1) (by simp [hbl]) (by simp [hl]) (fun i c q hc hm => ?_) (by simp [hclock]) (fun i q hm => ?_)
            · rw [List.getElem?_append] at hc
              rw [Array.getElem?_push] at hm
              split at hc
              · rename_i hi
                rw [if_neg (by omega)] at hm
                exact ⟨(hrep i c q hc hm).1.mono hE.imm, (hrep i c q hc hm).2.ext hE⟩
              · rename_i hi
                have h5 := (List.getElem?_eq_some_iff.1 hc).1
                simp at h5
                rw [if_pos (by omega)] at hm
                cases hm
                rw [show i - (entsOf f g m).length = 0 by omega] at hc
                simp at hc; subst hc
                exact ⟨hry.mono hE.imm, hzl _ _ _⟩
            · rw [Array.getElem?_push] at hm
              split at hm
              · rename_i hi
                cases hm; subst hi; exact hclock
              · exact hborn i q hm)
        refine ⟨.tuple #[zv, goInt clock], _, μ, by simp only [execOp, ho, hv]; simp [hrun], hs', lrep_two (hzl _ _ _) ?_, hE⟩
        have hce : clock = ixE m a := by rw [ixE_new hfe, hclock, hlm]
        rw [hce]
        refine .p (.int ?_)
        rw [ixE_new hfe]
        constructor
        · show (-9223372036854775808 : Int) ≤ _; omega
        · show (_ : Int) ≤ 9223372036854775807; omega
      | some v =>
        obtain ⟨g1, g2, g3⟩ := findE_ix (g := g) hk v hfe
        have h2 := run_findKey hT hfits hry g1 (ms := ms.toList) (by simpa using hl) (fun i c q hc hm => (hrep i c q hc (by simpa using hm)).1) w
        generalize hi : ixE m a = i at *
        have hil : i < ms.size := by
          have := (List.getElem?_eq_some_iff.1 g2).1
          omega
        have hmi : ms[i]? = some ms[i] := Array.getElem?_eq_getElem hil
        have h3 : (Instr.findKey ek (A.eval y) ms.toList).run P w = .ok (some (i, ms[i].val)) w := by
          rw [h2]; simp [hmi]
        have hke : keyEq (f a) (f a) = some true := by rw [hk.eq]; simp
        obtain ⟨hsk, hsb⟩ := (keyEq_vals hT hfits hke hry (hrep i _ ms[i] g2 hmi).1 w).2.2 rfl
        have hsame' : Instr.sameBits 10000 ms[i].key (A.eval y) = true := by rw [← hsk]; exact hsb
        have hbi : ms[i].born = i := hborn i _ hmi
        have hrun : (Instr.mapEntry t (.map (some b)) (A.eval y)).run P w =
            .ok (.tuple #[ms[i].val, goInt i]) { w with heap := w.heap.setIfInBounds b (.map (ms.modify i fun q => { q with key := A.eval y }) clock) } := by
          unfold Instr.mapEntry
          simp only [Sem.run_bind, run_underlying hu, Result.andThen_ok, run_getMap hb, h1, h3, Instr.keyThatStays, hmi, Option.map_some, Option.getD_some, hsame', if_true, Sem.run_pure, run_setMap hb, hbi]
        rw [Option.getD_some, g3]
        obtain ⟨hs', hE⟩ := hst.write (o := .map ((entsOf f g m).set i (f a, g v))) hid (w' := { w with heap := w.heap.setIfInBounds b (.map (ms.modify i fun q => { q with key := A.eval y }) clock) })
          (fun c hc => Array.getElem?_setIfInBounds_ne (fun h => hc h.symm)) (by simp) rfl rfl rfl (fun c e f h => by rw [hb] at h; cases h)
          (fun hE => by
            refine .map (ms := ms.modify i fun q => { q with key := A.eval y }) (clock := clock) (by simp [hbl]) (by simp [hl]) (fun j c q hc hm => ?_) (by simp [hclock]) (fun j q hm => ?_)
            · rw [List.getElem?_set] at hc
              rw [Array.getElem?_modify] at hm
              split at hc
              · rename_i e; subst e
                rw [if_pos rfl, hmi] at hm
                rw [if_pos (by omega)] at hc
                cases hc; cases hm
                exact ⟨hry.mono hE.imm, (hrep _ _ _ g2 hmi).2.ext hE⟩
              · rename_i hne
                rw [if_neg (fun h => hne h)] at hm
                exact ⟨(hrep j c q hc hm).1.mono hE.imm, (hrep j c q hc hm).2.ext hE⟩
            · rw [Array.getElem?_modify] at hm
              split at hm
              · rename_i e; subst e
                rw [hmi] at hm
                cases hm
                exact hborn i ms[i] hmi
              · exact hborn j q hm)
        refine ⟨.tuple #[ms[i].val, goInt i], _, μ, by simp only [execOp, ho, hv]; simp [hrun], hs', lrep_two ((hrep _ _ _ g2 hmi).2.ext hE) ?_, hE⟩
        refine .p (.int ?_)
        constructor
        · show (-9223372036854775808 : Int) ≤ _; omega
        · show (_ : Int) ≤ 9223372036854775807; omega
/-- The entry at a key's place stored. -/
theorem LOp.entryStoreX {s q : Operand} {l : LV} {H' : List LObj} (a : α) (u v : β) (hk : KeyOk f n ag) (ho : o.op = .entryStore t x s q) (hx : lev env x = some (.map id)) (hs : lev env s = some (.p (.int .i64 (ixE m a : Int)))) (hq : lev env q = some l) (hl : l = g v)
    (hH : nth H id = some (.map (entsOf f g (setE m a u)))) (hH' : setC H id (.map (entsOf f g (setE m a v))) = some H') : LOp P o env H (Is .any H') :=
  LOp.unit fun A w μ I hst he => by
    have hrx := he.ev (x := x) (by simp [ho, Op.operands]) hx
    have hrs := (lrep_int (he.ev (x := s) (by simp [ho, Op.operands]) hs)).1
    have hrq := he.ev (x := q) (by simp [ho, Op.operands]) hq
    obtain ⟨e1, e2⟩ := setC_eq hH'
    subst e1 hl
    obtain ⟨b, ms, clock, hv, hid, hb, hl, hrep, hclock, hborn⟩ := lrep_map hst hrx hH
    have hbl := (Array.getElem?_eq_some_iff.1 hb).1
    obtain ⟨g1, g2, g3⟩ := findE_ix (g := g) hk v (findE_self (m := m) (k := a) (v := u))
    rw [setE_twice] at g3
    rw [ixE_set] at g1 g2 g3
    generalize hi : ixE m a = i at *
    have hil : i < ms.size := by
      have := (List.getElem?_eq_some_iff.1 g2).1
      omega
    have hmi : ms[i]? = some ms[i] := Array.getElem?_eq_getElem hil
    have hfi : ms.findIdx? (fun e => (e.born : Int) == (i : Int)) = some i := by
      rw [Array.findIdx?_eq_some_iff_getElem]
      refine ⟨hil, by simp [hborn i _ hmi], fun j hj => ?_⟩
      have := hborn j _ (Array.getElem?_eq_getElem (show j < ms.size by omega))
      simp [this]; omega
    have hrun : (Instr.entryStore t (.map (some b)) (A.eval s) (A.eval q)).run P w = .ok () { w with heap := w.heap.setIfInBounds b (.map (ms.modify i fun e => { e with val := A.eval q }) clock) } := by
      unfold Instr.entryStore
      simp only [hrs, Sem.run_bind, run_getMap hb, Result.andThen_ok, asInt, asIntOf, Sem.run_pure, hfi, run_setMap hb]
    rw [g3]
    obtain ⟨hs', hE⟩ := hst.write (o := .map ((entsOf f g (setE m a u)).set i (f a, g v))) hid (w' := { w with heap := w.heap.setIfInBounds b (.map (ms.modify i fun e => { e with val := A.eval q }) clock) })
      (fun c hc => Array.getElem?_setIfInBounds_ne (fun h => hc h.symm)) (by simp) rfl rfl rfl (fun c e f h => by rw [hb] at h; cases h)
      (fun hE => by
        refine .map (ms := ms.modify i fun e => { e with val := A.eval q }) (clock := clock) (by simp [hbl]) (by simp [hl]) (fun j c q' hc hm => ?_) (by simp [hclock]) (fun j q' hm => ?_)
        · rw [List.getElem?_set] at hc
          rw [Array.getElem?_modify] at hm
          split at hc
          · rename_i e; subst e
            rw [if_pos rfl, hmi] at hm
            rw [if_pos (by omega)] at hc
            cases hc; cases hm
            exact ⟨(hrep _ _ _ g2 hmi).1.mono hE.imm, hrq.ext hE⟩
          · rename_i hne
            rw [if_neg (fun h => hne h)] at hm
            exact ⟨(hrep j c q' hc hm).1.mono hE.imm, (hrep j c q' hc hm).2.ext hE⟩
        · rw [Array.getElem?_modify] at hm
          split at hm
          · rename_i e; subst e
            rw [hmi] at hm
            cases hm
            exact hborn i ms[i] hmi
          · exact hborn j q' hm)
    exact ⟨_, μ, by simp only [execOp, ho, hv]; simp [hrun], hs', hE⟩
theorem LAt.setX {z : Operand} {l : LV} (a : α) (v : β) (hk : KeyOk f n ag) (ho : o.op = .mapUpdate t x y z ∨ o.op = .insert t x y z) (hx : lev env x = some (.map id)) (hy : lev env y = some (.p (f a)))
    (hz : lev env z = some l) (hl : l = g v) (hH : nth H id = some (.map (entsOf f g m))) (hT : mapTy P t = some (ek, ev, n, ag)) : LAt P o env H [id] (some (id, .map (entsOf f g (setE m a v)))) .any :=
  fun _ hA => LOp.setX a v hk ho hx hy hz hl (hA.get (by simp) hH) hT (hA.set (by simp) hH)
theorem LAt.mapEntryX {z : LV} (a : α) (z0 : β) (hk : KeyOk f n ag) (ho : o.op = .mapEntry t x y) (hx : lev env x = some (.map id)) (hy : lev env y = some (.p (f a)))
    (hH : nth H id = some (.map (entsOf f g m))) (hT : mapTy P t = some (ek, ev, n, ag)) (hz : zeroL P ev = some z) (hz' : z = g z0) (hf : fewE m = true) :
    LAt P o env H [id] (some (id, .map (entsOf f g (setE m a ((findE m a).getD z0))))) (.tup [g ((findE m a).getD z0), .p (.int .i64 (ixE m a : Int))]) :=
  fun _ hA => LOp.mapEntryX a z0 hk ho hx hy (hA.get (by simp) hH) hT hz hz' hf rfl (hA.set (by simp) hH)
theorem LAt.entryStoreX {s q : Operand} {l : LV} (a : α) (u v : β) (hk : KeyOk f n ag) (ho : o.op = .entryStore t x s q) (hx : lev env x = some (.map id)) (hs : lev env s = some (.p (.int .i64 (ixE m a : Int)))) (hq : lev env q = some l) (hl : l = g v)
    (hH : nth H id = some (.map (entsOf f g (setE m a u)))) : LAt P o env H [id] (some (id, .map (entsOf f g (setE m a v)))) .any :=
  fun _ hA => LOp.entryStoreX a u v hk ho hx hs hq hl (hA.get (by simp) hH) (hA.set (by simp) hH)
end
def isMap (P : Program) (t : TypeId) : Bool := match P.underlying t with | some (.map _ _) => true | _ => false
section
variable {α β : Type}
variable {P : Program} {o : Oper} {env : Env} {H : List LObj}
variable {id : Nat} {f : α → PV} {g : β → LV} {m : List (α × β)}
/-- How many there are. -/
theorem LOp.lenMapX {t : TypeId} {x : Operand} (ho : o.op = .call { callee := .builtin .len, args := #[x], argTypes := #[t] }) (hx : lev env x = some (.map id)) (hH : nth H id = some (.map (entsOf f g m))) (hT : isMap P t = true) (hf : fewE m = true) :
    LOp P o env H (Is (.p (.int .i64 (m.length : Int))) H) :=
  LOp.val fun A w μ I hst he => by
    have hrx := he.ev (x := x) (by simp [ho, Op.operands, Call.operands]) hx
    obtain ⟨b, ms, clock, hv, hid, hb, hl, hrep, hclock, hborn⟩ := lrep_map hst hrx hH
    have hfew := of_decide_eq_true hf
    have hlm : ms.size = m.length := by rw [hl]; simp [entsOf]
    refine ⟨.int .i64 (m.length : Int), ?_, .p (.int ?_)⟩
    · unfold isMap at hT
      split at hT
      · rename_i k e hu
        have hrun : (Builtin.len_ #[t] o.type #[.map (some b)]).run P w = .ok (goInt ms.size) w := by simp [Builtin.len_, run_underlying hu, run_getMap hb]
        rw [hlm] at hrun
        simp only [execOp, ho, resolve, invoke, builtin, Sem.run_bind, Sem.run_pure, Result.andThen_ok, List.map_toArray, List.map_cons, List.map_nil, hv, hrun]
        rfl
      · cases hT
    · constructor
      · show (-9223372036854775808 : Int) ≤ _; omega
      · show (_ : Int) ≤ 9223372036854775807; omega
end
/-- Cells of a slice of one's own written: what it is then. -/
theorem vec_write {H : List LObj} {μ : List Blk} {I : Nat → Prop} {w : World} (hs : St μ I w H) {m id b n off : Nat} {xs xs' : List PV} {vs : Array Value} {e : TypeId} {news : List Value} (hid : μ[id]? = some ⟨some b, n⟩) (hH : H[id]? = some (.vec m xs))
    (hb : w.heap[b]? = some (.cells vs e (0, 0))) (hlen : m * xs.length ≤ vs.size) (hne : xs ≠ []) (hl : xs'.length = xs.length) (hm : Elems m xs')
    (hrep : ∀ (i : Nat) (c : PV) (v : Value), (flat xs)[i]? = some c → vs[i]? = some v → Rep I w c v) (hfit : off + news.length ≤ vs.size)
    (hold : ∀ (i : Nat) c, (flat xs')[i]? = some c → (i < off ∨ off + news.length ≤ i) → (flat xs)[i]? = some c) (hnew : ∀ (i : Nat) c u, (flat xs')[off + i]? = some c → news[i]? = some u → Rep I w c u) :
    St μ I (w.setRow b (vs.toList.take off ++ news ++ vs.toList.drop (off + news.length)).toArray) (H.set id (.vec m xs')) ∧ Ext μ.length μ I w μ I (w.setRow b (vs.toList.take off ++ news ++ vs.toList.drop (off + news.length)).toArray) := by
  obtain ⟨nv, hnv⟩ : ∃ nv, nv = (vs.toList.take off ++ news ++ vs.toList.drop (off + news.length)).toArray := ⟨_, rfl⟩
  rw [← hnv]
  have hsz : nv.size = vs.size := by rw [hnv]; simp; omega
  have hBn : n = xs.length := by have := hs.objs id _ _ hH hid; exact vec_len this
  refine hs.write (o := .vec m xs') hid (w' := w.setRow b nv) (fun c hc => setRow_other w b c _ hc) (by simp [World.setRow]) rfl rfl rfl
    (fun c e' f' hc => by
      rw [hb] at hc; cases hc
      exact ⟨_, setRow_heap w b vs nv e (0, 0) hb, hsz⟩)
    (fun hE => by
      rw [hBn, ← hl]
      refine .vec (setRow_heap w b vs nv e (0, 0) hb) (by rw [hsz, hl]; exact hlen) (fun e0 => hne (by rw [e0] at hl; exact List.length_eq_zero_iff.1 hl.symm)) hm (fun i c u hc hu => ?_)
      have hu' : (vs.toList.take off ++ news ++ vs.toList.drop (off + news.length))[i]? = some u := by
        rw [hnv] at hu; simpa using hu
      by_cases h1 : i < off
      · rw [List.append_assoc, List.getElem?_append_left (by simp; omega), List.getElem?_take_of_lt h1] at hu'
        exact (hrep i c u (hold i c hc (.inl h1)) (by simpa using hu')).mono hE.imm
      · by_cases h2 : i < off + news.length
        · rw [List.append_assoc, List.getElem?_append_right (by simp; omega), List.getElem?_append_left (by simp; omega)] at hu'
          have hto : (List.take off vs.toList).length = off := by simp; omega
          rw [hto] at hu'
          exact (hnew (i - off) c u (by rw [show off + (i - off) = i by omega]; exact hc) hu').mono hE.imm
        · rw [List.getElem?_append_right (by simp; omega)] at hu'
          have hto : (List.take off vs.toList ++ news).length = off + news.length := by simp; omega
          rw [hto, List.getElem?_drop, show off + news.length + (i - (off + news.length)) = i by omega] at hu'
          exact (hrep i c u (hold i c hc (.inr (by omega))) (by simpa using hu')).mono hE.imm)
theorem flat_set {m : Nat} : ∀ {xs : List PV} {j : Nat} {y : PV}, Elems m xs → y.cells.length = m → ∀ i, (flat (xs.set j y))[i]? = if m * j ≤ i ∧ i < m * j + m ∧ j < xs.length then y.cells[i - m * j]? else (flat xs)[i]?
  | [], j, y, _, _, i => by simp [flat]
  | x :: r, 0, y, hx, hy, i => by
    have h0 := (hx x (.head _)).1
    simp only [List.set_cons_zero, flat_cons, Nat.mul_zero, Nat.zero_add, Nat.sub_zero]
    rw [List.getElem?_append, List.getElem?_append, hy, h0]
    by_cases h : i < m
    · rw [if_pos h, if_pos ⟨Nat.zero_le _, h, by simp⟩]
    · rw [if_neg h, if_neg (fun q => h q.2.1), if_neg h]
  | x :: r, j + 1, y, hx, hy, i => by
    have h0 := (hx x (.head _)).1
    have ih := flat_set (xs := r) (j := j) hx.tail hy (i - m)
    simp only [List.set_cons_succ, flat_cons]
    rw [List.getElem?_append, List.getElem?_append, h0, ih, Nat.mul_succ]
    by_cases h : i < m
    · rw [if_pos h, if_neg (by omega), if_pos h]
    · rw [if_neg h, if_neg h]
      by_cases h2 : m * j ≤ i - m ∧ i - m < m * j + m ∧ j < r.length
      · rw [if_pos h2, if_pos (by simp only [List.length_cons]; omega), show i - m - m * j = i - (m * j + m) by omega]
      · rw [if_neg h2, if_neg (by simp only [List.length_cons]; omega)]
section
variable {P : Program} {o : Oper} {env : Env} {H : List LObj} {α : Type} {f : α → PV}
theorem ix_take {l : List α} {k : Nat} {j : Int} {z : α} (h : ix (l.take k) j = some z) : ix l j = some z ∧ j < k := by
  obtain ⟨h0, h1⟩ := ix_get h
  have hlt := (List.getElem?_eq_some_iff.1 h1).1
  rw [List.length_take] at hlt
  refine ⟨?_, by omega⟩
  unfold ix
  rw [if_pos h0]
  rwa [List.getElem?_take_of_lt (by omega)] at h1
theorem LOp.lenVP {t : TypeId} {x : Operand} {m id off k : Nat} {l : List α} (ho : o.op = .call { callee := .builtin .len, args := #[x], argTypes := #[t] }) (hx : lev env x = some (.vec m id (l.map f).length off k))
    (hH : nth H id = some (.vec m (l.map f))) (hT : isSl P t = true) : LOp P o env H (Is (.p (.int .i64 (k : Int))) H) := LOp.lenV (H := H) ho hx hH rfl hT
theorem LOp.indexAddrVP {t : TypeId} {x y : Operand} {m bytes id k' : Nat} {l : List α} {k : IntKind} {j : Int} {z : α} (ho : o.op = .indexAddr t x y) (hx : lev env x = some (.vec m id (l.map f).length 0 k'))
    (hy : lev env y = some (.p (.int k j))) (hH : nth H id = some (.vec m (l.map f))) (hT : slTy P t = some (m, bytes)) (h : ix (l.take k') j = some z) :
    LOp P o env H (Is (.vptr m id (l.map f).length (0 + j.toNat) 0) H) :=
  LOp.indexAddrV ho hx hy hH rfl hT (ix_get h).1 (ix_take h).2
/-- A part of an element stored. -/
theorem LOp.storeVP {t : TypeId} {x y : Operand} {m id fo n : Nat} {ag : Bool} {j : Int} {l : List α} {z : α} {p : PV} {ps qs ys : List PV} {H' : List LObj} (v' : α) (ho : o.op = .store t x y) (hx : lev env x = some (.vptr m id (l.map f).length (0 + j.toNat) fo)) (hy : lev env y = some (.p p))
    (hH : nth H id = some (.vec m (l.map f))) (hT : varTy P t = some (n, ag)) (hE : ∀ a, elemsB m [f a] = true) (hz : ix l j = some z) (hys : cellsP p = some ys) (h1 : onesB ys = true) (hn : lenC ys = some n) (hps : cellsP (f z) = some ps) (hsp : splC ps fo ys = some qs)
    (hv' : cellsP (f v') = some qs) (hH' : setC H id (.vec m ((l.set j.toNat v').map f)) = some H') : LOp P o env H (Is .any H') :=
  LOp.unit fun a w μ I hst he => by
    have hr := he.ev (x := x) (by simp [ho, Op.operands]) hx
    have hry := he.ev (x := y) (by simp [ho, Op.operands]) hy
    rw [nth_eq] at hH
    obtain ⟨e3, e4⟩ := setC_eq hH'
    subst e3
    obtain ⟨hj0, hjl⟩ := ix_get hz
    have hj := (List.getElem?_eq_some_iff.1 hjl).1
    have hE' : ∀ a, (f a).cells.length = m ∧ ∀ c ∈ (f a).cells, c.one := fun a => elemsB_spec (hE a) _ (.head _)
    have hEl : ∀ l' : List α, Elems m (l'.map f) := fun l' => Elems.map hE' l'
    have hps' := cellsP_eq hps
    have hqs' := cellsP_eq hv'
    have hys' := cellsP_eq hys
    obtain ⟨hq1, hq2⟩ := splC_eq hsp
    have hn' := lenC_eq hn
    have hzl := (hE' z).1
    rw [← hps'] at hzl
    have hcy : (a.eval y).cells.toList.length = n ∧ (∀ u ∈ (a.eval y).cells, one1 u = true) ∧ ∀ (i : Nat) c u, ys[i]? = some c → (a.eval y).cells[i]? = some u → Rep I w c u := by
      cases hry with
      | p hry =>
        have hc1 : cells1 (.p p) = mapP ys := by
          unfold cells1
          cases p with
          | agg cs => simp only [cellsP] at hys; cases hys; rfl
          | int k q => simp only [cellsP] at hys; cases hys; rfl
          | bool q => simp only [cellsP] at hys; cases hys; rfl
          | slice k q => simp only [cellsP] at hys; cases hys; rfl
        obtain ⟨s, hs⟩ : ∃ s, mapP ys = some s := ⟨ys.map .p, by
          clear hq1 hq2 hn hn' hys hys' hsp h1 hc1
          induction ys with
          | nil => rfl
          | cons y r ih => simp [mapP, ih]⟩
        have hse := mapP_eq hs
        rw [hs] at hc1
        obtain ⟨k1, k2, k3⟩ := cells1_rep hc1 (LRep.p (μ := μ) hry)
        refine ⟨by rw [Array.length_toList, k1, hse, List.length_map, hn'], k2, fun i c u hc hu => ?_⟩
        have := k3 i (.p c) u (by rw [hse]; simp [hc]) hu
        cases this with | p h => exact h
    obtain ⟨hcl, hco, hcr⟩ := hcy
    generalize hv : a.eval x = vx at hr
    cases hr with
    | @vptr _ _ _ _ _ B _ hid g1 hnB hf =>
      have hob := hst.objs id _ _ hH hid
      have hBn : (l.map f).length = B.n := (vec_len hob).symm
      obtain ⟨b, hB, rfl⟩ := hf hBn
      obtain ⟨Bb, Bn⟩ := B
      simp only at hB hBn
      subst hB; subst hBn
      obtain ⟨vs, e, hb, hlen, hne, hrep⟩ := vec_some hob
      rw [List.length_map] at hlen
      have hm1 : m * (j.toNat + 1) ≤ m * l.length := Nat.mul_le_mul_left _ hj
      rw [Nat.mul_succ] at hm1
      have hfit : m * j.toNat + fo + n ≤ vs.size := by omega
      have hoff : m * (0 + j.toNat) + fo = m * j.toNat + fo := by rw [Nat.zero_add]
      have hst' := run_storeVar (P := P) hT (off := m * j.toNat + fo) hb (a.eval y) (by rw [← Array.length_toList]; exact hcl) hco hfit
      have hfl := fun i => flat_set (xs := l.map f) (j := j.toNat) (y := f v') (hEl l) (hE' v').1 i
      rw [← List.map_set] at hfl
      have hzg : (l.map f)[j.toNat]? = some (f z) := by rw [List.getElem?_map, hjl]; rfl
      obtain ⟨hs', hEx⟩ := vec_write hst (off := m * j.toNat + fo) (news := (a.eval y).cells.toList) (xs' := (l.set j.toNat v').map f) hid hH hb (by rw [List.length_map]; exact hlen) hne (by simp) (hEl _) hrep (by rw [hcl]; exact hfit)
        (fun i c hc hi => by
          rw [hfl i] at hc
          split at hc
          · rename_i hin
            rw [← hqs', hq1, List.append_assoc] at hc
            rw [hcl] at hi
            rw [List.length_map] at hin
            by_cases h2 : i < m * j.toNat + fo
            · rw [List.getElem?_append_left (by rw [List.length_take]; omega), List.getElem?_take_of_lt (by omega), hps'] at hc
              have := flat_get (hEl l) hzg hc
              rwa [show m * j.toNat + (i - m * j.toNat) = i by omega] at this
            · have h3 : m * j.toNat + fo + n ≤ i := by omega
              rw [List.getElem?_append_right (by rw [List.length_take]; omega), List.getElem?_append_right (by rw [List.length_take]; omega), List.length_take, List.getElem?_drop, show fo + ys.length + (i - m * j.toNat - Min.min fo ps.length - ys.length) = i - m * j.toNat by omega, hps'] at hc
              have := flat_get (hEl l) hzg hc
              rwa [show m * j.toNat + (i - m * j.toNat) = i by omega] at this
          · exact hc)
        (fun i c u hc hu => by
          have hin : i < n := by
            have := (List.getElem?_eq_some_iff.1 hu).1
            omega
          rw [hfl, if_pos (by rw [List.length_map]; omega), ← hqs', hq1, List.append_assoc, List.getElem?_append_right (by rw [List.length_take]; omega), List.getElem?_append_left (by rw [List.length_take]; omega), List.length_take,
            show m * j.toNat + fo + i - m * j.toNat - Min.min fo ps.length = i by omega] at hc
          exact hcr i c u hc (by simpa using hu))
      rw [hcl] at hs' hEx
      refine ⟨_, μ, ?_, hs', hEx⟩
      simp only [execOp, ho, Instr.storeAt, hv, Instr.sureAddr, hoff]
      simp [hst']
/-- 'x[lo:hi]' of a part of a slice of one's own. -/
theorem LOp.sliceVG {t : TypeId} {x : Operand} {olo ohi : Option Operand} {lo hi : Option Int} {m bytes id n off len : Nat} {xs : List PV} (ho : o.op = .slice t x olo ohi none) (hx : lev env x = some (.vec m id n off len))
    (hlo : optInt env olo = some lo) (hhi : optInt env ohi = some hi) (hH : nth H id = some (.vec m xs)) (hn : n = xs.length) (hT : slTy P t = some (m, bytes)) (h0 : 0 ≤ lo.getD 0) (h1 : lo.getD 0 ≤ hi.getD len) (h2 : hi.getD len ≤ len) :
    LOp P o env H (Is (.vec m id n (off + (lo.getD 0).toNat) ((hi.getD len).toNat - (lo.getD 0).toNat)) H) :=
  LOp.val fun a w μ I hst he => by
    have hr := he.ev (x := x) (by simp [ho, Op.operands]) hx
    generalize hv : a.eval x = v at hr
    obtain ⟨kl, hkl, hl1, hl2⟩ := optInt_rep he (fun y hy => by subst hy; simp [ho, Op.operands]) hlo
    obtain ⟨kh, hkh, hh1, hh2⟩ := optInt_rep he (fun y hy => by subst hy; simp [ho, Op.operands]) hhi
    obtain ⟨e, i, zz, hu, hi', hz0, hzs, rfl, rfl, hpos⟩ := slTy_spec hT
    obtain ⟨B, hid, hBn, hob, hf⟩ := vec_now hst hH hn hr
    have hb : ∀ cap : Nat, len ≤ cap → (Instr.sliceBounds true len cap kl kh none).run P w = .ok ((lo.getD 0).toNat, (hi.getD len).toNat, cap) w := by
      intro cap hcap
      cases lo with
      | none =>
        rw [hl1 rfl]
        cases hi with
        | none => rw [hh1 rfl]; simp [Instr.sliceBounds]
        | some n =>
          obtain ⟨k, hk⟩ := hh2 n rfl
          simp only [Option.getD_some, Option.getD_none] at h0 h1 h2
          rw [hk]; simp [Instr.sliceBounds, Instr.sliceBound, asIntOf, h1, show n ≤ (cap : Int) by omega]
      | some q =>
        obtain ⟨k, hk⟩ := hl2 q rfl
        rw [hk]
        cases hi with
        | none =>
          simp only [Option.getD_some, Option.getD_none] at h0 h1 h2
          rw [hh1 rfl]; simp [Instr.sliceBounds, Instr.sliceBound, asIntOf, h0, h1]
        | some n =>
          obtain ⟨k', hk'⟩ := hh2 n rfl
          simp only [Option.getD_some] at h0 h1 h2
          rw [hk']; simp [Instr.sliceBounds, Instr.sliceBound, asIntOf, h0, show n ≤ (cap : Int) by omega, show 0 ≤ n by omega]
          try (intro hh; exfalso; omega)
    rcases hf with ⟨rfl, ad, rfl⟩ | ⟨b, cap, hB, rfl, hlc, hmax, hs⟩
    · have e1 : (lo.getD 0).toNat = 0 := by omega
      have e2 : (hi.getD ((0 : Nat) : Int)).toNat = 0 := by omega
      refine ⟨.slice ad 0 0, ?_, .vec hid rfl (by omega) fun _ => .inl ⟨by omega, ad, rfl⟩⟩
      have hb' := hb 0 (Nat.le_refl _)
      rw [e1, e2] at hb'
      simp only [execOp, ho, hv, hkl, hkh, Option.map_none, Instr.sliceAt]
      simp [run_underlying hu, Instr.slice, hb', sizeOf, typeInfo, hi']
    · refine ⟨.slice (if cap = (lo.getD 0).toNat then some ⟨b, i.size * off, none⟩ else (some (⟨b, i.size * off, none⟩ : Addr)).map (·.add ((lo.getD 0).toNat * i.size))) ((hi.getD len).toNat - (lo.getD 0).toNat) (cap - (lo.getD 0).toNat), ?_, .vec hid rfl (by omega) fun _ => ?_⟩
      · simp only [execOp, ho, hv, hkl, hkh, Option.map_none, Instr.sliceAt]
        simp [run_underlying hu, Instr.slice, hb cap hlc, sizeOf, typeInfo, hi']
      · by_cases hc : cap = (lo.getD 0).toNat
        · rw [if_pos hc]
          exact .inl ⟨by omega, _, by rw [show (hi.getD len).toNat - (lo.getD 0).toNat = 0 by omega, show cap - (lo.getD 0).toNat = 0 by omega]⟩
        · rw [if_neg hc]
          refine .inr ⟨b, cap - (lo.getD 0).toNat, hB, ?_, by omega, by omega, ?_⟩
          · rw [Option.map_some, addr_add, Nat.mul_add, Nat.mul_comm (lo.getD 0).toNat]
          · obtain ⟨c, e', h3, h4⟩ := hs
            exact ⟨c, e', h3, by rw [h4, show off + (lo.getD 0).toNat + (cap - (lo.getD 0).toNat) = off + cap by omega]⟩
theorem LOp.sliceVLo {t : TypeId} {x lo : Operand} {m bytes id len : Nat} {l : List α} {k : IntKind} {h : Int} (ho : o.op = .slice t x (some lo) none none) (hx : lev env x = some (.vec m id (l.map f).length 0 len))
    (hlo : lev env lo = some (.p (.int k h))) (hH : nth H id = some (.vec m (l.map f))) (hT : slTy P t = some (m, bytes)) (hb : decide (0 ≤ h ∧ h ≤ len) = true) : LOp P o env H (Is (.vec m id (l.map f).length h.toNat (len - h.toNat)) H) := by
  have hb := of_decide_eq_true hb
  have := LOp.sliceVG (H := H) (lo := some h) (hi := none) ho hx (by simp [optInt, hlo]) rfl hH rfl hT hb.1 (by simpa using hb.2) (by simp)
  simpa using this
theorem LOp.sliceVHi {t : TypeId} {x hi : Operand} {m bytes id len : Nat} {l : List α} {k : IntKind} {h : Int} (ho : o.op = .slice t x none (some hi) none) (hx : lev env x = some (.vec m id (l.map f).length 0 len))
    (hhi : lev env hi = some (.p (.int k h))) (hH : nth H id = some (.vec m (l.map f))) (hT : slTy P t = some (m, bytes)) (hb : decide (0 ≤ h ∧ h ≤ len) = true) : LOp P o env H (Is (.vec m id (l.map f).length 0 h.toNat) H) := by
  have hb := of_decide_eq_true hb
  have := LOp.sliceVG (H := H) (lo := none) (hi := some h) ho hx rfl (by simp [optInt, hhi]) hH rfl hT (by simp) (by simp; omega) (by simpa using hb.2)
  simpa using this
/-- The zero of a slice's elements, in cells. -/
def zeroSl (P : Program) (t : TypeId) : Option (List PV) :=
  match P.underlying t with
  | some (.slice e) => match P.info? e with
    | some i => match i.zero with
      | some z => match cellsOfConst z.cells.toList with
        | some cs => allPlain cs
        | none => none
      | none => none
    | none => none
  | _ => none
theorem flat_repl {m : Nat} (hm : 0 < m) {x : PV} (hx : x.cells.length = m) : ∀ (k i : Nat), i < k * m → (flat (List.replicate k x))[i]? = x.cells[i % m]?
  | 0, i, h => by omega
  | k + 1, i, h => by
    rw [List.replicate_succ, flat_cons, List.getElem?_append, hx]
    by_cases h1 : i < m
    · rw [if_pos h1, Nat.mod_eq_of_lt h1]
    · rw [if_neg h1, flat_repl hm hx k (i - m) (by rw [Nat.succ_mul] at h; omega), ← Nat.mod_eq_sub_mod (by omega)]
/-- A list with a part of it zeros. -/
def clrL (l : List α) (off k : Nat) (z : α) : List α := l.take off ++ List.replicate k z ++ l.drop (off + k)
theorem clrL_len {l : List α} {off k : Nat} {z : α} (h : off + k ≤ l.length) : (clrL l off k z).length = l.length := by
  unfold clrL; simp; omega
/-- 'clear' of a part of a slice of one's own. -/
theorem LOp.clearVP {t : TypeId} {x : Operand} {m bytes id off k : Nat} {l : List α} {zs : List PV} {H' : List LObj} (z0 : α) (ho : o.op = .call { callee := .builtin .clear, args := #[x], argTypes := #[t] }) (hx : lev env x = some (.vec m id (l.map f).length off k))
    (hH : nth H id = some (.vec m (l.map f))) (hT : slTy P t = some (m, bytes)) (hE : ∀ a, elemsB m [f a] = true) (hz : zeroSl P t = some zs) (hz0 : cellsP (f z0) = some zs) (hk : decide (off + k ≤ l.length) = true)
    (hH' : setC H id (.vec m ((clrL l off k z0).map f)) = some H') : LOp P o env H (Is (.tup []) H') :=
  LOp.step fun a w μ I hst he => by
    have hk := of_decide_eq_true hk
    have hr := he.ev (x := x) (by simp [ho, Op.operands, Call.operands]) hx
    generalize hv : a.eval x = v at hr
    obtain ⟨e3, e4⟩ := setC_eq hH'
    subst e3
    have hE' : ∀ a, (f a).cells.length = m ∧ ∀ c ∈ (f a).cells, c.one := fun a => elemsB_spec (hE a) _ (.head _)
    have hEl : ∀ l' : List α, Elems m (l'.map f) := fun l' => Elems.map hE' l'
    obtain ⟨e, i, zz, hu, hi', hzz, hzs, rfl, rfl, hpos⟩ := slTy_spec hT
    have hzc : cellsOfConst zz.cells.toList = some (zs.map .p) := by
      unfold zeroSl at hz
      rw [hu] at hz
      simp only [hi', hzz] at hz
      split at hz
      · rename_i cs hcs
        rw [hcs, allPlain_spec hz]
      · cases hz
    have hzv : (zeroValue e).run P w = .ok zz w := by simp [zeroValue, typeInfo, hi', hzz]
    obtain ⟨B, hid, hBn, hob, hf⟩ := vec_now hst hH rfl hr
    have hnone : k = 0 → clrL l off k z0 = l := fun h => by subst h; simp [clrL]
    have hHid : H.set id (.vec i.size ((clrL l off k z0).map f)) = H → True := fun _ => trivial
    have hsame : k = 0 → H.set id (.vec i.size ((clrL l off k z0).map f)) = H := fun h => by
      rw [hnone h]
      rw [nth_eq] at hH
      apply List.ext_getElem?
      intro q
      rw [List.getElem?_set]
      split
      · rename_i e; subst e; rw [hH]; try rfl
      · rfl
    have hdone : ∀ r : Value → Prop, True := fun _ => trivial
    rcases Nat.eq_zero_or_pos k with hk0 | hk0
    · rw [hsame hk0]
      subst hk0
      have : ∃ ad c, v = .slice ad 0 c := by
        rcases hf with ⟨-, ad, rfl⟩ | ⟨b, cap, hB, rfl, -⟩
        · exact ⟨_, _, rfl⟩
        · exact ⟨_, _, rfl⟩
      obtain ⟨ad, c, rfl⟩ := this
      have hrun : (Builtin.clear_ #[t] o.type #[.slice ad 0 c]).run P w = .ok (.tuple #[]) w := by
        cases ad <;> simp [Builtin.clear_, run_underlying hu]
      refine ⟨.tuple #[], w, μ, ?_, hst, .tup rfl (fun i c v hc => by simp at hc), Ext.refl _ _ _ _ (Nat.le_refl _)⟩
      simp only [execOp, ho, resolve, invoke, builtin, Sem.run_bind, Sem.run_pure, Result.andThen_ok, List.map_toArray, List.map_cons, List.map_nil, hv, hrun]
    · rcases hf with ⟨h0, -⟩ | ⟨b, cap, hB, rfl, hlc, hmax, c', e', hb', hsz⟩
      · omega
      · obtain ⟨Bb, Bn⟩ := B
        simp only at hB hBn
        subst hB; subst hBn
        obtain ⟨vs, e2, hb, hlen, hne, hrep⟩ := vec_some hob
        have hvs : vs = c' := by rw [hb] at hb'; cases hb'; rfl
        rw [← hvs] at hsz
        rw [List.length_map] at hlen
        have hm1 : i.size * (off + k) ≤ i.size * l.length := Nat.mul_le_mul_left _ hk
        rw [Nat.mul_add] at hm1
        obtain ⟨news, hnews⟩ : ∃ news, news = (Builtin.zeroCells zz.cells k).toList := ⟨_, rfl⟩
        have hnl : news.length = i.size * k := by rw [hnews]; simp [Builtin.zeroCells, hzs, Nat.mul_comm]
        have hzl : zs.length = i.size := by
          have := (cellsOfConst_spec (μ := μ) (I := I) (w := w) hzc).1
          simpa [hzs] using this.symm
        have hng : ∀ q u, news[q]? = some u → ∃ c, zs[q % i.size]? = some c ∧ Rep I w c u ∧ one1 u = true := by
          intro q u hq
          have hql := (List.getElem?_eq_some_iff.1 hq).1
          rw [hnl] at hql
          have hmod := Nat.mod_lt q hpos
          obtain ⟨h1, h2, h3⟩ := cellsOfConst_spec (μ := μ) (I := I) (w := w) hzc
          have hu1 : zz.cells.toList[q % i.size]? = some u := by
            rw [hnews] at hq
            simp [Builtin.zeroCells, hzs] at hq
            obtain ⟨q', hq1, hq2⟩ := hq
            rw [List.getElem?_range (by rw [Nat.mul_comm]; exact hql)] at hq1
            cases hq1
            rw [← hq2]
            simp [show q % i.size < zz.cells.size by omega]
          have hc : zs[q % i.size]? = some zs[q % i.size] := List.getElem?_eq_getElem (by omega)
          refine ⟨_, hc, ?_, h2 u (List.mem_of_getElem? hu1)⟩
          have := h3 (q % i.size) (.p _) u (by rw [List.getElem?_map, hc]; rfl) hu1
          cases this with | p h => exact h
        have h4 := run_storeCells_at P b (i.size * off) e2 news 0 vs w hb (by rw [hnl]; omega) (fun u hu => by
          obtain ⟨q, hq⟩ := List.getElem?_of_mem hu
          obtain ⟨c, -, -, ho1⟩ := hng q u hq
          cases u <;> simp_all [one1, Value.oneCell'])
        have hps := cellsP_eq hz0
        have hrun : (Builtin.clear_ #[t] o.type #[.slice (some ⟨b, i.size * off, none⟩) k cap]).run P w = .ok (.tuple #[]) (w.setRow b (vs.toList.take (i.size * off) ++ news ++ vs.toList.drop (i.size * off + news.length)).toArray) := by
          unfold Builtin.clear_
          obtain ⟨k, rfl⟩ : ∃ q, k = q + 1 := ⟨k - 1, by omega⟩
          simp only [List.getElem?_toArray, List.getElem?_cons_zero, Sem.run_bind, run_underlying hu, Result.andThen_ok, hzv, ← hnews]
          simp at h4
          simp [h4]
        have hcl := clrL_len (z := z0) hk
        have hflat : ∀ q, (flat ((clrL l off k z0).map f))[q]? = if q < i.size * off then (flat (l.map f))[q]? else if q < i.size * off + i.size * k then zs[(q - i.size * off) % i.size]? else (flat (l.map f))[q]? := by
          intro q
          unfold clrL
          rw [List.map_append, List.map_append, List.map_take, List.map_drop, List.map_replicate, flat_append, flat_append, flat_take _ (hEl l), flat_drop _ (hEl l)]
          have hfl := flat_length (hEl l)
          rw [List.length_map] at hfl
          have hrl : (flat (List.replicate k (f z0))).length = i.size * k := by
            have : Elems i.size (List.replicate k (f z0)) := by have := hEl (List.replicate k z0); rwa [List.map_replicate] at this
            rw [flat_length this, List.length_replicate]
          by_cases h1 : q < i.size * off
          · rw [if_pos h1, List.append_assoc, List.getElem?_append_left (by rw [List.length_take]; omega), List.getElem?_take_of_lt h1]
          · rw [if_neg h1]
            by_cases h2 : q < i.size * off + i.size * k
            · rw [if_pos h2, List.append_assoc, List.getElem?_append_right (by rw [List.length_take]; omega), List.getElem?_append_left (by rw [List.length_take, hrl]; omega), List.length_take, show Min.min (i.size * off) (flat (l.map f)).length = i.size * off by omega,
                flat_repl hpos (hE' z0).1 k _ (by rw [Nat.mul_comm k]; omega), hps]
            · rw [if_neg h2, List.getElem?_append_right (by rw [List.length_append, List.length_take, hrl]; omega), List.length_append, List.length_take, hrl, List.getElem?_drop, Nat.mul_add,
                show i.size * off + i.size * k + (q - (Min.min (i.size * off) (flat (l.map f)).length + i.size * k)) = q by omega]
        rw [nth_eq] at hH
        obtain ⟨hs', hEx⟩ := vec_write hst (off := i.size * off) (news := news) (xs' := (clrL l off k z0).map f) hid hH hb (by rw [List.length_map]; exact hlen) hne (by rw [List.length_map, List.length_map, hcl]) (hEl _) hrep (by rw [hnl]; omega)
          (fun q c hc hq => by
            rw [hflat q] at hc
            rw [hnl] at hq
            split at hc
            · exact hc
            · split at hc
              · omega
              · exact hc)
          (fun q c u hc hu => by
            have hql := (List.getElem?_eq_some_iff.1 hu).1
            rw [hnl] at hql
            rw [hflat, if_neg (by omega), if_pos (by omega), show i.size * off + q - i.size * off = q by omega] at hc
            obtain ⟨c', h1, h2, -⟩ := hng q u hu
            rw [hc] at h1; cases h1
            exact h2)
        refine ⟨.tuple #[], _, μ, ?_, hs', .tup rfl (fun i c v hc => by simp at hc), hEx⟩
        simp only [execOp, ho, resolve, invoke, builtin, Sem.run_bind, Sem.run_pure, Result.andThen_ok, List.map_toArray, List.map_cons, List.map_nil, hv, hrun]
/-- A beginning of a slice of one's own as data. -/
theorem Conv.vecTake {m id k : Nat} {l : List α} (hH : nth H id = some (.vec m (l.map f))) (hk : Nat.ble k l.length = true) : Conv true H (.vec m id (l.map f).length 0 k) (.slice m ((l.take k).map f)) := by
  rw [nth_eq] at hH
  have := Conv.vec (off := 0) (len := k) hH rfl (by have := Nat.le_of_ble_eq_true hk; rw [List.length_map]; omega)
  simpa using this
end
section
variable {P : Program} {o : Oper} {env : Env} {H : List LObj}
/-- 'x == nil' for a slice that is data: if so it has no elements. -/
theorem LOp.eqNil {t t' : TypeId} {x y : Operand} {m bytes : Nat} {xs : List PV} (ho : o.op = .binOp .eql t x y t') (hx : lev env x = some (.p (.slice m xs))) (hy : y = .const (.slice none 0 0)) (hT : slTy P t = some (m, bytes)) :
    LOp P o env H (fun r H' => H' = H ∧ ∃ b, r = .p (.bool b) ∧ (b = true → xs = [])) := by
  intro a w μ I hs he K Q hK
  obtain ⟨ad, cap, f, hv, hcap, hmax, hm, hc, hr⟩ := rep_slice (lrep_slice (he.ev (x := x) (by simp [ho, Op.operands]) hx))
  obtain ⟨e, i, zz, hu, hi', hzz, hzs, rfl, rfl, hpos⟩ := slTy_spec hT
  have hyv : a.eval y = .slice none 0 0 := by subst hy; rfl
  have heq : (Op.equal t (.slice ad xs.length cap) (.slice none 0 0)).run P w = .ok ad.isNone w := by
    unfold Op.equal
    obtain ⟨d, hd⟩ : ∃ d, Op.maxDepth = d + 1 := ⟨_, rfl⟩
    rw [hd]
    cases ad <;> simp [Op.equalIn, run_underlying hu]
  have hg : (eqGuard .eql t x y (.slice ad xs.length cap) (.slice none 0 0)).run P w = .ok () w := by simp [eqGuard]
  have hrun : (execOp a.eval o).run P w = .ok (.value (.bool ad.isNone)) w := by
    simp only [execOp, ho, hv, hyv, binOp]
    simp [hg, heq]
  unfold Oper.wp
  rw [hrun]
  refine hK (.p (.bool ad.isNone)) H _ w μ I ⟨rfl, _, rfl, fun h => ?_⟩ hs (.p .bool) (Ext.refl _ _ _ _ (Nat.le_refl _))
  cases ad with
  | some b => cases h
  | none =>
    cases xs with
    | nil => rfl
    | cons x r =>
      exfalso
      have h1 := (hm x (.head _)).1
      obtain ⟨c, hcc⟩ : ∃ c, (flat (x :: r))[0]? = some c := by
        rw [flat_cons, List.getElem?_append_left (by omega)]
        exact ⟨_, List.getElem?_eq_getElem (by omega)⟩
      obtain ⟨b, o', hb, -⟩ := hc 0 c hcc
      cases hb
/-- A slice literal without elements. -/
theorem LOp.buildSlice0 {t : TypeId} {m bytes : Nat} (ho : o.op = .buildSlice t 0 #[]) (hT : slTy P t = some (m, bytes)) : LOp P o env H (Is .zs H) := by
  intro a w μ I hs hE K Q hK
  obtain ⟨el, i, z, hu, hi, hz, hzs, rfl, rfl, hpos⟩ := slTy_spec hT
  have hr0 : Array.range 0 = #[] := rfl
  have hso : (sizeOf el).run P w = .ok i.size w := by simp [sizeOf, typeInfo, hi]
  have hrun : (execOp a.eval o).run P w = .ok (.value (.slice (some ⟨w.heap.size, 0, none⟩) 0 0)) (w.alloc (.cells #[] el)) := by
    simp only [execOp, ho, Instr.buildSlice]
    simp [run_underlying hu, hso, Instr.fill, newRow, hr0]
  unfold Oper.wp
  rw [hrun]
  obtain ⟨hs', hE'⟩ := hs.fresh (.cells #[] el)
  exact hK .zs H _ _ μ _ ⟨rfl, rfl⟩ hs' .zs hE'
end
theorem ORep.monoK {k : Nat} {μ μ' : List Blk} {I I' : Nat → Prop} {w : World} {o : LObj} {B : Blk} (h : ORep μ I w o B) (hE : Ext k μ I w μ' I' w) (hlo : o.Low k) : ORep μ' I' w o B := by
  cases h with
  | box h1 h2 h3 h4 => exact .box h1 h2 h3 fun i c v hc hv => (h4 i c v hc hv).mono hE (hlo c (List.mem_of_getElem? hc))
  | vecE => exact .vecE
  | vec h1 h2 h3 h4 h5 => exact .vec h1 h2 h3 h4 fun i c v hc hv => (h5 i c v hc hv).mono hE.imm
  | map h1 h2 h3 h4 h5 => exact .map h1 h2 (fun i c e hc he => ⟨(h3 i c e hc he).1.mono hE.imm, (h3 i c e hc he).2.mono hE (hlo c (List.mem_of_getElem? hc))⟩) h4 h5
  | dead => exact .dead
  | slot => exact .slot
  | loop h1 hs hp hps hA hB hn he => exact .loop h1 hs hp hps hA hB hn fun t x ht => let ⟨v, h2, h3⟩ := he t x ht; ⟨v, h2, h3.mono hE (hlo t x ht)⟩
  | defd h1 => exact .defd h1
/-- Objects that are there speak of objects that are there. -/
theorem St.lowAll {μ : List Blk} {I : Nat → Prop} {w : World} {H : List LObj} (hs : St μ I w H) {o : LObj} (ho : o ∈ H) : o.Low H.length := by
  obtain ⟨i, hi⟩ := List.getElem?_of_mem ho
  have hil := (List.getElem?_eq_some_iff.1 hi).1
  have hlen := hs.len
  obtain ⟨B, hB⟩ : ∃ B, μ[i]? = some B := ⟨_, List.getElem?_eq_getElem (by omega)⟩
  have hob := hs.objs i o B hi hB
  have hlow : ∀ {x : LV} {v : Value}, LRep μ I w x v → LV.Low H.length x := fun h => hlen ▸ h.lows
  cases hob with
  | box h1 h2 h3 h4 =>
    intro c hc
    obtain ⟨j, hj⟩ := List.getElem?_of_mem hc
    have hjl := (List.getElem?_eq_some_iff.1 hj).1
    exact hlow (h4 j c _ hj (Array.getElem?_eq_getElem (by omega)))
  | vecE => trivial
  | vec h1 h2 h3 h4 h5 => trivial
  | map h1 h2 h3 h4 h5 =>
    intro e he
    obtain ⟨j, hj⟩ := List.getElem?_of_mem he
    have hjl := (List.getElem?_eq_some_iff.1 hj).1
    exact hlow (h3 j e _ hj (Array.getElem?_eq_getElem (by omega))).2
  | dead => trivial
  | slot => trivial
  | loop h1 hs hp hps hA hB hn he => exact fun t x ht => let ⟨v, _, h3⟩ := he t x ht; hlow h3
  | defd h1 => trivial
/-- What a function hands back, a slice of its own at the end of all objects, in a place that was kept for it. -/
theorem LC.toSlot {P : Program} {f : FuncId} {ls : List LV} {H : List LObj} {m id n d : Nat} {xs : List PV} (h : LC P f ls H (Is (.vec m d n 0 n) (H ++ [.vec m xs]))) (hd : d = H.length) (hid : nth H id = some .slot) :
    LC P f ls H (Is (.vec m id n 0 n) (H.set id (.vec m xs))) := by
  subst hd
  intro args w μ I hs ha
  have hl : ∀ o ∈ H, o.Low H.length := fun o ho => hs.lowAll ho
  refine (h args w μ I hs ha).mono ?_
  rintro e w' ⟨_, v, _, μ', I', rfl, ⟨e1, e2⟩, hs', hv, hE⟩
  rw [e2] at hs'
  rw [e1] at hv
  rw [nth_eq] at hid
  have hidl := (List.getElem?_eq_some_iff.1 hid).1
  have hlen := hs.len
  have hlen' := hs'.len
  rw [List.length_append, List.length_singleton] at hlen'
  have hB0 : μ[id]? = some ⟨none, 0⟩ := slot_none hs (by rw [nth_eq]; exact hid)
  have hB0' : μ'[id]? = some ⟨none, 0⟩ := slot_none hs' (by rw [nth_eq, List.getElem?_append_left hidl]; exact hid)
  obtain ⟨B, hB⟩ : ∃ B, μ'[H.length]? = some B := ⟨_, List.getElem?_eq_getElem (by omega)⟩
  have hob := hs'.objs H.length (.vec m xs) B (by simp) hB
  -- the last number goes to the place that was kept
  have hget : ∀ i, i < H.length → ((μ'.take H.length).set id B)[i]? = if i = id then some B else μ'[i]? := fun i hi => by
    rw [List.getElem?_set]
    by_cases e : id = i
    · subst e; rw [if_pos rfl, if_pos rfl, if_pos (by rw [List.length_take]; omega)]
    · rw [if_neg e, if_neg (Ne.symm e), List.getElem?_take_of_lt hi]
  have hlen2 : ((μ'.take H.length).set id B).length = H.length := by rw [List.length_set, List.length_take]; omega
  have hownS : ∀ b, Own ((μ'.take H.length).set id B) b → Own μ' b := fun b hb => by
    obtain ⟨i, n', hi⟩ := Own.get hb
    have hil := (List.getElem?_eq_some_iff.1 hi).1
    rw [hlen2] at hil
    rw [hget i hil] at hi
    split at hi
    · cases hi; exact Own.mk hB
    · exact Own.mk hi
  have hEx : Ext μ.length μ I w ((μ'.take H.length).set id B) I' w' :=
    { get := fun i C hi hC => by
        rw [hget i (by omega)]
        split
        · rename_i e; subst e
          rw [hB0] at hC; cases hC
          exact ⟨B, rfl, Nat.zero_le _, fun _ => .inr rfl, fun _ h => absurd rfl h⟩
        · exact hE.get i C (by omega) hC
      len := Nat.le_refl _
      len' := by omega
      os := hE.os
      tape := hE.tape
      output := hE.output
      size := hE.size
      imm := hE.imm
      shape := hE.shape
      inew := hE.inew
      mnew := fun b hb => hE.mnew b (hownS b hb)
      keep := hE.keep }
  -- what does not speak of that place stays
  have hE2 : Ext H.length μ' I' w' ((μ'.take H.length).set id B) I' w' :=
    { get := fun i C hi hC => by
        rw [hget i hi]
        split
        · rename_i e; subst e
          rw [hB0'] at hC; cases hC
          exact ⟨B, rfl, Nat.zero_le _, fun _ => .inr rfl, fun _ h => absurd rfl h⟩
        · exact ⟨C, hC, Nat.le_refl _, fun _ => .inl rfl, fun _ _ => rfl⟩
      len := by omega
      len' := by omega
      os := rfl
      tape := rfl
      output := rfl
      size := Nat.le_refl _
      imm := fun _ h => ⟨h, rfl⟩
      shape := fun _ c _ _ h => ⟨c, h, rfl⟩
      inew := fun _ h => .inl h
      mnew := fun b hb => .inl (hownS b hb)
      keep := fun _ _ _ => rfl }
  refine ⟨_, v, _, (μ'.take H.length).set id B, I', rfl, ⟨rfl, rfl⟩, ?_, ?_, hEx⟩
  · exact
      { len := by rw [hlen2, List.length_set]
        inj := fun i j b n1 n2 hi hj => by
          have hil := (List.getElem?_eq_some_iff.1 hi).1
          have hjl := (List.getElem?_eq_some_iff.1 hj).1
          rw [hlen2] at hil hjl
          rw [hget i hil] at hi
          rw [hget j hjl] at hj
          split at hi <;> split at hj
          · omega
          · cases hi
            have := hs'.inj _ _ b _ _ hB hj
            omega
          · cases hj
            have := hs'.inj _ _ b _ _ hi hB
            omega
          · exact hs'.inj i j b n1 n2 hi hj
        lt := fun b hb => hs'.lt b (hownS b hb)
        off := fun b hb => hs'.off b (hownS b hb)
        ilt := hs'.ilt
        objs := fun i o C ho hC => by
          have hil := (List.getElem?_eq_some_iff.1 hC).1
          rw [hlen2] at hil
          rw [hget i hil] at hC
          rw [List.getElem?_set] at ho
          by_cases e : id = i
          · subst e
            rw [if_pos rfl] at hC
            rw [if_pos rfl, if_pos hidl] at ho
            cases hC; cases ho
            exact hob.monoK hE2 trivial
          · rw [if_neg (Ne.symm e)] at hC
            rw [if_neg e] at ho
            exact (hs'.objs i o C (by rw [List.getElem?_append_left hil]; exact ho) hC).monoK hE2 (hl o (List.mem_of_getElem? ho)) }
  · cases hv with
    | @vec _ _ _ _ _ C _ h1 h2 h3 h4 =>
      rw [hB] at h1; cases h1
      exact .vec (by rw [hget id hidl, if_pos rfl]) h2 h3 h4
section
variable {P : Program} {o : Oper} {env : Env} {H : List LObj}
theorem LC.frameV {f : FuncId} {qs ls : List LV} {m n d : Nat} {xs : List PV} (h : LC P f qs [] (Is (.vec m 0 n 0 n) [.vec m xs])) (hc : ConvEs H ls qs) (hd : lenC H = some d) :
    LC P f ls H (Is (.vec m d n 0 n) (H ++ [.vec m xs])) := LC.frameG h hc hd
/-- A call of a function of data that hands back a slice of its own. -/
theorem LOp.callV {fo : Operand} {args : Array Operand} {ats : Array TypeId} {f : FuncId} {qs ls : List LV} {m n d : Nat} {xs : List PV} {H' : List LObj} (ho : o.op = .call { callee := .value fo, args := args, argTypes := ats })
    (hf : lev env fo = some (.fn f [] [])) (hl : levs env args.toList = some ls) (hc : callable P f = true) (h : LC P f qs [] (Is (.vec m 0 n 0 n) [.vec m xs])) (hcv : ConvEs H ls qs) (hd : lenC H = some d) (hH : appC H (.vec m xs) = some H') :
    LOp P o env H (Is (.vec m d n 0 n) H') := by
  have e := appC_eq hH
  subst e
  exact LOp.call ho hf hl hc (by simpa using LC.frameV h hcv hd)
/-- The same where its object is to come. -/
theorem LAt.callV {fo : Operand} {args : Array Operand} {ats : Array TypeId} {f : FuncId} {qs ls : List LV} {m n id : Nat} {xs : List PV} (ho : o.op = .call { callee := .value fo, args := args, argTypes := ats })
    (hf : lev env fo = some (.fn f [] [])) (hl : levs env args.toList = some ls) (hc : callable P f = true) (h : LC P f qs [] (Is (.vec m 0 n 0 n) [.vec m xs])) (hcv : ∀ H, ConvEs H ls qs) (hid : nth H id = some .slot) :
    LAt P o env H [id] (some (id, .vec m xs)) (.vec m id n 0 n) := by
  intro H' hA
  have hid' := hA.get (by simp) hid
  obtain ⟨d, hd⟩ : ∃ d, lenC H' = some d := by
    clear hid' hA
    induction H' with
    | nil => exact ⟨0, rfl⟩
    | cons x r ih => obtain ⟨d, hd⟩ := ih; exact ⟨d + 1, by simp [lenC, hd]⟩
  have := LC.toSlot (LC.frameV h (hcv H') hd) (lenC_eq hd) hid'
  exact LOp.call ho hf hl hc (by simpa [wset] using this)
end
section
variable {k : Nat} {env : Env} {H : List LObj}
/-- Of an object nothing need be known any more. -/
theorem Ent.kill {i : Nat} {H' : List LObj} (h : setC H i .dead = some H') : Ent k env H env H' := by
  intro n μ I w a hn hk
  obtain ⟨e1, e2⟩ := setC_eq h
  subst e1
  refine ⟨μ, I, ⟨hn.size, hn.defers, ?_, hn.env⟩, ⟨fun i B _ hb => ⟨B, hb, Nat.le_refl _, fun _ => .inl rfl, fun _ _ => rfl⟩, hk, hk, rfl, rfl, rfl, Nat.le_refl _, fun _ h => ⟨h, rfl⟩, fun _ c _ _ h => ⟨c, h, rfl⟩, fun _ h => .inl h, fun _ h => .inl h, fun _ _ _ => rfl⟩⟩
  exact
    { len := by rw [List.length_set]; exact hn.st.len
      inj := hn.st.inj
      lt := hn.st.lt
      off := hn.st.off
      ilt := hn.st.ilt
      objs := fun j o B ho hB => by
        rw [List.getElem?_set] at ho
        split at ho
        · first
            | (split at ho
               · cases ho; exact .dead
               · cases ho)
            | (cases ho; exact .dead)
        · exact hn.st.objs j o B ho hB }
/-- The length of a slice of one's own, told otherwise. -/
theorem Ent.vlen {t m id n n' off len : Nat} (ht : env.get t = some (.vec m id n off len)) (e : n = n') : Ent k env H ((t, .vec m id n' off len) :: env) H := by
  subst e
  intro n' μ I w a hn hk
  refine ⟨μ, I, ⟨hn.size, hn.defers, hn.st, fun t' x hx => ?_⟩, ⟨fun i B _ hb => ⟨B, hb, Nat.le_refl _, fun _ => .inl rfl, fun _ _ => rfl⟩, hk, hk, rfl, rfl, rfl, Nat.le_refl _, fun _ h => ⟨h, rfl⟩, fun _ c _ _ h => ⟨c, h, rfl⟩, fun _ h => .inl h, fun _ h => .inl h, fun _ _ _ => rfl⟩⟩
  rw [Env.get_cons] at hx
  split at hx
  · rename_i e; subst e; cases hx; exact hn.env _ _ ht
  · exact hn.env _ _ hx
/-- Of the objects behind the first ones only one is kept, a slice; it comes first behind these. -/
theorem Ent.last {t m id n j : Nat} {xs : List PV} {Hj H' : List LObj} (ht : env.get t = some (.vec m id n 0 n)) (hid : nth H id = some (.vec m xs)) (hH : takeC H j = some Hj) (hH' : appC Hj (.vec m xs) = some H') (hj : Nat.ble j id = true) (hk : Nat.ble k j = true) (ho : lowObjs j Hj = true) :
    Ent k env H [(t, .vec m j n 0 n)] H' := by
  intro n' μ I w a hn hkm
  obtain ⟨e1, e2⟩ := takeC_eq hH
  have e3 := appC_eq hH'
  subst e1 e3
  have hjid := Nat.le_of_ble_eq_true hj
  have hkj := Nat.le_of_ble_eq_true hk
  rw [nth_eq] at hid
  have hidl := (List.getElem?_eq_some_iff.1 hid).1
  have hlen := hn.st.len
  obtain ⟨B, hB⟩ : ∃ B, μ[id]? = some B := ⟨_, List.getElem?_eq_getElem (by omega)⟩
  have hob := hn.st.objs id _ B hid hB
  have hst0 := hn.st.cut (j := j) (by omega) (lowObjs_spec ho)
  have hl0 : (μ.take j).length = j := by rw [List.length_take]; omega
  have hHl : (H.take j).length = j := by rw [List.length_take]; omega
  have hget : ∀ i, i < j → (μ.take j ++ [B])[i]? = μ[i]? := fun i hi => by
    rw [List.getElem?_append_left (by omega), List.getElem?_take_of_lt hi]
  have hgetj : (μ.take j ++ [B])[j]? = some B := by
    rw [List.getElem?_append_right (by omega), hl0]; simp
  have hown : ∀ b, Own (μ.take j ++ [B]) b → Own μ b := fun b ⟨q, hq⟩ => by
    rcases List.mem_append.1 hq with hq | hq
    · exact ⟨q, List.mem_of_mem_take hq⟩
    · rw [List.mem_singleton] at hq; subst hq; exact Own.mk hB
  have hE : Ext j μ I w (μ.take j ++ [B]) I w :=
    ⟨fun i C hi hC => ⟨C, by rw [hget i hi]; exact hC, Nat.le_refl _, fun _ => .inl rfl, fun _ _ => rfl⟩, by omega, by rw [List.length_append, hl0]; omega, rfl, rfl, rfl, Nat.le_refl _, fun _ h => ⟨h, rfl⟩,
      fun _ c _ _ h => ⟨c, h, rfl⟩, fun _ h => .inl h, fun b h => .inl (hown b h), fun _ _ _ => rfl⟩
  refine ⟨μ.take j ++ [B], I, ⟨hn.size, hn.defers, ?_, fun t' x hx => ?_⟩, hE.weak hkj⟩
  · exact
      { len := by rw [List.length_append, List.length_append, hl0, hHl]; rfl
        inj := fun i i' b q q' hi hi' => by
          have h1 := (List.getElem?_eq_some_iff.1 hi).1
          have h2 := (List.getElem?_eq_some_iff.1 hi').1
          rw [List.length_append, hl0, List.length_singleton] at h1 h2
          by_cases c1 : i < j
          · rw [hget i c1] at hi
            by_cases c2 : i' < j
            · rw [hget i' c2] at hi'; exact hn.st.inj i i' b q q' hi hi'
            · obtain rfl : i' = j := by omega
              rw [hgetj] at hi'; cases hi'
              have := hn.st.inj i id b q q' hi hB
              omega
          · obtain rfl : i = j := by omega
            rw [hgetj] at hi; cases hi
            by_cases c2 : i' < i
            · rw [hget i' c2] at hi'
              have := hn.st.inj i' id b q' q hi' hB
              omega
            · omega
        lt := fun b hb => hn.st.lt b (hown b hb)
        off := fun b hb => hn.st.off b (hown b hb)
        ilt := hn.st.ilt
        objs := fun i o C hio hC => by
          have h1 := (List.getElem?_eq_some_iff.1 hC).1
          rw [List.length_append, hl0, List.length_singleton] at h1
          by_cases c1 : i < j
          · rw [hget i c1] at hC
            rw [List.getElem?_append_left (by omega)] at hio
            have hlo := lowObjs_spec ho o (List.mem_of_getElem? hio)
            rw [List.getElem?_take_of_lt c1] at hio
            exact (hn.st.objs i o C hio hC).monoK hE hlo
          · obtain rfl : i = j := by omega
            rw [hgetj] at hC
            rw [List.getElem?_append_right (by omega), hHl, Nat.sub_self] at hio
            simp at hio
            cases hC; subst hio
            exact hob.monoK hE trivial }
  · rw [Env.get_cons] at hx
    split at hx
    · rename_i e; subst e; cases hx
      obtain ⟨v, hv, hr⟩ := hn.env _ _ ht
      refine ⟨v, hv, ?_⟩
      cases hr with
      | @vec _ _ _ _ _ C _ h1 h2 h3 h4 =>
        rw [hB] at h1; cases h1
        exact .vec hgetj h2 h3 h4
    · cases hx
end
theorem pset {env : Env} {t m id i k : Nat} {α : Type} {f : α → PV} {l : List α} {v : α} (h : env.get t = some (.vec m id (l.map f).length 0 k)) : env.get t = some (.vec m id ((l.set i v).map f).length 0 k) := by simpa using h
theorem clr_len {α : Type} {f : α → PV} {l : List α} {off k : Nat} {z : α} (h : decide (off + k ≤ l.length) = true) : (l.map f).length = ((clrL l off k z).map f).length := by
  rw [List.length_map, List.length_map, clrL_len (of_decide_eq_true h)]
theorem entsSh {α β : Type} {f : α → PV} {g : β → LV} {d : Nat} (hg : ∀ v, (g v).shift d = g v) (m : List (α × β)) : ((entsOf f g m).map fun e => (e.1, LV.shift d e.2)) = entsOf f g m := by
  unfold entsOf
  rw [List.map_map]
  exact List.map_congr_left fun e _ => by simp [hg]
theorem LC.frameX {P : Program} {f : FuncId} {H : List LObj} {qs ls : List LV} {x x' : LV} {H0 H' : List LObj} {d : Nat} (h : LC P f qs [] (Is x H0)) (hc : ConvEs H ls qs) (hd : lenC H = some d) (hx : LV.shift d x = x') (hH : H ++ H0.map (LObj.shift d) = H') :
    LC P f ls H (Is x' H') := by
  subst hx hH
  exact LC.frameG h hc hd
end Go.Mg
