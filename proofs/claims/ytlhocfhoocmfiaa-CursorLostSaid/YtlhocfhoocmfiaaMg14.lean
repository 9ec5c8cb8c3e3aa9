/- Maps made, asked, written; makes of slices; stores into, and parts of, one's own slices. Conditions: none. -/
import Derived.Test.YtlhocfhoocmfiaaMg13
namespace Go.Mg

section
variable {P : Program} {o : Oper} {env : Env} {H : List LObj}

theorem LOp.makeMap {t : TypeId} {id : Nat} {H' : List LObj} (ho : o.op = .makeMap t none) (hid : lenC H = some id) (hH : appC H (.map []) = some H') : LOp P o env H (Is (.map id) H') :=
  LOp.step fun a w μ I hs he => by
    have hid' := lenC_eq hid
    have hH' := appC_eq hH
    subst hH'
    obtain ⟨hs', hE⟩ := hs.push (.map #[] 0) (.map []) 0 fun μ' w' hE hb => .map hb rfl (fun i c e hc => by simp at hc) (fun e he => by simp at he) (by simp)
    refine ⟨.map (some w.heap.size), _, _, by simp [execOp, ho, Instr.makeMap], hs', .map ?_, hE⟩
    rw [hid', ← hs.len]; simp

theorem lrep_map {μ : List Blk} {I : Nat → Prop} {w : World} (hs : St μ I w H) {id : Nat} {es : List (PV × LV)} {v : Value} (hr : LRep μ I w (.map id) v) (hH : nth H id = some (.map es)) :
    ∃ (b : Nat) (ms : Array MapEntry) (clock : Nat), v = .map (some b) ∧ μ[id]? = some ⟨some b, 0⟩ ∧ w.heap[b]? = some (.map ms clock) ∧ ms.size = es.length ∧
      (∀ (i : Nat) c e, es[i]? = some c → ms[i]? = some e → Rep I w c.1 e.key ∧ LRep μ I w c.2 e.val) ∧ (∀ e ∈ ms, e.born < clock) ∧ ms.toList.Pairwise fun x y => x.born < y.born := by
  rw [nth_eq] at hH
  cases hr with
  | @map _ b hid =>
    have hob := hs.objs id _ _ hH hid
    cases hob with
    | map hb hl h h2 h3 => exact ⟨b, _, _, rfl, hid, hb, hl, h, h2, h3⟩

theorem run_getMap {w : World} {b : Nat} {ms : Array MapEntry} {clock : Nat} (hb : w.heap[b]? = some (.map ms clock)) : (getObj b).run P w = .ok (.map ms clock) w := by
  simp [getObj, Sem.run, hb]

/-- The zero value of a map's element. -/
def zeroL (P : Program) (t : TypeId) : Option LV :=
  match P.info? t with
  | some i => match i.zero with
    | some z => ofConst z
    | none => none
  | none => none

theorem run_zeroL {t : TypeId} {z : LV} (h : zeroL P t = some z) (w : World) : ∃ v, (zeroValue t).run P w = .ok v w ∧ ∀ μ I w', LRep μ I w' z v := by
  unfold zeroL at h
  split at h
  · rename_i i hi
    split at h
    · rename_i v hv
      exact ⟨v, by simp [zeroValue, typeInfo, hi, hv], fun μ I w' => ofConst_rep h⟩
    · cases h
  · cases h

theorem pair_rep {μ : List Blk} {I : Nat → Prop} {w : World} {x : LV} {v : Value} {b : Bool} (h : LRep μ I w x v) : LRep μ I w (.tup [x, .p (.bool b)]) (.tuple #[v, .bool b]) :=
  lrep_two h (.p .bool)

section
variable {t k e : TypeId} {n : Nat} {ag : Bool} {x y : Operand} {id : Nat} {es : List (PV × LV)} {key : PV}

/-- 'm[key]', there. -/
theorem LOp.lookupHit {ok : Bool} {i : Nat} {c : PV × LV} {r : LV} (ho : o.op = .lookup t x y ok) (hx : lev env x = some (.map id)) (hy : lev env y = some (.p key)) (hH : nth H id = some (.map es))
    (hT : mapTy P t = some (k, e, n, ag)) (hk : keyFits n ag key = true) (hf : MFind key es (some i)) (hi : es[i]? = some c) (hr : r = if ok then .tup [c.2, .p (.bool true)] else c.2) :
    LOp P o env H (Is r H) :=
  LOp.val fun a w μ I hst he => by
    have hrx := he.ev (x := x) (by simp [ho, Op.operands]) hx
    have hry := he.ev (x := y) (by simp [ho, Op.operands]) hy
    cases hry with
    | p hry =>
      obtain ⟨b, ms, clock, hv, hid, hb, hl, hrep, -, -⟩ := lrep_map hst hrx hH
      have hu := (mapTy_spec hT).1
      have h1 := run_checkKey_of hT hk hry ms.isEmpty w
      have h2 := run_findKey hT hk hry hf (ms := ms.toList) (by simpa using hl) (fun i c m hc hm => (hrep i c m hc (by simpa using hm)).1) w
      have hil := (List.getElem?_eq_some_iff.1 hi).1
      have hmi : ms[i]? = some ms[i] := Array.getElem?_eq_getElem (by omega)
      have h3 : (Instr.findKey k (a.eval y) ms.toList).run P w = .ok (some (i, ms[i].val)) w := by
        rw [h2]; simp [hmi]
      have hval := (hrep i c ms[i] hi hmi).2
      have hrun : (Instr.lookup t (.map (some b)) (a.eval y) ok).run P w = .ok (if ok then .tuple #[ms[i].val, .bool true] else ms[i].val) w := by
        unfold Instr.lookup
        simp only [Sem.run_bind, run_underlying hu, Result.andThen_ok, run_getMap hb, Sem.run_pure, h1, h3]
      refine ⟨if ok then .tuple #[ms[i].val, .bool true] else ms[i].val, by simp only [execOp, ho, hv]; simp [hrun], ?_⟩
      subst hr
      cases ok
      · simpa using hval
      · simpa using pair_rep hval

/-- 'm[key]', not there. -/
theorem LOp.lookupMiss {ok : Bool} {z r : LV} (ho : o.op = .lookup t x y ok) (hx : lev env x = some (.map id)) (hy : lev env y = some (.p key)) (hH : nth H id = some (.map es))
    (hT : mapTy P t = some (k, e, n, ag)) (hk : keyFits n ag key = true) (hz : zeroL P e = some z) (hf : MFind key es none) (hr : r = if ok then .tup [z, .p (.bool false)] else z) :
    LOp P o env H (Is r H) :=
  LOp.val fun a w μ I hst he => by
    have hrx := he.ev (x := x) (by simp [ho, Op.operands]) hx
    have hry := he.ev (x := y) (by simp [ho, Op.operands]) hy
    cases hry with
    | p hry =>
      obtain ⟨b, ms, clock, hv, hid, hb, hl, hrep, -, -⟩ := lrep_map hst hrx hH
      have hu := (mapTy_spec hT).1
      have h1 := run_checkKey_of hT hk hry ms.isEmpty w
      have h2 := run_findKey hT hk hry hf (ms := ms.toList) (by simpa using hl) (fun i c m hc hm => (hrep i c m hc (by simpa using hm)).1) w
      obtain ⟨zv, hzv, hzr⟩ := run_zeroL hz w
      have hrun : (Instr.lookup t (.map (some b)) (a.eval y) ok).run P w = .ok (if ok then .tuple #[zv, .bool false] else zv) w := by
        unfold Instr.lookup
        simp only [Sem.run_bind, run_underlying hu, Result.andThen_ok, run_getMap hb, Sem.run_pure, h1, h2, Option.bind_none, hzv]
      refine ⟨if ok then .tuple #[zv, .bool false] else zv, by simp only [execOp, ho, hv]; simp [hrun], ?_⟩
      subst hr
      cases ok
      · simpa using hzr μ I w
      · simpa using pair_rep (hzr μ I w)

/-- A nil map holds nothing. -/
theorem LOp.lookupNil {ok : Bool} {z r : LV} (ho : o.op = .lookup t x y ok) (hx : lev env x = some .nilmap) (hy : lev env y = some (.p key))
    (hT : mapTy P t = some (k, e, n, ag)) (hk : keyFits n ag key = true) (hz : zeroL P e = some z) (hr : r = if ok then .tup [z, .p (.bool false)] else z) : LOp P o env H (Is r H) :=
  LOp.val fun a w μ I hst he => by
    have hrx := he.ev (x := x) (by simp [ho, Op.operands]) hx
    have hry := he.ev (x := y) (by simp [ho, Op.operands]) hy
    cases hry with
    | p hry =>
      generalize hv : a.eval x = v at hrx
      cases hrx
      have hu := (mapTy_spec hT).1
      have h1 := run_checkKey_of hT hk hry true w
      have h2 := run_findKey hT hk hry (es := []) (.miss (by simp)) (ms := []) rfl (fun i c m hc => by simp at hc) w
      obtain ⟨zv, hzv, hzr⟩ := run_zeroL hz w
      have hrun : (Instr.lookup t (.map none) (a.eval y) ok).run P w = .ok (if ok then .tuple #[zv, .bool false] else zv) w := by
        unfold Instr.lookup
        simp only [Sem.run_bind, run_underlying hu, Result.andThen_ok, Sem.run_pure]
        simp [h1, h2, hzv]
      refine ⟨if ok then .tuple #[zv, .bool false] else zv, by simp only [execOp, ho, hv]; simp [hrun], ?_⟩
      subst hr
      cases ok
      · simpa using hzr μ I w
      · simpa using pair_rep (hzr μ I w)

theorem run_setMap {w : World} {b : Nat} {ms : Array MapEntry} {clock : Nat} (hb : w.heap[b]? = some (.map ms clock)) (o : Obj) :
    (setObj b o).run P w = .ok () { w with heap := w.heap.setIfInBounds b o } := by
  simp [setObj, Sem.run, hb]

/-- What a map is with a key set. -/
theorem upd_new {z : Operand} {l : LV} (hop : o.op = .mapUpdate t x y z ∨ o.op = .insert t x y z) (hx : lev env x = some (.map id)) (hy : lev env y = some (.p key)) (hz : lev env z = some l) (hH : nth H id = some (.map es))
    (hT : mapTy P t = some (k, e, n, ag)) (hk : keyFits n ag key = true) (hf : MFind key es none) {H' : List LObj} (hH' : setC H id (.map (es ++ [(key, l)])) = some H') : LOp P o env H (Is .any H') :=
  LOp.unit fun a w μ I hst he => by
    have m1 : x ∈ o.op.operands := by rcases hop with h | h <;> simp [h, Op.operands]
    have m2 : y ∈ o.op.operands := by rcases hop with h | h <;> simp [h, Op.operands]
    have m3 : z ∈ o.op.operands := by rcases hop with h | h <;> simp [h, Op.operands]
    have hrx := he.ev m1 hx
    have hry := he.ev m2 hy
    have hrz := he.ev m3 hz
    obtain ⟨e1, e2⟩ := setC_eq hH'
    subst e1
    cases hry with
    | p hry =>
      obtain ⟨b, ms, clock, hv, hid, hb, hl, hrep, hclock, hborn⟩ := lrep_map hst hrx hH
      have hu := (mapTy_spec hT).1
      have h1 := run_checkKey_of hT hk hry false w
      have h2 := run_findKey hT hk hry hf (ms := ms.toList) (by simpa using hl) (fun i c m hc hm => (hrep i c m hc (by simpa using hm)).1) w
      have hbl := (Array.getElem?_eq_some_iff.1 hb).1
      have hrun : (Instr.mapUpdate t (.map (some b)) (a.eval y) (a.eval z)).run P w =
          .ok () { w with heap := w.heap.setIfInBounds b (.map (ms.push { key := a.eval y, val := a.eval z, born := clock }) (clock + 1)) } := by
        unfold Instr.mapUpdate
        simp only [Sem.run_bind, run_underlying hu, Result.andThen_ok, run_getMap hb, h1, h2, Option.bind_none, run_setMap hb]
      obtain ⟨hs', hE⟩ := hst.write (o := .map (es ++ [(key, l)])) hid (w' := { w with heap := w.heap.setIfInBounds b (.map (ms.push { key := a.eval y, val := a.eval z, born := clock }) (clock + 1)) })
        (fun c hc => Array.getElem?_setIfInBounds_ne (fun h => hc h.symm)) (by simp) rfl rfl rfl (fun c e f h => by rw [hb] at h; cases h)
        (fun hE => by
          refine .map (ms := ms.push { key := a.eval y, val := a.eval z, born := clock }) (clock := clock + 1) (by simp [hbl]) (by simp [hl]) (fun i c m hc hm => ?_) (fun m hm => ?_) ?_
          · rw [List.getElem?_append] at hc
            rw [Array.getElem?_push] at hm
            split at hc
            · rename_i hi
              rw [if_neg (by omega)] at hm
              exact ⟨(hrep i c m hc hm).1.mono hE.imm, (hrep i c m hc hm).2.ext hE⟩
            · rename_i hi
              have h5 := (List.getElem?_eq_some_iff.1 hc).1
              simp at h5
              rw [if_pos (by omega)] at hm
              cases hm
              rw [show i - es.length = 0 by omega] at hc
              simp at hc; subst hc
              exact ⟨hry.mono hE.imm, hrz.ext hE⟩
          · rcases Array.mem_push.1 hm with h | h
            · have := hclock m h; omega
            · subst h; simp
          · rw [Array.toList_push, List.pairwise_append]
            refine ⟨hborn, by simp, fun p hp q hq => ?_⟩
            simp at hq; subst hq
            exact hclock p (by simpa using hp))
      refine ⟨_, μ, ?_, hs', hE⟩
      rcases hop with h | h <;> (simp only [execOp, h, hv]; simp [hrun])

theorem upd_old {z : Operand} {l : LV} {i : Nat} (hop : o.op = .mapUpdate t x y z ∨ o.op = .insert t x y z) (hx : lev env x = some (.map id)) (hy : lev env y = some (.p key)) (hz : lev env z = some l) (hH : nth H id = some (.map es))
    (hT : mapTy P t = some (k, e, n, ag)) (hk : keyFits n ag key = true) (hf : MFind key es (some i)) {H' : List LObj} (hH' : setC H id (.map (es.set i (key, l))) = some H') : LOp P o env H (Is .any H') :=
  LOp.unit fun a w μ I hst he => by
    have m1 : x ∈ o.op.operands := by rcases hop with h | h <;> simp [h, Op.operands]
    have m2 : y ∈ o.op.operands := by rcases hop with h | h <;> simp [h, Op.operands]
    have m3 : z ∈ o.op.operands := by rcases hop with h | h <;> simp [h, Op.operands]
    have hrx := he.ev m1 hx
    have hry := he.ev m2 hy
    have hrz := he.ev m3 hz
    obtain ⟨e1, e2⟩ := setC_eq hH'
    subst e1
    cases hry with
    | p hry =>
      obtain ⟨b, ms, clock, hv, hid, hb, hl, hrep, hclock, hborn⟩ := lrep_map hst hrx hH
      have hu := (mapTy_spec hT).1
      have h1 := run_checkKey_of hT hk hry false w
      have h2 := run_findKey hT hk hry hf (ms := ms.toList) (by simpa using hl) (fun i c m hc hm => (hrep i c m hc (by simpa using hm)).1) w
      have hbl := (Array.getElem?_eq_some_iff.1 hb).1
      cases hf with
      | @hit _ c hi hke hlt =>
        have hil := (List.getElem?_eq_some_iff.1 hi).1
        have hmi : ms[i]? = some ms[i] := Array.getElem?_eq_getElem (by omega)
        have h3 : (Instr.findKey k (a.eval y) ms.toList).run P w = .ok (some (i, ms[i].val)) w := by
          rw [h2]; simp [hmi]
        obtain ⟨hsk, hsb⟩ := (keyEq_vals hT hk hke hry (hrep i c ms[i] hi hmi).1 w).2.2 rfl
        have hsame' : Instr.sameBits 10000 ms[i].key (a.eval y) = true := by rw [← hsk]; exact hsb
        have hrun : (Instr.mapUpdate t (.map (some b)) (a.eval y) (a.eval z)).run P w =
            .ok () { w with heap := w.heap.setIfInBounds b (.map (ms.modify i fun m => { m with key := a.eval y, val := a.eval z }) clock) } := by
          unfold Instr.mapUpdate
          simp only [Sem.run_bind, run_underlying hu, Result.andThen_ok, run_getMap hb, h1, h3, Instr.keyThatStays, hmi, Option.map_some, Option.getD_some, hsame', if_true, Sem.run_pure, run_setMap hb]
        obtain ⟨hs', hE⟩ := hst.write (o := .map (es.set i (key, l))) hid (w' := { w with heap := w.heap.setIfInBounds b (.map (ms.modify i fun m => { m with key := a.eval y, val := a.eval z }) clock) })
          (fun c hc => Array.getElem?_setIfInBounds_ne (fun h => hc h.symm)) (by simp) rfl rfl rfl (fun c e f h => by rw [hb] at h; cases h)
          (fun hE => by
            refine .map (ms := ms.modify i fun m => { m with key := a.eval y, val := a.eval z }) (clock := clock) (by simp [hbl]) (by simp [hl]) (fun j c m hc hm => ?_) (fun m hm => ?_) ?_
            · rw [List.getElem?_set] at hc
              rw [Array.getElem?_modify] at hm
              split at hc
              · rename_i e; subst e
                rw [if_pos rfl, hmi] at hm
                cases hc; cases hm
                exact ⟨hry.mono hE.imm, hrz.ext hE⟩
              · rename_i hne
                rw [if_neg (fun h => hne h)] at hm
                exact ⟨(hrep j c m hc hm).1.mono hE.imm, (hrep j c m hc hm).2.ext hE⟩
            · obtain ⟨j, hj, rfl⟩ := Array.mem_iff_getElem.1 hm
              rw [Array.getElem_modify]
              have hj' : j < ms.size := by simpa using hj
              have := hclock ms[j] (Array.getElem_mem hj')
              split
              · exact this
              · exact this
            · have hb2 : (ms.toList.map (·.born)).Pairwise (· < ·) := List.pairwise_map.2 hborn
              have hb3 : (ms.modify i fun m => { m with key := a.eval y, val := a.eval z }).toList.map (·.born) = ms.toList.map (·.born) := by
                apply List.ext_getElem?
                intro j
                rw [List.getElem?_map, List.getElem?_map, Array.getElem?_toList, Array.getElem?_toList, Array.getElem?_modify]
                split
                · cases ms[j]? <;> rfl
                · rfl
              rw [← hb3] at hb2
              exact List.pairwise_map.1 hb2)
        refine ⟨_, μ, ?_, hs', hE⟩
        rcases hop with h | h <;> (simp only [execOp, h, hv]; simp [hrun])
end
end
end Go.Mg
