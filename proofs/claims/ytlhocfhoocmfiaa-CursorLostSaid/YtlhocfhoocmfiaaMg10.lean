/- Appends, makes, stores into one's own slices; ghost steps; functions that hand back a new slice. Conditions: none. -/
import Derived.Test.YtlhocfhoocmfiaaMg9
namespace Go.Mg

section
variable {μ : List Blk} {I : Nat → Prop} {w : World} {H : List LObj}

/-- A slice has grown, in its block or in a new one. -/
theorem St.growS {w' : World} (hs : St μ I w H) {id b n : Nat} {B : Blk} {o : LObj} (hid : μ[id]? = some B) (hle : B.n ≤ n) (hlt : B.b = none ∨ B.n < n) (h0 : B.n = 0 → B.b = none) (hb : B.b = some b ∨ w.heap.size ≤ b) (hbl : b < w'.heap.size)
    (hk : ∀ c, c < w.heap.size → c ≠ b → w'.heap[c]? = w.heap[c]?) (hsz : w.heap.size ≤ w'.heap.size) (hos : w'.os = w.os) (htp : w'.tape = w.tape) (hout : w'.output = w.output)
    (hsh : ∀ c e f, w.heap[b]? = some (.cells c e f) → ∃ c', w'.heap[b]? = some (.cells c' e f) ∧ c'.size = c.size)
    (ho : ∀ μ', Ext μ.length μ I w μ' I w' → ORep μ' I w' o ⟨some b, n⟩) : St (μ.set id ⟨some b, n⟩) I w' (H.set id o) ∧ Ext μ.length μ I w (μ.set id ⟨some b, n⟩) I w' := by
  have hidl := (List.getElem?_eq_some_iff.1 hid).1
  have hself : B.b = some b → Own μ b := fun e => .of hid e
  have hnI : ¬ I b := fun hi => by
    rcases hb with e | e
    · exact hs.off b (hself e) hi
    · have := hs.ilt b hi; omega
  have hmem : ∀ c q, (⟨some c, q⟩ : Blk) ∈ μ.set id ⟨some b, n⟩ → c = b ∨ Own μ c := fun c q hc => by
    rcases List.mem_or_eq_of_mem_set hc with h | h
    · exact .inr ⟨q, h⟩
    · cases h; exact .inl rfl
  have hE : Ext μ.length μ I w (μ.set id ⟨some b, n⟩) I w' :=
    { get := fun i C hi hc => by
        by_cases e : i = id
        · subst e
          rw [hid] at hc; cases hc
          exact ⟨_, by rw [List.getElem?_set_self hidl], hle, fun e => hlt.elim .inr (fun h => by simp at e; omega), fun e e' => absurd (h0 e) e'⟩
        · exact ⟨C, by rw [List.getElem?_set_ne (fun h => e h.symm)]; exact hc, Nat.le_refl _, fun _ => .inl rfl, fun _ _ => rfl⟩
      len := Nat.le_refl _
      len' := by simp
      os := hos
      tape := htp
      output := hout
      size := hsz
      imm := fun c hc => ⟨hc, hk c (hs.ilt c hc) fun e => hnI (e ▸ hc)⟩
      shape := fun c cs e f hc => by
        by_cases hcb : c = b
        · subst hcb; exact hsh cs e f hc
        · exact ⟨cs, by rw [hk c (Array.getElem?_eq_some_iff.1 hc).1 hcb]; exact hc, rfl⟩
      inew := fun _ h => .inl h
      mnew := fun c ⟨q, hc⟩ => by
        rcases hmem c q hc with e | h
        · subst e
          rcases hb with e | e
          · exact .inl (hself e)
          · exact .inr e
        · exact .inl h
      keep := fun c hc hno => hk c hc fun e => by
        subst e
        rcases hb with e | e
        · exact hno (hself e)
        · omega }
  have hother : ∀ i C, i ≠ id → (μ.set id ⟨some b, n⟩)[i]? = some C → μ[i]? = some C := fun i C hi h => by rwa [List.getElem?_set_ne (fun e => hi e.symm)] at h
  have hone : ∀ i q, i ≠ id → (μ.set id ⟨some b, n⟩)[i]? = some ⟨some b, q⟩ → False := fun i q hi h => by
    have h1 := hother i _ hi h
    rcases hb with e | e
    · have : μ[id]? = some ⟨some b, B.n⟩ := by rw [hid, ← e]
      exact hi (hs.inj i id b _ _ h1 this)
    · have := hs.lt b (.mk h1); omega
  refine ⟨{ len := by simp [hs.len], inj := ?_, lt := ?_, off := ?_, ilt := fun c hc => Nat.lt_of_lt_of_le (hs.ilt c hc) hsz, objs := ?_ }, hE⟩
  · intro i j c q q' hi hj
    by_cases e1 : i = id <;> by_cases e2 : j = id
    · omega
    · subst e1
      rw [List.getElem?_set_self hidl] at hi; cases hi
      exact (hone j q' e2 hj).elim
    · subst e2
      rw [List.getElem?_set_self hidl] at hj; cases hj
      exact (hone i q e1 hi).elim
    · exact hs.inj i j c q q' (hother i _ e1 hi) (hother j _ e2 hj)
  · rintro c ⟨q, hc⟩
    rcases hmem c q hc with e | h
    · subst e; exact hbl
    · exact Nat.lt_of_lt_of_le (hs.lt c h) hsz
  · rintro c ⟨q, hc⟩ hi
    rcases hmem c q hc with e | h
    · subst e; exact hnI hi
    · exact hs.off c h hi
  · intro i ob C hob hC
    by_cases e : i = id
    · subst e
      rw [List.getElem?_set_self hidl] at hC; cases hC
      rw [List.getElem?_set] at hob
      simp at hob
      obtain ⟨-, rfl⟩ := hob
      exact ho _ hE
    · rw [List.getElem?_set_ne (fun h => e h.symm)] at hob
      have hC' := hother i C e hC
      refine (hs.objs i ob C hob hC').ext hE fun d hd => hk d (hs.lt d (.of hC' hd)) fun e' => ?_
      subst e'
      obtain ⟨cb, cn⟩ := C
      simp only at hd
      subst hd
      exact hone i cn e hC
theorem St.grow {w' : World} (hs : St μ I w H) {id b n : Nat} {B : Blk} {o : LObj} (hid : μ[id]? = some B) (hlt : B.n < n) (h0 : B.n = 0 → B.b = none) (hb : B.b = some b ∨ w.heap.size ≤ b) (hbl : b < w'.heap.size)
    (hk : ∀ c, c < w.heap.size → c ≠ b → w'.heap[c]? = w.heap[c]?) (hsz : w.heap.size ≤ w'.heap.size) (hos : w'.os = w.os) (htp : w'.tape = w.tape) (hout : w'.output = w.output)
    (hsh : ∀ c e f, w.heap[b]? = some (.cells c e f) → ∃ c', w'.heap[b]? = some (.cells c' e f) ∧ c'.size = c.size)
    (ho : ∀ μ', Ext μ.length μ I w μ' I w' → ORep μ' I w' o ⟨some b, n⟩) : St (μ.set id ⟨some b, n⟩) I w' (H.set id o) ∧ Ext μ.length μ I w (μ.set id ⟨some b, n⟩) I w' :=
  hs.growS hid (Nat.le_of_lt hlt) (.inr hlt) h0 hb hbl hk hsz hos htp hout hsh ho

end

section
variable {P : Program} {w : World}

theorem run_append_none {t ty : TypeId} {m bytes : Nat} (hT : slTy P t = some (m, bytes)) (base a2 : Option Addr) (len cap cap2 : Nat) (h : len ≤ cap) :
    (Builtin.append_ #[t, t] ty #[.slice base len cap, .slice a2 0 cap2]).run P w = .ok (.slice base len cap) w := by
  obtain ⟨e, i, z, hu, hi, hz, hzs, rfl, rfl, hpos⟩ := slTy_spec hT
  cases base <;> cases a2 <;> simp [Builtin.append_, run_underlying hu, sizeOf, typeInfo, hi, Builtin.lenOf, Builtin.firstCells, loadCells, loadCellsFrom, storeCells, h]

theorem run_append_room' {t ty e' : TypeId} {m bytes : Nat} (hT : slTy P t = some (m, bytes)) (g sLen sCap : Nat) (cur : Array Value) (hg : w.heap[g]? = some (.cells cur e' (0, 0)))
    (a : Addr) (q c : Nat) (news : List Value) (hl : news.length = q * m) (hnews : ∀ j u, news[j]? = some u → w.cell? (a.add j) = some u) (h1 : ∀ u ∈ news, one1 u = true)
    (hroom : sLen + q ≤ sCap) (hfit : sLen * m + news.length ≤ cur.size) :
    (Builtin.append_ #[t, t] ty #[.slice (some ⟨g, 0, none⟩) sLen sCap, .slice (some a) q c]).run P w =
      .ok (.slice (some ⟨g, 0, none⟩) (sLen + q) sCap) (w.setRow g (cur.toList.take (sLen * m) ++ news ++ cur.toList.drop (sLen * m + news.length)).toArray) := by
  obtain ⟨e, i, z, hu, hi, hz, hzs, rfl, rfl, hpos⟩ := slTy_spec hT
  have hf := run_firstCells_some (P := P) w i.size q a q c news hl hnews
  have hst := run_storeCells_at P g (sLen * i.size) e' news 0 cur w hg (by simpa using hfit) (fun u hu => by have := h1 u hu; cases u <;> simp_all [one1, Value.oneCell'])
  simp only [Nat.add_zero] at hst
  simp [Builtin.append_, run_underlying hu, sizeOf, typeInfo, hi, Builtin.lenOf, hroom, hf, Addr.add_lit, hst]

/-- Growing from a slice without room: from nothing, or from an older block. -/
theorem run_append_grows {t ty : TypeId} {m bytes : Nat} (hT : slTy P t = some (m, bytes)) (base : Option Addr) (sLen sCap : Nat) (olds : List Value) (hlo : olds.length = sLen * m)
    (holds : ∀ b, base = some b → ∀ j v, olds[j]? = some v → w.cell? (b.add j) = some v) (hb0 : base = none → sLen = 0 ∧ sCap = 0)
    (a : Addr) (q c : Nat) (news : List Value) (hl : news.length = q * m) (hnews : ∀ j v, news[j]? = some v → w.cell? (a.add j) = some v)
    (hg : sCap < sLen + q) (hsc : sLen ≤ sCap) (hbound : (sLen + q) * (bytes + 1) ≤ 140737488355328) :
    ∃ e z cap, (Builtin.append_ #[t, t] ty #[.slice base sLen sCap, .slice (some a) q c]).run P w =
      .ok (.slice (some ⟨w.heap.size, 0, none⟩) (sLen + q) cap) (w.drew.alloc (.cells (olds.toArray ++ news.toArray ++ Builtin.zeroCells z (cap - (sLen + q))) e)) ∧ sLen + q ≤ cap ∧ cap ≤ maxLen ∧ z.size = m := by
  obtain ⟨e, i, z, hu, hi, hz, hzs, rfl, rfl, hpos⟩ := slTy_spec hT
  have hsm : sLen + q ≤ 140737488355328 := Nat.le_trans (Nat.le_mul_of_pos_right _ (by omega)) hbound
  have hby : (sLen + q) * i.bytes ≤ 140737488355328 := Nat.le_trans (Nat.mul_le_mul_left _ (by omega)) hbound
  cases base with
  | none =>
    obtain ⟨rfl, rfl⟩ := hb0 rfl
    have ho : olds = [] := List.eq_nil_of_length_eq_zero (by simpa using hlo)
    subst ho
    have hr := run_append_nil (P := P) w t ty e i z hu hi hz a q c news hl hnews (by omega) (by omega) (by have := hby; simp only [Nat.zero_add] at this; omega)
    refine ⟨e, z.cells, grownCap w q 0 e, ?_, ?_, ?_, hzs⟩
    · simpa using hr
    · have := grownCap_ge w q 0 e; omega
    · exact grownCap_le_maxLen w q 0 e (by unfold maxLen; omega)
  | some b =>
    have hr := run_append_grow (P := P) w t ty e i z hu hi hz b sLen sCap olds hlo (holds b rfl) a q c news hl hnews hg (by omega) (growslice_fits (by omega) hby)
    exact ⟨e, z.cells, grownCap w (sLen + q) sCap e, hr, grownCap_ge w _ _ e, grownCap_le_maxLen w _ _ e (by unfold maxLen; omega), hzs⟩
end

section
variable {P : Program} {o : Oper} {env : Env} {H : List LObj}

/-- What is appended: a slice of which the elements are data. -/
def Src (H : List LObj) (l : LV) (m : Nat) (ys : List PV) : Prop :=
  ∀ μ I w v, St μ I w H → LRep μ I w l v → Elems m ys ∧ ∃ (a : Option Addr) (cap : Nat), v = .slice a ys.length cap ∧
    (0 < m → ys ≠ [] → ∃ (b off : Nat) (news : List Value), a = some ⟨b, off, none⟩ ∧ news.length = ys.length * m ∧ (∀ (j : Nat) u, news[j]? = some u → w.cell? ((⟨b, off, none⟩ : Addr).add j) = some u) ∧
      (∀ u ∈ news, one1 u = true) ∧ ∀ (j : Nat) c u, (flat ys)[j]? = some c → news[j]? = some u → Rep I w c u)

theorem Src.p {H : List LObj} {m : Nat} {ys : List PV} : Src H (.p (.slice m ys)) m ys := by
  intro μ I w v hs hr0
  obtain ⟨a, cap, f, rfl, hcap, hmax, hel, hc, hr⟩ := rep_slice (lrep_slice hr0)
  refine ⟨hel, a, cap, rfl, fun hm hne => ?_⟩
  have hfl := flat_length hel
  have hpos : 0 < (flat ys).length := by rw [hfl]; exact Nat.mul_pos hm (List.length_pos_iff.2 hne)
  obtain ⟨b, off, rfl, -, -⟩ := hc 0 _ (List.getElem?_eq_getElem hpos)
  refine ⟨b, off, (List.range (flat ys).length).map f, rfl, by simp [hfl, Nat.mul_comm], fun j u hu => ?_, fun u hu => ?_, fun j c u hcj hu => ?_⟩
  · rw [List.getElem?_map] at hu
    cases hx : (List.range (flat ys).length)[j]? with
    | none => rw [hx] at hu; cases hu
    | some j' =>
      rw [hx] at hu; cases hu
      obtain ⟨h1, h2⟩ := List.getElem?_eq_some_iff.1 hx
      simp at h1 h2; subst h2
      obtain ⟨b', off', hb', -, hcell⟩ := hc j _ (List.getElem?_eq_getElem h1)
      cases hb'
      rw [addr_add]; exact hcell
  · simp at hu
    obtain ⟨j, hj, rfl⟩ := hu
    have hcj := List.getElem?_eq_getElem hj
    exact (hr j _ hcj).one (flat_ones hel _ (List.getElem_mem _))
  · have h1 := (List.getElem?_eq_some_iff.1 hcj).1
    simp [h1] at hu
    subst hu
    exact hr j c hcj

theorem Src.zs {H : List LObj} {m : Nat} : Src H .zs m [] := by
  intro μ I w v hs hr
  cases hr
  exact ⟨.nil, _, 0, rfl, fun _ h => absurd rfl h⟩

theorem Src.vec {H : List LObj} {m id n len : Nat} {xs : List PV} (hH : nth H id = some (.vec m xs)) (hn : n = xs.length) (hl : len = n) : Src H (.vec m id n 0 len) m xs := by
  intro μ I w v hs hr
  obtain ⟨B, hid, hBn, hob, hf⟩ := vec_now hs hH hn hr
  cases hob with
  | vecE =>
    rcases hf with ⟨h0, a, rfl⟩ | ⟨b, cap, hB, -⟩
    · exact ⟨.nil, a, 0, rfl, fun _ h => absurd rfl h⟩
    · cases hB
  | @vec _ _ b vs e hb hlen hne hm hrep =>
    rcases hf with ⟨h0, a, rfl⟩ | ⟨b', cap, hB, rfl, hlc, hmax, c, e', hb', hsz⟩
    · exact absurd (List.eq_nil_of_length_eq_zero (by omega)) hne
    · cases hB
      refine ⟨hm, _, cap, by rw [hl, hn], fun hpos _ => ⟨b, 0, vs.toList.take (xs.length * m), by rw [Nat.mul_zero], ?_, fun j u hu => ?_, fun u hu => ?_, fun j c' u hc hu => ?_⟩⟩
      · rw [List.length_take, Array.length_toList]
        show min (xs.length * m) vs.size = xs.length * m
        rw [Nat.mul_comm xs.length m]; omega
      · rw [addr_add, Nat.zero_add]
        rw [List.getElem?_take] at hu
        split at hu
        · simp [World.cell?, hb]; simpa using hu
        · cases hu
      · have hu' := List.mem_of_mem_take hu
        obtain ⟨j, hj, rfl⟩ := List.mem_iff_getElem.1 hu
        simp at hj
        have hjf : j < (flat xs).length := by rw [flat_length hm, Nat.mul_comm]; omega
        have hc' := List.getElem?_eq_getElem hjf
        have := hrep j _ vs[j] hc' (Array.getElem?_eq_getElem (by omega))
        simpa using this.one (flat_ones hm _ (List.getElem_mem _))
      · rw [List.getElem?_take] at hu
        split at hu
        · exact hrep j c' u hc (by simpa using hu)
        · cases hu

theorem split_rep {I : Nat → Prop} {w : World} {m : Nat} {xs ys : List PV} (hx : Elems m xs) {olds news : List Value} {rest : List Value} (ho : olds.length = xs.length * m) (hn : news.length = ys.length * m)
    (h1 : ∀ (j : Nat) c u, (flat xs)[j]? = some c → olds[j]? = some u → Rep I w c u) (hy : Elems m ys) (h2 : ∀ (j : Nat) c u, (flat ys)[j]? = some c → news[j]? = some u → Rep I w c u)
    (j : Nat) (c : PV) (u : Value) (hc : (flat (xs ++ ys))[j]? = some c) (hu : (olds ++ news ++ rest)[j]? = some u) : Rep I w c u := by
  rw [flat_append, List.getElem?_append] at hc
  rw [List.append_assoc, List.getElem?_append, List.getElem?_append] at hu
  have hfx := flat_length hx
  have hfy := flat_length hy
  rw [Nat.mul_comm] at hfx hfy
  split at hc
  · rw [if_pos (by omega)] at hu; exact h1 j c u hc hu
  · rename_i hj
    have := (List.getElem?_eq_some_iff.1 hc).1
    rw [if_neg (by omega), if_pos (by omega)] at hu
    rw [hfx, ← ho] at hc
    exact h2 _ c u hc hu

theorem rep_list {I : Nat → Prop} {w w' : World} {xs : List PV} {olds : List Value} (hI : ∀ b, I b → w'.heap[b]? = w.heap[b]?) (h : ∀ (j : Nat) c u, (flat xs)[j]? = some c → olds[j]? = some u → Rep I w c u) :
    ∀ (j : Nat) c u, (flat xs)[j]? = some c → olds[j]? = some u → Rep I w' c u := fun j c u hc hu => (h j c u hc hu).mono fun b hb => ⟨hb, hI b hb⟩

/-- 'append(s, x..)', s being one's own: what comes. -/
theorem append_core {t ty : TypeId} {m bytes id n len : Nat} {xs ys : List PV} {l : LV} {μ : List Blk} {I : Nat → Prop} {w : World} {vx vy : Value} (hs : St μ I w H) (hr : LRep μ I w (.vec m id n 0 len) vx)
    (hH : nth H id = some (.vec m xs)) (hn : n = xs.length) (hlen : len = n) (hry : LRep μ I w l vy) (hc : Src H l m ys) (hT : slTy P t = some (m, bytes))
    (hb : (xs.length + ys.length) * (bytes + 1) ≤ 140737488355328) :
    ∃ v' w' μ', (Builtin.append_ #[t, t] ty #[vx, vy]).run P w = .ok v' w' ∧ St μ' I w' (H.set id (.vec m (xs ++ ys))) ∧ LRep μ' I w' (.vec m id (n + ys.length) 0 (n + ys.length)) v' ∧ Ext μ.length μ I w μ' I w' := by
  obtain ⟨hyel, a2, cap2, hyv, hnews⟩ := hc μ I w _ hs hry
  obtain ⟨B, hid, hBn, hob, hf⟩ := vec_now hs hH hn hr
  obtain ⟨el, i, z, hu, hi, hz, hzs, hsz, hby, hpos⟩ := slTy_spec hT
  have hHid : H[id]? = some (.vec m xs) := by rw [← nth_eq]; exact hH
  have e2 : id < H.length := (List.getElem?_eq_some_iff.1 hHid).1
  by_cases hys : ys = []
  · subst hys
    have hbase : ∃ base cap, vx = .slice base n cap ∧ n ≤ cap := by
      rcases hf with ⟨h0, b, hv⟩ | ⟨b, cap, hB, hv, hlc, hmax, -⟩
      · exact ⟨b, 0, by rw [hv, ← hlen, h0], by omega⟩
      · exact ⟨_, cap, by rw [hv, hlen], by omega⟩
    obtain ⟨base, cap, hxv, hnc⟩ := hbase
    have hrun := run_append_none (P := P) (w := w) (ty := ty) hT base a2 n cap cap2 hnc
    have hset : H.set id (.vec m (xs ++ [])) = H := by
      rw [List.append_nil]
      apply List.ext_getElem?
      intro j
      rw [List.getElem?_set]
      split
      · rename_i e; subst e; first | exact hHid.symm | (rw [if_pos e2]; exact hHid.symm)
      · rfl
    refine ⟨.slice base n cap, w, μ, ?_, by rw [hset]; exact hs, ?_, Ext.refl _ _ _ _ (Nat.le_refl _)⟩
    · rw [hxv, hyv]; exact hrun
    · rw [← hxv]
      simp only [List.length_nil, Nat.add_zero]
      rw [hlen] at hr
      exact hr
  · obtain ⟨b2, off2, news, rfl, hnl, hnc2, hn1, hnr⟩ := hnews hpos hys
    have hyl : 0 < ys.length := List.length_pos_iff.2 hys
    have hxel : Elems m xs := by
      cases hob with
      | vecE => exact .nil
      | vec _ _ _ h _ => exact h
    have hxyel := hxel.append hyel
    have hB0 : B.n = 0 → B.b = none := fun e => by
      cases hob with
      | vecE => rfl
      | vec _ _ hne => simp only at e; exact absurd (List.eq_nil_of_length_eq_zero e) hne
    have hxy0 : xs ++ ys ≠ [] := by simp [hys]
    have hlenxy : (xs ++ ys).length = n + ys.length := by simp [hn]
    -- in a new block
    have fresh : ∀ (base : Option Addr) (cap : Nat) (olds : List Value), vx = .slice base n cap → n ≤ cap → cap < n + ys.length → olds.length = n * m →
        (∀ b, base = some b → ∀ (j : Nat) v, olds[j]? = some v → w.cell? (b.add j) = some v) → (base = none → n = 0 ∧ cap = 0) →
        (∀ (j : Nat) c u, (flat xs)[j]? = some c → olds[j]? = some u → Rep I w c u) → ∃ v' w' μ', (Builtin.append_ #[t, t] ty #[vx, vy]).run P w = .ok v' w' ∧ St μ' I w' (H.set id (.vec m (xs ++ ys))) ∧ LRep μ' I w' (.vec m id (n + ys.length) 0 (n + ys.length)) v' ∧ Ext μ.length μ I w μ' I w' := by
      intro base cap olds hxv hnc hlt hol holds hb0 hor
      obtain ⟨e, zc, cap', hrun, hc1, hc2, hz3⟩ := run_append_grows (P := P) (w := w) (ty := ty) hT base n cap olds hol holds hb0 ⟨b2, off2, none⟩ ys.length cap2 news hnl hnc2 hlt hnc (by rw [hn]; exact hb)
      obtain ⟨blk, hblk⟩ : ∃ blk, blk = olds.toArray ++ news.toArray ++ Builtin.zeroCells zc (cap' - (n + ys.length)) := ⟨_, rfl⟩
      rw [← hblk] at hrun
      have hbsz : blk.size = m * (0 + cap') := by
        rw [hblk]; simp [size_zeroCells, hol, hnl, hz3]
        rw [← Nat.add_mul, ← Nat.add_mul, Nat.mul_comm]
        congr 1; omega
      have hnew : (w.drew.alloc (.cells blk e)).heap[w.heap.size]? = some (.cells blk e) := heap_alloc_new w.drew _
      have hold : ∀ c, c < w.heap.size → (w.drew.alloc (.cells blk e)).heap[c]? = w.heap[c]? := fun c hc => heap_alloc_old w.drew _ hc
      obtain ⟨hs', hE⟩ := hs.grow (w' := w.drew.alloc (.cells blk e)) (id := id) (b := w.heap.size) (n := n + ys.length) (o := .vec m (xs ++ ys)) hid (by omega) hB0 (.inr (Nat.le_refl _)) (by show w.heap.size < (w.heap.push _).size; simp)
        (fun c hc _ => hold c hc) (by show w.heap.size ≤ (w.heap.push _).size; simp) rfl rfl rfl (fun c e f h => by have := (Array.getElem?_eq_some_iff.1 h).1; omega)
        (fun μ' hE => by
          rw [← hlenxy]
          refine .vec hnew (by rw [hbsz, hlenxy, Nat.zero_add]; exact Nat.mul_le_mul_left _ hc1) hxy0 hxyel fun j c u hcj hu => ?_
          have hu' : blk.toList[j]? = some u := by simpa using hu
          rw [hblk] at hu'
          simp only [Array.toList_append] at hu'
          have hI : ∀ b, I b → (w.drew.alloc (.cells blk e)).heap[b]? = w.heap[b]? := fun b hb => hold b (hs.ilt b hb)
          exact split_rep (I := I) hxel (by rw [hol, hn]) hnl (rep_list hI hor) hyel (rep_list hI hnr) j c u hcj hu')
      refine ⟨.slice (some ⟨w.heap.size, 0, none⟩) (n + ys.length) cap', _, _, ?_, hs', ?_, hE⟩
      · rw [hxv, hyv]; exact hrun
      · have hidl := (List.getElem?_eq_some_iff.1 hid).1
        exact .vec (List.getElem?_set_self hidl) rfl (Nat.le_refl _) fun _ => .inr ⟨w.heap.size, cap', rfl, by rw [Nat.mul_zero], hc1, hc2, blk, e, hnew, hbsz⟩
    rcases hf with ⟨h0, b, hv⟩ | ⟨b, cap, hB, hv, hlc, hmax, cc, ee, hcb, hcs⟩
    · have hn0 : n = 0 := by omega
      have hx0 : xs = [] := List.eq_nil_of_length_eq_zero (by omega)
      refine fresh b 0 [] (by rw [hv, hn0]) (by omega) (by omega) (by simp [hn0]) (fun _ _ j v h => by simp at h) (fun _ => ⟨hn0, rfl⟩) ?_
      rw [hx0]; intro j c u h; simp [flat] at h
    · rw [Nat.mul_zero] at hv
      cases hob with
      | vecE => cases hB
      | @vec _ _ b' vs e hbh hlen' hne hm hrep =>
        cases hB
        rw [hbh] at hcb
        simp only [Option.some.injEq, Obj.cells.injEq] at hcb
        obtain ⟨rfl, rfl, -⟩ := hcb
        have hnm : n * m ≤ vs.size := by rw [hn, Nat.mul_comm]; exact hlen'
        have hor : ∀ (j : Nat) c u, (flat xs)[j]? = some c → (vs.toList.take (n * m))[j]? = some u → Rep I w c u := fun j c u hc hu => by
          rw [List.getElem?_take] at hu
          split at hu
          · exact hrep j c u hc (by simpa using hu)
          · cases hu
        by_cases hroom : n + ys.length ≤ cap
        · have hfit : n * m + news.length ≤ vs.size := by
            rw [hnl, ← Nat.add_mul, hcs, Nat.zero_add, Nat.mul_comm]; exact Nat.mul_le_mul_left _ hroom
          have hrun := run_append_room' (P := P) (w := w) (ty := ty) hT b n cap vs hbh ⟨b2, off2, none⟩ ys.length cap2 news hnl hnc2 hn1 hroom hfit
          obtain ⟨blk, hblk⟩ : ∃ blk, blk = (vs.toList.take (n * m) ++ news ++ vs.toList.drop (n * m + news.length)).toArray := ⟨_, rfl⟩
          rw [← hblk] at hrun
          have hbsz : blk.size = vs.size := by rw [hblk]; simp; omega
          have hnew := setRow_heap w b vs blk _ (0, 0) hbh
          obtain ⟨hs', hE⟩ := hs.grow (w' := w.setRow b blk) (id := id) (b := b) (n := n + ys.length) (o := .vec m (xs ++ ys)) hid (by simp only at hBn ⊢; omega) hB0 (.inl rfl) (by have := (Array.getElem?_eq_some_iff.1 hbh).1; simp [World.setRow]; omega)
            (fun c _ hc => setRow_other w b c _ hc) (by simp [World.setRow]) rfl rfl rfl (fun c e f h => by rw [hbh] at h; cases h; exact ⟨blk, hnew, hbsz⟩)
            (fun μ' hE => by
              rw [← hlenxy]
              refine .vec hnew (by rw [hbsz, hcs, hlenxy, Nat.zero_add]; exact Nat.mul_le_mul_left _ hroom) hxy0 hxyel fun j c u hcj hu => ?_
              have hu' : blk.toList[j]? = some u := by simpa using hu
              rw [hblk] at hu'
              simp only at hu'
              have hI : ∀ c, I c → (w.setRow b blk).heap[c]? = w.heap[c]? := fun c hc => (hE.imm c hc).2
              exact split_rep (I := I) hxel (by simp; rw [← hn]; omega) hnl (rep_list hI hor) hyel (rep_list hI hnr) j c u hcj hu')
          refine ⟨.slice (some ⟨b, 0, none⟩) (n + ys.length) cap, _, _, ?_, hs', ?_, hE⟩
          · rw [hv, hyv, hlen]; exact hrun
          · have hidl := (List.getElem?_eq_some_iff.1 hid).1
            exact .vec (List.getElem?_set_self hidl) rfl (Nat.le_refl _) fun _ => .inr ⟨b, cap, rfl, by rw [Nat.mul_zero], hroom, hmax, blk, _, hnew, by rw [hbsz, hcs]⟩
        · refine fresh (some ⟨b, 0, none⟩) cap (vs.toList.take (n * m)) (by rw [hv, hlen]) (by omega) (by omega) (by simp; omega) (fun bb hbb j v hj => ?_) (by simp) hor
          cases hbb
          rw [addr_add, Nat.zero_add]
          rw [List.getElem?_take] at hj
          split at hj
          · simp [World.cell?, hbh]; simpa using hj
          · cases hj

theorem append_exec {t : TypeId} {x y : Operand} {a : Act} {w w' : World} {v' : Value} (ho : o.op = .call { callee := .builtin .append, args := #[x, y], argTypes := #[t, t] })
    (h1 : (Builtin.append_ #[t, t] o.type #[a.eval x, a.eval y]).run P w = .ok v' w') : (execOp a.eval o).run P w = .ok (.value v') w' := by
  simp only [execOp, ho, resolve, invoke, builtin, Sem.run_bind, Sem.run_pure, Result.andThen_ok, List.map_toArray, List.map_cons, List.map_nil, h1]

/-- 'append(s, x..)', s being one's own. -/
theorem LOp.append {t : TypeId} {x y : Operand} {m bytes id n len : Nat} {xs ys : List PV} {l : LV} {H' : List LObj}
    (ho : o.op = .call { callee := .builtin .append, args := #[x, y], argTypes := #[t, t] }) (hx : lev env x = some (.vec m id n 0 len)) (hH : nth H id = some (.vec m xs)) (hn : n = xs.length) (hlen : len = n)
    (hy : lev env y = some l) (hc : Src H l m ys) (hT : slTy P t = some (m, bytes)) (hb : (xs.length + ys.length) * (bytes + 1) ≤ 140737488355328) (hH' : setC H id (.vec m (xs ++ ys)) = some H') :
    LOp P o env H (Is (.vec m id (n + ys.length) 0 (n + ys.length)) H') :=
  LOp.step fun a w μ I hs he => by
    have hr := he.ev (x := x) (by simp [ho, Op.operands, Call.operands]) hx
    have hry := he.ev (x := y) (by simp [ho, Op.operands, Call.operands]) hy
    obtain ⟨e1, e2⟩ := setC_eq hH'
    subst e1
    obtain ⟨v', w', μ', h1, h2, h3, h4⟩ := append_core (ty := o.type) hs hr hH hn hlen hry hc hT hb
    exact ⟨v', w', μ', append_exec ho h1, h2, h3, h4⟩

theorem St.lazy {μ : List Blk} {I : Nat → Prop} {w : World} (hs : St μ I w H) (m : Nat) : St (μ ++ [⟨none, 0⟩]) I w (H ++ [.vec m []]) ∧ Ext μ.length μ I w (μ ++ [⟨none, 0⟩]) I w := by
  have hown : ∀ c, Own (μ ++ [⟨none, 0⟩]) c → Own μ c := fun c ⟨q, h⟩ => by
    rcases List.mem_append.1 h with h | h
    · exact ⟨q, h⟩
    · simp at h
  have hE : Ext μ.length μ I w (μ ++ [⟨none, 0⟩]) I w :=
    ⟨fun i B hi hc => ⟨B, by rw [List.getElem?_append_left hi]; exact hc, Nat.le_refl _, fun _ => .inl rfl, fun _ _ => rfl⟩, Nat.le_refl _, by simp, rfl, rfl, rfl, Nat.le_refl _, fun _ h => ⟨h, rfl⟩,
      fun _ c _ _ h => ⟨c, h, rfl⟩, fun _ h => .inl h, fun c h => .inl (hown c h), fun _ _ _ => rfl⟩
  have hidx : ∀ (i : Nat) (B : Blk), (μ ++ [⟨none, 0⟩])[i]? = some B → μ[i]? = some B ∨ (i = μ.length ∧ B = ⟨none, 0⟩) := fun i B h => by
    rw [List.getElem?_append] at h
    split at h
    · exact .inl h
    · rename_i hi
      have h1 := (List.getElem?_eq_some_iff.1 h).1
      simp at h1
      rw [show i - μ.length = 0 by omega] at h
      simp at h
      exact .inr ⟨by omega, h.symm⟩
  refine ⟨{ len := by simp [hs.len], inj := fun i j b n n' hi hj => ?_, lt := fun c h => hs.lt c (hown c h), off := fun c h => hs.off c (hown c h), ilt := hs.ilt, objs := fun i o B ho hB => ?_ }, hE⟩
  · rcases hidx i _ hi with h1 | ⟨-, h1⟩
    · rcases hidx j _ hj with h2 | ⟨-, h2⟩
      · exact hs.inj i j b n n' h1 h2
      · cases h2
    · cases h1
  · rcases hidx i _ hB with h1 | ⟨e, rfl⟩
    · have hi := (List.getElem?_eq_some_iff.1 h1).1
      rw [hs.len] at hi
      rw [List.getElem?_append_left hi] at ho
      exact (hs.objs i o B ho h1).ext hE fun _ _ => rfl
    · subst e
      rw [hs.len, List.getElem?_append_right (Nat.le_refl _)] at ho
      simp at ho
      subst ho
      exact .vecE

/-- 'append(nil, x..)', and of a slice without room. -/
theorem LOp.appendZ {t : TypeId} {x y : Operand} {m bytes id : Nat} {ys : List PV} {l : LV} {H' : List LObj}
    (ho : o.op = .call { callee := .builtin .append, args := #[x, y], argTypes := #[t, t] }) (hx : lev env x = some .zs) (hid : lenC H = some id)
    (hy : lev env y = some l) (hc : Src (H ++ [.vec m []]) l m ys) (hT : slTy P t = some (m, bytes)) (hb : ys.length * (bytes + 1) ≤ 140737488355328) (hH' : appC H (.vec m ys) = some H') :
    LOp P o env H (Is (.vec m id ys.length 0 ys.length) H') :=
  LOp.step fun a w μ I hs he => by
    have hr := he.ev (x := x) (by simp [ho, Op.operands, Call.operands]) hx
    have hry := he.ev (x := y) (by simp [ho, Op.operands, Call.operands]) hy
    have hid' := lenC_eq hid
    have hH2 := appC_eq hH'
    subst hH2
    obtain ⟨hs', hE'⟩ := hs.lazy m
    have hidm : (μ ++ [(⟨none, 0⟩ : Blk)])[id]? = some ⟨none, 0⟩ := by rw [hid', ← hs.len]; simp
    generalize hv : a.eval x = vx at hr
    cases hr with
    | @zs ad =>
      have hr' : LRep (μ ++ [(⟨none, 0⟩ : Blk)]) I w (.vec m id 0 0 0) (.slice ad 0 0) := .vec hidm rfl (Nat.le_refl _) fun _ => .inl ⟨rfl, ad, rfl⟩
      obtain ⟨v', w', μ', h1, h2, h3, h4⟩ := append_core (ty := o.type) (xs := []) hs' hr' (by rw [nth_eq, hid']; simp) rfl rfl (hry.ext hE') hc hT (by simpa using hb)
      rw [← hv] at h1
      have e : (H ++ [LObj.vec m []]).set id (.vec m ([] ++ ys)) = H ++ [.vec m ys] := by rw [hid', List.set_append_right _ _ (Nat.le_refl _)]; simp
      rw [e] at h2
      simp only [Nat.zero_add] at h3
      exact ⟨v', w', μ', append_exec ho h1, h2, h3, hE'.trans (h4.weak (by simp))⟩
end
end Go.Mg
