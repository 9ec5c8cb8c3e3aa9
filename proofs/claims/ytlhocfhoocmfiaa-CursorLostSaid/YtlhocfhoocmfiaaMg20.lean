/- A row that says 'for every input it answers true, and the input reads as it did', from the law's contract. Conditions: none. -/
import Derived.Test.YtlhocfhoocmfiaaMg19
namespace Go.Mg
open Go.ChangeShapes Go.WideShapes Go.ChangeAt Go.RowKit

section
variable {H : Type} {enc : TypeId × Value → H} {P : Program} {w : World} {base : Nat} {spare : Nat → Bool} {held : Bool}

theorem okWide_array {n : Nat} {e t : TypeId} {r : Reach} {b0 : Nat} {v : Value} (ht : P.underlying t = some (.array n e)) (h : Value.okWide P w r b0 t v) : ∃ cs, v = .agg cs ∧ cs.size = P.cellsOf t := by
  simp only [Value.okWide, ht] at h
  obtain ⟨cs, h1, h2, _⟩ := h
  exact ⟨cs, h1, h2⟩

theorem rep_of_cells {I : Nat → Prop} {ts : List TS} {ps : List PV} {cs : Array Value} (h : RepC I w ts ps cs.toList) : Rep I w (.agg ps) (.agg cs) := by
  obtain ⟨h1, h2⟩ := h.len
  have hsz : cs.size = ps.length := by simp at h2; omega
  refine .agg hsz (fun c hc => ?_) fun i c v hc hv => (h.get i c v hc (by simpa using hv)).2
  obtain ⟨j, hj, rfl⟩ := List.mem_iff_getElem.1 hc
  exact (h.get j _ (cs.toList[j]'(by simp; omega)) (List.getElem?_eq_getElem hj) (List.getElem?_eq_getElem _)).1

theorem rep_of_cell {I : Nat → Prop} {T : TS} {ps : List PV} {v : Value} (h : RepC I w [T] ps [v]) : ∃ p, TIs T p ∧ Rep I w p v := by
  cases h with
  | cons h ho hr hs => exact ⟨_, h, hr⟩

theorem arg_open {d : Nat} {t : TypeId} {T : TS} {r : Reach} {b0 : Nat} {v : Value} {D : DataW H} {ps : List MemPlace} (hT : tsOf P d t = some T) (hval : Value.okWide P w r b0 t v) (h : DataW.Trod enc P w base spare held t v D ps) :
    ∃ p, TIs T p ∧ Rep (· < w.heap.size) w p v := by
  obtain ⟨fuel, hf⟩ := h
  obtain ⟨qs, hq⟩ := trod_open d t T hT fuel _ _ hf
  cases d with
  | zero => cases hT
  | succ d =>
    unfold tsOf at hT
    split at hT
    · rename_i k hu
      cases hT
      obtain ⟨n, rfl⟩ := okWide_int hu hval
      exact rep_of_cell hq
    · rename_i hu
      cases hT
      obtain ⟨b, rfl⟩ := okWide_bool hu hval
      exact rep_of_cell hq
    · rename_i e hu
      split at hT
      · cases hT
      · split at hT
        · cases hT
          obtain ⟨a, l, c, rfl⟩ := okWide_slice hu hval
          exact rep_of_cell hq
        · cases hT
    · rename_i fs hu
      split at hT
      · cases hT
      · split at hT
        · cases hT
          obtain ⟨cs, rfl, -⟩ := okWide_struct hu hval
          exact ⟨.agg qs, .agg hq.tiss, rep_of_cells hq⟩
        · cases hT
    · rename_i n e hu
      split at hT
      · cases hT
      · split at hT
        · cases hT
          obtain ⟨cs, rfl, -⟩ := okWide_array hu hval
          exact ⟨.agg qs, .agg hq.tiss, rep_of_cells hq⟩
        · cases hT
    · cases hT

def tsAll (P : Program) (d : Nat) : List TypeId → Option (List TS)
  | [] => some []
  | t :: r => match tsOf P d t, tsAll P d r with
    | some T, some Ts => some (T :: Ts)
    | _, _ => none

theorem args_open {d : Nat} {r : Reach} {b0 : Nat} : ∀ {ts : List TypeId} {Ts : List TS} {vs : List Value} {ds : List (DataW H)} {ps : List MemPlace}, tsAll P d ts = some Ts → DataW.TrodAll enc P w base spare held ts vs ds ps →
    (∀ (j : Nat) t v, ts[j]? = some t → vs[j]? = some v → Value.okWide P w r b0 t v) → ∃ qs, TIss Ts qs ∧ RepL (· < w.heap.size) w qs vs ∧ ds.length = ts.length
  | [], Ts, vs, ds, ps, hT, h, _ => by
    cases hT
    obtain ⟨rfl, rfl, rfl⟩ := trodAll_nil h
    exact ⟨[], .nil, trivial, rfl⟩
  | t :: ts, Ts, vs, ds, ps, hT, h, hval => by
    obtain ⟨v, vs', D, ds', p, q, rfl, rfl, rfl, h1, h2⟩ := trodAll_cons h
    unfold tsAll at hT
    split at hT
    · rename_i T Ts' e1 e2
      cases hT
      obtain ⟨x, hx, hr⟩ := arg_open e1 (hval 0 t v rfl rfl) h1
      obtain ⟨qs, hqs, hrs, hl⟩ := args_open e2 h2 fun j t v hj hv => hval (j + 1) t v (by simpa using hj) (by simpa using hv)
      exact ⟨x :: qs, .cons hx hqs, ⟨hr, hrs⟩, by simp [hl]⟩
    · cases hT

def readAll (P : Program) : List TypeId → Bool
  | [] => true
  | t :: r => P.readableRec t && Nat.blt t P.types.size && readAll P r

theorem args_stay {W W' : World} {sp : Nat → Bool} (hl : laidOutB P = true) (hb : Below W.heap.size W W') : ∀ {ts : List TypeId} {vs : List Value} {ds : List (DataW H)} {ps : List MemPlace}, readAll P ts = true →
    DataW.TrodAll enc P W 0 (fun _ => true) true ts vs ds ps → (∀ p ∈ ps, p.block < W.heap.size) → (∀ p ∈ ps, sp p.block = true) → DataW.TrodAll enc P W' 0 sp true ts vs ds ps
  | [], vs, ds, ps, _, h, _, _ => by
    obtain ⟨rfl, rfl, rfl⟩ := trodAll_nil h
    rfl
  | t :: ts, vs, ds, ps, hr, h, hlt, hsp => by
    obtain ⟨v, vs', D, ds', p, q, rfl, rfl, rfl, h1, h2⟩ := trodAll_cons h
    simp only [readAll, Bool.and_eq_true] at hr
    refine ⟨p, q, WideElems.Trod_stays hl hr.1.1 (by simpa using hr.1.2) h1 (fun x hx => hb.same (hlt x (List.mem_append_left _ hx))) (fun x hx => hsp x (List.mem_append_left _ hx)),
      args_stay hl hb hr.2 h2 (fun x hx => hlt x (List.mem_append_right _ hx)) (fun x hx => hsp x (List.mem_append_right _ hx)), rfl⟩

/-- As the kit's word for 'nothing turned', with frozen places asked for among those that were met alone. -/
theorem post_same {f : Func} {s : ChangeSpec} {apart fresh handsOn again : Bool} {W W' : World} {args : Array Value} {v : Value} {ds gs : List (DataW H)} {before pa pv : List MemPlace}
    (hW : DataW.Whole enc P f.params.toList s.vars apart W args.toList ds gs before)
    (hres : ∀ (b : Nat) (sp : Nat → Bool) (hd : Bool), DataW.TrodAll enc P W' b sp hd f.resultTypes.toList (v.resultList f.resultTypes.size) (s.fn H (ds ++ gs)).results [])
    (hargs : ∀ sp : Nat → Bool, (∀ p ∈ before, sp p.block = true) → DataW.TrodAll enc P W' 0 sp true f.params.toList args.toList (s.fn H (ds ++ gs)).args pa)
    (hvars : ∀ sp : Nat → Bool, (∀ p ∈ before, sp p.block = true) → DataW.TrodVars enc P W' sp s.vars (s.fn H (ds ++ gs)).vars pv)
    (hps : before = pa ++ pv) (hk : W.keptBut W' (· ∈ before)) (hfz : ∀ b off, MemPlace.cell b off ∈ before → W'.frozen? ⟨b, off, none⟩ = W.frozen? ⟨b, off, none⟩)
    (hok : ∀ (j : Nat) (t : TypeId) (r : Value), f.resultTypes[j]? = some t → (v.resultList f.resultTypes.size)[j]? = some r → Value.okWide P W' .any 0 t r) :
    s.post enc P f apart fresh handsOn again W args v W' := by
  have hold : ∀ p ∈ before, (fun b => decide (b < W.heap.size)) p.block = true := fun p hp => by simpa using hW.lt p hp
  refine ⟨ds, gs, before, [], pa, pv, hW, hres _ _ _, hargs _ hold, hvars _ hold, World.keptBut_mono (fun p hp => ⟨hp, ?_⟩) hk, fun _ => ?_⟩
  · rw [hps, List.mem_append] at hp
    exact Or.inr hp
  · obtain ⟨_, _, _, _, _, hz, hn⟩ := hW
    refine ⟨hok, _, _, ([] ++ pa) ++ pv, ⟨[] ++ pa, pv, trodAll_append (hargs _ (fun _ _ => rfl)) (hres _ _ _), hvars _ (fun _ _ => rfl), rfl, ?_, ?_⟩, ?_⟩
    · intro b off hp
      have hp' : MemPlace.cell b off ∈ before := by rw [hps]; simpa using hp
      rw [hfz b off hp']
      exact hz b off hp'
    · intro ha
      have := hn ha
      rw [hps] at this
      simpa using this
    · intro p hp _
      rw [hps]
      simpa using hp

/-- THE LAW's ROW, for every input. -/
theorem law_calls {k : FuncId} {fn : Func} {s : ChangeSpec} {apart fresh handsOn again : Bool} {d : Nat} {ts : List TypeId} {Ts : List TS} {bt : TypeId} (hl : laidOutB P = true) (hp : fn.params.toList = ts) (hrd : readAll P ts = true) (hTs : tsAll P d ts = some Ts)
    (hvars : s.vars = []) (hres : fn.resultTypes = #[bt]) (hbt : P.underlying bt = some .bool)
    (hspec : ∀ (H : Type) (ds : List (DataW H)), ds.length = ts.length → (s.fn H ds).results = [.lit (.bool true)] ∧ (s.fn H ds).args = ds ∧ (s.fn H ds).vars = [])
    (law : ∀ qs, TIss Ts qs → LPure P k qs [.bool true]) (W : World) (b0 : Nat) (args : Array Value) (ds gs : List (DataW H)) (before : List MemPlace)
    (hval : ∀ (j : Nat) t v, fn.params[j]? = some t → args[j]? = some v → Value.okWide P W .any b0 t v) (hW : DataW.Whole enc P fn.params.toList s.vars apart W args.toList ds gs before) :
    Calls P k args W fun e W' => ∃ v, e = .returned v ∧ s.post enc P fn apart fresh handsOn again W args v W' := by
  have hW' := hW
  obtain ⟨p, q, hA, hV, rfl, hfz, hnd⟩ := hW
  rw [hvars] at hV
  obtain ⟨rfl, rfl⟩ := trodVars_none hV
  rw [hp] at hA
  obtain ⟨qs, hqs, hrep, hlen⟩ := args_open hTs hA (fun j t v hj hv => hval j t v (by rw [← hp] at hj; simpa using hj) (by simpa using hv))
  refine (law qs hqs args W (· < W.heap.size) (fun _ h => h) hrep).mono ?_
  rintro e W' ⟨v, rfl, hv, hb⟩
  have hv' : v = .bool true := by
    cases hv with
    | p h => cases h; rfl
  subst hv'
  obtain ⟨s1, s2, s3⟩ := hspec H (ds ++ []) (by simpa using hlen)
  refine ⟨_, rfl, post_same (pa := p) (pv := []) hW' ?_ ?_ ?_ (by simp) (hb.frame _) ?_ ?_⟩
  · intro b sp hd
    rw [s1, hres]
    exact trodAll_mk1 (shut_bool hbt true)
  · intro sp hsp
    rw [s2, List.append_nil, hp]
    exact args_stay hl hb hrd hA (fun x hx => hW'.lt x (List.mem_append_left _ hx)) (fun x hx => hsp x (List.mem_append_left _ hx))
  · intro sp hsp
    rw [s3, hvars]
    rfl
  · exact fun b off hp => hb.frozen (hW'.lt _ hp)
  · exact ok_one hres rfl (okWide_bool_mk hbt true)
end
theorem tissCons {t : TS} {ts : List TS} {qs : List PV} (h : TIss (t :: ts) qs) : ∃ p ps, qs = p :: ps ∧ TIs t p ∧ TIss ts ps := by
  cases h with
  | cons h hs => exact ⟨_, _, rfl, h, hs⟩
theorem tissNil {qs : List PV} (h : TIss [] qs) : qs = [] := by cases h; rfl
end Go.Mg
