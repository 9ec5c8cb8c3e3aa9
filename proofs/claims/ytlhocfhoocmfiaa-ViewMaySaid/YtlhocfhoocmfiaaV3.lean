/- Plain laws of views: lists of blocks and votes, and what may be at all. Plain laws of views: which views may be. Plain laws of views: what is taken. Plain laws of views: what is taken, as the program does it. Plain laws of views: votes that are taken, as the program does it. Plain laws of views: view.Take. Plain laws of views: what holds of what is taken. The laws of views' example. Conditions: none. -/
import Derived.Test.YtlhocfhoocmfiaaD2
import Derived.Test.YtlhocfhoocmfiaaGH
import Derived.Test.YtlhocfhoocmfiaaV1
import Derived.Test.YtlhocfhoocmfiaaV2
namespace Go.Mg
def firstF {R : Type} (f : Nat → Option R) : Nat → Nat → Option R
  | _, 0 => none
  | k, d + 1 => match f k with
    | some r => some r
    | none => firstF f (k + 1) d
theorem firstF_none {R : Type} {f : Nat → Option R} : ∀ {d k : Nat}, firstF f k d = none ↔ ∀ j, k ≤ j → j < k + d → f j = none
  | 0, k => ⟨fun _ j h1 h2 => by omega, fun _ => rfl⟩
  | d + 1, k => by
    unfold firstF
    cases h : f k with
    | some r => exact ⟨fun h => (by cases h), fun h2 => (by rw [h2 k (Nat.le_refl _) (by omega)] at h; cases h)⟩
    | none =>
      rw [firstF_none (k := k + 1)]
      refine ⟨fun h2 j h3 h4 => ?_, fun h2 j h3 h4 => h2 j (by omega) (by omega)⟩
      by_cases e : j = k
      · subst e; exact h
      · exact h2 j (by omega) (by omega)
theorem firstF_some {R : Type} {f : Nat → Option R} {r : R} : ∀ {d k : Nat}, firstF f k d = some r → ∃ j, k ≤ j ∧ j < k + d ∧ f j = some r ∧ ∀ i, k ≤ i → i < j → f i = none
  | 0, k, h => by cases h
  | d + 1, k, h => by
    unfold firstF at h
    cases hk : f k with
    | some q =>
      rw [hk] at h
      cases h
      exact ⟨k, Nat.le_refl _, by omega, hk, fun i h1 h2 => by omega⟩
    | none =>
      rw [hk] at h
      obtain ⟨j, h1, h2, h3, h4⟩ := firstF_some h
      refine ⟨j, by omega, by omega, h3, fun i h5 h6 => ?_⟩
      by_cases e : i = k
      · subst e; exact hk
      · exact h4 i (by omega) h6
def outF {S R : Type} (s : S) : Option R → S ⊕ R
  | some r => .inr r
  | none => .inl s
theorem search_loop {S R : Type} {step : S → Option (S ⊕ (S ⊕ R))} {n : Nat} (mk : Nat → S) (f : Nat → Option R) (hs : ∀ j, j < n → step (mk j) = match f j with | some r => some (.inr (.inr r)) | none => some (.inl (mk (j + 1))))
    (he : step (mk n) = some (.inr (.inl (mk n)))) (hn : n < 4000000000000000000) : iter step big (mk 0) = some (outF (mk n) (firstF f 0 n)) := by
  have key : ∀ (d k q : Nat), k + d = n → d < q → iter step q (mk k) = some (outF (mk n) (firstF f k d)) := by
    intro d
    induction d with
    | zero =>
      intro k q hk hq
      obtain ⟨q, rfl⟩ : ∃ p, q = p + 1 := ⟨q - 1, by omega⟩
      obtain rfl : k = n := by omega
      exact iter_end he
    | succ d ih =>
      intro k q hk hq
      obtain ⟨q, rfl⟩ : ∃ p, q = p + 1 := ⟨q - 1, by omega⟩
      have h1 := hs k (by omega)
      unfold firstF
      cases hf : f k with
      | some r =>
        rw [hf] at h1
        exact iter_end h1
      | none =>
        rw [hf] at h1
        rw [iter_go h1]
        exact ih (k + 1) q (by omega) (by omega)
  exact key n 0 big (by omega) (big_gt hn)
theorem F84_eq (w : Vw) (n : Int) : F84 w n = some (decide ((w.B.length : Int) ≤ n ∧ (w.V.length : Int) ≤ n)) := by
  unfold F84
  by_cases h : (w.B.length : Int) ≤ n
  · rw [decide_eq_true h, ct]; congr 1; exact decide_eq_decide.2 ⟨fun h2 => ⟨h, h2⟩, fun h2 => h2.2⟩
  · rw [decide_eq_false h, cf, decide_eq_false fun h2 => h h2.1]
def mayB (c : Cf) (b : Bk) : Bool := decide (0 ≤ prP c b.Slot ∧ prP c b.Slot = b.From ∧ nm b ≠ (0, 0))
def mayV (c : Cf) (v : Vt) : Bool := decide (v.From ∈ cmP c v.Slot)
theorem F87_eq (c : Cf) (b : Bk) : F87 c b = some (mayB c b) := by
  unfold F87 mayB
  rw [F63_eq, ob]
  by_cases h1 : prP c b.Slot ≥ 0
  · rw [decide_eq_true h1, ct]
    by_cases h2 : prP c b.Slot = b.From
    · rw [show (prP c b.Slot == b.From) = true by simp [h2], ct, eqID0]
      by_cases h3 : nm b = (0, 0)
      · rw [decide_eq_true h3, Bool.not_true, decide_eq_false fun h => h.2.2 h3]
      · rw [decide_eq_false h3, Bool.not_false, decide_eq_true ⟨h1, h2, h3⟩]
    · rw [show (prP c b.Slot == b.From) = false by simp [h2], cf, decide_eq_false fun h => h2 h.2.1]
  · rw [decide_eq_false h1, cf, decide_eq_false fun h => h1 h.1]
theorem F88_eq (c : Cf) (v : Vt) : F88 c v = some (mayV c v) := by
  unfold F88 mayV
  rw [F74_eq, ob]
theorem filter_take_snoc {α : Type} {p : α → Bool} {l : List α} {n : Nat} {y : α} (hy : l[n]? = some y) : (l.take (n + 1)).filter p = (l.take n).filter p ++ bif p y then [y] else [] := by
  rw [take_succ_getG hy, List.filter_append]
  cases h : p y <;> simp [h]
theorem filter_take_len {α : Type} {p : α → Bool} {l : List α} (n : Nat) : ((l.take n).filter p).length ≤ n :=
  Nat.le_trans (List.length_filter_le _ _) (by rw [List.length_take]; omega)
theorem F126_eq {c : Cf} {l : List Bk} (hl : l.length ≤ 100000) : F126 c l = some (l.filter (mayB c)) := by
  unfold F126
  have e := count_loop (step := F126_s1 c l) (n := l.length) (fun k => F126_L1.mk (k : Int) ((l.take k).filter (mayB c))) (F126_L1.mk (l.length : Int) (l.filter (mayB c))) (fun k hk => by
    obtain ⟨y, hy, -⟩ := get_of hk
    have hlen := filter_take_len (p := mayB c) (l := l) k
    unfold F126_s1
    simp only
    rw [decide_eq_true (show (k : Int) < (l.length : Int) by omega), ct, ix_nat hy, ob, F87_eq, ob, filter_take_snoc hy, wrap_succ (n := k) (by omega)]
    cases mayB c y with
    | true => rw [ct, room_ok (by simp only [List.length_singleton]; omega) (by omega), ct, ct]
    | false => rw [cf, cf, List.append_nil]) (by
    unfold F126_s1
    simp only
    rw [decide_eq_false (show ¬ (l.length : Int) < (l.length : Int) by omega), cf, List.take_length]) (by omega)
  have e' : iter (F126_s1 c l) big (F126_L1.mk 0 []) = some (F126_L1.mk (l.length : Int) (l.filter (mayB c))) := e
  rw [e', ob]
theorem F127_eq {c : Cf} {l : List Vt} (hl : l.length ≤ 100000) : F127 c l = some (l.filter (mayV c)) := by
  unfold F127
  have e := count_loop (step := F127_s1 c l) (n := l.length) (fun k => F127_L1.mk (k : Int) ((l.take k).filter (mayV c))) (F127_L1.mk (l.length : Int) (l.filter (mayV c))) (fun k hk => by
    obtain ⟨y, hy, -⟩ := get_of hk
    have hlen := filter_take_len (p := mayV c) (l := l) k
    unfold F127_s1
    simp only
    rw [decide_eq_true (show (k : Int) < (l.length : Int) by omega), ct, ix_nat hy, ob, F88_eq, ob, filter_take_snoc hy, wrap_succ (n := k) (by omega)]
    cases mayV c y with
    | true => rw [ct, room_ok (by simp only [List.length_singleton]; omega) (by omega), ct, ct]
    | false => rw [cf, cf, List.append_nil]) (by
    unfold F127_s1
    simp only
    rw [decide_eq_false (show ¬ (l.length : Int) < (l.length : Int) by omega), cf, List.take_length]) (by omega)
  have e' : iter (F127_s1 c l) big (F127_L1.mk 0 []) = some (F127_L1.mk (l.length : Int) (l.filter (mayV c))) := e
  rw [e', ob]
/-- What may be at all of what came. -/
def onlyP (c : Cf) (w : Vw) : Vw := ⟨w.B.filter (mayB c), w.V.filter (mayV c)⟩
theorem F85_eq {c : Cf} {w : Vw} (h1 : w.B.length ≤ 100000) (h2 : w.V.length ≤ 100000) : F85 c w = some (onlyP c w) := by
  unfold F85
  rw [F126_eq h1, ob, F127_eq h2, ob]; rfl
/-- The slot of what is there, by its name. -/
def slotQ (B : List Bk) (id : ID) : Option Int := if id = (0, 0) then some 0 else (B.find? fun b => decide (nm b = id)).map Bk.Slot
theorem slotQ_snoc (B : List Bk) (b : Bk) (id : ID) : slotQ (B ++ [b]) id = (slotQ B id).or (if nm b = id then some b.Slot else none) := by
  unfold slotQ
  by_cases h : id = (0, 0)
  · rw [if_pos h, if_pos h]; rfl
  · rw [if_neg h, if_neg h, List.find?_append]
    cases B.find? fun b => decide (nm b = id) with
    | some x => rfl
    | none =>
      by_cases h2 : nm b = id
      · simp [h2]
      · simp [h2]
/-- Do blocks stand on one another? -/
def ValidB (B : List Bk) : Prop := (places B).isSome = true
theorem slotQ_places {l : List Bk} {m : List (ID × Int)} (h : places l = some m) (id : ID) : slotQ l id = (findE m id).map (slotIx l) := by
  have hI := places_inv h
  unfold slotQ
  by_cases h0 : id = (0, 0)
  · rw [if_pos h0, h0, hI.zero]; simp [slotIx]
  · rw [if_neg h0]
    cases hf : findE m id with
    | none =>
      cases hq : l.find? fun b => decide (nm b = id) with
      | none => rfl
      | some b =>
        exfalso
        have hb := List.mem_of_find?_eq_some hq
        have hn : nm b = id := by simpa using List.find?_some hq
        obtain ⟨i, hi⟩ := List.getElem?_of_mem hb
        have := hI.names i b (List.getElem?_eq_some_iff.1 hi).1 hi
        rw [hn, hf] at this; cases this
    | some i =>
      rcases hI.known _ _ hf with ⟨-, h1⟩ | ⟨b, p, h1, h2, h3, h4, -⟩
      · exact absurd h1 h0
      · cases hq : l.find? fun b => decide (nm b = id) with
        | none =>
          rw [List.find?_eq_none] at hq
          have := hq b (List.mem_of_getElem? h3)
          simp [h4] at this
        | some b' =>
          have hb := List.mem_of_find?_eq_some hq
          have hn : nm b' = id := by simpa using List.find?_some hq
          obtain ⟨j, hj⟩ := List.getElem?_of_mem hb
          have := hI.names j b' (List.getElem?_eq_some_iff.1 hj).1 hj
          rw [hn, hf] at this
          cases this
          simp [slotIx, hj, show ¬ (j : Int) = -1 by omega]
theorem slotOfB_q {l : List Bk} {m : List (ID × Int)} (h : places l = some m) (id : ID) : slotOfB l id = match slotQ l id with | some s => (s, true) | none => (0, false) := by
  rw [slotQ_places h]
  unfold slotOfB
  rw [h]
  simp only
  cases findE m id <;> rfl
theorem findOf_q {l : List Bk} {m : List (ID × Int)} (h : places l = some m) (id : ID) : (¬ id = (0, 0) ∧ findOf l id < 0) ↔ slotQ l id = none := by
  rw [slotQ_places h]
  unfold findOf
  rw [h]
  simp only
  cases hf : findE m id with
  | none =>
    refine ⟨fun _ => rfl, fun _ => ⟨fun e => ?_, by simp⟩⟩
    rw [e, (places_inv h).zero] at hf; cases hf
  | some i =>
    refine ⟨fun h1 => ?_, fun h1 => by cases h1⟩
    rcases (places_inv h).known _ _ hf with ⟨-, h2⟩ | ⟨_, _, h2, -⟩
    · exact absurd h2 h1.1
    · have := h1.2; simp at this; omega
theorem valid_snoc {B : List Bk} {b : Bk} : ValidB (B ++ [b]) ↔ ValidB B ∧ (∃ s, slotQ B b.Parent = some s ∧ s < b.Slot) ∧ slotQ B (nm b) = none := by
  have key : ∀ {m}, places B = some m → (ValidB (B ++ [b]) ↔ (∃ s, slotQ B b.Parent = some s ∧ s < b.Slot) ∧ slotQ B (nm b) = none) := by
    intro m hm
    unfold ValidB
    rw [may_more hm, ← findOf_q hm]
    unfold fineB
    rw [slotOfB_q hm]
    cases slotQ B b.Parent with
    | none => simp
    | some s => simp [and_assoc]
  cases hm : places B with
  | some m =>
    rw [key hm]
    exact ⟨fun h => ⟨by unfold ValidB; rw [hm]; rfl, h⟩, fun h => h.2⟩
  | none =>
    have hno : ¬ ValidB B := by unfold ValidB; rw [hm]; simp
    refine ⟨fun h => absurd ?_ hno, fun h => absurd h.1 hno⟩
    have := may_take (k := B.length) h (by simp)
    rwa [List.take_left' rfl] at this
theorem valid_take {B : List Bk} (h : ValidB B) (k : Nat) : ValidB (B.take k) := by
  by_cases hk : k ≤ B.length
  · exact may_take h hk
  · rw [List.take_of_length_le (by omega)]; exact h
def smGo : List Bk → List (ID × Int) → List (ID × Int)
  | [], m => m
  | b :: r, m => smGo r (setE m (nm b) b.Slot)
def smOf (B : List Bk) : List (ID × Int) := smGo B [((0, 0), 0)]
def hmGo : List Vt → List (Vt × Bool) → List (Vt × Bool)
  | [], m => m
  | v :: r, m => hmGo r (setE m v true)
def hmOf (V : List Vt) : List (Vt × Bool) := hmGo V []
theorem smGo_snoc (b : Bk) : ∀ (B : List Bk) (m), smGo (B ++ [b]) m = setE (smGo B m) (nm b) b.Slot
  | [], _ => rfl
  | _ :: r, _ => smGo_snoc b r _
theorem hmGo_snoc (v : Vt) : ∀ (V : List Vt) (m), hmGo (V ++ [v]) m = setE (hmGo V m) v true
  | [], _ => rfl
  | _ :: r, _ => hmGo_snoc v r _
theorem smOf_snoc (B : List Bk) (b : Bk) : smOf (B ++ [b]) = setE (smOf B) (nm b) b.Slot := smGo_snoc b B _
theorem hmOf_snoc (V : List Vt) (v : Vt) : hmOf (V ++ [v]) = setE (hmOf V) v true := hmGo_snoc v V _
theorem setE_len {α β : Type} [DecidableEq α] (m : List (α × β)) (k : α) (v : β) : (setE m k v).length = if (findE m k).isSome then m.length else m.length + 1 := by
  induction m with
  | nil => simp [setE, findE]
  | cons p r ih =>
    obtain ⟨a, b⟩ := p
    by_cases h : a = k
    · simp [setE, findE, h]
    · cases hf : findE r k <;> simp [setE, findE, h, hf] at ih ⊢ <;> exact ih
theorem smOf_find {B : List Bk} (h : ValidB B) : ∀ id, findE (smOf B) id = slotQ B id := by
  have key : ∀ k, k ≤ B.length → ∀ id, findE (smOf (B.take k)) id = slotQ (B.take k) id := by
    intro k
    induction k with
    | zero =>
      intro _ id
      simp only [List.take_zero]
      unfold smOf smGo slotQ findE findE
      by_cases e : id = (0, 0)
      · simp [e]
      · simp [e, Ne.symm e]
    | succ k ih =>
      intro hk id
      obtain ⟨b, hb, -⟩ := get_of (l := B) (n := k) (by omega)
      have hv := valid_take h (k + 1)
      rw [take_succ_getG hb] at hv ⊢
      rw [valid_snoc] at hv
      rw [smOf_snoc, findE_setEg, slotQ_snoc, ih (by omega)]
      by_cases e : nm b = id
      · rw [if_pos e, if_pos e, ← e, hv.2.2]; rfl
      · rw [if_neg e, if_neg e]; cases slotQ (B.take k) id <;> rfl
  have := key B.length (Nat.le_refl _)
  rwa [List.take_length] at this
theorem hmOf_find (V : List Vt) (v : Vt) : findE (hmOf V) v = if v ∈ V then some true else none := by
  have : ∀ (V : List Vt) (m : List (Vt × Bool)), findE (hmGo V m) v = if v ∈ V then some true else findE m v := by
    intro V
    induction V with
    | nil => intro m; simp [hmGo]
    | cons x r ih =>
      intro m
      unfold hmGo
      rw [ih, findE_setEg]
      by_cases h : v ∈ r
      · simp [h]
      · by_cases h2 : x = v
        · simp [h2]
        · simp [h, h2, Ne.symm h2]
  rw [hmOf, this]; rfl
theorem hmOf_len (V : List Vt) : (hmOf V).length ≤ V.length ∧ ((hmOf V).length = V.length ↔ V.Nodup) := by
  have key : ∀ k, k ≤ V.length → (hmOf (V.take k)).length ≤ k ∧ ((hmOf (V.take k)).length = k ↔ (V.take k).Nodup) := by
    intro k
    induction k with
    | zero => intro _; simp [hmOf, hmGo]
    | succ k ih =>
      intro hk
      obtain ⟨v, hv, -⟩ := get_of (l := V) (n := k) (by omega)
      obtain ⟨h1, h2⟩ := ih (by omega)
      rw [take_succ_getG hv, hmOf_snoc, setE_len, hmOf_find, List.nodup_append]
      by_cases hm : v ∈ V.take k
      · rw [if_pos hm]
        refine ⟨by simp; omega, ⟨fun e => by simp at e; omega, fun h => absurd rfl (h.2.2 v hm v (by simp))⟩⟩
      · rw [if_neg hm]
        refine ⟨by simp; omega, ⟨fun e => ⟨h2.1 (by simp at e; omega), by simp, fun a ha b hb => by rw [List.mem_singleton] at hb; subst hb; exact fun q => hm (q ▸ ha)⟩, fun h => ?_⟩⟩
        have := h2.2 h.1
        simp; omega
  have := key V.length (Nat.le_refl _)
  rwa [List.take_length] at this
theorem F130_eq {w : Vw} {u : Int} (h1 : w.B.length ≤ 90000) (h2 : w.V.length ≤ 90000) : F130 w u = some (smOf w.B, hmOf w.V) := by
  unfold F130
  rw [room_ok (by omega) (by omega), ct, room_ok (by omega) (by omega), ct]
  have e1 := count_loop (step := F130_s1 w) (n := w.B.length) (fun k => F130_L1.mk (k : Int) (smOf (w.B.take k))) (F130_L1.mk (w.B.length : Int) (smOf w.B)) (fun k hk => by
    obtain ⟨y, hy, -⟩ := get_of hk
    unfold F130_s1
    simp only
    rw [decide_eq_true (show (k : Int) < (w.B.length : Int) by omega), ct, ix_nat hy, ob, take_succ_getG hy, smOf_snoc, wrap_succ (n := k) (by omega)]) (by
    unfold F130_s1
    simp only
    rw [decide_eq_false (show ¬ (w.B.length : Int) < (w.B.length : Int) by omega), cf, List.take_length]) (by omega)
  have e1' : iter (F130_s1 w) big (F130_L1.mk 0 (setE [] (0, 0) 0)) = some (F130_L1.mk (w.B.length : Int) (smOf w.B)) := e1
  have e2 := count_loop (step := F130_s2 w) (n := w.V.length) (fun k => F130_L2.mk (k : Int) (hmOf (w.V.take k))) (F130_L2.mk (w.V.length : Int) (hmOf w.V)) (fun k hk => by
    obtain ⟨y, hy, -⟩ := get_of hk
    unfold F130_s2
    simp only
    rw [decide_eq_true (show (k : Int) < (w.V.length : Int) by omega), ct, ix_nat hy, ob, take_succ_getG hy, hmOf_snoc, wrap_succ (n := k) (by omega)]) (by
    unfold F130_s2
    simp only
    rw [decide_eq_false (show ¬ (w.V.length : Int) < (w.V.length : Int) by omega), cf, List.take_length]) (by omega)
  have e2' : iter (F130_s2 w) big (F130_L2.mk 0 []) = some (F130_L2.mk (w.V.length : Int) (hmOf w.V)) := e2
  rw [e1', ob, e2', ob]
/-- Is a vote for what is there, of a slot that is not later than its own? -/
def forB (B : List Bk) (v : Vt) : Prop := ∃ s, slotQ B v.Head = some s ∧ s ≤ v.Slot
def badM (sm : List (ID × Int)) (v : Vt) : Bool := match findE sm v.Head with
  | none => true
  | some s => decide (s > v.Slot)
theorem F131_eq (v : Vt) (sm : List (ID × Int)) : F131 v sm = some (badM sm v) := by
  unfold F131 badM
  cases findE sm v.Head with
  | none => rfl
  | some s => rfl
def badAt (sm : List (ID × Int)) (l : List Vt) (j : Nat) : Option Int := match l[j]? with
  | some v => if badM sm v = true then some (j : Int) else none
  | none => none
theorem F132_eq {l : List Vt} (hl : l.length ≤ 90000) (sm : List (ID × Int)) : F132 l sm = some (l.any (badM sm)) := by
  have e := search_loop (step := F158M_s1 l sm) (n := l.length) (fun k => F158M_L1.mk (k : Int)) (badAt sm l) (fun j hj => by
    obtain ⟨y, hy, -⟩ := get_of hj
    unfold F158M_s1 badAt
    simp only
    rw [decide_eq_true (show (j : Int) < (l.length : Int) by omega), ct, ix_nat hy, ob, F131_eq, ob, wrap_succ (n := j) (by omega), hy]
    simp only
    cases badM sm y with
    | true => rw [ct, if_pos rfl]
    | false => rw [cf, if_neg (by simp)]) (by
    unfold F158M_s1
    simp only
    rw [decide_eq_false (show ¬ (l.length : Int) < (l.length : Int) by omega), cf]) (by omega)
  unfold F132 F158M
  have e' : iter (F158M_s1 l sm) big (F158M_L1.mk 0) = some (outF (F158M_L1.mk (l.length : Int)) (firstF (badAt sm l) 0 l.length)) := e
  rw [e', ob]
  cases h : firstF (badAt sm l) 0 l.length with
  | none =>
    rw [outF, sl, ob]
    rw [firstF_none] at h
    congr 1
    rw [show decide ((-1 : Int) ≥ 0) = false from rfl]
    symm
    rw [List.any_eq_false]
    intro v hv
    obtain ⟨j, hj⟩ := List.getElem?_of_mem hv
    have := h j (Nat.zero_le _) (by have := (List.getElem?_eq_some_iff.1 hj).1; omega)
    unfold badAt at this
    rw [hj] at this
    simp only at this
    intro hb
    rw [if_pos hb] at this; cases this
  | some r =>
    obtain ⟨j, -, -, h3, -⟩ := firstF_some h
    unfold badAt at h3
    split at h3
    · rename_i v hv
      split at h3
      · rename_i hb
        cases h3
        rw [outF, sr, ob, decide_eq_true (show (j : Int) ≥ 0 by omega)]
        congr 1
        symm
        rw [List.any_eq_true]
        exact ⟨v, List.mem_of_getElem? hv, hb⟩
      · cases h3
    · cases h3
/-- May a view be? -/
structure MayW (c : Cf) (w : Vw) : Prop where
  conf : MayC c
  valid : ValidB w.B
  lenB : w.B.length ≤ 60
  lenV : w.V.length ≤ 240
  mayB : ∀ b ∈ w.B, mayB c b = true
  mayV : ∀ v ∈ w.V, mayV c v = true
  nodup : w.V.Nodup
  forB : ∀ v ∈ w.V, forB w.B v
open Classical in
theorem F89_eq {c : Cf} {w : Vw} (h1 : w.B.length ≤ 1000) (h2 : w.V.length ≤ 1000) : F89 c w = some (decide (MayW c w)) := by
  have hno : ∀ h : ¬ MayW c w, decide (MayW c w) = false := fun h => decide_eq_false h
  unfold F89
  rw [F64_eq, ob]
  by_cases c1 : MayC c
  · rw [decide_eq_true c1, Bool.not_true, cf, F52_eq, ob]
    by_cases c2 : ValidB w.B
    · rw [show (places w.B).isSome = true from c2, Bool.not_true, cf]
      by_cases c3 : w.B.length ≤ 60
      · rw [decide_eq_false (show ¬ (w.B.length : Int) > 60 by omega), cf, ob]
        by_cases c4 : w.V.length ≤ 240
        · rw [decide_eq_false (show ¬ (w.V.length : Int) > 240 by omega), cf, F85_eq (by omega) (by omega), ob]
          have hfB : (onlyP c w).B.length = w.B.length ↔ ∀ b ∈ w.B, mayB c b = true := by unfold onlyP; exact List.length_filter_eq_length_iff
          have hfV : (onlyP c w).V.length = w.V.length ↔ ∀ v ∈ w.V, mayV c v = true := by unfold onlyP; exact List.length_filter_eq_length_iff
          by_cases c5 : ∀ b ∈ w.B, mayB c b = true
          · rw [show (((onlyP c w).B.length : Int) != (w.B.length : Int)) = false by rw [hfB.2 c5]; simp, cf, ob]
            by_cases c6 : ∀ v ∈ w.V, mayV c v = true
            · have hm := hmOf_len w.V
              rw [show (((onlyP c w).V.length : Int) != (w.V.length : Int)) = false by rw [hfV.2 c6]; simp, cf, F130_eq (by omega) (by omega), ob, show fewE (hmOf w.V) = true from decide_eq_true (by omega), ct]
              by_cases c7 : w.V.Nodup
              · rw [show (((hmOf w.V).length : Int) == (w.V.length : Int)) = true by rw [hm.2.2 c7]; simp, ct, F132_eq (by omega), ob]
                congr 1
                have hbad : ∀ v, badM (smOf w.B) v = false ↔ Go.Mg.forB w.B v := by
                  intro v
                  unfold badM Go.Mg.forB
                  rw [smOf_find c2]
                  cases slotQ w.B v.Head with
                  | none => simp
                  | some s => simp
                cases ha : w.V.any (badM (smOf w.B)) with
                | true =>
                  obtain ⟨v, hv, hb⟩ := List.any_eq_true.1 ha
                  symm
                  refine hno fun h => ?_
                  have := (hbad v).2 (h.forB v hv)
                  rw [hb] at this; cases this
                | false =>
                  rw [List.any_eq_false] at ha
                  symm
                  exact decide_eq_true ⟨c1, c2, c3, c4, c5, c6, c7, fun v hv => (hbad v).1 (by have := ha v hv; simpa using this)⟩
              · rw [show (((hmOf w.V).length : Int) == (w.V.length : Int)) = false by
                  rw [beq_eq_false_iff_ne]; intro e; exact c7 (hm.2.1 (by omega)), cf, hno fun h => c7 h.nodup]
            · rw [show (((onlyP c w).V.length : Int) != (w.V.length : Int)) = true by
                rw [bne_iff_ne]; intro e; exact c6 (hfV.1 (by omega)), ct, hno fun h => c6 h.mayV]
          · rw [show (((onlyP c w).B.length : Int) != (w.B.length : Int)) = true by
              rw [bne_iff_ne]; intro e; exact c5 (hfB.1 (by omega)), ct, ob, ct, hno fun h => c5 h.mayB]
        · rw [decide_eq_true (show (w.V.length : Int) > 240 by omega), ct, hno fun h => c4 h.lenV]
      · rw [decide_eq_true (show (w.B.length : Int) > 60 by omega), ct, ob, ct, hno fun h => c3 h.lenB]
    · rw [show (places w.B).isSome = false from by unfold ValidB at c2; simpa using c2, Bool.not_false, ct, ob, ct, hno fun h => c2 h.valid]
  · rw [decide_eq_false c1, Bool.not_false, ct, ob, ct, hno fun h => c1 h.conf]
/-- Is a block never to be counted? -/
def goneB (B : List Bk) (b : Bk) : Bool := (slotQ B (nm b)).isSome || (match slotQ B b.Parent with | some s => decide (s ≥ b.Slot) | none => false)
/-- Must it wait? -/
def waitB (B : List Bk) (upto : Int) (b : Bk) : Bool := match slotQ B b.Parent with | some _ => decide (b.Slot > upto) | none => true
def goneV (B : List Bk) (V : List Vt) (v : Vt) : Bool := decide (v ∈ V) || (match slotQ B v.Head with | some s => decide (s > v.Slot) | none => false)
def waitV (B : List Bk) (upto : Int) (v : Vt) : Bool := match slotQ B v.Head with | some _ => decide (v.Slot > upto) | none => true
def SmOk (B : List Bk) (sm : List (ID × Int)) : Prop := ∀ id, findE sm id = slotQ B id
def HmOk (V : List Vt) (hm : List (Vt × Bool)) : Prop := ∀ v, findE hm v = if v ∈ V then some true else none
structure SmR (B : List Bk) (sm : List (ID × Int)) : Prop where
  find : SmOk B sm
  len : sm.length ≤ B.length + 1
structure HmR (V : List Vt) (hm : List (Vt × Bool)) : Prop where
  find : HmOk V hm
  len : hm.length ≤ V.length
/-- A list in the beginning of another one. -/
structure PreL {α : Type} (lB : List α) (k : Nat) (l : List α) : Prop where
  take : lB.take k = l
  le : k ≤ lB.length
theorem PreL.len {α : Type} {lB l : List α} {k : Nat} (h : PreL lB k l) : l.length = k := by
  rw [← h.take, List.length_take]; have := h.le; omega
/-- What holds while those that stay are moved to the front. -/
structure Mv {α : Type} (l a : List α) (i j : Nat) (left : List α) : Prop where
  ij : i < j
  jl : j ≤ l.length
  len : l.length ≤ a.length
  left : a.take i = left
  rest : ∀ q, j ≤ q → q < l.length → a[q]? = l[q]?
/-- A view that grows, and what is left of what came. -/
structure GvS where
  B : List Bk
  V : List Vt
  full : Bool
  lB : List Bk
  lV : List Vt
/-- There is room for 60 blocks, and 240 votes. -/
def BelowT (s : GvS) : Prop := s.B.length ≤ 60 ∧ s.V.length ≤ 240
/-- The program's state is that of the plain one. -/
structure RepT (s : GvS) (x : F90_L1) : Prop where
  o6 : x.o6 = s.B
  o7 : x.o7 = s.V
  full : x.x_5 = s.full
  sm : SmR s.B x.o8
  hm : HmR s.V x.o9
  lB : PreL x.o14 x.left_0 s.lB
  lV : PreL x.o15 x.left_1 s.lV
/-- What holds of a view that grows. -/
structure InvT (w o : Vw) (upto : Int) (s : GvS) : Prop where
  preB : ∃ t, s.B = w.B ++ t ∧ ∀ b ∈ t, b ∈ o.B ∧ b.Slot ≤ upto
  preV : ∃ t, s.V = w.V ++ t ∧ ∀ v ∈ t, v ∈ o.V ∧ v.Slot ≤ upto
  valid : ValidB s.B
  nodup : s.V.Nodup
  forB : ∀ v ∈ s.V, forB s.B v
  below : BelowT s
  subB : s.lB.Sublist o.B
  subV : s.lV.Sublist o.V
  allB : ∀ b ∈ o.B, b ∈ s.lB ∨ goneB s.B b = true
  allV : ∀ v ∈ o.V, v ∈ s.lV ∨ goneV s.B s.V v = true
/-- What holds at the end: what is left is not gone, and must wait, or there was no room. -/
structure EndT (upto : Int) (s : GvS) : Prop where
  B : ∀ b ∈ s.lB, goneB s.B b = false ∧ (waitB s.B upto b = true ∨ 60 ≤ s.B.length ∧ s.full = true)
  V : ∀ v ∈ s.lV, goneV s.B s.V v = false ∧ (waitV s.B upto v = true ∨ 240 ≤ s.V.length ∧ s.full = true)
/-- What is taken, told at once. -/
structure Took (c : Cf) (w inp : Vw) (upto : Int) (r : Vw × Vw × Bool) : Prop where
  may : MayW c r.1
  preB : ∃ t, r.1.B = w.B ++ t ∧ ∀ b ∈ t, b ∈ (onlyP c inp).B ∧ b.Slot ≤ upto
  preV : ∃ t, r.1.V = w.V ++ t ∧ ∀ v ∈ t, v ∈ (onlyP c inp).V ∧ v.Slot ≤ upto
  subB : r.2.1.B.Sublist (onlyP c inp).B
  subV : r.2.1.V.Sublist (onlyP c inp).V
  allB : ∀ b ∈ (onlyP c inp).B, b ∈ r.2.1.B ∨ goneB r.1.B b = true
  allV : ∀ v ∈ (onlyP c inp).V, v ∈ r.2.1.V ∨ goneV r.1.B r.1.V v = true
  endB : ∀ b ∈ r.2.1.B, goneB r.1.B b = false ∧ (waitB r.1.B upto b = true ∨ 60 ≤ r.1.B.length ∧ r.2.2 = true)
  endV : ∀ v ∈ r.2.1.V, goneV r.1.B r.1.V v = false ∧ (waitV r.1.B upto v = true ∨ 240 ≤ r.1.V.length ∧ r.2.2 = true)
theorem F83_eq : F83 = some true := by kernel_rfl
end Go.Mg
