/- Laws of views. Laws of views: ViewOnly, ViewJoin. Laws of views. Laws of views. Laws of views: ViewMay, ViewKeeps. Conditions: none. -/
import Derived.Test.YtlhocfhoocmfiaaV2
import Derived.Test.YtlhocfhoocmfiaaV3
namespace Go.Mg
open Go.Proofs
structure F29_L1 where
  n : Int
  i : Int
structure F29_L2 where
  n : Int
  i : Int
open Go.Proofs
structure F30_L1 where
  i : Int
structure F30_L2 where
  i : Int
open Go.Proofs
open Classical in
theorem viMay (c : Cf) (w : Vw) (a : Int) : F30 c w a = some true := by
  unfold F30
  rw [F83_eq, ob, F84_eq, ob, Bool.not_true, cf]
  by_cases hf : (w.B.length : Int) ≤ 40 ∧ (w.V.length : Int) ≤ 40
  · rw [decide_eq_true hf, Bool.not_true, cf]
    by_cases h0 : (c.W.length : Int) > 40
    · rw [decide_eq_true h0, ct, ob, ct]
    · rw [decide_eq_false h0, cf, F89_eq (by omega) (by omega), ob]
      by_cases hm : MayW c w
      · rw [decide_eq_true hm, Bool.not_true, cf]
        by_cases h1 : a < 0
        · rw [decide_eq_true h1, ct, ob, ct]
        · rw [decide_eq_false h1, cf, ob]
          by_cases h2 : a > (w.B.length : Int)
          · rw [decide_eq_true h2, ct]
          · rw [decide_eq_false h2, cf]
            obtain ⟨m, hpl⟩ := Option.isSome_iff_exists.1 hm.valid
            have e1 := search_loop (step := F30_s1 c w) (n := w.B.length) (fun k => F30_L1.mk (k : Int)) (fun _ => (none : Option Bool)) (fun j hj => by
              obtain ⟨y, hy, hmem⟩ := get_of hj
              have h3 := of_decide_eq_true (hm.mayB y hmem)
              unfold F30_s1
              simp only
              rw [decide_eq_true (show (j : Int) < (w.B.length : Int) by omega), ct, ix_nat hy, ob, ob, F63_eq, ob, show (y.From != prP c y.Slot) = false by rw [h3.2.1]; simp, cf, wrap_succ (n := j) (by omega)]) (by
              unfold F30_s1
              simp only
              rw [decide_eq_false (show ¬ (w.B.length : Int) < (w.B.length : Int) by omega), cf]) (by omega)
            have e1' : iter (F30_s1 c w) big (F30_L1.mk 0) = some (.inl (F30_L1.mk (w.B.length : Int))) := by rw [firstF_none.2 (fun _ _ _ => rfl)] at e1; exact e1
            have e2 := search_loop (step := F30_s2 c w) (n := w.V.length) (fun k => F30_L2.mk (k : Int)) (fun _ => (none : Option Bool)) (fun j hj => by
              obtain ⟨y, hy, hmem⟩ := get_of hj
              have h3 := of_decide_eq_true (hm.mayV y hmem)
              obtain ⟨s, hs1, hs2⟩ := hm.forB y hmem
              unfold F30_s2
              simp only
              rw [decide_eq_true (show (j : Int) < (w.V.length : Int) by omega), ct, ix_nat hy, ob, F43_eq, ob, slotOfB_q hpl, hs1]
              simp only
              rw [Bool.not_true, cf, ob, decide_eq_false (show ¬ s > y.Slot by omega), cf, ob, ob, F74_eq, ob, decide_eq_true h3, Bool.not_true, cf, wrap_succ (n := j) (by omega)]) (by
              unfold F30_s2
              simp only
              rw [decide_eq_false (show ¬ (w.V.length : Int) < (w.V.length : Int) by omega), cf]) (by omega)
            have e2' : iter (F30_s2 c w) big (F30_L2.mk 0) = some (.inl (F30_L2.mk (w.V.length : Int))) := by rw [firstF_none.2 (fun _ _ _ => rfl)] at e2; exact e2
            have hd : IntKind.i64.wrap ((w.V.length : Int).tdiv 2) = (w.V.length : Int) / 2 := by
              rw [Int.tdiv_eq_ediv_of_nonneg (by omega)]; exact wrapI (by omega) (by omega)
            rw [e1', ob, sl, e2', ob, sl, F52_eq, ob, hpl, Option.isSome_some, ct, inL_hi (by omega) (by omega), ct, F89_eq (by simp only [List.length_take]; omega) (by simp), ob, decide_eq_true (may_cut hm _).1, ct, hd, inL_hi (by omega) (by omega), ct,
              F89_eq (by simp only; omega) (by simp only [List.length_take]; omega), ob, decide_eq_true (may_cut hm _).2]
      · rw [decide_eq_false hm, Bool.not_false, ct, ob, ct]
  · rw [decide_eq_false hf, Bool.not_false, ct, ob, ct]
open Classical in
theorem viKeeps (c : Cf) (w i : Vw) (slot : Int) : F31 c w i slot = some true := by
  unfold F31
  rw [F83_eq, ob, F84_eq, ob, F84_eq, ob, Bool.not_true, cf]
  by_cases hf : (w.B.length : Int) ≤ 40 ∧ (w.V.length : Int) ≤ 40
  · rw [decide_eq_true hf, Bool.not_true, cf]
    by_cases hi : (i.B.length : Int) ≤ 40 ∧ (i.V.length : Int) ≤ 40
    · rw [decide_eq_true hi, Bool.not_true, cf]
      by_cases h0 : (c.W.length : Int) > 40
      · rw [decide_eq_true h0, ct, ob, ct]
      · rw [decide_eq_false h0, cf, F89_eq (by omega) (by omega), ob, ob]
        by_cases hm : MayW c w
        · rw [decide_eq_true hm, Bool.not_true, cf, F90_eq (by omega) (by omega) (by omega) (by omega), ob]
          have ht := took hm i slot
          generalize takeP c w i slot = r at ht ⊢
          have hl := took_len ht
          have hk := took_take ht
          have hj : joinP i r.2.1 = i := by
            unfold joinP
            rw [withP_sub fun x hx => (List.mem_filter.1 (ht.subB.subset hx)).1, withP_sub fun x hx => (List.mem_filter.1 (ht.subV.subset hx)).1]
          have h60 := ht.may.lenB
          have h240 := ht.may.lenV
          have ht2 := took ht.may r.2.1 slot
          have hag := take_again ht
          rw [F89_eq (by omega) (by omega), ob, decide_eq_true ht.may, Bool.not_true, cf, decide_eq_false (show ¬ (r.1.B.length : Int) < (w.B.length : Int) by omega), cf, ob, decide_eq_false (show ¬ (r.1.V.length : Int) < (w.V.length : Int) by omega), cf,
            inL_len hl.1, ct, inL_len hl.2.1, ct, Int.toNat_natCast, Int.toNat_natCast, hk.1, hk.2, F86_eq (by simp only; omega) (by simp only; omega), ob, F90_eq (by omega) (by omega) (by omega) (by omega), ob, F86_eq (by omega) (by omega), ob, F86_eq (by omega) (by omega), ob,
            F91_eq (by omega) (by omega), ob, hj, decide_eq_true ⟨rfl, rfl⟩, ct]
          cases hfu : r.2.2 with
          | true => rw [ct]
          | false =>
            rw [cf, hag hfu]
            simp
        · rw [decide_eq_false hm, Bool.not_false, ct]
    · rw [decide_eq_false hi, Bool.not_false, ct, ob, ct]
  · rw [decide_eq_false hf, Bool.not_false, ct, ob, ct]
end Go.Mg
