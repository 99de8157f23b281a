import Derived.Test.YtifnjijlbcacoaaPicks
/- Each choice, those that are told ahead of those of the seed. No condition. -/
set_option linter.unusedVariables false
set_option linter.unusedSimpArgs false
namespace Go.Proofs.Ytifnjijlbcacoaa.Pure
open Go Go.Fw Go.RowKit Go.Proofs.Ytifnjijlbcacoaa.G Go.Proofs.Ytifnjijlbcacoaa.Rng

theorem pt_step (K : Nat) (ns : List Int) (hns : ∀ x ∈ ns, (Lit.int .i64 x).wf = true) (hlen : (ns.length : Int) ≤ 60) (n : Nat) (l : List Int) (s i : Int) (hs : U s) (hl : B8 l) (h0 : 0 ≤ i) (h1 : i < (ns.length : Int)) :
    confidantlaw17_PicksTell.l0 K ns (n + 1) l s l s i = confidantlaw17_PicksTell.l0 K ns n (l.drop 1) (nS l s) (l.drop 1) (nS l s) (i + 1) := by
  rw [confidantlaw17_PicksTell.l0.eq_2, if_pos h1]
  simp only [lt]
  rw [if_pos h0, w64_id (x := i + 1) (by omega) (by omega)]
  have hx : ns.getD i.toNat 0 ≤ 9223372036854775807 := by
    unfold List.getD
    cases hn : ns[i.toNat]? with
    | none => simp
    | some x => exact (is_i64 (hns x (List.mem_of_getElem? hn))).2
  have hb : IntKind.i64.wrap (bA .i64 (ns.getD i.toNat 0) 7 + 1) ≤ 9223372036854775807 := by rw [w64]; omega
  generalize IntKind.i64.wrap (bA .i64 (ns.getD i.toNat 0) 7 + 1) = y at hb ⊢
  generalize ns.getD i.toNat 0 = x at hx ⊢
  have key : ∀ v : Int, v ≤ 9223372036854775807 → (b3 (picks_Picks_Next.f K l s v) fun t1410 t1411 t1412 =>
      b3 (confidantref15_Picks_Next.f K l s v) fun t1447 t1448 t1449 =>
        if t1412 = t1449 then
          b2 (picks_Picks_Left.f K t1411 t1410) fun t1454 t1455 =>
            if t1455 = (t1447.length : Int) then
              if t1412 < 0 then (if true = true then some false else confidantlaw17_PicksTell.l0 K ns n t1447 t1448 t1411 t1454 (i + 1))
              else (if decide (t1412 ≥ mx v 1) = true then some false else confidantlaw17_PicksTell.l0 K ns n t1447 t1448 t1411 t1454 (i + 1))
            else (if true = true then some false else confidantlaw17_PicksTell.l0 K ns n t1447 t1448 t1411 t1454 (i + 1))
        else (if true = true then some false else confidantlaw17_PicksTell.l0 K ns n t1447 t1448 t1411 t1410 (i + 1))) = confidantlaw17_PicksTell.l0 K ns n (l.drop 1) (nS l s) (l.drop 1) (nS l s) (i + 1) := by
    intro v hv
    have hin := nV_in hs hl hv
    rw [pn_f K hs hl hv, rn_f K hs hl hv]
    simp only [b3, b2, left_f, if_true]
    rw [if_neg (by omega), decide_eq_false (by omega)]
    rfl
  by_cases h3 : Int.tmod i 3 > 0
  · rw [if_pos h3]; exact key y hb
  · rw [if_neg h3]; exact key x hx

theorem pt_loop (K : Nat) (ns : List Int) (hns : ∀ x ∈ ns, (Lit.int .i64 x).wf = true) (hlen : (ns.length : Int) ≤ 60) (d : Nat) : ∀ (n : Nat) (l : List Int) (s i : Int), U s → B8 l → 0 ≤ i → i ≤ (ns.length : Int) → (ns.length : Int) - i = d → d < n →
    confidantlaw17_PicksTell.l0 K ns n l s l s i = some true := by
  induction d with
  | zero =>
    intro n l s i hs hl h0 hi hd hn
    obtain ⟨n, rfl⟩ : ∃ k, n = k + 1 := ⟨n - 1, by omega⟩
    rw [confidantlaw17_PicksTell.l0.eq_2, if_neg (by omega)]
  | succ d ih =>
    intro n l s i hs hl h0 hi hd hn
    obtain ⟨n, rfl⟩ : ∃ k, n = k + 1 := ⟨n - 1, by omega⟩
    rw [pt_step K ns hns hlen n l s i hs hl h0 (by omega)]
    exact ih n _ _ (i + 1) (nS_U hs) (hl.drop 1) (by omega) (by omega) (by omega) (by omega)

theorem PicksTell : confidantlaw17_PicksTell.Pure := by
  intro l seed ns _ hl hseed _ hns
  have us := U_of hseed
  refine ⟨1000, ?_⟩
  unfold confidantlaw17_PicksTell.f
  simp only [pk_known, b1, if_true, lt]
  by_cases h : (l.length : Int) > 40
  · rw [if_pos h]
  · rw [if_neg h]
    by_cases h2 : (ns.length : Int) > 60
    · rw [decide_eq_true h2]; rfl
    · rw [decide_eq_false h2, pnew_f 1000 (by omega), rnew_f 1000 us]
      simp only [b2]
      exact pt_loop 1000 ns hns (by omega) ns.length 1000 l (mx seed 1) 0 (mx_U us).1 (B8_of hl) (by omega) (by omega) (by omega) (by omega)

end Go.Proofs.Ytifnjijlbcacoaa.Pure
