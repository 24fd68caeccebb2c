/- The law SpaninShort, as a statement of bytes. -/
import Derived.Test.YtmfffpfenhgjbaaDoorPParse
import Derived.Test.YtmfffpfenhgjbaaDoorPPlain
import Derived.Test.YtmfffpfenhgjbaaDoorX13
set_option linter.unusedSimpArgs false
set_option linter.unusedVariables false
namespace Go.Proofs.YtmfffpfenhgjbaaDoor.Pure
open Go.RowKit Go.Lib Go.Proofs.YtmfffpfenhgjbaaDoor.X Go.Proofs.YtmfffpfenhgjbaaDoor.G Go.Proofs.YtmfffpfenhgjbaaDoorW.PrintWords Go.Proofs.YtmfffpfenhgjbaaDoorW.PrintLast Go.Proofs.YtmfffpfenhgjbaaDoorW.PrintMore
theorem plainL_snoc (a : List Sp) (x : Sp) : plainL (a ++ [x]) = plainL a ++ plainV x := by
  rw [plainL_append, plainL_cons, show plainL ([] : List Sp) = [] from by rw [plainL], List.append_nil]
theorem plain_tx (b : List UInt8) : plainV (tx b) = b := by
  rw [plainV_eq]
  show (if (1 : Int) = 1 ∨ (1 : Int) = 2 then L ⟨b.toArray⟩ else []) ++ plainL [] = b
  rw [if_pos (Or.inl rfl), L_mk, show plainL ([] : List Sp) = [] from by rw [plainL], List.append_nil]
theorem plain_put (b : List UInt8) : ∀ acc : List Sp, (∀ x ∈ acc, x.f0 = 1 → x.f2 = []) → plainL (putL acc b) = plainL acc ++ b
  | [], _ => by
    show plainL [tx b] = _
    rw [plainL_cons, plain_tx, show plainL ([] : List Sp) = [] from by rw [plainL], List.append_nil, List.nil_append]
  | [x], h => by
    rw [putL]
    split
    · rename_i h1
      have h2 := h x (by simp) h1
      rw [plainL_cons, plainL_cons, plainV_eq, plainV_eq, h2]
      show ((if (1 : Int) = 1 ∨ (1 : Int) = 2 then L ⟨(L x.f1 ++ b).toArray⟩ else []) ++ plainL []) ++ plainL [] = _
      rw [if_pos (Or.inl rfl), if_pos (Or.inl h1), L_mk, show plainL ([] : List Sp) = [] from by rw [plainL]]
      simp
    · rw [plainL_cons, plainL_cons, plainL_cons, plain_tx, show plainL ([] : List Sp) = [] from by rw [plainL]]
      simp
  | x :: y :: t, h => by
    rw [putL, plainL_cons, plainL_cons (t := y :: t), plain_put b (y :: t) (fun z hz => h z (List.mem_cons_of_mem _ hz)), List.append_assoc]
theorem put_kids (b : List UInt8) : ∀ acc : List Sp, (∀ x ∈ acc, x.f0 = 1 → x.f2 = []) → ∀ x ∈ putL acc b, x.f0 = 1 → x.f2 = []
  | [], _ => by intro x hx; rw [show putL [] b = [tx b] from rfl] at hx; simp at hx; subst hx; intro _; rfl
  | [y], h => by
    intro x hx
    rw [putL] at hx
    split at hx
    · rename_i h1
      simp at hx
      subst hx
      intro _
      exact h y (by simp) h1
    · simp at hx
      rcases hx with rfl | rfl
      · exact h x (by simp)
      · intro _; rfl
  | y :: z :: t, h => by
    intro x hx
    rw [putL] at hx
    rcases List.mem_cons.1 hx with rfl | hx
    · exact h x (by simp)
    · exact put_kids b (z :: t) (fun w hw => h w (List.mem_cons_of_mem _ hw)) x hx
/-- What is read of bytes, and what is left, lies in them. -/
def Reads (acc : List Sp) (l : List UInt8) (r : List Sp × List UInt8) : Prop := (∃ q, plainL r.1 = plainL acc ++ q ∧ (q ++ r.2).Sublist l) ∧ ∀ x ∈ r.1, x.f0 = 1 → x.f2 = []
theorem encl_reads {R : Bool → Bool → List UInt8 → List Sp × List UInt8} {e k : Bool} {l : List UInt8} {x : Sp} {r : List UInt8} (hR : ∀ e k t, t.length < l.length → Reads [] t (R e k t)) (h : enclL dstB R e k l = some (x, r)) : (plainV x ++ r).Sublist l ∧ x.f0 ≠ 1 := by
  unfold enclL at h
  split at h
  · cases h
  · rename_i c t
    split at h
    · obtain ⟨⟨q1, h1, h2⟩, _⟩ := hR true k t (by simp)
      split at h
      · rename_i d q hd
        split at h
        · injection h with h; injection h with g2 g3; subst g2; subst g3
          rw [show plainL ([] : List Sp) = [] from by rw [plainL], List.nil_append] at h1
          rw [plainV_eq]
          refine ⟨?_, by show (3 : Int) ≠ 1; decide⟩
          show ((if (3 : Int) = 1 ∨ (3 : Int) = 2 then _ else []) ++ plainL (R true k t).1 ++ q).Sublist (c :: t)
          rw [if_neg (by decide), List.nil_append, h1]
          rw [hd] at h2
          exact ((List.Sublist.append_left (List.sublist_cons_self d q) q1).trans h2).cons c
        · cases h
      · cases h
    · split at h
      · obtain ⟨⟨q1, h1, h2⟩, _⟩ := hR e true t (by simp)
        split at h
        · rename_i d q hd
          split at h
          · cases ht : toL dstB q with
            | none => rw [ht] at h; cases h
            | some p =>
              rw [ht] at h
              injection h with h; injection h with g2 g3; subst g2; subst g3
              have hs := (toL_suf (a := p.1) (r := p.2) ht).1
              rw [show plainL ([] : List Sp) = [] from by rw [plainL], List.nil_append] at h1
              rw [plainV_eq]
              refine ⟨?_, by show (4 : Int) ≠ 1; decide⟩
              show ((if (4 : Int) = 1 ∨ (4 : Int) = 2 then _ else []) ++ plainL (R e true t).1 ++ p.2).Sublist (c :: t)
              rw [if_neg (by decide), List.nil_append, h1]
              rw [hd] at h2
              exact ((List.Sublist.append_left (hs.sublist.trans (List.sublist_cons_self d q)) q1).trans h2).cons c
          · cases h
        · cases h
      · split at h
        · rename_i h96
          have h2 : 1 ≤ ticksL (c :: t) := by rw [ticksL, if_pos h96]; omega
          cases hc : codeL (ticksL (c :: t)) ((c :: t).length) [] ((c :: t).drop (ticksL (c :: t))) with
          | none => rw [hc] at h; cases h
          | some p =>
            rw [hc] at h
            injection h with h; injection h with g3 g4; subst g3; subst g4
            obtain ⟨y, g1, g2, _, _⟩ := code_spec _ h2 _ _ _ p.1 p.2 hc
            rw [List.nil_append] at g1
            have g4 : (stripL p.1).Sublist p.1 := by
              unfold stripL
              split
              · exact (List.dropLast_sublist _).trans (List.drop_sublist _ _)
              · exact List.Sublist.refl _
            rw [plainV_eq]
            refine ⟨?_, by show (2 : Int) ≠ 1; decide⟩
            show ((if (2 : Int) = 1 ∨ (2 : Int) = 2 then L ⟨(stripL p.1).toArray⟩ else []) ++ plainL [] ++ p.2).Sublist (c :: t)
            rw [if_pos (Or.inr rfl), L_mk, show plainL ([] : List Sp) = [] from by rw [plainL], List.append_nil]
            refine List.Sublist.trans ?_ (List.drop_sublist (ticksL (c :: t)) (c :: t))
            rw [g2, ← g1]
            exact (List.Sublist.append g4 (List.sublist_append_right _ _))
        · cases h
theorem rdF_reads : ∀ (n : Nat) (e k : Bool) (acc : List Sp) (l : List UInt8), (∀ x ∈ acc, x.f0 = 1 → x.f2 = []) → Reads acc l (rdF dstB n e k acc l)
  | 0, _, _, _, _, h => by rw [rdF]; exact ⟨⟨[], by simp, List.Sublist.refl _⟩, h⟩
  | n + 1, e, k, acc, [], h => by rw [rdF]; exact ⟨⟨[], by simp, List.Sublist.refl _⟩, h⟩
  | n + 1, e, k, acc, c :: t, h => by
    rw [rdF]
    split
    · exact ⟨⟨[], by simp, List.Sublist.refl _⟩, h⟩
    · split
      · rename_i d r hd
        obtain ⟨⟨q, h1, h2⟩, h3⟩ := rdF_reads n e k (putL acc [d]) r (put_kids [d] acc h)
        refine ⟨⟨d :: q, by rw [h1, plain_put [d] acc h]; simp, ?_⟩, h3⟩
        have hsub : (d :: r).Sublist (c :: t) := by
          unfold escL at hd
          split at hd
          · rename_i c' d' t' heq
            split at hd
            · injection hd with hd; injection hd with g1 g2; subst g1; subst g2
              rw [heq]; exact List.sublist_cons_self _ _
            · cases hd
          · cases hd
        exact (List.Sublist.cons_cons d h2).trans hsub
      · split
        · rename_i x r hx
          obtain ⟨g1, g2⟩ := encl_reads (fun e k t _ => rdF_reads n e k [] t (fun x hx => by cases hx)) hx
          obtain ⟨⟨q, h1, h2⟩, h3⟩ := rdF_reads n e k (acc ++ [x]) r (fun y hy => by
            rcases List.mem_append.1 hy with hy | hy
            · exact h y hy
            · simp at hy; subst hy; intro hy1; exact absurd hy1 g2)
          refine ⟨⟨plainV x ++ q, by rw [h1, plainL_snoc, List.append_assoc], ?_⟩, h3⟩
          rw [List.append_assoc]
          exact (List.Sublist.append_left h2 (plainV x)).trans g1
        · generalize max 1 (ticksL (c :: t)) = m
          obtain ⟨⟨q, h1, h2⟩, h3⟩ := rdF_reads n e k (putL acc ((c :: t).take m)) ((c :: t).drop m) (put_kids _ acc h)
          refine ⟨⟨(c :: t).take m ++ q, by rw [h1, plain_put _ acc h, List.append_assoc], ?_⟩, h3⟩
          rw [List.append_assoc]
          have := List.Sublist.append_left h2 ((c :: t).take m)
          rwa [List.take_append_drop] at this
theorem parse_sub (l : List UInt8) : (plainL (parseL l)).Sublist l := by
  obtain ⟨⟨q, h1, h2⟩, _⟩ := rdF_reads l.length false false [] l (fun x hx => by cases hx)
  rw [show plainL ([] : List Sp) = [] from by rw [plainL], List.nil_append] at h1
  have e : (rdF dstB l.length false false [] l).2 = [] := rdL_end l
  rw [e, List.append_nil, ← h1] at h2
  exact h2
theorem short_l0 (s p : ByteArray) (hs : s.size ≤ 300) (hp : p.size ≤ 300) : ∀ (d e k i a : Nat), i + d = p.size → a + e = s.size → ((L p).drop i).Sublist ((L s).drop a) →
    (d + e < k → emendationlaw08_SpaninShort.l0 k s p (a : Int) (p.size : Int) (i : Int) = some true) ∧ (i < p.size → d + e ≤ k → emendationlaw08_SpaninShort.l1 k s p (a : Int) (i : Int) (p.size : Int) (i : Int) = some true) := by
  intro d
  induction d with
  | zero =>
    intro e k i a h1 h2 _
    refine ⟨fun hk => ?_, fun h _ => by omega⟩
    obtain ⟨k, rfl⟩ : ∃ m, k = m + 1 := ⟨k - 1, by omega⟩
    rw [emendationlaw08_SpaninShort.l0, if_neg (by omega)]
  | succ d ih =>
    intro e
    induction e with
    | zero =>
      intro k i a h1 h2 hsub
      have hl : i < (L p).length := by rw [← L_size]; omega
      rw [List.drop_eq_getElem_cons hl, show (L s).drop a = [] from List.drop_eq_nil_of_le (by rw [← L_size]; omega)] at hsub
      cases hsub
    | succ e ihe =>
      intro k i a h1 h2 hsub
      have hl : i < (L p).length := by rw [← L_size]; omega
      have hla : a < (L s).length := by rw [← L_size]; omega
      have w1 : wrap64 ((a : Int) + 1) = ((a + 1 : Nat) : Int) := by rw [wrap_small (by omega) (by omega)]; omega
      have w2 : wrap64 ((i : Int) + 1) = ((i + 1 : Nat) : Int) := by rw [wrap_small (by omega) (by omega)]; omega
      have main : ∀ k, d + e + 2 ≤ k → emendationlaw08_SpaninShort.l1 k s p (a : Int) (i : Int) (p.size : Int) (i : Int) = some true := by
        intro k hk
        obtain ⟨k, rfl⟩ : ∃ m, k = m + 1 := ⟨k - 1, by omega⟩
        rw [emendationlaw08_SpaninShort.l1, if_pos (by omega), if_pos (by omega), if_pos (by omega), if_pos (by omega), bt_L s a hla, bt_L p i hl, w1, w2]
        rw [List.drop_eq_getElem_cons hl, List.drop_eq_getElem_cons hla] at hsub
        by_cases hc : (L s)[a] = (L p)[i]
        · rw [if_pos (by rw [hc]), if_neg (by omega)]
          have hsub2 : ((L p).drop (i + 1)).Sublist ((L s).drop (a + 1)) := by
            rw [hc] at hsub
            exact List.cons_sublist_cons.1 hsub
          exact (ih e k (i + 1) (a + 1) (by omega) (by omega) hsub2).1 (by omega)
        · have hc2 : ¬ ((((L s)[a]).toNat : Nat) : Int) = ((((L p)[i]).toNat : Nat) : Int) := fun h => hc (toNat_inj (Int.ofNat.inj h))
          rw [if_neg hc2]
          have hsub2 : ((L p).drop i).Sublist ((L s).drop (a + 1)) := by
            rw [List.drop_eq_getElem_cons hl]
            have key : ∀ (x y : UInt8) (l m : List UInt8), x ≠ y → (x :: l).Sublist (y :: m) → (x :: l).Sublist m := by
              intro x y l m hne h
              cases h with
              | cons _ h => exact h
              | cons_cons _ h => exact absurd rfl hne
            exact key _ _ _ _ (fun e => hc e.symm) hsub
          exact (ihe k i (a + 1) h1 (by omega) hsub2).2 (by omega) (by omega)
      refine ⟨fun hk => ?_, fun _ hk => main k (by omega)⟩
      obtain ⟨k, rfl⟩ : ∃ m, k = m + 1 := ⟨k - 1, by omega⟩
      rw [emendationlaw08_SpaninShort.l0, if_pos (by omega)]
      exact main k (by omega)
theorem short_law (a0 : ByteArray) (h0 : a0.size ≤ 140737488351232) : ∀ K, 4000 ≤ K → emendationlaw08_SpaninShort.f (K + 1) a0 = some true := by
  intro K hK
  unfold emendationlaw08_SpaninShort.f
  rw [awake08 _ (by omega), Option.bind_some, if_pos rfl, emendationlaw08_SpaninShort.j0]
  by_cases h : (a0.size : Int) > 300
  · rw [if_pos (decide_eq_true h), awake08 _ (by omega)]; rfl
  · have hw := parse_wt (L a0)
    rw [← L_size] at hw
    have hsub := parse_sub (L a0)
    have hlen := hsub.length_le
    rw [← L_size] at hlen
    have hz : (⟨(plainL (parseL (L a0))).toArray⟩ : ByteArray).size = (plainL (parseL (L a0))).length := by rw [L_size, L_mk]
    rw [if_neg (by simpa using h), Parse_eq a0 (by omega), Option.bind_some, ref_Plain_eq _ _ K (Nat.lt_succ_self _) (by omega) (by omega), Option.bind_some]
    have := (short_l0 a0 ⟨(plainL (parseL (L a0))).toArray⟩ (by omega) (by omega) (plainL (parseL (L a0))).length a0.size K 0 0 (by omega) (by omega) (by rw [List.drop_zero, List.drop_zero, L_mk]; exact hsub)).1 (by omega)
    exact this
theorem SpaninShort (a0 : ByteArray) (h0 : a0.size ≤ 140737488351232) : ∃ k, emendationlaw08_SpaninShort.f k a0 = some true := ⟨4000 + 1, short_law a0 h0 4000 (Nat.le_refl _)⟩
end Go.Proofs.YtmfffpfenhgjbaaDoor.Pure
