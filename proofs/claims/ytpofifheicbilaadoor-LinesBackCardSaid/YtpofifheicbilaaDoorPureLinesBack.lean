/- The law LinesBack, as a statement of lists of bytes: lines without ends in them are joined, and split, as they were. -/
import Derived.Test.YtpofifheicbilaaDoorPMore02
namespace Go.Proofs.YtpofifheicbilaaDoor.Pure
open Go.RowKit Go.Proofs.YtpofifheicbilaaDoor.X Go.Proofs.YtpofifheicbilaaDoor.G Go.Proofs.YtpofifheicbilaaDoorW.PrintWords Go.Proofs.YtpofifheicbilaaDoorW.PrintLast Go.Proofs.YtpofifheicbilaaDoorW.PrintMore
def clean (x : List UInt8) : Prop := ∀ b ∈ x, b ≠ 10 ∧ b ≠ 13
theorem longest_zero (c : Int) : ∀ l : List UInt8, longest l c = 0 → ∀ b ∈ l, isB c b = false
  | [], _, b, hb => by cases hb
  | x :: t, h, b, hb => by
    simp only [longest, run_cons] at h
    by_cases hx : isB c x = true
    · rw [if_pos hx] at h; omega
    · rcases List.mem_cons.1 hb with rfl | hb
      · simpa using hx
      · exact longest_zero c t (by omega) b hb
theorem clean_of_longest (l : List UInt8) (h1 : longest l 10 = 0) (h2 : longest l 13 = 0) : clean l := fun b hb => by
  have a1 := longest_zero 10 l h1 b hb
  have a2 := longest_zero 13 l h2 b hb
  constructor
  · rintro rfl; cases a1
  · rintro rfl; cases a2
theorem spl_jE : ∀ ls : List (List UInt8), (∀ x ∈ ls, clean x) → spl false [] (jE ls) = (ls, true)
  | [], _ => rfl
  | x :: t, h => by
    have ih := spl_jE t (fun y hy => h y (by simp [hy]))
    simp only [jE]
    rw [spl_plain0 x _ (h x (by simp)), spl_lf, ih]
theorem spl_jN (last : List UInt8) (hl : clean last) : ∀ init : List (List UInt8), (∀ x ∈ init, clean x) → spl false [] (jN (init ++ [last])) = (init ++ (if last = [] then [] else [last]), decide (last = []))
  | [], _ => by
    have := spl_plain0 last [] hl
    rw [List.append_nil] at this
    simp only [List.nil_append, jN]
    rw [this]
    simp only [spl]
    by_cases h : last = []
    · simp [h]
    · simp [h]
  | x :: t, h => by
    have ih := spl_jN last hl t (fun y hy => h y (by simp [hy]))
    rw [List.cons_append, jN_cons _ _ (by simp), spl_plain0 x _ (h x (by simp)), spl_lf, ih]
    rfl
theorem Back_end (l : List ByteArray) (e : Bool) (k : Nat) (hs : small l) (hc : ∀ x ∈ l.map L, clean x) (hk : 300000 < k) :
    ((lines_Join.f l e).bind fun t253 => ((lines_Split.f k t253).bind fun bt254 => (if e = true then (emendationlaw02_LinesBack.j2 k l e bt254.1 bt254.2 false) else (if (l.length : Int) > 0 then (if 0 ≤ (wrap64 ((l.length : Int) - 1)) then (if (wrap64 ((l.length : Int) - 1)) < (l.length : Int) then (emendationlaw02_LinesBack.j2 k l e bt254.1 bt254.2 ((rdOf ByteArray.empty l (wrap64 ((l.length : Int) - 1))).toList == ([] : List UInt8))) else (none)) else (none)) else (emendationlaw02_LinesBack.j2 k l e bt254.1 bt254.2 false))))) = some true := by
  have hl1 := hs.1
  have hj := joinL_length l e hs
  have hsz : (⟨(joinL (l.map L) e).toArray⟩ : ByteArray).size = (joinL (l.map L) e).length := by rw [L_size, L_mk]
  obtain ⟨r, hr, hm⟩ := lines_Split_eq (⟨(joinL (l.map L) e).toArray⟩ : ByteArray) k (by omega) (by omega)
  rw [L_mk] at hr hm
  rw [lines_Join_eq l e hs, Option.bind_some, hr, Option.bind_some]
  obtain ⟨k, rfl⟩ : ∃ m, k = m + 1 := ⟨k - 1, by omega⟩
  cases e with
  | true =>
    have hsp := spl_jE (l.map L) hc
    have e1 : joinL (l.map L) true = jE (l.map L) := rfl
    rw [e1, hsp] at hm ⊢
    have hlen : r.length = l.length := by have := congrArg List.length hm; simpa using this
    simp only [if_true, emendationlaw02_LinesBack.j2, Bool.false_eq_true, if_false]
    rw [Same_eq r l k (by omega) (by omega), hm]
    simp
  | false =>
    have e1 : joinL (l.map L) false = jN (l.map L) := rfl
    rw [e1] at hm ⊢
    simp only [Bool.false_eq_true, if_false]
    by_cases h0 : l = []
    · subst h0
      have : r = [] := by simpa [jN, spl] using hm
      subst this
      simp only [List.length_nil, emendationlaw02_LinesBack.j2, Bool.false_eq_true, if_false]
      rw [if_neg (by decide), Same_eq [] [] k (by simp) (by simp; omega)]
      simp [jN, spl]
    · obtain ⟨init, last, hil⟩ : ∃ i x, l = i ++ [x] := ⟨_, _, (List.dropLast_concat_getLast h0).symm⟩
      have hlen : l.length = init.length + 1 := by rw [hil]; simp
      have hmap : l.map L = init.map L ++ [L last] := by rw [hil]; simp
      have hw : wrap64 ((l.length : Int) - 1) = (init.length : Int) := by rw [hlen, wrap_small (by omega) (by omega)]; omega
      have hlast : rdOf ByteArray.empty l (init.length : Int) = last := by
        rw [rdOf_get _ l init.length (by omega)]
        simp [hil]
      have hsp := spl_jN (L last) (hc _ (by rw [hmap]; simp)) (init.map L) (fun x hx => hc x (by rw [hmap]; exact List.mem_append_left _ hx))
      rw [hmap, hsp] at hm ⊢
      rw [if_pos (by omega), hw, if_pos (by omega), if_pos (by omega), hlast, L_toList]
      by_cases hz : L last = []
      · have hrl : r.length = init.length := by have := congrArg List.length hm; simpa [hz] using this
        simp only [emendationlaw02_LinesBack.j2, hw]
        rw [hz]
        simp only [beq_self_eq_true, if_true]
        rw [if_pos (by omega), if_pos (by omega), Int.toNat_natCast, Same_eq r _ k (by omega) (by omega), hm, hil, List.take_left]
        simp [hz]
      · have hrl : r.length = l.length := by have := congrArg List.length hm; simp [hz] at this; omega
        simp only [emendationlaw02_LinesBack.j2]
        rw [if_neg (by simp [hz]), Same_eq r l k (by omega) (by omega), hm, hmap]
        simp [hz]
theorem Back_l0 (l : List ByteArray) (e : Bool) (hs : small l) : ∀ (d k i : Nat), i + d = l.length → d + 300001 < k → (∀ x ∈ (l.map L).take i, clean x) → emendationlaw02_LinesBack.l0 k l e (l.length : Int) (i : Int) = some true := by
  have hl1 := hs.1
  intro d
  induction d with
  | zero =>
    intro k i h hk hc
    obtain ⟨k, rfl⟩ : ∃ m, k = m + 1 := ⟨k - 1, by omega⟩
    simp only [emendationlaw02_LinesBack.l0]
    rw [if_neg (by omega)]
    rw [List.take_of_length_le (by simp; omega)] at hc
    exact Back_end l e k hs hc (by omega)
  | succ d ih =>
    intro k i h hk hc
    obtain ⟨k, rfl⟩ : ∃ m, k = m + 1 := ⟨k - 1, by omega⟩
    have ha : i < l.length := by omega
    have hx := hs.2 l[i] (List.getElem_mem ha)
    simp only [emendationlaw02_LinesBack.l0]
    rw [if_pos (by omega), if_pos (by omega), if_pos (by omega), rdOf_get _ l i ha, lines_Longest_eq l[i] 10 k (by omega) (by omega), Option.bind_some, lines_Longest_eq l[i] 13 k (by omega) (by omega), Option.bind_some]
    have b1 := longest_le 10 (L l[i])
    have b2 := longest_le 13 (L l[i])
    rw [← L_size] at b1 b2
    rw [wrap_small (x := (longest (L l[i]) 10 : Int) + (longest (L l[i]) 13 : Int)) (by omega) (by omega)]
    by_cases hz : (longest (L l[i]) 10 : Int) + (longest (L l[i]) 13 : Int) > 0
    · rw [if_pos hz]
    · rw [if_neg hz, wrap_small (x := (i : Int) + 1) (by omega) (by omega), show (i : Int) + 1 = ((i + 1 : Nat) : Int) from by omega]
      refine ih k (i + 1) (by omega) (by omega) (fun x hx => ?_)
      have hi' : i < (l.map L).length := by simpa using ha
      rw [← List.take_append_getElem hi', List.mem_append] at hx
      rcases hx with hx | hx
      · exact hc x hx
      · have hx' : x = (l.map L)[i] := by simpa using hx
        rw [hx', get_map_L l i ha]
        exact clean_of_longest _ (by omega) (by omega)
theorem LinesBack (l0 : List ByteArray) (a1 : Bool) : ∃ k, emendationlaw02_LinesBack.f k l0 a1 = some true := by
  obtain ⟨K, hK⟩ : ∃ K : Nat, 400000 ≤ K := ⟨_, Nat.le_refl _⟩
  refine ⟨K + 1, ?_⟩
  have hj : ∀ b, (b = false → small l0) → emendationlaw02_LinesBack.j0 (K + 1) l0 a1 b = some true := by
    intro b hb
    simp only [emendationlaw02_LinesBack.j0]
    cases b with
    | true => rw [if_pos rfl, awake_eq _ (by omega)]; rfl
    | false =>
      rw [if_neg (by decide)]
      have h1 := (hb rfl).1
      exact Back_l0 l0 a1 (hb rfl) l0.length K 0 (by omega) (by omega) (by simp)
  unfold emendationlaw02_LinesBack.f
  rw [awake_eq _ (by omega), Option.bind_some, if_pos rfl]
  obtain ⟨r, hr, hm⟩ := few_eq l0 (K + 1) (by omega)
  rw [hr, Option.bind_some]
  exact hj (!r) (fun hb => hm (by cases r <;> simp_all))
end Go.Proofs.YtpofifheicbilaaDoor.Pure
