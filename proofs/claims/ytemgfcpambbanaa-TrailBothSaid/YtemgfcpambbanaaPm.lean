/- What the trail functions answer, as plain lists: joined trails; a trail without rounds is simple, begins and ends as it did, and goes by its own steps. -/
import Derived.Test.YtemgfcpambbanaaPl
namespace Go.Proofs.Ytemgfcpambbanaa.PT
open Go.RowKit Go.Proofs.YtemgfcpambbanaaW.PrintWords

/-- From place k on, u stands somewhere with v right behind it. -/
def HitFrom (l : List Int) (u v : Int) (k : Nat) : Prop := ∃ j, k ≤ j ∧ l[j]? = some u ∧ l[j + 1]? = some v
theorem hit_end {l : List Int} {u v : Int} {k : Nat} (h : ¬ k + 1 < l.length) : ¬ HitFrom l u v k := by
  rintro ⟨j, hj, _, h2⟩
  have := (List.getElem?_eq_some_iff.1 h2).1
  omega
theorem hit_step {l : List Int} {u v : Int} {k : Nat} (h : k + 1 < l.length) : HitFrom l u v k ↔ (l[k] = u ∧ l[k + 1] = v) ∨ HitFrom l u v (k + 1) := by
  constructor
  · rintro ⟨j, hj, h1, h2⟩
    rcases Nat.eq_or_lt_of_le hj with e | e
    · subst e
      rw [List.getElem?_eq_getElem (by omega)] at h1 h2
      exact .inl ⟨Option.some.inj h1, Option.some.inj h2⟩
    · exact .inr ⟨j, e, h1, h2⟩
  · rintro (⟨rfl, rfl⟩ | ⟨j, hj, h1, h2⟩)
    · exact ⟨k, Nat.le_refl _, List.getElem?_eq_getElem (by omega), List.getElem?_eq_getElem h⟩
    · exact ⟨j, by omega, h1, h2⟩
/-- From place i on each step of t is a step of l. -/
def JoinFrom (t l : List Int) (i : Nat) : Prop := ∀ j, i ≤ j → ∀ u v, t[j]? = some u → t[j + 1]? = some v → HitFrom l u v 0
theorem join_end {t l : List Int} {i : Nat} (h : ¬ i + 1 < t.length) : JoinFrom t l i := fun j hj u v _ h2 => by
  have := (List.getElem?_eq_some_iff.1 h2).1
  omega
theorem join_step {t l : List Int} {i : Nat} (h : i + 1 < t.length) : JoinFrom t l i ↔ HitFrom l t[i] t[i + 1] 0 ∧ JoinFrom t l (i + 1) := by
  constructor
  · exact fun H => ⟨H i (Nat.le_refl _) _ _ (List.getElem?_eq_getElem (by omega)) (List.getElem?_eq_getElem h), fun j hj => H j (by omega)⟩
  · rintro ⟨H1, H2⟩ j hj u v h1 h2
    rcases Nat.eq_or_lt_of_le hj with e | e
    · subst e
      rw [List.getElem?_eq_getElem (by omega)] at h1 h2
      injection h1 with h1
      injection h2 with h2
      subst h1 h2
      exact H1
    · exact H2 j e u v h1 h2
theorem wrap_up2 {p : Nat} (h : p ≤ 100000) : wrap64 (((p + 1 : Nat) : Int) + 1) = ((p + 2 : Nat) : Int) := by unfold wrap64; omega
theorem joins_l1 {t l : List Int} {R : Bool} (ht : t.length ≤ 1000) (hl : l.length ≤ 1000) {i : Nat} (hi : i + 1 < t.length) :
    ∀ (d k : Nat) (ok : Bool), l.length - k = d → k ≤ l.length → ((ok = true ∨ HitFrom l t[i] t[i + 1] k) → Ev (fun f => trail_Joins.l0 f t l ((i + 2 : Nat) : Int)) R) → (¬ (ok = true ∨ HitFrom l t[i] t[i + 1] k) → R = false) →
    Ev (fun f => trail_Joins.l1 f t l ((i + 1 : Nat) : Int) ok ((k + 1 : Nat) : Int)) R := by
  intro d
  induction d with
  | zero =>
    intro k ok hd hk hy hn
    have hne := hit_end (l := l) (u := t[i]) (v := t[i + 1]) (k := k) (by omega)
    cases ok with
    | true =>
      refine Ev.step (fun f => ?_) (hy (.inl rfl))
      simp only [trail_Joins.l1]
      rw [if_neg (by omega), if_pos trivial, wrap_up2 (by omega)]
    | false =>
      have hR := hn (by simp [hne])
      subst hR
      refine Ev.step (f := fun _ => some false) (fun f => ?_) (Ev.now _)
      simp only [trail_Joins.l1]
      rw [if_neg (by omega), if_neg (by decide)]
  | succ d ih =>
    intro k ok hd hk hy hn
    by_cases hlt : k + 1 < l.length
    · have hs := hit_step (u := t[i]) (v := t[i + 1]) hlt
      cases ok with
      | true =>
        refine Ev.step (fun f => ?_) (ih (k + 1) true (by omega) (by omega) (fun _ => hy (.inl rfl)) (fun h => absurd (.inl rfl) h))
        simp only [trail_Joins.l1]
        rw [if_pos (by omega), if_pos trivial, wrap_up2 (by omega)]
      | false =>
        by_cases e : l[k] = t[i]
        · refine Ev.step (fun f => ?_) (ih (k + 1) (l[k + 1] == t[i + 1]) (by omega) (by omega) (fun h => hy (.inr ?_)) (fun h => hn ?_))
          · simp only [trail_Joins.l1]
            rw [if_pos (by omega), if_neg (by decide), wrap_down (by omega), wrap_down (by omega), if_pos (by omega), if_pos (by omega), if_pos (by omega), if_pos (by omega), rd_at (by omega), rd_at (by omega), if_pos e, if_pos (by omega), if_pos (by omega), if_pos (by omega), rd_at hlt, rd_at hi, wrap_up2 (by omega)]
          · rw [hs]
            rcases h with h | h
            · exact .inl ⟨e, by simpa using h⟩
            · exact .inr h
          · rintro (h2 | h2)
            · cases h2
            · rw [hs] at h2
              rcases h2 with h2 | h2
              · exact h (.inl (by simpa using h2.2))
              · exact h (.inr h2)
        · refine Ev.step (fun f => ?_) (ih (k + 1) false (by omega) (by omega) (fun h => hy (.inr ?_)) (fun h => hn ?_))
          · simp only [trail_Joins.l1]
            rw [if_pos (by omega), if_neg (by decide), wrap_down (by omega), wrap_down (by omega), if_pos (by omega), if_pos (by omega), if_pos (by omega), if_pos (by omega), rd_at (by omega), rd_at (by omega), if_neg e, wrap_up2 (by omega)]
          · rw [hs]
            rcases h with h | h
            · cases h
            · exact .inr h
          · rintro (h2 | h2)
            · cases h2
            · rw [hs] at h2
              rcases h2 with h2 | h2
              · exact e h2.1
              · exact h (.inr h2)
    · have hne := hit_end (u := t[i]) (v := t[i + 1]) hlt
      cases ok with
      | true =>
        refine Ev.step (fun f => ?_) (hy (.inl rfl))
        simp only [trail_Joins.l1]
        rw [if_neg (by omega), if_pos trivial, wrap_up2 (by omega)]
      | false =>
        have hR := hn (by simp [hne])
        subst hR
        refine Ev.step (f := fun _ => some false) (fun f => ?_) (Ev.now _)
        simp only [trail_Joins.l1]
        rw [if_neg (by omega), if_neg (by decide)]
theorem joins_l0 {t l : List Int} (ht : t.length ≤ 1000) (hl : l.length ≤ 1000) : ∀ (d i : Nat), t.length - i = d → ∃ b, Ev (fun f => trail_Joins.l0 f t l ((i + 1 : Nat) : Int)) b ∧ (b = true ↔ JoinFrom t l i) := by
  intro d
  induction d with
  | zero =>
    intro i hd
    refine ⟨true, Ev.step (f := fun _ => some true) (fun f => ?_) (Ev.now _), by simpa using join_end (by omega)⟩
    simp only [trail_Joins.l0]
    rw [if_neg (by omega)]
  | succ d ih =>
    intro i hd
    by_cases hlt : i + 1 < t.length
    · obtain ⟨b, hb, hbs⟩ := ih (i + 1) (by omega)
      have hj := join_step (l := l) hlt
      by_cases hh : HitFrom l t[i] t[i + 1] 0
      · refine ⟨b, Ev.step (fun f => ?_) (joins_l1 ht hl hlt l.length 0 false (by omega) (by omega) (fun _ => hb) (fun h => absurd (.inr hh) h)), by rw [hj, hbs]; simp [hh]⟩
        simp only [trail_Joins.l0]
        rw [if_pos (by omega)]
        rfl
      · refine ⟨false, Ev.step (fun f => ?_) (joins_l1 (R := false) ht hl hlt l.length 0 false (by omega) (by omega) (fun h => ?_) (fun _ => rfl)), by rw [hj]; simp [hh]⟩
        · simp only [trail_Joins.l0]
          rw [if_pos (by omega)]
          rfl
        · rcases h with h | h
          · cases h
          · exact absurd h hh
    · refine ⟨true, Ev.step (f := fun _ => some true) (fun f => ?_) (Ev.now _), by simpa using join_end hlt⟩
      simp only [trail_Joins.l0]
      rw [if_neg (by omega)]
theorem refJoins_l1 {t l : List Int} {R : Bool} (ht : t.length ≤ 1000) (hl : l.length ≤ 1000) {i : Nat} (hi : i + 1 < t.length) :
    ∀ (d k : Nat) (ok : Bool), l.length - k = d → k ≤ l.length → ((ok = true ∨ HitFrom l t[i] t[i + 1] k) → Ev (fun f => annuletref11_Joins.l0 f t l ((i + 1 : Nat) : Int)) R) → (¬ (ok = true ∨ HitFrom l t[i] t[i + 1] k) → R = false) →
    Ev (fun f => annuletref11_Joins.l1 f t l (i : Int) ok (k : Int)) R := by
  intro d
  induction d with
  | zero =>
    intro k ok hd hk hy hn
    have hne := hit_end (l := l) (u := t[i]) (v := t[i + 1]) (k := k) (by omega)
    cases ok with
    | true =>
      refine Ev.step (fun f => ?_) (hy (.inl rfl))
      simp only [annuletref11_Joins.l1]
      rw [wrap_up (p := k) (by omega), if_neg (by omega), if_pos trivial, wrap_up (by omega)]
    | false =>
      have hR := hn (by simp [hne])
      subst hR
      refine Ev.step (f := fun _ => some false) (fun f => ?_) (Ev.now _)
      simp only [annuletref11_Joins.l1]
      rw [wrap_up (p := k) (by omega), if_neg (by omega), if_neg (by decide)]
  | succ d ih =>
    intro k ok hd hk hy hn
    by_cases hlt : k + 1 < l.length
    · have hs := hit_step (u := t[i]) (v := t[i + 1]) hlt
      by_cases e : l[k] = t[i]
      · by_cases e2 : l[k + 1] = t[i + 1]
        · refine Ev.step (fun f => ?_) (ih (k + 1) true (by omega) (by omega) (fun _ => hy (.inr (hs.2 (.inl ⟨e, e2⟩)))) (fun h => absurd (.inl rfl) h))
          simp only [annuletref11_Joins.l1]
          rw [wrap_up (p := k) (by omega), if_pos (by omega), if_pos (by omega), if_pos (by omega), if_pos (by omega), if_pos (by omega), rd_at (by omega), rd_at (by omega), if_pos e, wrap_up (p := i) (by omega), if_pos (by omega), if_pos (by omega), if_pos (by omega), rd_at hlt, rd_at hi, if_pos e2]
        · refine Ev.step (fun f => ?_) (ih (k + 1) ok (by omega) (by omega) (fun h => hy ?_) (fun h => hn ?_))
          · simp only [annuletref11_Joins.l1]
            rw [wrap_up (p := k) (by omega), if_pos (by omega), if_pos (by omega), if_pos (by omega), if_pos (by omega), if_pos (by omega), rd_at (by omega), rd_at (by omega), if_pos e, wrap_up (p := i) (by omega), if_pos (by omega), if_pos (by omega), if_pos (by omega), rd_at hlt, rd_at hi, if_neg e2]
          · exact h.imp id (fun h => hs.2 (.inr h))
          · rintro (h2 | h2)
            · exact h (.inl h2)
            · rw [hs] at h2
              rcases h2 with h2 | h2
              · exact e2 h2.2
              · exact h (.inr h2)
      · refine Ev.step (fun f => ?_) (ih (k + 1) ok (by omega) (by omega) (fun h => hy ?_) (fun h => hn ?_))
        · simp only [annuletref11_Joins.l1]
          rw [wrap_up (p := k) (by omega), if_pos (by omega), if_pos (by omega), if_pos (by omega), if_pos (by omega), if_pos (by omega), rd_at (by omega), rd_at (by omega), if_neg e]
        · exact h.imp id (fun h => hs.2 (.inr h))
        · rintro (h2 | h2)
          · exact h (.inl h2)
          · rw [hs] at h2
            rcases h2 with h2 | h2
            · exact e h2.1
            · exact h (.inr h2)
    · have hne := hit_end (u := t[i]) (v := t[i + 1]) hlt
      cases ok with
      | true =>
        refine Ev.step (fun f => ?_) (hy (.inl rfl))
        simp only [annuletref11_Joins.l1]
        rw [wrap_up (p := k) (by omega), if_neg (by omega), if_pos trivial, wrap_up (by omega)]
      | false =>
        have hR := hn (by simp [hne])
        subst hR
        refine Ev.step (f := fun _ => some false) (fun f => ?_) (Ev.now _)
        simp only [annuletref11_Joins.l1]
        rw [wrap_up (p := k) (by omega), if_neg (by omega), if_neg (by decide)]
theorem refJoins_l0 {t l : List Int} (ht : t.length ≤ 1000) (hl : l.length ≤ 1000) : ∀ (d i : Nat), i ≤ t.length → t.length - i = d → ∃ b, Ev (fun f => annuletref11_Joins.l0 f t l (i : Int)) b ∧ (b = true ↔ JoinFrom t l i) := by
  intro d
  induction d with
  | zero =>
    intro i hi hd
    refine ⟨true, Ev.step (f := fun _ => some true) (fun f => ?_) (Ev.now _), by simpa using join_end (by omega)⟩
    simp only [annuletref11_Joins.l0]
    rw [wrap_up (by omega), if_neg (by omega)]
  | succ d ih =>
    intro i hi hd
    by_cases hlt : i + 1 < t.length
    · obtain ⟨b, hb, hbs⟩ := ih (i + 1) (by omega) (by omega)
      have hj := join_step (l := l) hlt
      by_cases hh : HitFrom l t[i] t[i + 1] 0
      · refine ⟨b, Ev.step (fun f => ?_) (refJoins_l1 ht hl hlt l.length 0 false (by omega) (by omega) (fun _ => hb) (fun h => absurd (.inr hh) h)), by rw [hj, hbs]; simp [hh]⟩
        simp only [annuletref11_Joins.l0]
        rw [wrap_up (by omega), if_pos (by omega)]
        rfl
      · refine ⟨false, Ev.step (fun f => ?_) (refJoins_l1 (R := false) ht hl hlt l.length 0 false (by omega) (by omega) (fun h => ?_) (fun _ => rfl)), by rw [hj]; simp [hh]⟩
        · simp only [annuletref11_Joins.l0]
          rw [wrap_up (by omega), if_pos (by omega)]
          rfl
        · rcases h with h | h
          · cases h
          · exact absurd h hh
    · refine ⟨true, Ev.step (f := fun _ => some true) (fun f => ?_) (Ev.now _), by simpa using join_end hlt⟩
      simp only [annuletref11_Joins.l0]
      rw [wrap_up (by omega), if_neg (by omega)]
theorem joins_ev {t l : List Int} (ht : t.length ≤ 1000) (hl : l.length ≤ 1000) : ∃ b, Ev (fun f => trail_Joins.f f t l) b ∧ (b = true ↔ JoinFrom t l 0) := joins_l0 ht hl t.length 0 (by omega)
theorem refJoins_ev {t l : List Int} (ht : t.length ≤ 1000) (hl : l.length ≤ 1000) : ∃ b, Ev (fun f => annuletref11_Joins.f f t l) b ∧ (b = true ↔ JoinFrom t l 0) := refJoins_l0 ht hl t.length 0 (by omega) (by omega)

/-! ### A trail without rounds -/
theorem aft_not (x : Int) : ∀ l : List Int, x ∉ aft x l
  | [] => by simp [aft]
  | y :: ys => by
    unfold aft
    by_cases h : x ∈ ys
    · rw [if_pos h]; exact aft_not x ys
    · rw [if_neg h]
      by_cases e : y = x
      · rw [if_pos e]; exact h
      · rw [if_neg e, List.mem_cons, not_or]; exact ⟨fun h2 => e h2.symm, h⟩
theorem aft_mem (x : Int) : ∀ (l : List Int) (z : Int), z ∈ aft x l → z ∈ l
  | [], z, h => by simp [aft] at h
  | y :: ys, z, h => by
    unfold aft at h
    by_cases c : x ∈ ys
    · rw [if_pos c] at h; exact List.mem_cons_of_mem _ (aft_mem x ys z h)
    · rw [if_neg c] at h
      by_cases e : y = x
      · rw [if_pos e] at h; exact List.mem_cons_of_mem _ h
      · rw [if_neg e] at h; exact h
theorem er_mem : ∀ (n : Nat) (l : List Int), l.length ≤ n → ∀ z ∈ er l, z ∈ l := by
  intro n
  induction n with
  | zero =>
    intro l hl z hz
    have : l = [] := List.eq_nil_of_length_eq_zero (by omega)
    subst this
    simp [er_nil] at hz
  | succ n ih =>
    intro l hl z hz
    cases l with
    | nil => simp [er_nil] at hz
    | cons x xs =>
      rw [er_cons, List.mem_cons] at hz
      rcases hz with rfl | hz
      · simp
      · have := aft_le x xs
        simp only [List.length_cons] at hl
        exact List.mem_cons_of_mem _ (aft_mem x xs z (ih _ (by omega) z hz))
theorem er_nodup : ∀ (n : Nat) (l : List Int), l.length ≤ n → (er l).Nodup := by
  intro n
  induction n with
  | zero =>
    intro l hl
    have : l = [] := List.eq_nil_of_length_eq_zero (by omega)
    subst this
    simp [er_nil]
  | succ n ih =>
    intro l hl
    cases l with
    | nil => simp [er_nil]
    | cons x xs =>
      have := aft_le x xs
      simp only [List.length_cons] at hl
      rw [er_cons, List.nodup_cons]
      exact ⟨fun h => aft_not x xs (er_mem _ _ (Nat.le_refl _) x h), ih _ (by omega)⟩
theorem er_same {l : List Int} (h : l.Nodup) : er l = l := by
  induction l with
  | nil => exact er_nil
  | cons x xs ih =>
    rw [List.nodup_cons] at h
    rw [er_cons, aft_none h.1, ih h.2]
theorem er_er (l : List Int) : er (er l) = er l := er_same (er_nodup _ l (Nat.le_refl _))
theorem er_len : ∀ (n : Nat) (l : List Int), l.length ≤ n → (er l).length ≤ l.length := by
  intro n
  induction n with
  | zero =>
    intro l hl
    have : l = [] := List.eq_nil_of_length_eq_zero (by omega)
    subst this
    simp [er_nil]
  | succ n ih =>
    intro l hl
    cases l with
    | nil => simp [er_nil]
    | cons x xs =>
      have := aft_le x xs
      simp only [List.length_cons] at hl
      have := ih (aft x xs) (by omega)
      rw [er_cons]
      simp; omega
theorem er_le (l : List Int) : (er l).length ≤ l.length := er_len _ l (Nat.le_refl _)
theorem er_ne {l : List Int} (h : l ≠ []) : er l ≠ [] := by
  cases l with
  | nil => exact absurd rfl h
  | cons x xs => rw [er_cons]; simp
theorem er_head (l : List Int) : (er l)[0]? = l[0]? := by
  cases l with
  | nil => rw [er_nil]
  | cons x xs => rw [er_cons]; rfl
/-- What stands behind the last x ends as the whole does. -/
theorem aft_last (x : Int) : ∀ l : List Int, (x :: aft x l).getLast? = (x :: l).getLast?
  | [] => by simp [aft]
  | y :: ys => by
    unfold aft
    by_cases h : x ∈ ys
    · rw [if_pos h, aft_last x ys]
      cases ys with
      | nil => simp at h
      | cons z zs => simp [List.getLast?_cons_cons]
    · rw [if_neg h]
      by_cases e : y = x
      · rw [if_pos e, e, List.getLast?_cons_cons]
      · rw [if_neg e]
theorem er_last : ∀ (n : Nat) (l : List Int), l.length ≤ n → (er l).getLast? = l.getLast? := by
  intro n
  induction n with
  | zero =>
    intro l hl
    have : l = [] := List.eq_nil_of_length_eq_zero (by omega)
    subst this
    rw [er_nil]
  | succ n ih =>
    intro l hl
    cases l with
    | nil => rw [er_nil]
    | cons x xs =>
      have := aft_le x xs
      simp only [List.length_cons] at hl
      rw [er_cons, ← aft_last x xs]
      cases h : aft x xs with
      | nil => rw [er_nil]
      | cons y ys =>
        have h2 := ih (aft x xs) (by omega)
        rw [h] at h2
        rw [er_cons] at h2 ⊢
        rw [List.getLast?_cons_cons, List.getLast?_cons_cons]
        exact h2
/-- What stands behind the last x stands behind an x. -/
theorem aft_hit (x : Int) : ∀ (l : List Int) (y : Int) (ys : List Int), aft x l = y :: ys → ∃ k, (x :: l)[k]? = some x ∧ (x :: l).drop (k + 1) = y :: ys
  | [], y, ys, h => by simp [aft] at h
  | z :: zs, y, ys, h => by
    unfold aft at h
    by_cases c : x ∈ zs
    · rw [if_pos c] at h
      obtain ⟨k, h1, h2⟩ := aft_hit x zs y ys h
      cases k with
      | zero =>
        simp only [List.drop_succ_cons, List.drop_zero] at h2
        -- x stands in zs, and the rest behind its last stand is all of zs: then x isn't in zs
        exfalso
        have h3 := aft_not x zs
        rw [h, ← h2] at h3
        exact h3 c
      | succ k =>
        refine ⟨k + 2, ?_, ?_⟩
        · simpa using h1
        · simpa using h2
    · rw [if_neg c] at h
      by_cases e : z = x
      · rw [if_pos e] at h
        exact ⟨1, by simp [e], by simpa using h⟩
      · rw [if_neg e] at h
        exact ⟨0, by simp, by simpa using h⟩
theorem hit_cons {l : List Int} {u v x : Int} (h : HitFrom l u v 0) : HitFrom (x :: l) u v 0 := by
  obtain ⟨j, _, h1, h2⟩ := h
  exact ⟨j + 1, by omega, by simpa using h1, by simpa using h2⟩
theorem hit_aft {x u v : Int} {l : List Int} (h : HitFrom (aft x l) u v 0) : HitFrom (x :: l) u v 0 := by
  obtain ⟨j, _, h1, h2⟩ := h
  cases e : aft x l with
  | nil => rw [e] at h1; simp at h1
  | cons y ys =>
    obtain ⟨k, _, hk⟩ := aft_hit x l y ys e
    rw [e, ← hk, List.getElem?_drop] at h1 h2
    exact ⟨k + 1 + j, by omega, h1, h2⟩
theorem er_joins : ∀ (n : Nat) (l : List Int), l.length ≤ n → JoinFrom (er l) l 0 := by
  intro n
  induction n with
  | zero =>
    intro l hl
    have : l = [] := List.eq_nil_of_length_eq_zero (by omega)
    subst this
    rw [er_nil]
    exact join_end (by simp)
  | succ n ih =>
    intro l hl
    cases l with
    | nil => rw [er_nil]; exact join_end (by simp)
    | cons x xs =>
      have := aft_le x xs
      simp only [List.length_cons] at hl
      have h := ih (aft x xs) (by omega)
      rw [er_cons]
      intro j _ u v h1 h2
      cases j with
      | zero =>
        simp only [List.getElem?_cons_zero, Option.some.injEq] at h1
        subst h1
        simp only [List.getElem?_cons_succ] at h2
        rw [er_head] at h2
        cases e : aft x xs with
        | nil => rw [e] at h2; simp at h2
        | cons y ys =>
          rw [e] at h2
          simp only [List.getElem?_cons_zero, Option.some.injEq] at h2
          subst h2
          obtain ⟨k, hk, hk2⟩ := aft_hit x xs y ys e
          refine ⟨k, by omega, hk, ?_⟩
          have : ((x :: xs).drop (k + 1))[0]? = some y := by rw [hk2]; rfl
          rw [List.getElem?_drop] at this
          exact this
      | succ j =>
        simp only [List.getElem?_cons_succ] at h1 h2
        exact hit_aft (h j (by omega) u v h1 h2)

/-! ### the chapter's examples -/
theorem fixed_ev : Ev (fun k => annuletlaw11_fixed.f k) true := Ev.of annuletlaw11_fixed.mono (k := 40) (by decide +kernel)
end Go.Proofs.Ytemgfcpambbanaa.PT
