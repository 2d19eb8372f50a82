/- What the trail functions answer, as plain lists: rounds taken out, places, simple trails, joined trails. -/
import Derived.Test.YtemgfcpambbanaaC2
import Derived.Test.YtemgfcpambbanaaC3
import Derived.Test.YtemgfcpambbanaaC4
namespace Go.Proofs.Ytemgfcpambbanaa.PT
open Go.RowKit Go.Proofs.YtemgfcpambbanaaW.PrintWords

/-- What stands behind the last x; the list itself, if x stands nowhere. -/
def aft (x : Int) : List Int → List Int
  | [] => []
  | y :: ys => if x ∈ ys then aft x ys else if y = x then ys else y :: ys
theorem aft_le (x : Int) : ∀ l, (aft x l).length ≤ l.length
  | [] => by simp [aft]
  | y :: ys => by
    have := aft_le x ys
    unfold aft
    split
    · simp; omega
    · split <;> simp
def er : List Int → List Int
  | [] => []
  | x :: xs => x :: er (aft x xs)
  termination_by l => l.length
  decreasing_by have := aft_le x xs; simp; omega
theorem er_nil : er [] = [] := by unfold er; rfl
theorem er_cons (x : Int) (xs : List Int) : er (x :: xs) = x :: er (aft x xs) := by rw [er]
theorem aft_none {x : Int} {l : List Int} (h : x ∉ l) : aft x l = l := by
  cases l with
  | nil => rfl
  | cons y ys =>
    simp only [List.mem_cons, not_or] at h
    unfold aft
    rw [if_neg h.2, if_neg (fun e => h.1 e.symm)]
theorem aft_drop {x : Int} : ∀ {l : List Int} {p : Nat}, l[p]? = some x → x ∉ l.drop (p + 1) → aft x l = l.drop (p + 1)
  | [], p, h, _ => by simp at h
  | y :: ys, 0, h, hn => by
    simp only [List.getElem?_cons_zero, Option.some.injEq] at h
    simp only [List.drop_succ_cons, List.drop_zero] at hn ⊢
    unfold aft
    rw [if_neg hn, if_pos h]
  | y :: ys, p + 1, h, hn => by
    simp only [List.getElem?_cons_succ] at h
    simp only [List.drop_succ_cons] at hn ⊢
    unfold aft
    rw [if_pos (List.mem_of_getElem? h)]
    exact aft_drop h hn
theorem er_step {l : List Int} {i j : Nat} (hi : i < l.length) (hij : i ≤ j) (hj : j < l.length) (he : l[j] = l[i]) (hn : l[i] ∉ l.drop (j + 1)) : er (l.drop i) = l[i] :: er (l.drop (j + 1)) := by
  rw [List.drop_eq_getElem_cons hi, er_cons]
  congr 1
  rcases Nat.lt_or_ge i j with h | h
  · have h1 : (l.drop (i + 1))[j - i - 1]? = some l[i] := by
      rw [List.getElem?_drop, show i + 1 + (j - i - 1) = j from by omega, List.getElem?_eq_getElem hj, he]
    have h2 : (l.drop (i + 1)).drop (j - i - 1 + 1) = l.drop (j + 1) := by rw [List.drop_drop]; congr 1; omega
    rw [aft_drop h1 (by rw [h2]; exact hn), h2]
  · have : j = i := by omega
    subst this
    rw [aft_none hn]

theorem rd_at {l : List Int} {p : Nat} (h : p < l.length) : rd l (p : Int) = l[p] := by simp [rd, h]
theorem wrap_up {p : Nat} (h : p ≤ 100000) : wrap64 ((p : Int) + 1) = ((p + 1 : Nat) : Int) := by unfold wrap64; omega
theorem wrap_down {p : Nat} (h : p ≤ 100000) : wrap64 (((p + 1 : Nat) : Int) - 1) = (p : Int) := by unfold wrap64; omega

/-! ### Erase -/
theorem erase_exit {l acc R : List Int} {i p : Nat} (hl : l.length ≤ 1000) (ha : acc.length ≤ 1000) (hi : i < l.length) (hp : p ≤ i)
    (h : Ev (fun k => trail_Erase.l0 k l (acc ++ [l[i]]) ((i + 1 : Nat) : Int)) R) : Ev (fun k => trail_Erase.l1 k l acc (i : Int) (p : Int)) R := by
  refine Ev.step (fun k => ?_) h
  simp only [trail_Erase.l1]
  rw [if_neg (by omega), if_pos (by omega), if_pos (by omega), if_pos (by omega), rd_at hi, wrap_up (by omega)]
theorem erase_l1 {l acc R : List Int} (hl : l.length ≤ 1000) (ha : acc.length ≤ 1000) {i : Nat} (hi : i < l.length)
    (h : ∀ j, i ≤ j → (hj : j < l.length) → l[j] = l[i] → l[i] ∉ l.drop (j + 1) → Ev (fun k => trail_Erase.l0 k l (acc ++ [l[i]]) ((j + 1 : Nat) : Int)) R) :
    ∀ d, i + d < l.length → l[i] ∉ l.drop (i + d + 1) → Ev (fun k => trail_Erase.l1 k l acc (i : Int) ((i + d : Nat) : Int)) R := by
  intro d
  induction d with
  | zero => exact fun hd hn => erase_exit hl ha hi (by omega) (h i (Nat.le_refl _) hi rfl hn)
  | succ d ih =>
    intro hd hn
    by_cases he : l[i + (d + 1)] = l[i]
    · refine Ev.step (f := fun k => trail_Erase.l1 k l acc ((i + (d + 1) : Nat) : Int) ((i + d : Nat) : Int)) (fun k => ?_) (erase_exit hl ha hd (by omega) ?_)
      · simp only [trail_Erase.l1]
        rw [if_pos (by omega), if_pos (by omega), if_pos (by omega), if_pos (by omega), if_pos (by omega), rd_at hd, rd_at hi, if_pos he]
        rw [show i + (d + 1) = i + d + 1 from rfl, wrap_down (by omega)]
      · rw [he]
        exact h _ (by omega) hd he hn
    · refine Ev.step (fun k => ?_) (ih (by omega) ?_)
      · simp only [trail_Erase.l1]
        rw [if_pos (by omega), if_pos (by omega), if_pos (by omega), if_pos (by omega), if_pos (by omega), rd_at hd, rd_at hi, if_neg he]
        rw [show i + (d + 1) = i + d + 1 from rfl, wrap_down (by omega)]
      · rw [show i + d + 1 = i + (d + 1) from rfl, List.drop_eq_getElem_cons hd, List.mem_cons, not_or]
        exact ⟨fun e => he e.symm, hn⟩
theorem erase_l0 {l : List Int} (hl : l.length ≤ 1000) : ∀ m (acc : List Int) (i : Nat), l.length - i ≤ m → i ≤ l.length → acc.length ≤ i → Ev (fun k => trail_Erase.l0 k l acc (i : Int)) (acc ++ er (l.drop i)) := by
  intro m
  induction m with
  | zero =>
    intro acc i hm hi ha
    have : i = l.length := by omega
    subst this
    rw [List.drop_length, er_nil, List.append_nil]
    refine Ev.step (f := fun _ => some acc) (fun k => ?_) (Ev.now _)
    simp only [trail_Erase.l0]
    rw [if_neg (by omega)]
  | succ m ih =>
    intro acc i hm hi ha
    by_cases hlt : i < l.length
    · refine Ev.step (f := fun k => trail_Erase.l1 k l acc (i : Int) ((i + (l.length - 1 - i) : Nat) : Int)) (fun k => ?_) (erase_l1 hl (by omega) hlt (fun j hij hj he hn => ?_) _ (by omega) ?_)
      · simp only [trail_Erase.l0]
        rw [if_pos (by omega), show wrap64 ((l.length : Int) - 1) = ((i + (l.length - 1 - i) : Nat) : Int) from by unfold wrap64; omega]
      · rw [er_step hlt hij hj he hn, show acc ++ l[i] :: er (l.drop (j + 1)) = (acc ++ [l[i]]) ++ er (l.drop (j + 1)) from by simp]
        exact ih _ _ (by omega) (by omega) (by simp; omega)
      · rw [List.drop_eq_nil_of_le (by omega)]
        simp
    · have : i = l.length := by omega
      subst this
      rw [List.drop_length, er_nil, List.append_nil]
      refine Ev.step (f := fun _ => some acc) (fun k => ?_) (Ev.now _)
      simp only [trail_Erase.l0]
      rw [if_neg (by omega)]
theorem erase_ev {l : List Int} (hl : l.length ≤ 1000) : Ev (fun k => trail_Erase.f k l) (er l) := by
  have h := erase_l0 hl l.length [] 0 (by omega) (by omega) (by simp)
  rw [List.nil_append, List.drop_zero] at h
  exact h

/-! ### the document's Erase -/
theorem refErase_l1 {l acc R : List Int} (hl : l.length ≤ 1000) {i : Nat} (hi : i < l.length)
    (h : ∀ j, i ≤ j → (hj : j < l.length) → l[j] = l[i] → l[i] ∉ l.drop (j + 1) → Ev (fun k => annuletref11_Erase.l0 k l acc ((j + 1 : Nat) : Int)) R) :
    ∀ d p j, l.length - p = d → i ≤ j → (hj : j < l.length) → j ≤ p → p ≤ l.length → l[j] = l[i] → (∀ q, j < q → q < p → (hq : q < l.length) → l[q] ≠ l[i]) → Ev (fun k => annuletref11_Erase.l1 k l acc (i : Int) (j : Int) (p : Int)) R := by
  intro d
  induction d with
  | zero =>
    intro p j hd hij hj hjp hp he hno
    refine Ev.step (fun k => ?_) (h j hij hj he ?_)
    · simp only [annuletref11_Erase.l1]
      rw [if_neg (by omega), wrap_up (by omega)]
    · intro hm
      obtain ⟨q, hq, hqe⟩ := List.getElem_of_mem hm
      rw [List.length_drop] at hq
      rw [List.getElem_drop] at hqe
      exact hno (j + 1 + q) (by omega) (by omega) (by omega) hqe
  | succ d ih =>
    intro p j hd hij hj hjp hp he hno
    have hlt : p < l.length := by omega
    by_cases e : l[p] = l[i]
    · refine Ev.step (fun k => ?_) (ih (p + 1) p (by omega) (by omega) hlt (by omega) (by omega) e (fun q h1 h2 => by omega))
      simp only [annuletref11_Erase.l1]
      rw [if_pos (by omega), if_pos (by omega), if_pos (by omega), if_pos (by omega), rd_at hlt, rd_at hi, if_pos e, wrap_up (by omega)]
    · refine Ev.step (fun k => ?_) (ih (p + 1) j (by omega) (by omega) hj (by omega) (by omega) he (fun q h1 h2 hq => ?_))
      · simp only [annuletref11_Erase.l1]
        rw [if_pos (by omega), if_pos (by omega), if_pos (by omega), if_pos (by omega), rd_at hlt, rd_at hi, if_neg e, wrap_up (by omega)]
      · rcases Nat.lt_or_ge q p with h3 | h3
        · exact hno q h1 h3 hq
        · have : q = p := by omega
          subst this
          exact e
theorem refErase_l0 {l : List Int} (hl : l.length ≤ 1000) : ∀ m (acc : List Int) (i : Nat), l.length - i ≤ m → i ≤ l.length → acc.length ≤ i → Ev (fun k => annuletref11_Erase.l0 k l acc (i : Int)) (acc ++ er (l.drop i)) := by
  intro m
  induction m with
  | zero =>
    intro acc i hm hi ha
    have : i = l.length := by omega
    subst this
    rw [List.drop_length, er_nil, List.append_nil]
    refine Ev.step (f := fun _ => some acc) (fun k => ?_) (Ev.now _)
    simp only [annuletref11_Erase.l0]
    rw [if_neg (by omega)]
  | succ m ih =>
    intro acc i hm hi ha
    by_cases hlt : i < l.length
    · refine Ev.step (f := fun k => annuletref11_Erase.l1 k l (acc ++ [l[i]]) (i : Int) (i : Int) (i : Int)) (fun k => ?_) (refErase_l1 hl hlt (fun j hij hj he hn => ?_) (l.length - i) i i rfl (Nat.le_refl _) hlt (Nat.le_refl _) (by omega) rfl (fun q h1 h2 => by omega))
      · simp only [annuletref11_Erase.l0]
        rw [if_pos (by omega), if_pos (by omega), if_pos (by omega), rd_at hlt]
      · rw [er_step hlt hij hj he hn, show acc ++ l[i] :: er (l.drop (j + 1)) = (acc ++ [l[i]]) ++ er (l.drop (j + 1)) from by simp]
        exact ih _ _ (by omega) (by omega) (by simp; omega)
    · have : i = l.length := by omega
      subst this
      rw [List.drop_length, er_nil, List.append_nil]
      refine Ev.step (f := fun _ => some acc) (fun k => ?_) (Ev.now _)
      simp only [annuletref11_Erase.l0]
      rw [if_neg (by omega)]
theorem refErase_ev {l : List Int} (hl : l.length ≤ 1000) : Ev (fun k => annuletref11_Erase.f k l) (er l) := by
  have h := refErase_l0 hl l.length [] 0 (by omega) (by omega) (by simp)
  rw [List.nil_append, List.drop_zero] at h
  exact h

/-! ### Back -/
theorem refBack_l0 {l : List Int} (hl : l.length ≤ 1000) : ∀ (p : Nat) (acc : List Int), p ≤ l.length → acc.length + p ≤ 1000 → Ev (fun k => annuletref11_Back.l0 k l acc ((p : Int) - 1)) (acc ++ (l.take p).reverse) := by
  intro p
  induction p with
  | zero =>
    intro acc hp ha
    refine Ev.step (f := fun _ => some acc) (fun k => ?_) (by simpa using Ev.now acc)
    simp only [annuletref11_Back.l0]
    rw [if_neg (by omega)]
  | succ p ih =>
    intro acc hp ha
    have h := ih (acc ++ [l[p]]) (by omega) (by simp; omega)
    rw [show acc ++ [l[p]] ++ (l.take p).reverse = acc ++ (l.take (p + 1)).reverse from by rw [List.take_succ_eq_append_getElem (i := p) (by omega), List.reverse_append, List.append_assoc]; rfl] at h
    refine Ev.step (fun k => ?_) h
    rw [show ((p + 1 : Nat) : Int) - 1 = (p : Int) from by omega]
    simp only [annuletref11_Back.l0]
    rw [if_pos (by omega), if_pos (by omega), if_pos (by omega), if_pos (by omega), rd_at (by omega), show wrap64 ((p : Int) - 1) = (p : Int) - 1 from by unfold wrap64; omega]
theorem refBack_ev {l : List Int} (hl : l.length ≤ 1000) : Ev (fun k => annuletref11_Back.f k l) l.reverse := by
  have h := refBack_l0 hl l.length [] (Nat.le_refl _) (by simpa using hl)
  rw [List.take_length, List.nil_append] at h
  refine Ev.congr (fun k => ?_) h
  unfold annuletref11_Back.f
  rw [show wrap64 ((l.length : Int) - 1) = (l.length : Int) - 1 from by unfold wrap64; omega]

/-- A list turned in place, as far as i. -/
theorem reverse_l0 {l : List Int} (hl : l.length ≤ 1000) : ∀ (d i : Nat) (x : List Int), x.length = l.length → l.length ≤ 2 * i + d → i ≤ l.length →
    (∀ q, (q < i ∨ l.length ≤ q + i) → x[q]? = l.reverse[q]?) → (∀ q, i ≤ q → q + i < l.length → x[q]? = l[q]?) → Ev (fun k => slices_Reverse_int_int.l0 k x (i : Int) ((l.length : Int) - 1 - i)) l.reverse := by
  intro d
  induction d using Nat.strongRecOn with
  | ind d ih =>
    intro i x hx hd hi h1 h2
    by_cases hlt : 2 * i + 1 < l.length
    · have hi1 : i < x.length := by omega
      have hj1 : l.length - 1 - i < x.length := by omega
      refine Ev.step (f := fun k => slices_Reverse_int_int.l0 k ((x.set i x[l.length - 1 - i]).set (l.length - 1 - i) x[i]) ((i + 1 : Nat) : Int) ((l.length : Int) - 1 - ((i + 1 : Nat) : Int))) (fun k => ?_) ?_
      · simp only [slices_Reverse_int_int.l0]
        rw [show (l.length : Int) - 1 - (i : Int) = ((l.length - 1 - i : Nat) : Int) from by omega]
        rw [if_pos (by omega), if_pos (by omega), if_pos (by omega), if_pos (by omega), if_pos (by omega), rd_at hi1, rd_at hj1, wrap_up (by omega)]
        rw [show wrap64 (((l.length - 1 - i : Nat) : Int) - 1) = (l.length : Int) - 1 - ((i + 1 : Nat) : Int) from by unfold wrap64; omega]
        simp only [Int.toNat_natCast]
      · have e1 : x[l.length - 1 - i]? = l[l.length - 1 - i]? := h2 _ (by omega) (by omega)
        have e2 : x[i]? = l[i]? := h2 _ (by omega) (by omega)
        refine ih (d - 2) (by omega) (i + 1) _ (by simpa using hx) (by omega) (by omega) (fun q hq => ?_) (fun q hq1 hq2 => ?_)
        · rw [List.getElem?_set, List.getElem?_set]
          simp only [List.length_set]
          by_cases c1 : l.length - 1 - i = q
          · rw [if_pos c1, if_pos (by omega), ← List.getElem?_eq_getElem hi1, e2, List.getElem?_reverse (by omega)]
            congr 1
            omega
          · rw [if_neg c1]
            by_cases c2 : i = q
            · rw [if_pos c2, if_pos (by omega), ← List.getElem?_eq_getElem hj1, e1, List.getElem?_reverse (by omega)]
              congr 1
              omega
            · rw [if_neg c2]
              exact h1 q (by omega)
        · rw [List.getElem?_set, List.getElem?_set, if_neg (by omega), if_neg (by omega)]
          exact h2 q (by omega) (by omega)
    · have he : x = l.reverse := by
        apply List.ext_getElem?
        intro q
        by_cases hq : q < i ∨ l.length ≤ q + i
        · exact h1 q hq
        · rw [h2 q (by omega) (by omega), List.getElem?_reverse (by omega)]
          congr 1
          omega
      subst he
      refine Ev.step (f := fun _ => some l.reverse) (fun k => ?_) (Ev.now _)
      simp only [slices_Reverse_int_int.l0]
      rw [if_neg (by omega)]
theorem reverse_ev {l : List Int} (hl : l.length ≤ 1000) : Ev (fun k => slices_Reverse_int_int.f k l) l.reverse := by
  have h := reverse_l0 hl l.length 0 l rfl (by omega) (by omega) (fun q hq => ?_) (fun q _ _ => rfl)
  · refine Ev.congr (fun k => ?_) h
    unfold slices_Reverse_int_int.f
    rw [show wrap64 ((l.length : Int) - 1) = (l.length : Int) - 1 - ((0 : Nat) : Int) from by unfold wrap64; omega]
    rfl
  · rw [List.getElem?_eq_none (by omega), List.getElem?_eq_none (by simp; omega)]

/-! ### Same -/
theorem same_l0 {a b : List Int} (hl : a.length ≤ 1000) (hab : a.length = b.length) : ∀ (d i : Nat), a.length - i = d → i ≤ a.length → Ev (fun k => annuletref11_Same.l0 k a b (i : Int)) (decide (a.drop i = b.drop i)) := by
  intro d
  induction d with
  | zero =>
    intro i hd hi
    rw [List.drop_eq_nil_of_le (by omega), List.drop_eq_nil_of_le (by omega)]
    refine Ev.step (f := fun _ => some true) (fun k => ?_) (by simpa using Ev.now true)
    simp only [annuletref11_Same.l0]
    rw [if_neg (by omega)]
  | succ d ih =>
    intro i hd hi
    have h1 : i < a.length := by omega
    have h2 : i < b.length := by omega
    rw [List.drop_eq_getElem_cons h1, List.drop_eq_getElem_cons h2]
    by_cases e : a[i] = b[i]
    · have h := ih (i + 1) (by omega) (by omega)
      rw [show decide (a[i] :: a.drop (i + 1) = b[i] :: b.drop (i + 1)) = decide (a.drop (i + 1) = b.drop (i + 1)) from decide_eq_decide.2 (by rw [List.cons.injEq]; simp only [e, true_and])]
      refine Ev.step (fun k => ?_) h
      simp only [annuletref11_Same.l0]
      rw [if_pos (by omega), if_pos (by omega), if_pos (by omega), rd_at h1, rd_at h2, if_pos e, wrap_up (by omega)]
    · rw [show decide (a[i] :: a.drop (i + 1) = b[i] :: b.drop (i + 1)) = false from decide_eq_false (by rw [List.cons.injEq]; exact fun h => e h.1)]
      refine Ev.step (f := fun _ => some false) (fun k => ?_) (Ev.now _)
      simp only [annuletref11_Same.l0]
      rw [if_pos (by omega), if_pos (by omega), if_pos (by omega), rd_at h1, rd_at h2, if_neg e]
theorem same_ev {a b : List Int} (hl : a.length ≤ 1000) : Ev (fun k => annuletref11_Same.f k a b) (decide (a = b)) := by
  by_cases hab : a.length = b.length
  · have h := same_l0 hl hab a.length 0 (by omega) (by omega)
    rw [List.drop_zero, List.drop_zero] at h
    refine Ev.congr (fun k => ?_) h
    unfold annuletref11_Same.f
    rw [if_pos (by omega)]
    rfl
  · rw [show decide (a = b) = false from by simp; exact fun e => hab (by rw [e])]
    refine Ev.congr (fun k => ?_) (Ev.now false)
    unfold annuletref11_Same.f
    rw [if_neg (by omega)]

/-! ### Place, Simple -/
def pl (x : Int) : List Int → Nat → Int
  | [], _ => -1
  | y :: ys, i => if y = x then (i : Int) else pl x ys (i + 1)
theorem pl_ge (x : Int) : ∀ (l : List Int) (i : Nat), x ∈ l → (i : Int) ≤ pl x l i
  | [], _, h => by simp at h
  | y :: ys, i, h => by
    unfold pl
    by_cases e : y = x
    · rw [if_pos e]; omega
    · rw [if_neg e]
      have h2 : x ∈ ys := by rcases List.mem_cons.1 h with h | h; exact absurd h.symm e; exact h
      have := pl_ge x ys (i + 1) h2
      omega
theorem pl_none (x : Int) : ∀ (l : List Int) (i : Nat), x ∉ l → pl x l i = -1
  | [], _, _ => rfl
  | y :: ys, i, h => by
    simp only [List.mem_cons, not_or] at h
    unfold pl
    rw [if_neg (fun e => h.1 e.symm)]
    exact pl_none x ys (i + 1) h.2
theorem pl_lt (x : Int) : ∀ (l : List Int) (i : Nat), pl x l i < i + l.length
  | [], i => by simp [pl]; omega
  | y :: ys, i => by
    have := pl_lt x ys (i + 1)
    unfold pl
    split
    · simp; omega
    · simp; omega
theorem pl_append (x : Int) : ∀ l m i, x ∉ l → pl x (l ++ m) i = pl x m (i + l.length)
  | [], m, i, _ => by simp
  | y :: ys, m, i, h => by
    simp only [List.mem_cons, not_or] at h
    rw [List.cons_append, pl, if_neg (fun e => h.1 e.symm), pl_append x ys m (i + 1) h.2]
    congr 1
    simp; omega
theorem pl_first (x : Int) : ∀ l m i, x ∈ l → pl x (l ++ m) i = pl x l i
  | [], _, _, h => by simp at h
  | y :: ys, m, i, h => by
    rw [List.cons_append, pl, pl]
    by_cases e : y = x
    · rw [if_pos e, if_pos e]
    · rw [if_neg e, if_neg e]
      exact pl_first x ys m (i + 1) (by rcases List.mem_cons.1 h with h | h; exact absurd h.symm e; exact h)
theorem pl_own {l : List Int} {i : Nat} (hi : i < l.length) : pl l[i] l 0 = (i : Int) ↔ l[i] ∉ l.take i := by
  have hs : l = l.take i ++ l[i] :: l.drop (i + 1) := by rw [← List.drop_eq_getElem_cons hi, List.take_append_drop]
  obtain ⟨x, hx⟩ : ∃ x, x = l[i] := ⟨_, rfl⟩
  rw [← hx] at hs ⊢
  constructor
  · intro h hm
    rw [hs, pl_first _ _ _ _ hm] at h
    have := pl_lt x (l.take i) 0
    rw [List.length_take] at this
    omega
  · intro h
    rw [hs, pl_append _ _ _ _ h]
    simp [pl]
    omega
theorem index_l0 {l : List Int} (hl : l.length ≤ 1000) (x : Int) : ∀ (d i : Nat), l.length - i = d → i ≤ l.length → Ev (fun k => slices_Index_int_int.l0 k l x (l.length : Int) (i : Int)) (pl x (l.drop i) i) := by
  intro d
  induction d with
  | zero =>
    intro i hd hi
    rw [List.drop_eq_nil_of_le (by omega)]
    refine Ev.step (f := fun _ => some (-1)) (fun k => ?_) (Ev.now _)
    simp only [slices_Index_int_int.l0]
    rw [if_neg (by omega)]
  | succ d ih =>
    intro i hd hi
    have h1 : i < l.length := by omega
    rw [List.drop_eq_getElem_cons h1]
    unfold pl
    by_cases e : l[i] = x
    · rw [if_pos e]
      refine Ev.step (f := fun _ => some (i : Int)) (fun k => ?_) (Ev.now _)
      simp only [slices_Index_int_int.l0]
      rw [if_pos (by omega), if_pos (by omega), if_pos (by omega), rd_at h1, if_pos e.symm]
    · rw [if_neg e]
      refine Ev.step (fun k => ?_) (ih (i + 1) (by omega) (by omega))
      simp only [slices_Index_int_int.l0]
      rw [if_pos (by omega), if_pos (by omega), if_pos (by omega), rd_at h1, if_neg (fun h => e h.symm), wrap_up (by omega)]
theorem index_ev {l : List Int} (hl : l.length ≤ 1000) (x : Int) : Ev (fun k => slices_Index_int_int.f k l x) (pl x l 0) := by
  have h := index_l0 hl x l.length 0 (by omega) (by omega)
  rw [List.drop_zero] at h
  exact h
theorem place_ev {l : List Int} (hl : l.length ≤ 1000) (x : Int) : Ev (fun k => trail_Place.f k l x) (pl x l 0) := Ev.bind (f := fun _ t => some t) (index_ev hl x) (Ev.now _)
theorem refPlace_l0 {l : List Int} (hl : l.length ≤ 1000) (x : Int) : ∀ (d i : Nat), l.length - i = d → i ≤ l.length → Ev (fun k => annuletref11_Place.l0 k l x (i : Int)) (pl x (l.drop i) i) := by
  intro d
  induction d with
  | zero =>
    intro i hd hi
    rw [List.drop_eq_nil_of_le (by omega)]
    refine Ev.step (f := fun _ => some (-1)) (fun k => ?_) (Ev.now _)
    simp only [annuletref11_Place.l0]
    rw [if_neg (by omega)]
  | succ d ih =>
    intro i hd hi
    have h1 : i < l.length := by omega
    rw [List.drop_eq_getElem_cons h1]
    unfold pl
    by_cases e : l[i] = x
    · rw [if_pos e]
      refine Ev.step (f := fun _ => some (i : Int)) (fun k => ?_) (Ev.now _)
      simp only [annuletref11_Place.l0]
      rw [if_pos (by omega), if_pos (by omega), rd_at h1, if_pos e]
    · rw [if_neg e]
      refine Ev.step (fun k => ?_) (ih (i + 1) (by omega) (by omega))
      simp only [annuletref11_Place.l0]
      rw [if_pos (by omega), if_pos (by omega), rd_at h1, if_neg e, wrap_up (by omega)]
theorem refPlace_ev {l : List Int} (hl : l.length ≤ 1000) (x : Int) : Ev (fun k => annuletref11_Place.f k l x) (pl x l 0) := by
  have h := refPlace_l0 hl x l.length 0 (by omega) (by omega)
  rw [List.drop_zero] at h
  exact h
theorem contains_ev {l : List Int} (hl : l.length ≤ 1000) (x : Int) : Ev (fun k => slices_Contains_int_int.f k l x) (decide (x ∈ l)) := by
  refine Ev.bind (f := fun _ t => some (decide (t ≥ 0))) (index_ev hl x) ?_
  rw [show decide (pl x l 0 ≥ 0) = decide (x ∈ l) from by
    by_cases h : x ∈ l
    · have := pl_ge x l 0 h
      simp [h]; omega
    · rw [pl_none x l 0 h]; simp [h]]
  exact Ev.now _
/-- From place i on no place stands ahead of itself. -/
def SimFrom (l : List Int) (i : Nat) : Prop := ∀ j, i ≤ j → (h : j < l.length) → l[j] ∉ l.take j
theorem simFrom_end {l : List Int} {i : Nat} (h : l.length ≤ i) : SimFrom l i := fun j hj hl => by omega
theorem simFrom_step {l : List Int} {i : Nat} (hi : i < l.length) : SimFrom l i ↔ l[i] ∉ l.take i ∧ SimFrom l (i + 1) := by
  constructor
  · exact fun h => ⟨h i (Nat.le_refl _) hi, fun j hj => h j (by omega)⟩
  · rintro ⟨h1, h2⟩ j hj hl
    rcases Nat.eq_or_lt_of_le hj with e | e
    · subst e; exact h1
    · exact h2 j e hl
theorem simFrom_nodup (l : List Int) : SimFrom l 0 ↔ l.Nodup := by
  constructor
  · intro h
    rw [List.nodup_iff_pairwise_ne, List.pairwise_iff_getElem]
    intro i j hi hj hij e
    refine h j (Nat.zero_le _) hj ?_
    rw [← e]
    exact List.mem_take_iff_getElem.2 ⟨i, by omega, rfl⟩
  · intro h j _ hj hm
    rw [List.nodup_iff_pairwise_ne, List.pairwise_iff_getElem] at h
    obtain ⟨i, hi, e⟩ := List.mem_take_iff_getElem.1 hm
    exact h i j (by omega) hj (by omega) e
theorem simple_l0 {l : List Int} (hl : l.length ≤ 1000) : ∀ (d i : Nat), l.length - i = d → i ≤ l.length → ∃ b, Ev (fun k => trail_Simple.l0 k l l (l.length : Int) (i : Int)) b ∧ (b = true ↔ SimFrom l i) := by
  intro d
  induction d with
  | zero =>
    intro i hd hi
    refine ⟨true, Ev.step (f := fun _ => some true) (fun k => ?_) (Ev.now _), by simpa using simFrom_end (by omega)⟩
    simp only [trail_Simple.l0]
    rw [if_neg (by omega)]
  | succ d ih =>
    intro i hd hi
    have h1 : i < l.length := by omega
    have hc := contains_ev (l := l.take i) (by rw [List.length_take]; omega) l[i]
    by_cases e : l[i] ∈ l.take i
    · refine ⟨false, Ev.step (f := fun k => (slices_Contains_int_int.f k (l.take i) l[i]).bind fun t => if t = true then some false else trail_Simple.l0 k l l (l.length : Int) ((i + 1 : Nat) : Int)) (fun k => ?_) (Ev.bind (f := fun k t => if t = true then some false else trail_Simple.l0 k l l (l.length : Int) ((i + 1 : Nat) : Int)) hc ?_), ?_⟩
      · simp only [trail_Simple.l0]
        rw [if_pos (by omega), if_pos (by omega), if_pos (by omega), if_pos (by omega), rd_at h1, wrap_up (by omega)]
        rfl
      · refine Ev.congr (fun k => ?_) (Ev.now false)
        rw [if_pos (by simpa using e)]
      · rw [simFrom_step h1]
        simp [e]
    · obtain ⟨b, hb, hbs⟩ := ih (i + 1) (by omega) (by omega)
      refine ⟨b, Ev.step (f := fun k => (slices_Contains_int_int.f k (l.take i) l[i]).bind fun t => if t = true then some false else trail_Simple.l0 k l l (l.length : Int) ((i + 1 : Nat) : Int)) (fun k => ?_) (Ev.bind (f := fun k t => if t = true then some false else trail_Simple.l0 k l l (l.length : Int) ((i + 1 : Nat) : Int)) hc ?_), ?_⟩
      · simp only [trail_Simple.l0]
        rw [if_pos (by omega), if_pos (by omega), if_pos (by omega), if_pos (by omega), rd_at h1, wrap_up (by omega)]
        rfl
      · refine Ev.congr (fun k => ?_) hb
        rw [if_neg (by simpa using e)]
      · rw [simFrom_step h1, hbs]
        simp [e]
theorem refSimple_l0 {l : List Int} (hl : l.length ≤ 1000) : ∀ (d i : Nat), l.length - i = d → i ≤ l.length → ∃ b, Ev (fun k => annuletref11_Simple.l0 k l (i : Int)) b ∧ (b = true ↔ SimFrom l i) := by
  intro d
  induction d with
  | zero =>
    intro i hd hi
    refine ⟨true, Ev.step (f := fun _ => some true) (fun k => ?_) (Ev.now _), by simpa using simFrom_end (by omega)⟩
    simp only [annuletref11_Simple.l0]
    rw [if_neg (by omega)]
  | succ d ih =>
    intro i hd hi
    have h1 : i < l.length := by omega
    have hc := refPlace_ev hl l[i]
    have hp := pl_own h1
    by_cases e : l[i] ∈ l.take i
    · refine ⟨false, Ev.step (f := fun k => (annuletref11_Place.f k l l[i]).bind fun t => if t = (i : Int) then annuletref11_Simple.l0 k l ((i + 1 : Nat) : Int) else some false) (fun k => ?_) (Ev.bind (f := fun k t => if t = (i : Int) then annuletref11_Simple.l0 k l ((i + 1 : Nat) : Int) else some false) hc ?_), ?_⟩
      · simp only [annuletref11_Simple.l0]
        rw [if_pos (by omega), if_pos (by omega), rd_at h1, wrap_up (by omega)]
      · refine Ev.congr (fun k => ?_) (Ev.now false)
        rw [if_neg (fun h => (hp.1 h) e)]
      · rw [simFrom_step h1]
        simp [e]
    · obtain ⟨b, hb, hbs⟩ := ih (i + 1) (by omega) (by omega)
      refine ⟨b, Ev.step (f := fun k => (annuletref11_Place.f k l l[i]).bind fun t => if t = (i : Int) then annuletref11_Simple.l0 k l ((i + 1 : Nat) : Int) else some false) (fun k => ?_) (Ev.bind (f := fun k t => if t = (i : Int) then annuletref11_Simple.l0 k l ((i + 1 : Nat) : Int) else some false) hc ?_), ?_⟩
      · simp only [annuletref11_Simple.l0]
        rw [if_pos (by omega), if_pos (by omega), rd_at h1, wrap_up (by omega)]
      · refine Ev.congr (fun k => ?_) hb
        rw [if_pos (hp.2 e)]
      · rw [simFrom_step h1, hbs]
        simp [e]
theorem simple_ev {l : List Int} (hl : l.length ≤ 1000) : Ev (fun k => trail_Simple.f k l) (decide l.Nodup) := by
  obtain ⟨b, hb, h⟩ := simple_l0 hl l.length 0 (by omega) (by omega)
  rw [simFrom_nodup] at h
  rw [show decide l.Nodup = b from by rw [Bool.eq_iff_iff]; simp [h]]
  exact hb
theorem refSimple_ev {l : List Int} (hl : l.length ≤ 1000) : Ev (fun k => annuletref11_Simple.f k l) (decide l.Nodup) := by
  obtain ⟨b, hb, h⟩ := refSimple_l0 hl l.length 0 (by omega) (by omega)
  rw [simFrom_nodup] at h
  rw [show decide l.Nodup = b from by rw [Bool.eq_iff_iff]; simp [h]]
  exact hb
end Go.Proofs.Ytemgfcpambbanaa.PT
