/- What lies in memory for a pipe: frames, the row of frames, the struct; and what keeps them. -/
import Derived.Test.YtefkaefgihhcaaaD0
namespace Go.Proofs.Ytefkaefgihhcaaa.PP
open Go.RowKit Go.Proofs.YtefkaefgihhcaaaW.PrintWords

/-- w' is w but for the blocks of S and new ones. -/
structure Mv (S : Nat → Prop) (w w' : World) : Prop where
  os : w'.os = w.os
  tape : w'.tape = w.tape
  output : w'.output = w.output
  size : w.heap.size ≤ w'.heap.size
  block : ∀ k, k < w.heap.size → ¬ S k → w'.heap[k]? = w.heap[k]?
section
variable {S S' : Nat → Prop} {a b c w w' : World}
theorem Mv.refl (S : Nat → Prop) (w : World) : Mv S w w := ⟨rfl, rfl, rfl, Nat.le_refl _, fun _ _ _ => rfl⟩
theorem Mv.trans (h : Mv S a b) (k : Mv S' b c) (hs : ∀ i, S' i → S i ∨ a.heap.size ≤ i) : Mv S a c :=
  ⟨k.os.trans h.os, k.tape.trans h.tape, k.output.trans h.output, Nat.le_trans h.size k.size, fun i hi hn => (k.block i (Nat.lt_of_lt_of_le hi h.size) (fun he => by
    rcases hs i he with h1 | h1
    · exact hn h1
    · omega)).trans (h.block i hi hn)⟩
theorem Mv.mono (h : Mv S a b) (hs : ∀ i, S i → S' i) : Mv S' a b := ⟨h.os, h.tape, h.output, h.size, fun i hi hn => h.block i hi (fun he => hn (hs i he))⟩
theorem Mv.of_below (h : Below w.heap.size w w') (S : Nat → Prop) : Mv S w w' := ⟨h.os, h.tape, h.output, h.size, fun i hi _ => h.block i hi⟩
theorem Mv.of_grown {row : Option Nat} (h : w.grownBy w' row) : Mv (fun k => some k = row) w w' := ⟨h.os, h.tape, h.output, h.size, fun i hi hn => h.block i hi hn⟩
theorem Mv.below (h : Mv S w w') {B : Nat} (hB : B ≤ w.heap.size) (hs : ∀ i, S i → B ≤ i) : Below B w w' :=
  ⟨h.os, h.tape, h.output, h.size, fun i hi => h.block i (Nat.lt_of_lt_of_le hi hB) (fun he => by have := hs i he; omega)⟩
theorem Mv.then_below (h : Mv S a b) (k : Below b.heap.size b c) : Mv S a c := h.trans (Mv.of_below k S) (fun _ hi => .inl hi)
theorem Mv.drawn (h : Mv S a b) (k : Drawn0 b c) : Mv S a c := h.then_below k.below
theorem Mv.set_ (w : World) (g j : Nat) (u : Value) : Mv (fun k => k = g) w (w.setCell ⟨g, j, none⟩ u) :=
  ⟨rfl, rfl, rfl, by simp [World.setCell], fun i _ hn => Below.heap_setCell w ⟨g, j, none⟩ u i hn⟩
end
theorem blk_set {w : World} {g t : Nat} {cs : Array Value} (h : w.heap[g]? = some (.cells cs t (0, 0))) (i : Nat) (u : Value) : (w.setCell ⟨g, i, none⟩ u).heap[g]? = some (.cells (cs.setIfInBounds i u) t (0, 0)) := by
  simp [World.setCell, Array.getElem?_modify, h]

/-- u is a frame that reads as bs, in a block of its own kind among F. -/
def Fr (w : World) (F : Nat → Prop) (u : Value) (bs : List Int) : Prop :=
  ∃ A c, u = .slice A bs.length c ∧ bs.length ≤ c ∧ bs.length ≤ 140737488351232 ∧
    (0 < bs.length → ∃ (h : Nat) (cells : Array Value), A = some ⟨h, 0, none⟩ ∧ F h ∧ w.heap[h]? = some (.cells cells 5 (0, 0)) ∧ ∀ (j : Nat) (x : Int), bs[j]? = some x → cells[j]? = some (.int .u8 x))
/-- lv is the row of the slices us, in a block of rows among F. -/
def Out (w : World) (F : Nat → Prop) (lv : Value) (us : List Value) : Prop :=
  ∃ A cap, lv = .slice A us.length cap ∧ us.length ≤ cap ∧ (A = none → cap = 0) ∧ (∀ u ∈ us, u.oneCell' = true) ∧
    ∀ a, A = some a → ∃ (G : Nat) (cs : Array Value), a = ⟨G, 0, none⟩ ∧ F G ∧ w.heap[G]? = some (.cells cs 26 (0, 0)) ∧ cap ≤ cs.size ∧ cs.toList.take us.length = us
def Frs (w : World) (F : Nat → Prop) (us : List Value) (xs : List (List Int)) : Prop :=
  us.length = xs.length ∧ ∀ (i : Nat) (u : Value) (bs : List Int), us[i]? = some u → xs[i]? = some bs → Fr w F u bs
section
variable {F F' S : Nat → Prop} {w w' : World} {u lv : Value} {us : List Value} {bs : List Int} {xs : List (List Int)}
theorem lt_blk {k : Nat} {o : Obj} (h : w.heap[k]? = some o) : k < w.heap.size := by
  rcases Nat.lt_or_ge k w.heap.size with h1 | h1
  · exact h1
  · rw [Array.getElem?_eq_none h1] at h; cases h
theorem Fr.mono (h : Fr w F u bs) (hf : ∀ k, F k → F' k) : Fr w F' u bs := by
  obtain ⟨A, c, rfl, hc, hl, hr⟩ := h
  refine ⟨A, c, rfl, hc, hl, fun hp => ?_⟩
  obtain ⟨k, cells, rfl, hk, hb, hx⟩ := hr hp
  exact ⟨k, cells, rfl, hf k hk, hb, hx⟩
theorem Fr.mv (h : Fr w F u bs) (hm : Mv S w w') (hf : ∀ k, F k → ¬ S k) : Fr w' F u bs := by
  obtain ⟨A, c, rfl, hc, hl, hr⟩ := h
  refine ⟨A, c, rfl, hc, hl, fun hp => ?_⟩
  obtain ⟨k, cells, rfl, hk, hb, hx⟩ := hr hp
  exact ⟨k, cells, rfl, hk, (hm.block k (lt_blk hb) (hf k hk)).trans hb, hx⟩
theorem Fr.bound (h : Fr w F u bs) : Fr w (fun k => F k ∧ k < w.heap.size) u bs := by
  obtain ⟨A, c, rfl, hc, hl, hr⟩ := h
  refine ⟨A, c, rfl, hc, hl, fun hp => ?_⟩
  obtain ⟨k, cells, rfl, hk, hb, hx⟩ := hr hp
  exact ⟨k, cells, rfl, ⟨hk, lt_blk hb⟩, hb, hx⟩
/-- A store into a block of another kind. -/
theorem Fr.other (h : Fr w F u bs) (hs : ∀ (k : Nat) (cells : Array Value), w.heap[k]? = some (Obj.cells cells 5 (0, 0)) → w'.heap[k]? = some (Obj.cells cells 5 (0, 0))) : Fr w' F u bs := by
  obtain ⟨A, c, rfl, hc, hl, hr⟩ := h
  refine ⟨A, c, rfl, hc, hl, fun hp => ?_⟩
  obtain ⟨k, cells, rfl, hk, hb, hx⟩ := hr hp
  exact ⟨k, cells, rfl, hk, hs k cells hb, hx⟩
theorem Fr.one (h : Fr w F u bs) : u.oneCell' = true := by
  obtain ⟨A, c, rfl, _⟩ := h
  rfl
theorem Fr.reads (h : Fr w F u bs) : ∃ A c, u = .slice A bs.length c ∧ bs.length ≤ c ∧ Kd.C (Kd.int .u8) w A bs.length bs := by
  obtain ⟨A, c, rfl, hc, hl, hr⟩ := h
  refine ⟨A, c, rfl, hc, rfl, by omega, fun hp => ?_⟩
  obtain ⟨k, cells, rfl, hk, hb, hx⟩ := hr hp
  refine ⟨_, rfl, fun j x hj => ⟨[.int .u8 x], rfl, rfl, fun i y hi => ?_⟩⟩
  have hi0 : i = 0 := by
    rcases i with _ | i
    · rfl
    · simp at hi
  subst hi0
  simp only [List.getElem?_cons_zero, Option.some.injEq] at hi
  subst hi
  have e : (⟨k, 0, none⟩ : Addr).add (j * (Kd.int .u8).sz + 0) = ⟨k, j, none⟩ := by
    show (⟨k, 0, none⟩ : Addr).add (j * 1 + 0) = ⟨k, j, none⟩
    rw [Nat.mul_one, Nat.add_zero, add_at, Nat.zero_add]
  rw [e, cell_of_row w k j cells 5 (0, 0) hb]
  exact hx j x hj
theorem Frs.mono (h : Frs w F us xs) (hf : ∀ k, F k → F' k) : Frs w F' us xs := ⟨h.1, fun i u bs h1 h2 => (h.2 i u bs h1 h2).mono hf⟩
theorem Frs.mv (h : Frs w F us xs) (hm : Mv S w w') (hf : ∀ k, F k → ¬ S k) : Frs w' F us xs := ⟨h.1, fun i u bs h1 h2 => (h.2 i u bs h1 h2).mv hm hf⟩
theorem Frs.bound (h : Frs w F us xs) : Frs w (fun k => F k ∧ k < w.heap.size) us xs := ⟨h.1, fun i u bs h1 h2 => (h.2 i u bs h1 h2).bound⟩
theorem Frs.other (h : Frs w F us xs) (hs : ∀ (k : Nat) (cells : Array Value), w.heap[k]? = some (Obj.cells cells 5 (0, 0)) → w'.heap[k]? = some (Obj.cells cells 5 (0, 0))) : Frs w' F us xs := ⟨h.1, fun i u bs h1 h2 => (h.2 i u bs h1 h2).other hs⟩
theorem Frs.nil : Frs w F [] [] := ⟨rfl, fun i u bs h => by simp at h⟩
theorem Frs.snoc (h : Frs w F us xs) (hu : Fr w F u bs) : Frs w F (us ++ [u]) (xs ++ [bs]) := by
  refine ⟨by simp [h.1], fun i v cs h1 h2 => ?_⟩
  rcases Nat.lt_or_ge i us.length with hi | hi
  · rw [List.getElem?_append_left hi] at h1
    rw [List.getElem?_append_left (by rw [← h.1]; exact hi)] at h2
    exact h.2 i v cs h1 h2
  · rw [List.getElem?_append_right hi] at h1
    rw [List.getElem?_append_right (by rw [← h.1]; exact hi)] at h2
    have hi0 : i - us.length = 0 := by
      have := (List.getElem?_eq_some_iff.1 h1).1
      simp at this
      omega
    rw [← h.1] at h2
    rw [hi0] at h1 h2
    simp only [List.getElem?_cons_zero, Option.some.injEq] at h1 h2
    subst h1 h2
    exact hu
theorem Frs.erase (h : Frs w F us xs) (k : Nat) : Frs w F (us.eraseIdx k) (xs.eraseIdx k) := by
  refine ⟨by rw [List.length_eraseIdx, List.length_eraseIdx, h.1], fun i v cs h1 h2 => ?_⟩
  rw [List.getElem?_eraseIdx] at h1 h2
  split at h1
  · rename_i hlt
    rw [if_pos hlt] at h2
    exact h.2 i v cs h1 h2
  · rename_i hlt
    rw [if_neg hlt] at h2
    exact h.2 (i + 1) v cs h1 h2
theorem Out.mono (h : Out w F lv us) (hf : ∀ k, F k → F' k) : Out w F' lv us := by
  obtain ⟨A, cap, rfl, hc, hn, ho, hr⟩ := h
  refine ⟨A, cap, rfl, hc, hn, ho, fun a ha => ?_⟩
  obtain ⟨G, cs, rfl, hG, hb, h1, h2⟩ := hr a ha
  exact ⟨G, cs, rfl, hf G hG, hb, h1, h2⟩
theorem Out.mv (h : Out w F lv us) (hm : Mv S w w') (hf : ∀ k, F k → ¬ S k) : Out w' F lv us := by
  obtain ⟨A, cap, rfl, hc, hn, ho, hr⟩ := h
  refine ⟨A, cap, rfl, hc, hn, ho, fun a ha => ?_⟩
  obtain ⟨G, cs, rfl, hG, hb, h1, h2⟩ := hr a ha
  exact ⟨G, cs, rfl, hG, (hm.block G (lt_blk hb) (hf G hG)).trans hb, h1, h2⟩
theorem Out.bound (h : Out w F lv us) : Out w (fun k => F k ∧ k < w.heap.size) lv us := by
  obtain ⟨A, cap, rfl, hc, hn, ho, hr⟩ := h
  refine ⟨A, cap, rfl, hc, hn, ho, fun a ha => ?_⟩
  obtain ⟨G, cs, rfl, hG, hb, h1, h2⟩ := hr a ha
  exact ⟨G, cs, rfl, ⟨hG, lt_blk hb⟩, hb, h1, h2⟩
theorem Out.other (h : Out w F lv us) (hs : ∀ (k : Nat) (cells : Array Value), w.heap[k]? = some (Obj.cells cells 26 (0, 0)) → w'.heap[k]? = some (Obj.cells cells 26 (0, 0))) : Out w' F lv us := by
  obtain ⟨A, cap, rfl, hc, hn, ho, hr⟩ := h
  refine ⟨A, cap, rfl, hc, hn, ho, fun a ha => ?_⟩
  obtain ⟨G, cs, rfl, hG, hb, h1, h2⟩ := hr a ha
  exact ⟨G, cs, rfl, hG, hs G cs hb, h1, h2⟩
theorem Out.own (h : Out w F lv us) : ∀ k, some k = lv.ownBlock → F k ∧ ∃ cs, w.heap[k]? = some (.cells cs 26 (0, 0)) := by
  obtain ⟨A, cap, rfl, hc, hn, ho, hr⟩ := h
  intro k hk
  cases A with
  | none => simp [Value.ownBlock] at hk
  | some a =>
    obtain ⟨G, cs, rfl, hG, hb, h1, h2⟩ := hr a rfl
    have : k = G := by simpa [Value.ownBlock] using hk
    subst this
    exact ⟨hG, cs, hb⟩
/-- Element i of a row. -/
theorem Out.at_ (h : Out w F lv us) {i : Nat} (hi : i < us.length) : ∃ (G cap : Nat), lv = .slice (some ⟨G, 0, none⟩) us.length cap ∧ us.length ≤ cap ∧ F G ∧ w.cell? ⟨G, i, none⟩ = some us[i] := by
  obtain ⟨A, cap, rfl, hc, hn, ho, hr⟩ := h
  cases A with
  | none => have := hn rfl; omega
  | some a =>
    obtain ⟨G, cs, rfl, hG, hb, h1, h2⟩ := hr a rfl
    refine ⟨G, cap, rfl, hc, hG, ?_⟩
    rw [cell_of_row w G i cs 26 (0, 0) hb]
    have h3 : (cs.toList.take us.length)[i]? = some us[i] := by rw [h2]; exact List.getElem?_eq_getElem hi
    rw [List.getElem?_take_of_lt hi] at h3
    simpa using h3
theorem Out.form (h : Out w F lv us) : ∃ A cap, lv = .slice A us.length cap ∧ us.length ≤ cap := by
  obtain ⟨A, cap, rfl, hc, _⟩ := h
  exact ⟨A, cap, rfl, hc⟩
theorem out_of_own {base n : Nat} (h : w.ownsRow base 26 1 lv n us) (h1 : ∀ u ∈ us, u.oneCell' = true) : Out w (fun k => base ≤ k) lv us := by
  obtain ⟨hl, hr⟩ := h
  rw [Nat.mul_one] at hl
  subst hl
  rcases hr with ⟨rfl, hn⟩ | ⟨G, cap, cur, rfl, hb, hh, hc, hm, hs, ht⟩
  · refine ⟨none, 0, by rw [hn], by omega, fun _ => rfl, h1, fun a ha => by cases ha⟩
  · refine ⟨some ⟨G, 0, none⟩, cap, rfl, hc, (fun h => by cases h), h1, fun a ha => ?_⟩
    injection ha with ha
    subst ha
    exact ⟨G, cur, rfl, hb, hh, by omega, by simpa using ht⟩
theorem out_nil : Out w F (.slice none 0 0) [] := ⟨none, 0, rfl, Nat.le_refl _, fun _ => rfl, fun _ h => by simp at h, fun a ha => by cases ha⟩
theorem fr_of_R {base : Nat} {ok : Nat → Prop} {v : Value} (h : Kd.R (Kd.int .u8) 5 w base ok v bs) (hl : bs.length ≤ 140737488351232) : Fr w (fun k => base ≤ k) v bs := by
  obtain ⟨h0, inner, ho, hr⟩ := h
  obtain ⟨A, c, rfl, hc, hC⟩ := OwnRow.reads (R := fun x cs => (Kd.int .u8).K w x cs) ⟨inner, ho, hr.imp_ (fun _ _ hp => (Kd.int .u8).K_of_M hp)⟩
  refine ⟨A, c, rfl, hc, hl, fun hp => ?_⟩
  rcases ho.2 with ⟨he, hn⟩ | ⟨G, cap, cur, he, hb, hh, hc2, hm, hs, ht⟩
  · omega
  · injection he with e1 e2 e3
    subst e1
    refine ⟨G, cur, rfl, hb, hh, fun j x hj => ?_⟩
    obtain ⟨ad, e, hcell⟩ := hC.2.2 hp
    injection e with e
    subst e
    obtain ⟨cs, h1, h2, h3⟩ := hcell j x hj
    have h4 : cs = [Value.int .u8 x] := h2
    have h5 := h3 0 (.int .u8 x) (by rw [h4]; rfl)
    have e : (⟨G, 0, none⟩ : Addr).add (j * (Kd.int .u8).sz + 0) = ⟨G, j, none⟩ := by
      show (⟨G, 0, none⟩ : Addr).add (j * 1 + 0) = ⟨G, j, none⟩
      rw [Nat.mul_one, Nat.add_zero, add_at, Nat.zero_add]
    rw [e, cell_of_row w G j cur 5 (0, 0) hh] at h5
    exact h5
end
end Go.Proofs.Ytefkaefgihhcaaa.PP
