/- The trail functions' contracts over one state: which slices read as which lists; nothing that was there has changed. -/
import Derived.Test.YtemgfcpambbanaaC5
namespace Go.Proofs.Ytemgfcpambbanaa.PT
open Go.RowKit Go.Proofs.YtemgfcpambbanaaW.PrintWords Go.Proofs.YtemgfcpambbanaaW.PrintLast Go.Proofs.YtemgfcpambbanaaW.PrintMore

/-- Each slice of L (address, list, capacity) reads as its list, and is short; below what w0 had, all is as it was at w0. -/
structure St (w0 w : World) (L : List (Option Addr × List Int × Nat)) : Prop where
  old : Below w0.heap.size w0 w
  rd : ∀ A l c, (A, l, c) ∈ L → Kd.C (Kd.int .i64) w A l.length l ∧ l.length ≤ c ∧ l.length ≤ 1000
section
variable {w0 w w' : World} {L : List (Option Addr × List Int × Nat)} {A B : Option Addr} {l m : List Int} {c d : Nat}
theorem below_next (h : Below w0.heap.size w0 w) (hb : Below w.heap.size w w') : Below w0.heap.size w0 w' := h.trans (hb.mono h.size)
theorem St.step (S : St w0 w L) (hb : Below w.heap.size w w') : St w0 w' L :=
  ⟨below_next S.old hb, fun A l c h => ⟨Kd.C_below (S.rd A l c h).1 hb, (S.rd A l c h).2⟩⟩
theorem St.more (S : St w0 w L) (h : Kd.C (Kd.int .i64) w A l.length l) (hc : l.length ≤ c) (hl : l.length ≤ 1000) : St w0 w ((A, l, c) :: L) :=
  ⟨S.old, fun B m d hm => by
    rcases List.mem_cons.1 hm with e | hm
    · injection e with e1 e2
      injection e2 with e2 e3
      subst e1 e2 e3
      exact ⟨h, hc, hl⟩
    · exact S.rd B m d hm⟩
theorem St.start (w : World) : St w w [] := ⟨Below.refl _ _, fun _ _ _ h => by simp at h⟩
theorem St.made {v : Value} {b : Nat} {ok : Nat → Prop} (S : St w0 w' L) (h : Kd.R (Kd.int .i64) 3 w' b ok v l) (hl : l.length ≤ 1000) : ∃ A c, v = .slice A l.length c ∧ St w0 w' ((A, l, c) :: L) := by
  obtain ⟨A, c, rfl, hc, hC⟩ := Kd.R_reads h
  exact ⟨A, c, rfl, S.more hC hc hl⟩
/-- What a function that makes a trail answers. -/
def Made (w0 : World) (L : List (Option Addr × List Int × Nat)) (r : List Int) (e : Ending) (w' : World) : Prop :=
  ∃ A l c, e = .returned (.slice A l.length c) ∧ Aside0 (l = r) ∧ St w0 w' ((A, l, c) :: L)
theorem made_of {r : List Int} (S : St w0 w L) (hr : r.length ≤ 1000) {e : Ending} (h : ∃ v : Value, e = .returned v ∧ Kd.R (Kd.int .i64) 3 w' w.heap.size (fun _ => True) v r ∧ Below w.heap.size w w') : Made w0 L r e w' := by
  obtain ⟨v, rfl, hR, hb⟩ := h
  obtain ⟨A, c, rfl, hS⟩ := (S.step hb).made hR hr
  exact ⟨A, r, c, rfl, ⟨rfl⟩, hS⟩
theorem cut_st (S : St w0 w L) (hC : Kd.C (Kd.int .i64) w A l.length l) (hc : l.length ≤ c) (k : Nat) (hk : k ≤ 1000) :
    Calls Try.prog 9 #[.slice A l.length c, .int .i64 (k : Int)] w fun e w' => ∃ B m, e = .returned (.slice B m.length m.length) ∧ Aside0 (m = l.take k) ∧ w = w' ∧ St w0 w ((B, m, m.length) :: L) := by
  refine (annuletlaw11_cut.calls A c l k w hc hk).mono ?_
  rintro e w' ⟨rfl, rfl⟩
  have hm : (l.take k).length ≤ l.length := by rw [List.length_take]; omega
  refine ⟨A, l.take k, rfl, ⟨rfl⟩, rfl, S.more ⟨rfl, by have := Kd.C_max hC; omega, fun hn => ?_⟩ (Nat.le_refl _) (by rw [List.length_take]; omega)⟩
  obtain ⟨ad, hA, h⟩ := hC.2.2 (by omega)
  refine ⟨ad, hA, fun j p hj => h j p ?_⟩
  rw [List.getElem?_take] at hj
  split at hj
  · exact hj
  · cases hj
theorem cut_at (S : St w0 w L) (hC : Kd.C (Kd.int .i64) w A l.length l) (hc : l.length ≤ c) (k : Nat) (K : Int) (hK : K = (k : Int)) (hk : k ≤ 1000) :
    Calls Try.prog 9 #[.slice A l.length c, .int .i64 K] w fun e w' => ∃ B m, e = .returned (.slice B m.length m.length) ∧ Aside0 (m = l.take k) ∧ w = w' ∧ St w0 w ((B, m, m.length) :: L) := by
  subst hK
  exact cut_st S hC hc k hk
theorem erase_st (S : St w0 w L) (h : (A, l, c) ∈ L) : Calls Try.prog 10 #[.slice A l.length c] w (Made w0 L (er l)) := by
  obtain ⟨hC, hc, hl⟩ := S.rd _ _ _ h
  obtain ⟨k, hk⟩ := (erase_ev hl).rounds
  exact (trail_Erase.calls k A c l (er l) w hC hc hk).mono fun e w' he => made_of S (by have := er_le l; omega) he
theorem refErase_st (S : St w0 w L) (h : (A, l, c) ∈ L) : Calls Try.prog 16 #[.slice A l.length c] w (Made w0 L (er l)) := by
  obtain ⟨hC, hc, hl⟩ := S.rd _ _ _ h
  obtain ⟨k, hk⟩ := (refErase_ev hl).rounds
  exact (annuletref11_Erase.calls k A c l (er l) w hC hc hk).mono fun e w' he => made_of S (by have := er_le l; omega) he
theorem back_st (S : St w0 w L) (h : (A, l, c) ∈ L) : Calls Try.prog 14 #[.slice A l.length c] w (Made w0 L l.reverse) := by
  obtain ⟨hC, hc, hl⟩ := S.rd _ _ _ h
  exact (trail_Back.calls A c l w hC hl).mono fun e w' he => made_of S (by rw [List.length_reverse]; exact hl) he
theorem refBack_st (S : St w0 w L) (h : (A, l, c) ∈ L) : Calls Try.prog 17 #[.slice A l.length c] w (Made w0 L l.reverse) := by
  obtain ⟨hC, hc, hl⟩ := S.rd _ _ _ h
  obtain ⟨k, hk⟩ := (refBack_ev hl).rounds
  exact (annuletref11_Back.calls k A c l l.reverse w hC hc hk).mono fun e w' he => made_of S (by rw [List.length_reverse]; exact hl) he
theorem fixed_st (S : St w0 w L) : Calls Try.prog 11 #[] w fun e w' => e = .returned (.bool true) ∧ St w0 w' L := by
  obtain ⟨k, hk⟩ := fixed_ev.rounds
  exact (annuletlaw11_fixed.calls k true w hk).mono fun e w' ⟨he, hb⟩ => ⟨he, S.step hb⟩
theorem same_st (S : St w0 w L) (h : (A, l, c) ∈ L) (h2 : (B, m, d) ∈ L) (hlm : l = m) : Calls Try.prog 15 #[.slice A l.length c, .slice B m.length d] w fun e w' => e = .returned (.bool true) ∧ Drawn0 w w' := by
  obtain ⟨hC, hc, hl⟩ := S.rd _ _ _ h
  obtain ⟨hC2, hc2, _⟩ := S.rd _ _ _ h2
  obtain ⟨k, hk⟩ := (same_ev (b := m) hl).rounds
  rw [decide_eq_true hlm] at hk
  exact annuletref11_Same.calls k A c l B d m true w hC hc hC2 hc2 hk
theorem simple_st (S : St w0 w L) (h : (A, l, c) ∈ L) (b : Bool) (hb : decide l.Nodup = b) : Calls Try.prog 18 #[.slice A l.length c] w fun e w' => e = .returned (.bool b) ∧ Drawn0 w w' := by
  obtain ⟨hC, hc, hl⟩ := S.rd _ _ _ h
  obtain ⟨k, hk⟩ := (simple_ev hl).rounds
  rw [hb] at hk
  exact trail_Simple.calls k A c l b w hC hc hk
theorem refSimple_st (S : St w0 w L) (h : (A, l, c) ∈ L) (b : Bool) (hb : decide l.Nodup = b) : Calls Try.prog 12 #[.slice A l.length c] w fun e w' => e = .returned (.bool b) ∧ Drawn0 w w' := by
  obtain ⟨hC, hc, hl⟩ := S.rd _ _ _ h
  obtain ⟨k, hk⟩ := (refSimple_ev hl).rounds
  rw [hb] at hk
  exact annuletref11_Simple.calls k A c l b w hC hc hk
theorem place_st (S : St w0 w L) (h : (A, l, c) ∈ L) (n r : Int) (hr : pl n l 0 = r) : Calls Try.prog 19 #[.slice A l.length c, .int .i64 n] w fun e w' => e = .returned (.int .i64 r) ∧ Drawn0 w w' := by
  obtain ⟨hC, hc, hl⟩ := S.rd _ _ _ h
  obtain ⟨k, hk⟩ := (place_ev hl n).rounds
  rw [hr] at hk
  exact trail_Place.calls k A c l n r w hC hc hk
theorem refPlace_st (S : St w0 w L) (h : (A, l, c) ∈ L) (n r : Int) (hr : pl n l 0 = r) : Calls Try.prog 20 #[.slice A l.length c, .int .i64 n] w fun e w' => e = .returned (.int .i64 r) ∧ Drawn0 w w' := by
  obtain ⟨hC, hc, hl⟩ := S.rd _ _ _ h
  obtain ⟨k, hk⟩ := (refPlace_ev hl n).rounds
  rw [hr] at hk
  exact annuletref11_Place.calls k A c l n r w hC hc hk
theorem joins_st (S : St w0 w L) (h : (A, l, c) ∈ L) (h2 : (B, m, d) ∈ L) (b : Bool) (hb : b = true ↔ JoinFrom l m 0) : Calls Try.prog 21 #[.slice A l.length c, .slice B m.length d] w fun e w' => e = .returned (.bool b) ∧ Drawn0 w w' := by
  obtain ⟨hC, hc, hl⟩ := S.rd _ _ _ h
  obtain ⟨hC2, hc2, hl2⟩ := S.rd _ _ _ h2
  obtain ⟨b', he, hb'⟩ := joins_ev hl hl2
  obtain rfl : b = b' := by rw [Bool.eq_iff_iff, hb, hb']
  obtain ⟨k, hk⟩ := he.rounds
  exact trail_Joins.calls k A c l B d m b w hC hc hC2 hc2 hk
theorem refJoins_st (S : St w0 w L) (h : (A, l, c) ∈ L) (h2 : (B, m, d) ∈ L) (b : Bool) (hb : b = true ↔ JoinFrom l m 0) : Calls Try.prog 13 #[.slice A l.length c, .slice B m.length d] w fun e w' => e = .returned (.bool b) ∧ Drawn0 w w' := by
  obtain ⟨hC, hc, hl⟩ := S.rd _ _ _ h
  obtain ⟨hC2, hc2, hl2⟩ := S.rd _ _ _ h2
  obtain ⟨b', he, hb'⟩ := refJoins_ev hl hl2
  obtain rfl : b = b' := by rw [Bool.eq_iff_iff, hb, hb']
  obtain ⟨k, hk⟩ := he.rounds
  exact annuletref11_Joins.calls k A c l B d m b w hC hc hC2 hc2 hk
theorem St.drawn (S : St w0 w L) (h : Drawn0 w w') : St w0 w' L := S.step h.below
end
end Go.Proofs.Ytemgfcpambbanaa.PT
