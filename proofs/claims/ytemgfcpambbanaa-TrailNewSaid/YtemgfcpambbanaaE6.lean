/- The walk of TrailNew. -/
import Derived.Test.YtemgfcpambbanaaC6
namespace Go.Proofs.Ytemgfcpambbanaa.PT
open Go.RowKit Go.Proofs.YtemgfcpambbanaaW.PrintWords Go.Proofs.YtemgfcpambbanaaW.PrintLast Go.Proofs.YtemgfcpambbanaaW.PrintMore
attribute [local go_sem] max2_int min2_int max_two min_two max_three min_three max_four min_four
set_option linter.unusedVariables false
/-- A row of the call's own, in blocks from b on. -/
def Own (w : World) (b : Nat) (v : Value) (l : List Int) : Prop := Kd.R (Kd.int .i64) 3 w b (fun k => b ≤ k) v l
section
variable {w0 w w' : World} {L : List (Option Addr × List Int × Nat)} {A : Option Addr} {l m : List Int} {b c : Nat} {v u : Value}
theorem own_mk (h : Kd.R (Kd.int .i64) 3 w b (fun _ => True) v l) : Own w b v l := Kd.R_mono (Kd.R_bound h) (fun k hk => hk.2.1)
theorem Own.below (h : Own w b v l) (hb : Below w.heap.size w w') : Own w' b v l := Kd.R_below h hb
/-- Only v's row has been written. -/
theorem Own.kept (h : Own w b v l) (hk : Kept w w' (fun k => some k = u.ownBlock)) (hu : ∀ k, u.ownBlock = some k → k < b) : Own w' b v l :=
  Kd.R_kept h hk (fun k hk he => by have := hu k he.symm; omega)
theorem Own.put (h : Own w b v l) (hl : l.length ≤ 1000) (S : St w0 w' L) (hw : Own w' b v l) : ∃ A c, v = .slice A l.length c ∧ St w0 w' ((A, l, c) :: L) := S.made hw hl
theorem Own.lt (h : Own w b v l) : ∀ k, v.ownBlock = some k → k < w.heap.size := Kd.R_lt h
theorem Own.ge (h : Own w b v l) : ∀ k, v.ownBlock = some k → b ≤ k := Kd.R_base h
theorem own_block {g n c : Nat} (hv : v = .slice (some ⟨g, 0, none⟩) n c) : v.ownBlock = some g := by subst hv; simp [Value.ownBlock]
theorem st_three {l1 l2 l3 l4 : List Int} {b1 b2 b3 b4 : Nat} {A1 A2 A3 A4 : Option Addr} {c1 c2 c3 c4 : Nat} (hb : Below w0.heap.size w0 w) (h1 : Own w b1 (.slice A1 l1.length c1) l1) (h2 : Own w b2 (.slice A2 l2.length c2) l2) (h3 : Own w b3 (.slice A3 l3.length c3) l3) (h4 : Own w b4 (.slice A4 l4.length c4) l4)
    (k1 : l1.length ≤ 1000) (k2 : l2.length ≤ 1000) (k3 : l3.length ≤ 1000) (k4 : l4.length ≤ 1000) : St w0 w [(A1, l1, c1), (A2, l2, c2), (A3, l3, c3), (A4, l4, c4)] := by
  have S : St w0 w [] := ⟨hb, fun _ _ _ h => by simp at h⟩
  obtain ⟨_, q1, r1⟩ := Kd.R_reads' h1
  obtain ⟨_, q2, r2⟩ := Kd.R_reads' h2
  obtain ⟨_, q3, r3⟩ := Kd.R_reads' h3
  obtain ⟨_, q4, r4⟩ := Kd.R_reads' h4
  exact (((S.more r4 q4 k4).more r3 q3 k3).more r2 q2 k2).more r1 q1 k1
theorem st_two {l1 l2 : List Int} {b1 b2 : Nat} {A1 A2 : Option Addr} {c1 c2 : Nat} (hb : Below w0.heap.size w0 w) (h1 : Own w b1 (.slice A1 l1.length c1) l1) (h2 : Own w b2 (.slice A2 l2.length c2) l2)
    (k1 : l1.length ≤ 1000) (k2 : l2.length ≤ 1000) : St w0 w [(A1, l1, c1), (A2, l2, c2)] := by
  have S : St w0 w [] := ⟨hb, fun _ _ _ h => by simp at h⟩
  obtain ⟨_, q1, r1⟩ := Kd.R_reads' h1
  obtain ⟨_, q2, r2⟩ := Kd.R_reads' h2
  exact (S.more r2 q2 k2).more r1 q1 k1
def MadeR (w0 w : World) (L : List (Option Addr × List Int × Nat)) (r : List Int) (e : Ending) (w' : World) : Prop :=
  ∃ A l c, e = .returned (.slice A l.length c) ∧ Aside0 (l = r) ∧ Aside0 (Own w' w.heap.size (.slice A l.length c) l) ∧ Aside0 (Below w.heap.size w w') ∧ St w0 w' ((A, l, c) :: L)
theorem madeR_of {r : List Int} (S : St w0 w L) (hr : r.length ≤ 1000) {e : Ending} (h : ∃ v : Value, e = .returned v ∧ Kd.R (Kd.int .i64) 3 w' w.heap.size (fun _ => True) v r ∧ Below w.heap.size w w') : MadeR w0 w L r e w' := by
  obtain ⟨v, rfl, hR, hb⟩ := h
  obtain ⟨A, c, rfl, hS⟩ := (S.step hb).made hR hr
  exact ⟨A, r, c, rfl, ⟨rfl⟩, ⟨own_mk hR⟩, ⟨hb⟩, hS⟩
theorem eraseR_st (S : St w0 w L) (h : (A, l, c) ∈ L) : Calls Try.prog 10 #[.slice A l.length c] w (MadeR w0 w L (er l)) := by
  obtain ⟨hC, hc, hl⟩ := S.rd _ _ _ h
  obtain ⟨k, hk⟩ := (erase_ev hl).rounds
  exact (trail_Erase.calls k A c l (er l) w hC hc hk).mono fun e w' he => madeR_of S (by have := er_le l; omega) he
theorem backR_st (S : St w0 w L) (h : (A, l, c) ∈ L) : Calls Try.prog 14 #[.slice A l.length c] w (MadeR w0 w L l.reverse) := by
  obtain ⟨hC, hc, hl⟩ := S.rd _ _ _ h
  exact (trail_Back.calls A c l w hC hl).mono fun e w' he => madeR_of S (by rw [List.length_reverse]; exact hl) he
theorem Own.mut (h : Own w b v l) {g n : Nat} (hv : v = .slice (some ⟨g, 0, none⟩) n c) (k : Nat) (x : Int) : Own (w.setCell ⟨g, k, none⟩ (.int .i64 x)) b v (l.set k x) := by
  subst hv
  have := Kd.R_putn (i := (k : Int)) (x := x) h
  rwa [Int.toNat_natCast] at this
theorem Own.elem (h : Own w b v l) {k : Nat} (hk : k < l.length) : ∃ g n c, v = .slice (some ⟨g, 0, none⟩) n c ∧ w.cell? ⟨g, k, none⟩ = some (.int .i64 l[k]) ∧ w.frozen? ⟨g, k, none⟩ = false := by
  obtain ⟨g, c, rfl, hbg, hlt, _⟩ := Kd.R_form h (by omega)
  obtain ⟨cs, hcl, hM, hc, hf⟩ := Kd.R_elem h (0 : Int) (k : Int) (by omega) (by omega)
  refine ⟨g, l.length, c, rfl, ?_, ?_⟩
  · have := hc 0 (.int .i64 l[k]) (by
      have h3 : cs = [.int .i64 l[k]] := by
        have h4 : cs = [Value.int .i64 (l.getD (k : Int).toNat 0)] := hM
        rw [h4]
        simp [hk]
      rw [h3]; rfl)
    rw [show (k : Int).toNat * (Kd.int .i64).sz + 0 = k from by show (k : Int).toNat * 1 + 0 = k; omega] at this
    exact this
  · have := hf 0
    rw [show (k : Int).toNat * (Kd.int .i64).sz + 0 = k from by show (k : Int).toNat * 1 + 0 = k; omega] at this
    exact this
end
set_option maxHeartbeats 8000000 in
set_option maxRecDepth 100000 in
theorem trailNew_walk (A0 : Option Addr) (c0 : Nat) (l0 : List Int) (w : World) (hr0 : Kd.C (Kd.int .i64) w A0 l0.length l0) (hc0 : l0.length ≤ c0) :
    Calls Try.prog 6 #[.slice A0 l0.length c0] w fun e w' => e = .returned (.bool true) ∧ Below w.heap.size w w' := by
  have HR0 := Aside0.mk hr0
  have HC0 := Aside0.mk hc0
  clear hr0 hc0
  go_enter Try.func6, Try.ntmps6
  go_wp2_with (first
    | ((with_reducible refine gate_dst (N := 10) rfl ?_); (try (refine gate_guard (by rfl) ?_; dsimp only)); refine Kd.R_lit (Kd.int .i64) w.heap.size 3 ?hg (N := 10) ?hd (w0 := w) (xs := ([] : List Int)) (inner := []) (ok := fun _ => True) (okp := fun _ => True) ?hr ?hp (fun _ hk => hk) trivial (Below.refl _ _) (Nat.le_refl _) (by simp) ?_; (case hd => rfl); (case hg => rfl); (case hr => first | (go_simp; done) | (go_simp; rfl)); (case hp => exact Reps.none _ _); intro v1 w1 ho_ hb_ hg_ hnew_; have Ov1 := Aside0.mk ho_; have Bv1 := Aside0.mk hb_; have S1 := St.step (St.start w) hb_; clear hg_ hnew_ ho_ hb_)
    | (go_at_call 9; (with_reducible refine (cut_at S1 (Kd.C_below HR0.out Bv1.out) HC0.out 100 100 (by decide) (by decide)).mono ?_); rintro e w1 ⟨A, t, rfl, ht, rfl, S2⟩)
    | ((with_reducible refine gate_builtin (b := .append) (xs := #[.tmp 10, .tmp 12]) rfl ?_); at_builtin; refine Kd.R_append_rows (Kd.int .i64) (w0 := w) w.heap.size rfl (.tmp 10) (.tmp 12) 22 3 (.int .i64 0) 8 rfl Try.underlying22 info3 rfl (by decide) (by omega) v1 [] t _ _ _ (fun _ => True) (fun _ => False) rfl rfl Ov1.out (S2.rd _ t _ List.mem_cons_self).1 (fun _ _ h => h) (fun _ h => h.elim) (fun _ _ => trivial) Bv1.out Bv1.out.size (by have := (S2.rd _ t _ List.mem_cons_self).2.2; simp; omega) ?_; intro v_ w2 ho_ hb_ hg_ hat_; rw [List.nil_append] at ho_; obtain ⟨A2, c2, rfl, S3⟩ := (St.step (St.start w) hb_).made ho_ (S2.rd _ t _ List.mem_cons_self).2.2; have OA2 := Aside0.mk (own_mk ho_); have BA2 := Aside0.mk hb_; clear ho_ hb_ hg_ hat_)
    | (go_at_call 10; (with_reducible refine (eraseR_st S3 (l := t) (by simp)).mono ?_); rintro e w3 ⟨A3, a, c3, rfl, ha, Oa, Ba, S4⟩)
    | (go_at_call 14; (with_reducible refine (backR_st S4 (l := t) (by simp)).mono ?_); rintro e w4 ⟨A4, b, c4, rfl, hb, Ob, Bb, S5⟩)
    | ((with_reducible refine gate_dst (N := 18) rfl ?_); (try (refine gate_guard (by rfl) ?_; dsimp only)); refine Kd.R_lit (Kd.int .i64) w4.heap.size 3 ?hg (N := 18) ?hd (w0 := w4) (xs := ([] : List Int)) (inner := []) (ok := fun _ => True) (okp := fun _ => True) ?hr ?hp (fun _ hk => hk) trivial (Below.refl _ _) (Nat.le_refl _) (by simp) ?_; (case hd => rfl); (case hg => rfl); (case hr => first | (go_simp; done) | (go_simp; rfl)); (case hp => exact Reps.none _ _); intro v5 w5 ho_ hb_ hg_ hnew_; have Ov5 := Aside0.mk ho_; have Bv5 := Aside0.mk hb_; have S6 := St.step S5 hb_; clear hg_ hnew_ ho_ hb_)
    | ((with_reducible refine gate_builtin (b := .append) (xs := #[.tmp 18, .tmp 19]) rfl ?_); at_builtin; refine Kd.R_append_rows (Kd.int .i64) (w0 := w4) w4.heap.size rfl (.tmp 18) (.tmp 19) 22 3 (.int .i64 0) 8 rfl Try.underlying22 info3 rfl (by decide) (by omega) v5 [] a _ _ _ (fun _ => True) (fun _ => False) rfl rfl Ov5.out (S6.rd A3 a c3 (by simp)).1 (fun _ _ h => h) (fun _ h => h.elim) (fun _ _ => trivial) Bv5.out Bv5.out.size (by have := (S6.rd A3 a c3 (by simp)).2.2; simp; omega) ?_; intro v_ w6 ho_ hb_ hg_ hat_; rw [List.nil_append] at ho_; obtain ⟨A6, c6, rfl, S7⟩ := (St.step S5 hb_).made ho_ (S6.rd A3 a c3 (by simp)).2.2; have OA6 := Aside0.mk (own_mk ho_); have BA6 := Aside0.mk hb_; clear ho_ hb_ hg_ hat_)
    | ((with_reducible refine gate_dst (N := 21) rfl ?_); (try (refine gate_guard (by rfl) ?_; dsimp only)); refine Kd.R_lit (Kd.int .i64) w6.heap.size 3 ?hg (N := 21) ?hd (w0 := w6) (xs := ([] : List Int)) (inner := []) (ok := fun _ => True) (okp := fun _ => True) ?hr ?hp (fun _ hk => hk) trivial (Below.refl _ _) (Nat.le_refl _) (by simp) ?_; (case hd => rfl); (case hg => rfl); (case hr => first | (go_simp; done) | (go_simp; rfl)); (case hp => exact Reps.none _ _); intro v7 w7 ho_ hb_ hg_ hnew_; have Ov7 := Aside0.mk ho_; have Bv7 := Aside0.mk hb_; have S8 := St.step S7 hb_; clear hg_ hnew_ ho_ hb_)
    | ((with_reducible refine gate_builtin (b := .append) (xs := #[.tmp 21, .tmp 22]) rfl ?_); at_builtin; refine Kd.R_append_rows (Kd.int .i64) (w0 := w6) w6.heap.size rfl (.tmp 21) (.tmp 22) 22 3 (.int .i64 0) 8 rfl Try.underlying22 info3 rfl (by decide) (by omega) v7 [] b _ _ _ (fun _ => True) (fun _ => False) rfl rfl Ov7.out (S8.rd A4 b c4 (by simp)).1 (fun _ _ h => h) (fun _ h => h.elim) (fun _ _ => trivial) Bv7.out Bv7.out.size (by have := (S8.rd A4 b c4 (by simp)).2.2; simp; omega) ?_; intro v_ w8 ho_ hb_ hg_ hat_; rw [List.nil_append] at ho_; obtain ⟨A8, c8, rfl, S9⟩ := (St.step S7 hb_).made ho_ (S8.rd A4 b c4 (by simp)).2.2; have OA8 := Aside0.mk (own_mk ho_); have BA8 := Aside0.mk hb_; clear ho_ hb_ hg_ hat_))
  have B38 := Aside0.mk (below_next (below_next Bb.out BA6.out) BA8.out)
  have B28 := Aside0.mk (below_next Ba.out B38.out)
  have Ot8 := Aside0.mk (Own.below OA2.out B28.out)
  have Oa8 := Aside0.mk (Own.below Oa.out B38.out)
  have Ob8 := Aside0.mk (Own.below (Own.below Ob.out BA6.out) BA8.out)
  have Oc8 := Aside0.mk (Own.below OA6.out BA8.out)
  have lt := (S9.rd A2 t c2 (by simp)).2.2
  have la := (S9.rd A3 a c3 (by simp)).2.2
  have lb := (S9.rd A4 b c4 (by simp)).2.2
  have T1 := Aside0.mk (Own.lt OA2.out)
  have T2 := Aside0.mk (Own.lt Oa.out)
  have Z1 := Aside0.mk Ba.out.size
  have Z2 := Aside0.mk Bb.out.size
  have Z3 := Aside0.mk BA6.out.size
  go_loopw [7, 26] (fun _ v26 wr => ∃ (k : Nat) (x : List Int), v26 = .int .i64 k ∧ k ≤ t.length ∧ Aside0 (x.length = t.length) ∧ Aside0 (Own wr w.heap.size (.slice A2 t.length c2) x) ∧ Aside0 (Kept w8 wr (fun k => some k = (Value.slice A2 t.length c2).ownBlock)) ∧ Aside0 (Below w.heap.size w wr)) (fun _ i _ => t.length - (intOf i).toNat)
  case atStart => exact ⟨0, t, by go_num, Nat.zero_le _, ⟨rfl⟩, ⟨Ot8.out⟩, ⟨Kept.refl _ _⟩, ⟨S9.old⟩⟩
  case round =>
    obtain ⟨k, x, rfl, hk, hx, HO, HK, HB⟩ := hrel
    by_cases hlt : k < t.length
    · obtain ⟨g, n', c', hv, hcell, hfroz⟩ := Own.elem HO.out (k := k) (by rw [hx.out]; exact hlt)
      have hown := own_block hv
      have HG := Aside0.mk (Own.ge HO.out g hown)
      have HM := Own.mut HO.out hv k
      have HM' := Aside0.mk HM
      have HS := Aside0.mk hown
      clear hown HM
      injection hv with h1 h2 h3
      subst h1
      clear h2 h3
      go_wp2
      go_roundw
      case rel => exact ⟨k + 1, _, by go_num, by omega, ⟨by rw [List.length_set]; exact hx.out⟩, ⟨HM'.out _⟩, ⟨Kept.setCell HK.out (.inl HS.out.symm) _⟩, ⟨Below.setCell HB.out HG.out _⟩⟩
      case measure => simp [intOf]; omega
    · have hn : ¬ (k : Int) < (t.length : Int) := by omega
      have Oa9 := Own.kept Oa8.out HK.out T1.out
      have Ob9 := Own.kept Ob8.out HK.out (fun k h => Nat.lt_of_lt_of_le (T1.out k h) Z1.out)
      have Oc9 := Own.kept Oc8.out HK.out (fun k h => Nat.lt_of_lt_of_le (T1.out k h) (Nat.le_trans Z1.out Z2.out))
      have Od9 := Own.kept OA8.out HK.out (fun k h => Nat.lt_of_lt_of_le (T1.out k h) (Nat.le_trans Z1.out (Nat.le_trans Z2.out Z3.out)))
      have S10 := st_three HB.out Oa9 Oc9 Ob9 Od9 la la lb lb
      have Pa := Aside0.mk Oa9
      have Pb := Aside0.mk Ob9
      have Pd := Aside0.mk Od9
      clear Oa9 Ob9 Oc9 Od9
      go_wp2_with (first
        | (go_at_call 15; (with_reducible refine (same_st S10 (l := a) (m := a) (c := c3) (d := c6) (by simp) (by simp) rfl).mono ?_); rintro e w10 ⟨rfl, hd⟩; have S11 := St.drawn S10 hd; have D1 := Aside0.mk hd.below; clear hd)
        | (go_at_call 15; (with_reducible refine (same_st S11 (l := b) (m := b) (c := c4) (d := c8) (by simp) (by simp) rfl).mono ?_); rintro e w11 ⟨rfl, hd⟩; have S12 := St.drawn S11 hd; have D2 := Aside0.mk (below_next D1.out hd.below); clear hd))
      have Pa11 := Aside0.mk (Own.below Pa.out D2.out)
      have Pb11 := Aside0.mk (Own.below Pb.out D2.out)
      have Pd11 := Aside0.mk (Own.below Pd.out D2.out)
      go_loopw [9, 46] (fun _ v26 wr => ∃ (k2 : Nat) (x : List Int), v26 = .int .i64 k2 ∧ k2 ≤ a.length ∧ Aside0 (x.length = a.length) ∧ Aside0 (Own wr w2.heap.size (.slice A3 a.length c3) x) ∧ Aside0 (Kept w11 wr (fun k => some k = (Value.slice A3 a.length c3).ownBlock)) ∧ Aside0 (Below w.heap.size w wr)) (fun _ i _ => a.length - (intOf i).toNat)
      case atStart => exact ⟨0, a, by go_num, Nat.zero_le _, ⟨rfl⟩, ⟨Pa11.out⟩, ⟨Kept.refl _ _⟩, ⟨S12.old⟩⟩
      case round =>
        obtain ⟨k2, x2, rfl, hk2, hx2, HO2, HK2, HB2⟩ := hrel
        by_cases hlt2 : k2 < a.length
        · obtain ⟨g, n', c', hv, hcell, hfroz⟩ := Own.elem HO2.out (k := k2) (by rw [hx2.out]; exact hlt2)
          have hown := own_block hv
          have HG := Aside0.mk (Own.ge HO2.out g hown)
          have HM := Own.mut HO2.out hv k2
          have HM' := Aside0.mk HM
          have HS := Aside0.mk hown
          clear hown HM
          injection hv with h1 h2 h3
          subst h1
          clear h2 h3
          go_wp2
          go_roundw
          case rel => exact ⟨k2 + 1, _, by go_num, by omega, ⟨by rw [List.length_set]; exact hx2.out⟩, ⟨HM'.out _⟩, ⟨Kept.setCell HK2.out (.inl HS.out.symm) _⟩, ⟨Below.setCell HB2.out (Nat.le_trans BA2.out.size HG.out) _⟩⟩
          case measure => simp [intOf]; omega
        · have hn2 : ¬ (k2 : Int) < (a.length : Int) := by omega
          have Ob12 := Own.kept Pb11.out HK2.out T2.out
          have Od12 := Own.kept Pd11.out HK2.out (fun k h => Nat.lt_of_lt_of_le (T2.out k h) (Nat.le_trans Z2.out Z3.out))
          have S20 := st_two HB2.out Ob12 Od12 lb lb
          clear Ob12 Od12
          go_wp2_with (first
            | (go_at_call 11; (with_reducible refine (fixed_st S20).mono ?_); rintro e w20 ⟨rfl, S21⟩)
            | (go_at_call 15; (with_reducible refine (same_st S21 (l := b) (m := b) (c := c4) (d := c8) (by simp) (by simp) rfl).mono ?_); rintro e w21 ⟨rfl, hd⟩; have S22 := St.drawn S21 hd; clear hd))
          go_ret
          exact ⟨rfl, S22.old⟩
theorem trailNew_law (A : Option Addr) (len cap : Nat) (zs : List Int) (w : World) (h : (A = none ∧ len = 0 ∧ cap = 0 ∧ zs = []) ∨ ∃ x, A = some x ∧ len ≤ cap ∧ cap ≤ maxLen ∧ zs.length = cap ∧ (∀ i, i < zs.length → w.cell? (x.add i) = some (.int .i64 (zs.getD i 0))) ∧ ∀ n ∈ zs, (Lit.int .i64 n).wf = true) (hy : len * 8 ≤ 140737488351232) :
    Calls Try.prog 6 #[.slice A len cap] w fun e w' => e = .returned (.bool true) ∧ Below w.heap.size w w' := by
  obtain ⟨l, rfl, hr, hm, hw, hc⟩ := ReadsInt.ofRowC h
  exact trailNew_walk A cap l w (Kd.C_of_reads (d := (0 : Int)) (h1 := fun _ => rfl) hr) hc
end Go.Proofs.Ytemgfcpambbanaa.PT
