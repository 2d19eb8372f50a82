/- The walk of TrailBoth. -/
import Derived.Test.YtemgfcpambbanaaE4
namespace Go.Proofs.Ytemgfcpambbanaa.PT
open Go.RowKit Go.Proofs.YtemgfcpambbanaaW.PrintWords Go.Proofs.YtemgfcpambbanaaW.PrintLast Go.Proofs.YtemgfcpambbanaaW.PrintMore
attribute [local go_sem] max2_int min2_int max_two min_two max_three min_three max_four min_four
set_option linter.unusedVariables false
theorem add_of_add' (a : Addr) (i j : Nat) : (a.add i).add j = a.add (i + j) := by
  unfold Addr.add
  by_cases hi : i = 0 <;> by_cases hj : j = 0 <;> simp [hi, hj, Nat.add_assoc]
theorem St.less {w0 w : World} {p : Option Addr × List Int × Nat} {L : List (Option Addr × List Int × Nat)} (S : St w0 w (p :: L)) : St w0 w L := ⟨S.old, fun A l c h => S.rd A l c (List.mem_cons_of_mem _ h)⟩
theorem both_last {a b b1 t : List Int} {x : Int} (ht : t = a ++ b1) (hb1 : b1 = b.drop (1 : Int).toNat) (ha : 0 < a.length) (hb : 0 < b.length) (hx : a[a.length - 1]? = some x) (hy : b[0]? = some x) : t.getLast? = b[b.length - 1]? := by
  subst ht hb1
  cases b with
  | nil => simp at hb
  | cons y ys =>
    simp only [List.getElem?_cons_zero, Option.some.injEq] at hy
    subst hy
    show (a ++ ys).getLast? = (y :: ys)[ys.length]?
    cases ys with
    | nil => rw [List.append_nil, List.getLast?_eq_getElem?, hx]; rfl
    | cons z zs =>
      have e : (a ++ z :: zs).getLast? = (z :: zs).getLast? := by rw [List.getLast?_append, List.getLast?_cons]; rfl
      rw [e, List.getLast?_eq_getElem?]
      rfl
theorem nodup_rev {l : List Int} (h : l.Nodup) : l.reverse.Nodup := by
  rw [List.nodup_iff_pairwise_ne, List.pairwise_reverse]
  rw [List.nodup_iff_pairwise_ne] at h
  exact h.imp (fun h => h.symm)
theorem lit_nil (W : World) : Kd.R (Kd.int .i64) 3 (W.alloc (.cells #[] 3)) W.heap.size (fun _ => True) (.slice (some ⟨W.heap.size, 0, none⟩) 0 0) [] := by
  refine ⟨fun _ _ => trivial, [], ?_, Reps.none _ _⟩
  have h2 := World.ownsRow_lit (base := W.heap.size) (e := 3) (size := 1) W #[] 0 (Nat.le_refl _) (by simp [maxLen]) (by simp)
  have h3 : (W.alloc (.cells #[] 3)).ownsRow W.heap.size 3 1 (.slice (some ⟨W.heap.size, 0, none⟩) 0 0) 0 [] := by simpa using h2
  exact h3
set_option maxHeartbeats 4000000 in
set_option maxRecDepth 100000 in
theorem trailBoth_none1 (A0 : Option Addr) (c0 : Nat) (l0 : List Int) (A1 : Option Addr) (c1 : Nat) (l1 : List Int) (w : World) (hr0 : Kd.C (Kd.int .i64) w A0 l0.length l0) (hc0 : l0.length ≤ c0) (hr1 : Kd.C (Kd.int .i64) w A1 l1.length l1) (hc1 : l1.length ≤ c1) (h0 : l0.length < 1) :
    Calls Try.prog 8 #[.slice A0 l0.length c0, .slice A1 l1.length c1] w fun e w' => e = .returned (.bool true) ∧ Below w.heap.size w w' := by
  have HR0 := Aside0.mk hr0
  have HC0 := Aside0.mk hc0
  have HR1 := Aside0.mk hr1
  have HC1 := Aside0.mk hc1
  clear hr0 hc0 hr1 hc1
  have H0 := Aside0.mk h0
  clear h0
  go_enter Try.func8, Try.ntmps8
  go_wp2_with (first
    | (go_at_call 9; (with_reducible refine (cut_at (St.start w) HR0.out HC0.out 50 50 (by decide) (by decide)).mono ?_); rintro e w0 ⟨A, a, rfl, ha, rfl, S0⟩; have hza : a.length < 1 := (by rw [ha.out, List.length_take]; have := H0.out; omega))
    | (go_at_call 9; (with_reducible refine (cut_at S0 HR1.out HC1.out 50 50 (by decide) (by decide)).mono ?_); rintro e w0 ⟨B, b, rfl, hb, rfl, S1⟩))
  have hd1 : ((a.length : Int) == 0) = true := beq_iff_eq.2 (by omega)
  go_quiet (fail)
  clear hd1
  go_wp2_with (first
    | (go_at_call 11; (with_reducible refine (fixed_st (S1.step (pw_below_drewN (Below.refl _ _) _))).mono ?_); rintro e w2 ⟨rfl, S2⟩))
  go_ret
  exact ⟨rfl, S2.old⟩
set_option maxHeartbeats 4000000 in
set_option maxRecDepth 100000 in
theorem trailBoth_none2 (A0 : Option Addr) (c0 : Nat) (l0 : List Int) (A1 : Option Addr) (c1 : Nat) (l1 : List Int) (w : World) (hr0 : Kd.C (Kd.int .i64) w A0 l0.length l0) (hc0 : l0.length ≤ c0) (hr1 : Kd.C (Kd.int .i64) w A1 l1.length l1) (hc1 : l1.length ≤ c1) (h0 : 0 < l0.length) (h1 : l1.length < 1) :
    Calls Try.prog 8 #[.slice A0 l0.length c0, .slice A1 l1.length c1] w fun e w' => e = .returned (.bool true) ∧ Below w.heap.size w w' := by
  have HR0 := Aside0.mk hr0
  have HC0 := Aside0.mk hc0
  have HR1 := Aside0.mk hr1
  have HC1 := Aside0.mk hc1
  clear hr0 hc0 hr1 hc1
  have H0 := Aside0.mk h0
  clear h0
  have H1 := Aside0.mk h1
  clear h1
  go_enter Try.func8, Try.ntmps8
  go_wp2_with (first
    | (go_at_call 9; (with_reducible refine (cut_at (St.start w) HR0.out HC0.out 50 50 (by decide) (by decide)).mono ?_); rintro e w0 ⟨A, a, rfl, ha, rfl, S0⟩; have hza : 0 < a.length := (by rw [ha.out, List.length_take]; have := H0.out; omega); obtain ⟨ad, rfl⟩ := St.held S0 (A := A) (l := a) (c := a.length) List.mem_cons_self hza)
    | (go_at_call 9; (with_reducible refine (cut_at S0 HR1.out HC1.out 50 50 (by decide) (by decide)).mono ?_); rintro e w0 ⟨B, b, rfl, hb, rfl, S1⟩; have hzb : b.length < 1 := (by rw [hb.out, List.length_take]; have := H1.out; omega)))
  have hd1 : ((a.length : Int) == 0) = false := beq_eq_false_iff_ne.2 (by omega)
  have hd2 : ((b.length : Int) == 0) = true := beq_iff_eq.2 (by omega)
  go_quiet (fail)
  clear hd1 hd2
  go_wp2_with (first
    | (go_at_call 11; (with_reducible refine (fixed_st (S1.step (pw_below_drewN (Below.refl _ _) _))).mono ?_); rintro e w2 ⟨rfl, S2⟩))
  go_ret
  exact ⟨rfl, S2.old⟩
set_option maxHeartbeats 4000000 in
set_option maxRecDepth 100000 in
theorem trailBoth_differ (A0 : Option Addr) (c0 : Nat) (l0 : List Int) (A1 : Option Addr) (c1 : Nat) (l1 : List Int) (w : World) (hr0 : Kd.C (Kd.int .i64) w A0 l0.length l0) (hc0 : l0.length ≤ c0) (hr1 : Kd.C (Kd.int .i64) w A1 l1.length l1) (hc1 : l1.length ≤ c1) (h0 : 0 < l0.length) (h1 : 0 < l1.length) (hl : (l0.take 50).getLast? ≠ (l1.take 50)[0]?) :
    Calls Try.prog 8 #[.slice A0 l0.length c0, .slice A1 l1.length c1] w fun e w' => e = .returned (.bool true) ∧ Below w.heap.size w w' := by
  have HR0 := Aside0.mk hr0
  have HC0 := Aside0.mk hc0
  have HR1 := Aside0.mk hr1
  have HC1 := Aside0.mk hc1
  clear hr0 hc0 hr1 hc1
  have H0 := Aside0.mk h0
  clear h0
  have H1 := Aside0.mk h1
  clear h1
  have HL := Aside0.mk hl
  clear hl
  go_enter Try.func8, Try.ntmps8
  go_wp2_with (first
    | (go_at_call 9; (with_reducible refine (cut_at (St.start w) HR0.out HC0.out 50 50 (by decide) (by decide)).mono ?_); rintro e w0 ⟨A, a, rfl, ha, rfl, S0⟩; have hza : 0 < a.length := (by rw [ha.out, List.length_take]; have := H0.out; omega); obtain ⟨ad, rfl⟩ := St.held S0 (A := A) (l := a) (c := a.length) List.mem_cons_self hza)
    | (go_at_call 9; (with_reducible refine (cut_at S0 HR1.out HC1.out 50 50 (by decide) (by decide)).mono ?_); rintro e w0 ⟨B, b, rfl, hb, rfl, S1⟩; have hzb : 0 < b.length := (by rw [hb.out, List.length_take]; have := H1.out; omega); obtain ⟨bd, rfl⟩ := St.held S1 (A := B) (l := b) (c := b.length) List.mem_cons_self hzb))
  have hd1 : ((a.length : Int) == 0) = false := beq_eq_false_iff_ne.2 (by omega)
  have hd2 : ((b.length : Int) == 0) = false := beq_eq_false_iff_ne.2 (by omega)
  have ba := (S1.rd (some ad) a a.length (by simp)).2.2
  have w1a : IntKind.i64.wrap ((a.length : Int) - 1) = (a.length : Int) - 1 := IntWalk.i64_in _ (by omega)
  have w2a : (1 : Int) ≤ (a.length : Int) := by omega
  have w3a : (a.length : Int) - 1 < (a.length : Int) := by omega
  have w4a : ((a.length : Int) - 1).toNat = a.length - 1 := by omega
  have w5a : 0 ≤ (a.length : Int) - 1 := by omega
  have w6b : (0 : Int) < (b.length : Int) := by omega
  have k1 := S1.cell (ad := ad) (l := a) (c := a.length) (i := a.length - 1) (by simp) (by omega)
  have k2 := (congrArg w.cell? (add_nought bd).symm).trans (S1.cell (ad := bd) (l := b) (c := b.length) (i := 0) (by simp) (by omega))
  obtain ⟨x, hx⟩ : ∃ x, x = a[a.length - 1] := ⟨_, rfl⟩
  obtain ⟨y, hy⟩ : ∃ y, y = b[0] := ⟨_, rfl⟩
  rw [← hx] at k1
  rw [← hy] at k2
  have hd3 : (x == y) = false := by
    rw [beq_eq_false_iff_ne]
    intro e
    have h := HL.out
    rw [← ha.out, ← hb.out, List.getLast?_eq_getElem?, List.getElem?_eq_getElem (by omega), List.getElem?_eq_getElem hzb, ← hx, ← hy, e] at h
    exact h rfl
  have hd4 : (x != y) = true := by rw [bne, hd3]; rfl
  clear hx hy
  go_quiet (fail)
  clear hd1 hd2 hd3 hd4 w1a w2a w3a w4a w5a w6b k1 k2
  go_wp2_with (first
    | (go_at_call 11; (with_reducible refine (fixed_st (S1.step (pw_below_drewN (Below.refl _ _) _))).mono ?_); rintro e w2 ⟨rfl, S2⟩))
  go_ret
  exact ⟨rfl, S2.old⟩
set_option maxHeartbeats 4000000 in
set_option maxRecDepth 100000 in
theorem trailBoth_same (A0 : Option Addr) (c0 : Nat) (l0 : List Int) (A1 : Option Addr) (c1 : Nat) (l1 : List Int) (w : World) (hr0 : Kd.C (Kd.int .i64) w A0 l0.length l0) (hc0 : l0.length ≤ c0) (hr1 : Kd.C (Kd.int .i64) w A1 l1.length l1) (hc1 : l1.length ≤ c1) (h0 : 0 < l0.length) (h1 : 0 < l1.length) (hl : (l0.take 50).getLast? = (l1.take 50)[0]?) :
    Calls Try.prog 8 #[.slice A0 l0.length c0, .slice A1 l1.length c1] w fun e w' => e = .returned (.bool true) ∧ Below w.heap.size w w' := by
  have HR0 := Aside0.mk hr0
  have HC0 := Aside0.mk hc0
  have HR1 := Aside0.mk hr1
  have HC1 := Aside0.mk hc1
  clear hr0 hc0 hr1 hc1
  have H0 := Aside0.mk h0
  clear h0
  have H1 := Aside0.mk h1
  clear h1
  have HL := Aside0.mk hl
  clear hl
  go_enter Try.func8, Try.ntmps8
  go_wp2_with (first
    | (go_at_call 9; (with_reducible refine (cut_at (St.start w) HR0.out HC0.out 50 50 (by decide) (by decide)).mono ?_); rintro e w0 ⟨A, a, rfl, ha, rfl, S0⟩; have hza : 0 < a.length := (by rw [ha.out, List.length_take]; have := H0.out; omega); obtain ⟨ad, rfl⟩ := St.held S0 (A := A) (l := a) (c := a.length) List.mem_cons_self hza)
    | (go_at_call 9; (with_reducible refine (cut_at S0 HR1.out HC1.out 50 50 (by decide) (by decide)).mono ?_); rintro e w0 ⟨B, b, rfl, hb, rfl, S1⟩; have hzb : 0 < b.length := (by rw [hb.out, List.length_take]; have := H1.out; omega); obtain ⟨bd, rfl⟩ := St.held S1 (A := B) (l := b) (c := b.length) List.mem_cons_self hzb))
  have hd1 : ((a.length : Int) == 0) = false := beq_eq_false_iff_ne.2 (by omega)
  have hd2 : ((b.length : Int) == 0) = false := beq_eq_false_iff_ne.2 (by omega)
  have ba := (S1.rd (some ad) a a.length (by simp)).2.2
  have w1a : IntKind.i64.wrap ((a.length : Int) - 1) = (a.length : Int) - 1 := IntWalk.i64_in _ (by omega)
  have w2a : (1 : Int) ≤ (a.length : Int) := by omega
  have w3a : (a.length : Int) - 1 < (a.length : Int) := by omega
  have w4a : ((a.length : Int) - 1).toNat = a.length - 1 := by omega
  have w5a : 0 ≤ (a.length : Int) - 1 := by omega
  have w6b : (0 : Int) < (b.length : Int) := by omega
  have k1 := S1.cell (ad := ad) (l := a) (c := a.length) (i := a.length - 1) (by simp) (by omega)
  have k2 := (congrArg w.cell? (add_nought bd).symm).trans (S1.cell (ad := bd) (l := b) (c := b.length) (i := 0) (by simp) (by omega))
  obtain ⟨x, hx⟩ : ∃ x, x = a[a.length - 1] := ⟨_, rfl⟩
  obtain ⟨y, hy⟩ : ∃ y, y = b[0] := ⟨_, rfl⟩
  rw [← hx] at k1
  rw [← hy] at k2
  have hxy : x = y := by
    have h := HL.out
    rw [← ha.out, ← hb.out, List.getLast?_eq_getElem?, List.getElem?_eq_getElem (by omega), List.getElem?_eq_getElem hzb, ← hx, ← hy] at h
    exact Option.some.inj h
  subst hxy
  have hd3 : (x != x) = false := by simp
  have hx' : a[a.length - 1]? = some x := by rw [hx]; exact List.getElem?_eq_getElem _
  have hy' : b[0]? = some x := by rw [hy]; exact List.getElem?_eq_getElem _
  have HX := Aside0.mk hx'
  have HY := Aside0.mk hy'
  clear hx hy hx' hy'
  go_quiet (fail)
  clear hd1 hd2 hd3 w1a w2a w3a w4a w5a w6b k1 k2
  go_wp2
  have S2 := S1.step (pw_below_drewN (Below.refl _ w) (by assumption))
  generalize w.drewN _ = wq at S2 ⊢
  obtain ⟨i0, hi_, hz0_, hz1_, hz2_⟩ := info_parts info3
  obtain ⟨B1, hsl, hrd, hB1⟩ := print_drop_of (P := Try.prog) (Value.int .i64) (0 : Int) 22 3 .i64 Try.underlying22 hi_ hz1_ (some bd) b.length b 1 (by decide) (by omega) (Nat.le_refl _)
  obtain ⟨b1, hb1⟩ : ∃ b1, b1 = b.drop (1 : Int).toNat := ⟨_, rfl⟩
  rw [← hb1] at hsl hrd hB1
  have HRD := Aside0.mk hrd
  have HB1 := Aside0.mk hb1
  obtain ⟨t, htt⟩ : ∃ t, t = a ++ b1 := ⟨_, rfl⟩
  have HT := Aside0.mk htt
  have hl1 : b1.length + 1 = b.length := by rw [hb1]; simp; omega
  have HL1 := Aside0.mk hl1
  have bb : b.length ≤ 50 := by rw [hb.out, List.length_take]; omega
  have ba50 : a.length ≤ 50 := by rw [ha.out, List.length_take]; omega
  clear htt hl1 hrd hb1 hB1 hi_ hz0_ hz1_ hz2_
  have S3 : St w (wq.alloc (.cells #[] 3)).drew [(some bd, b, b.length), (some ad, a, a.length)] := St.step (St.step S2 (below_alloc (Below.refl _ _) _)) (below_drew (Below.refl _ _))
  have R3 := Aside0.mk (Kd.R_drew (lit_nil wq))
  have B3 := Aside0.mk (below_drew (below_alloc (Below.refl wq.heap.size wq) (.cells #[] 3)))
  go_region_held3 (fun w' => St w w' [(some bd, b, b.length), (some ad, a, a.length)])
    (first
      | exact St.step S2 (below_drew (Below.refl _ _))
      | assumption
      | exact St.less S5)
    ((first
      | (refine Kd.R_append_rows_step (Kd.int .i64) (w0 := wq) wq.heap.size (by rfl) (.tmp 33) (.tmp 34) 22 3 (.int .i64 0) 8 rfl Try.underlying22 info3 rfl (by decide) (by omega) _ [] a _ _ _ (fun _ => True) (fun _ => False) rfl rfl R3.out (S3.rd (some ad) a a.length (by simp)).1 (fun _ _ h => h) (fun _ h => h.elim) (fun _ _ => trivial) B3.out B3.out.size (by have := (S3.rd (some ad) a a.length (by simp)).2.2; simp; omega) ?_; intro v4 w4 ho_ hb_ hg_ hat_; rw [List.nil_append] at ho_; have S4 := St.step S2 hb_; have R4 := Aside0.mk ho_; have B4 := Aside0.mk hb_; clear ho_ hb_ hg_ hat_)
      | (refine Kd.R_append_rows_step (Kd.int .i64) (w0 := wq) wq.heap.size (by rfl) (.tmp 35) (.tmp 37) 22 3 (.int .i64 0) 8 rfl Try.underlying22 info3 rfl (by decide) (by omega) v4 a b1 _ _ _ (fun _ => True) (fun _ => False) rfl rfl R4.out (Kd.C_of_reads (d := (0 : Int)) (h1 := fun _ => rfl) (HRD.out _ (Kd.reads_of_C (enc := Value.int .i64) (d := (0 : Int)) (h1 := fun _ => rfl) (S4.rd (some bd) b b.length (by simp)).1))) (fun _ _ h => h) (fun _ h => h.elim) (fun _ _ => trivial) B4.out B4.out.size (by have := HL1.out; omega) ?_; intro v5 w5 ho_ hb_ hg_ hat_; rw [← HT.out] at ho_; obtain ⟨A5, c5, rfl, S5⟩ := (St.step S2 hb_).made ho_ (by rw [HT.out, List.length_append]; have := HL1.out; omega); clear ho_ hb_ hg_ hat_)))
  clear hsl
  have hzt : 0 < t.length := by rw [HT.out, List.length_append]; omega
  go_wp2_with (first
    | (go_at_call 10; (with_reducible refine (erase_st S5 (l := t) (by simp)).mono ?_); rintro e w6 ⟨A6, z, c6, rfl, hz, S6⟩; have hzz : 0 < z.length := (by rw [hz.out]; exact er_pos hzt); obtain ⟨xd, rfl⟩ := St.held S6 (A := A6) (l := z) (c := c6) List.mem_cons_self hzz)
    | (go_at_call 14; (with_reducible refine (back_st S6 (l := z) (by simp)).mono ?_); rintro e w7 ⟨A7, y, c7, rfl, hy, S7⟩; have hzy : y.length = z.length := (by rw [hy.out, List.length_reverse]); have HZY := Aside0.mk hzy; have hzy1 : 0 < y.length := (by rw [hzy]; exact hzz); clear hzy; obtain ⟨yd, rfl⟩ := St.held S7 (A := A7) (l := y) (c := c7) List.mem_cons_self hzy1))
  have K5 : Aside0 (∃ u v : Int, ∀ w', St w w' [(some yd, y, c7), (some xd, z, c6), (A5, t, c5), (some bd, b, b.length), (some ad, a, a.length)] → w'.cell? xd = some (.int .i64 u) ∧ w'.cell? ad = some (.int .i64 u) ∧ w'.cell? (xd.add (z.length - 1)) = some (.int .i64 v) ∧ w'.cell? (bd.add (b.length - 1)) = some (.int .i64 v) ∧ w'.cell? yd = some (.int .i64 v)) := ⟨by
    have h1 := er_head t
    have h2 := er_last _ t (Nat.le_refl _)
    rw [← hz.out] at h1 h2
    refine ⟨z[0], z[z.length - 1], fun w' S => ⟨(congrArg w'.cell? (add_nought xd).symm).trans (S.cell (c := c6) (by simp) hzz), (congrArg w'.cell? (add_nought ad).symm).trans ?_, S.cell (c := c6) (by simp) (by omega), ?_, (congrArg w'.cell? (add_nought yd).symm).trans ?_⟩⟩
    · have e : t[0]? = a[0]? := by rw [HT.out, List.getElem?_append_left hza]
      rw [e, List.getElem?_eq_getElem hzz, List.getElem?_eq_getElem hza] at h1
      rw [Option.some.inj h1]
      exact S.cell (c := a.length) (by simp) hza
    · have e : t.getLast? = b[b.length - 1]? := both_last HT.out HB1.out hza hzb HX.out HY.out
      rw [e, List.getLast?_eq_getElem?, List.getElem?_eq_getElem (by omega), List.getElem?_eq_getElem (by omega)] at h2
      rw [Option.some.inj h2]
      exact S.cell (c := b.length) (by simp) (by omega)
    · have e : y[0]? = z[z.length - 1]? := by rw [hy.out, List.getElem?_reverse hzz]; congr 1
      rw [List.getElem?_eq_getElem hzy1, List.getElem?_eq_getElem (by omega)] at e
      rw [← Option.some.inj e]
      exact S.cell (c := c7) (by simp) hzy1⟩
  obtain ⟨u, v, hK5⟩ := K5.out
  clear K5
  have K5 := Aside0.mk hK5
  clear hK5
  have bz := (S6.rd (some xd) z c6 (by simp)).2.2
  have w1a : IntKind.i64.wrap ((z.length : Int) - 1) = (z.length : Int) - 1 := IntWalk.i64_in _ (by omega)
  have w1t : IntKind.i64.wrap ((b.length : Int) - 1) = (b.length : Int) - 1 := IntWalk.i64_in _ (by omega)
  have w2a : (1 : Int) ≤ (z.length : Int) := by omega
  have w2t : (1 : Int) ≤ (b.length : Int) := by omega
  have w3a : (z.length : Int) - 1 < (z.length : Int) := by omega
  have w3t : (b.length : Int) - 1 < (b.length : Int) := by omega
  have w4a : ((z.length : Int) - 1).toNat = z.length - 1 := by omega
  have w4t : ((b.length : Int) - 1).toNat = b.length - 1 := by omega
  have w5a : 0 ≤ (z.length : Int) - 1 := by omega
  have w5t : 0 ≤ (b.length : Int) - 1 := by omega
  have q6 : ((y.length : Int) == (z.length : Int)) = true := beq_iff_eq.2 (by rw [HZY.out])
  have q7 : (0 : Int) < (y.length : Int) := by omega
  have q8 : (0 : Int) < (a.length : Int) := by omega
  go_region_held3 (fun w' => St w w' [(some yd, y, c7), (some xd, z, c6), (A5, t, c5), (some bd, b, b.length), (some ad, a, a.length)] ∧ w'.cell? xd = some (.int .i64 u) ∧ w'.cell? ad = some (.int .i64 u) ∧ w'.cell? (xd.add (z.length - 1)) = some (.int .i64 v) ∧ w'.cell? (bd.add (b.length - 1)) = some (.int .i64 v) ∧ w'.cell? yd = some (.int .i64 v))
    (first
      | exact ⟨St.step S7 (below_drew (Below.refl _ _)), K5.out _ (St.step S7 (below_drew (Below.refl _ _)))⟩
      | exact ⟨by assumption, K5.out _ (by assumption)⟩)
    ((first
      | (go_at_call 11; (with_reducible refine (fixed_st (w0 := w) (L := [(some yd, y, c7), (some xd, z, c6), (A5, t, c5), (some bd, b, b.length), (some ad, a, a.length)]) (And.left (by assumption))).mono ?_); rintro e w8 ⟨rfl, S8⟩)
      | (go_at_call 18; (with_reducible refine (simple_st (w0 := w) (L := [(some yd, y, c7), (some xd, z, c6), (A5, t, c5), (some bd, b, b.length), (some ad, a, a.length)]) (And.left (by assumption)) (l := z) (by simp) true (by rw [hz.out]; exact decide_eq_true (er_nodup _ t (Nat.le_refl _)))).mono ?_); rintro e w9 ⟨rfl, hd⟩; have S9 : St w w9 [(some yd, y, c7), (some xd, z, c6), (A5, t, c5), (some bd, b, b.length), (some ad, a, a.length)] := St.drawn (And.left (by assumption)) hd; clear hd)
      | (go_at_call 18; (with_reducible refine (simple_st (w0 := w) (L := [(some yd, y, c7), (some xd, z, c6), (A5, t, c5), (some bd, b, b.length), (some ad, a, a.length)]) (And.left (by assumption)) (l := y) (by simp) true (by rw [hy.out, hz.out]; exact decide_eq_true (nodup_rev (er_nodup _ t (Nat.le_refl _))))).mono ?_); rintro e w11 ⟨rfl, hd⟩; have S11 : St w w11 [(some yd, y, c7), (some xd, z, c6), (A5, t, c5), (some bd, b, b.length), (some ad, a, a.length)] := St.drawn (And.left (by assumption)) hd; clear hd)
      | (go_at_call 21; (with_reducible refine (joins_st (w0 := w) (L := [(some yd, y, c7), (some xd, z, c6), (A5, t, c5), (some bd, b, b.length), (some ad, a, a.length)]) (And.left (by assumption)) (l := z) (m := t) (by simp) (by simp) true (by rw [hz.out]; exact ⟨fun _ => er_joins _ t (Nat.le_refl _), fun _ => rfl⟩)).mono ?_); rintro e w10 ⟨rfl, hd⟩; have S10 : St w w10 [(some yd, y, c7), (some xd, z, c6), (A5, t, c5), (some bd, b, b.length), (some ad, a, a.length)] := St.drawn (And.left (by assumption)) hd; clear hd)))
  clear w1a w1t w2a w2t w3a w3t w4a w4t w5a w5t q6 q7 q8
  go_wp2
  go_ret
  exact ⟨rfl, S11.old⟩
theorem trailBoth_walk (A0 : Option Addr) (c0 : Nat) (l0 : List Int) (A1 : Option Addr) (c1 : Nat) (l1 : List Int) (w : World) (hr0 : Kd.C (Kd.int .i64) w A0 l0.length l0) (hc0 : l0.length ≤ c0) (hr1 : Kd.C (Kd.int .i64) w A1 l1.length l1) (hc1 : l1.length ≤ c1) :
    Calls Try.prog 8 #[.slice A0 l0.length c0, .slice A1 l1.length c1] w fun e w' => e = .returned (.bool true) ∧ Below w.heap.size w w' := by
  rcases Nat.lt_or_ge l0.length 1 with h | h
  · exact trailBoth_none1 A0 c0 l0 A1 c1 l1 w hr0 hc0 hr1 hc1 h
  · rcases Nat.lt_or_ge l1.length 1 with h1 | h1
    · exact trailBoth_none2 A0 c0 l0 A1 c1 l1 w hr0 hc0 hr1 hc1 h h1
    · by_cases hl : (l0.take 50).getLast? = (l1.take 50)[0]?
      · exact trailBoth_same A0 c0 l0 A1 c1 l1 w hr0 hc0 hr1 hc1 h h1 hl
      · exact trailBoth_differ A0 c0 l0 A1 c1 l1 w hr0 hc0 hr1 hc1 h h1 hl
theorem trailBoth_law (A : Option Addr) (len cap : Nat) (zs : List Int) (A1 : Option Addr) (len1 cap1 : Nat) (zs1 : List Int) (w : World) (h : (A = none ∧ len = 0 ∧ cap = 0 ∧ zs = []) ∨ ∃ x, A = some x ∧ len ≤ cap ∧ cap ≤ maxLen ∧ zs.length = cap ∧ (∀ i, i < zs.length → w.cell? (x.add i) = some (.int .i64 (zs.getD i 0))) ∧ ∀ n ∈ zs, (Lit.int .i64 n).wf = true) (hy : len * 8 ≤ 140737488351232)
    (h1 : (A1 = none ∧ len1 = 0 ∧ cap1 = 0 ∧ zs1 = []) ∨ ∃ x, A1 = some x ∧ len1 ≤ cap1 ∧ cap1 ≤ maxLen ∧ zs1.length = cap1 ∧ (∀ i, i < zs1.length → w.cell? (x.add i) = some (.int .i64 (zs1.getD i 0))) ∧ ∀ n ∈ zs1, (Lit.int .i64 n).wf = true) (hy1 : len1 * 8 ≤ 140737488351232) :
    Calls Try.prog 8 #[.slice A len cap, .slice A1 len1 cap1] w fun e w' => e = .returned (.bool true) ∧ Below w.heap.size w w' := by
  obtain ⟨l, rfl, hr, hm, hw, hc⟩ := ReadsInt.ofRowC h
  obtain ⟨l1, rfl, hr1, hm1, hw1, hc1⟩ := ReadsInt.ofRowC h1
  exact trailBoth_walk A cap l A1 cap1 l1 w (Kd.C_of_reads (d := (0 : Int)) (h1 := fun _ => rfl) hr) hc (Kd.C_of_reads (d := (0 : Int)) (h1 := fun _ => rfl) hr1) hc1
end Go.Proofs.Ytemgfcpambbanaa.PT
