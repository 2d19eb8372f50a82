/- Contracts of the document's Take and Twice. -/
import Derived.Test.YtefkaefgihhcaaaD8
namespace Go.Proofs.Ytefkaefgihhcaaa.PP
open Go.RowKit Go.Proofs.YtefkaefgihhcaaaW.PrintWords Go.Proofs.YtefkaefgihhcaaaW.PrintLast Go.Proofs.YtefkaefgihhcaaaW.PrintMore
attribute [local go_sem] max2_int min2_int max_two min_two max_three min_three max_four min_four
set_option linter.unusedVariables false
set_option linter.unusedSimpArgs false
section
variable {w w' w6 w7 : World} {F S : Nat → Prop} {xs ys : List (List Int)} {us : List Value} {bs : List Int} {g : Nat} {lv u v : Value} {T : TypeId}
theorem erase_take {α : Type} (l : List α) {j k : Nat} (hj : j < l.length) : (l.take (j + 1)).eraseIdx k = if j = k then (l.take j).eraseIdx k else (l.take j).eraseIdx k ++ [l[j]] := by
  have hlen : (l.take j).length = j := by rw [List.length_take]; omega
  rw [List.take_succ_eq_append_getElem hj]
  by_cases h : j = k
  · subst h
    rw [if_pos rfl, List.eraseIdx_of_length_le (l := l.take j) (by omega), List.eraseIdx_append_of_length_le (by omega), hlen, Nat.sub_self]
    simp
  · rw [if_neg h]
    rcases Nat.lt_or_ge k j with hk | hk
    · rw [List.eraseIdx_append_of_lt_length (by omega)]
    · rw [List.eraseIdx_of_length_le (l := l.take j) (by omega), List.eraseIdx_append_of_length_le (by omega), List.eraseIdx_of_length_le (by simp; omega)]
/-- The frames that a pipe holds: each is a slice, and reads as its list. -/
theorem Pip.parts (h : Pip T w F g xs) : F g ∧ xs.length ≤ 256 ∧ ∃ G cap us, w.heap[g]? = some (.cells #[.slice G us.length cap] T (0, 0)) ∧ us.length ≤ cap ∧ Out w F (.slice G us.length cap) us ∧ Frs w F us xs ∧ us.length = xs.length := by
  obtain ⟨hg, hl, lv, us, hb, ho, hf⟩ := h
  obtain ⟨A, c, rfl, hc⟩ := ho.form
  exact ⟨hg, hl, A, c, us, hb, hc, ho, hf, hf.1⟩
theorem refTake_end (hT : T ≠ 26) (hT5 : T ≠ 5) (hg : F g) (hb : w.heap[g]? = some (.cells #[lv] T (0, 0))) (hr : Frs w F us xs) (hl : xs.length ≤ 256) (k : Nat)
    (hw : Below w.heap.size w w') (ho : Out w' (fun j => w.heap.size ≤ j) v (us.eraseIdx k)) :
    Pip T (w'.setCell ⟨g, 0, none⟩ v) (fun j => F j ∨ w.heap.size ≤ j) g (xs.eraseIdx k) ∧ Mv F w (w'.setCell ⟨g, 0, none⟩ v) ∧ ∀ u bs, Fr w F u bs → Fr (w'.setCell ⟨g, 0, none⟩ v) F u bs := by
  have h' : w'.heap[g]? = some (.cells #[lv] T (0, 0)) := (hw.block g (lt_blk hb)).trans hb
  refine ⟨⟨.inl hg, by rw [List.length_eraseIdx]; split <;> omega, v, _, blk_set h' 0 v, (ho.mono (fun k hk => .inr hk)).other (set_other h' (Ne.symm hT) 0 v), ?_⟩, (Mv.of_below hw F).trans (Mv.set_ w' g 0 v) (fun i hi => by subst hi; exact .inl hg), ?_⟩
  · exact (((hr.mv (Mv.of_below hw (fun _ => False)) (fun _ _ h => h)).erase k).other (set_other h' (Ne.symm hT5) 0 v)).mono (fun i hi => .inl hi)
  · exact fun u bs hu => (hu.mv (Mv.of_below hw (fun _ => False)) (fun _ _ h => h)).other (set_other h' (Ne.symm hT5) 0 v)
theorem refTake_snoc {B : Nat} (hB : B ≤ w.heap.size) (ho : Out w (fun k => B ≤ k) lv us) (ho7 : Out w7 (fun k => B ≤ k ∨ (w.alloc (.cells #[u] 26)).heap.size ≤ k) v (us ++ [u])) (hm7 : Mv (fun k => some k = lv.ownBlock) (w.alloc (.cells #[u] 26)) w7) :
    Out w7 (fun k => B ≤ k) v (us ++ [u]) ∧ Mv (fun k => B ≤ k) w w7 := by
  have b8 : Below w.heap.size w (w.alloc (.cells #[u] 26)) := below_alloc (Below.refl _ _) _
  have o8 : Out (w.alloc (.cells #[u] 26)) (fun k => B ≤ k) lv us := ho.mv (Mv.of_below b8 (fun _ => False)) (fun _ _ h => h)
  have hs := b8.size
  exact ⟨ho7.mono (fun k hk => by rcases hk with hk | hk; exact hk; exact Nat.le_trans hB (Nat.le_trans hs hk)), (Mv.of_below b8 (fun k => B ≤ k)).trans (hm7.mono (S' := fun k => B ≤ k) (fun k hk => (o8.own k hk).1)) (fun k hk => .inl hk)⟩
set_option maxHeartbeats 1000000 in
theorem refTake_none (h : Pip 38 w F g []) (i : Int) : Calls Try.prog 14 #[.pointer (some ⟨g, 0, none⟩), .int .i64 i] w fun e w' => e = .returned (.tuple #[.slice none 0 0, .bool false]) ∧ w = w' := by
  have H := Aside0.mk h
  clear h
  go_enter Try.func14, Try.ntmps14
  go_wp2_with (go_at_call 20; (with_reducible refine (refPlace_none H.out i).mono ?_); rintro e w' ⟨rfl, rfl⟩)
  go_ret2
  exact ⟨rfl, rfl⟩
set_option maxHeartbeats 4000000 in
set_option maxRecDepth 100000 in
theorem refTake_c (h : Pip 38 w F g xs) (i : Int) (hx : 0 < xs.length) : Calls Try.prog 14 #[.pointer (some ⟨g, 0, none⟩), .int .i64 i] w fun e w' =>
    ∃ u, e = .returned (.tuple #[u, .bool true]) ∧ (∀ bs, xs[pk i xs.length]? = some bs → Fr w' F u bs) ∧ Pip 38 w' (fun j => F j ∨ w.heap.size ≤ j) g (xs.eraseIdx (pk i xs.length)) ∧ Mv F w w' := by
  have H := Aside0.mk h
  have HI := Aside0.mk hx
  obtain ⟨hg, hl, A, cap, us, hb, hcap, ho, hf, hn⟩ := h.parts
  have hkx : pk i xs.length < xs.length := Nat.mod_lt _ hx
  obtain ⟨k, hk⟩ : ∃ k, k = pk i xs.length := ⟨_, rfl⟩
  have hku : k < us.length := by rw [hk, hn]; exact hkx
  obtain ⟨G, cap', e, _, hGF, hcell⟩ := ho.at_ hku
  injection e with e1 e2 e3
  subst e1 e3
  obtain ⟨x, hx2⟩ : ∃ x, xs[k]? = some x := ⟨_, List.getElem?_eq_getElem (by rw [hk]; exact hkx)⟩
  have hfr : Fr w F us[k] x := hf.2 k _ _ (List.getElem?_eq_getElem hku) hx2
  obtain ⟨Au, cu, eu, _⟩ := id hfr
  rw [eu] at hcell hfr
  have HFR := Aside0.mk hfr
  obtain ⟨n, hnn⟩ : ∃ n, n = us.length := ⟨_, rfl⟩
  have hc : w.cell? ⟨g, 0, none⟩ = some (.slice (some ⟨G, 0, none⟩) n cap) := by rw [hnn]; exact cell_of_row w g 0 _ 38 (0, 0) hb
  rw [← hnn] at hb hcap hku
  have HCELL : Aside0 (∀ j (hj : j < us.length), ∃ A c m, us[j] = .slice A m c ∧ w.cell? ⟨G, j, none⟩ = some (.slice A m c)) := ⟨fun j hj => by
    obtain ⟨G', cap', e, _, _, hc'⟩ := ho.at_ hj
    injection e with e1 _ _
    injection e1 with e1
    injection e1 with e1
    subst e1
    obtain ⟨bs, hbs⟩ : ∃ bs, xs[j]? = some bs := ⟨_, List.getElem?_eq_getElem (by rw [← hn]; exact hj)⟩
    obtain ⟨A, c, e, _⟩ := hf.2 j _ bs (List.getElem?_eq_getElem hj) hbs
    exact ⟨A, c, _, e, by rw [← e]; exact hc'⟩⟩
  have hk256 : n ≤ 256 := by omega
  have HX := Aside0.mk hx2
  have HK := Aside0.mk hk
  have HG := Aside0.mk hg
  have HL := Aside0.mk hl
  have HB0 := Aside0.mk hb
  have HF := Aside0.mk hf
  have HNN := Aside0.mk hnn
  have hw0 := World.block_lt_of_cell? w _ hc
  clear hg hl hb ho hf hn hkx hk hx2 hfr eu hx hnn hGF h e2
  have q2 : (k : Int) < (n : Int) := by omega
  have q3 : (0 : Int) ≤ (k : Int) := by omega
  go_enter Try.func14, Try.ntmps14
  go_wp2_with (go_at_call 20; (with_reducible refine (refPlace_c H.out i HI.out).mono ?_); rintro e w' ⟨rfl, rfl⟩; rw [← HK.out])
  go_loopw [8, 9] (fun v8 v9 wr => ∃ (j : Nat), v9 = .int .i64 j ∧ j ≤ n ∧ Aside0 (Out wr (fun i => w.heap.size ≤ i) v8 ((us.take j).eraseIdx k)) ∧ Aside0 (Below w.heap.size w wr)) (fun _ i _ => n - (intOf i).toNat)
  case atStart => exact ⟨0, by go_num, Nat.zero_le _, ⟨by simpa using out_nil⟩, ⟨Below.refl _ _⟩⟩
  case round =>
    obtain ⟨j, rfl, hj, HO, HB⟩ := hrel
    obtain ⟨wo, rfl⟩ : ∃ wo : World, wo = wr := ⟨_, rfl⟩
    have hc' : wo.cell? ⟨g, 0, none⟩ = some (.slice (some ⟨G, 0, none⟩) n cap) := (HB.out.cell hw0).trans hc
    have q0 : (0 : Int) ≤ (j : Int) := by omega
    by_cases hlt : j < n
    · have hju : j < us.length := by rw [← HNN.out]; exact hlt
      obtain ⟨Aj, cj, mj, ej, hcj⟩ := HCELL.out j hju
      have hcj' : wo.cell? ⟨G, j, none⟩ = some (.slice Aj mj cj) := (HB.out.cell (World.block_lt_of_cell? w _ hcj)).trans hcj
      have HE := Aside0.mk (erase_take us (k := k) hju)
      rw [ej] at HE
      have HU : Aside0 (((us.take j).eraseIdx k).length ≤ 100000) := ⟨by rw [List.length_eraseIdx]; split <;> (rw [List.length_take]; omega)⟩
      have q1 : (j : Int) < (n : Int) := by omega
      clear hcj ej hc
      by_cases hjk : j = k
      · have d1 : ((j : Int) != (k : Int)) = false := by simp [hjk]
        have HJK := Aside0.mk hjk
        clear hjk
        go_wp2
        go_roundw
        case rel => exact ⟨j + 1, by go_num, by omega, ⟨by rw [HE.out, if_pos HJK.out]; exact HO.out⟩, HB⟩
        case measure => simp [intOf]; omega
      · have d1 : ((j : Int) != (k : Int)) = true := by simp; omega
        have HJK := Aside0.mk hjk
        clear hjk
        go_wp2_with (first
          | ((with_reducible refine gate_builtin (b := .append) (xs := #[.tmp 34, .tmp 42]) rfl ?_); at_builtin; obtain ⟨v7, w7, hr_, ho_, hm_⟩ := run_append_out (w := wo.alloc (.cells #[.slice Aj mj cj] 26)) (HO.out.mv (Mv.of_below (below_alloc (Below.refl _ _) _) (fun _ => False)) (fun _ _ h => h)) 22 ⟨wo.heap.size, 0, none⟩ 1 (u := .slice Aj mj cj) (cell_of_row _ _ 0 _ 26 (0, 0) (heap_alloc_new wo _)) (by rfl) (HU.out); refine append_go rfl (.tmp 34) (.tmp 42) 22 rfl rfl rfl hr_ ?_; have Ow7 := Aside0.mk ho_; have Mw7 := Aside0.mk hm_; clear hr_ ho_ hm_))
        have E := Aside0.mk (refTake_snoc HB.out.size HO.out Ow7.out Mw7.out)
        go_roundw
        case rel => exact ⟨j + 1, by go_num, by omega, ⟨by rw [HE.out, if_neg HJK.out]; exact E.out.1⟩, ⟨HB.out.trans (E.out.2.below HB.out.size (fun _ h => h))⟩⟩
        case measure => simp [intOf]; omega
    · have hfz : wo.frozen? ⟨g, 0, none⟩ = false := by
        have := (HB.out.block g hw0).trans HB0.out
        simp [World.frozen?, this]
      have HO' : Aside0 (Out wo (fun i => w.heap.size ≤ i) u8 (us.eraseIdx k)) := ⟨by
        have := HO.out
        rw [List.take_of_length_le (by rw [← HNN.out]; omega)] at this
        exact this⟩
      obtain ⟨A8, c8, e8, _⟩ := HO'.out.form
      obtain ⟨m8, hm8⟩ : ∃ m, m = (us.eraseIdx k).length := ⟨_, rfl⟩
      rw [← hm8] at e8
      clear hm8
      subst e8
      have E := Aside0.mk (refTake_end (T := 38) (by decide) (by decide) HG.out HB0.out HF.out HL.out k HB.out HO'.out)
      go_wp2
      go_ret2
      rw [← HK.out]
      exact ⟨_, rfl, fun bs hbs => by rw [HX.out] at hbs; injection hbs with hbs; subst hbs; exact E.out.2.2 _ _ HFR.out, E.out.1, E.out.2.1⟩
end
end Go.Proofs.Ytefkaefgihhcaaa.PP
