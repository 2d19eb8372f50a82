/- The contract of label.ID. -/
import Derived.Test.YtkeiiaedikicdaaLA
import Derived.Laws.CopyRow
import Derived.Laws.CopyOwn
namespace Go.Proofs.Ytkeiiaedikicdaa.PL
open Go.RowKit Go.Proofs.YtkeiiaedikicdaaW.PrintWords Go.Proofs.YtkeiiaedikicdaaW.PrintLast Go.Proofs.YtkeiiaedikicdaaW.PrintMore
attribute [local go_sem] max2_int min2_int max_two min_two max_three min_three max_four min_four
set_option linter.unusedVariables false
set_option linter.unusedSimpArgs false
theorem info36 : (Try.prog.info? 36).map (fun i => i.zero) = some (some (.agg (Array.replicate 16 (.int .u8 0)))) := by kernel_rfl
theorem run_zero36 (w : World) : (zeroValue 36).run Try.prog w = .ok (.agg (Array.replicate 16 (.int .u8 0))) w := by
  have h := info36
  cases hq : Try.prog.info? 36 with
  | none => rw [hq] at h; cases h
  | some i =>
    rw [hq] at h
    have h2 : i.zero = some (.agg (Array.replicate 16 (.int .u8 0))) := by simpa using h
    simp [zeroValue, typeInfo, hq, h2]
/-- One rune more. -/
def sx (x r : Int) : Int := IntKind.u64.wrap (bits BinOp.xor IntKind.u64 x (IntKind.u64.wrap r) * 14029467366897019727)
def sy (x y r : Int) : Int := IntKind.u64.wrap (IntKind.u64.wrap (y + sx x r) * 11400714819323198485)
def stp (p : Int × Int) (r : Int) : Int × Int := (bits BinOp.xor IntKind.u64 (sx p.1 r) (sy p.1 p.2 r / 536870912), sy p.1 p.2 r)
def xy (l : List Int) : Int × Int := l.foldl stp (11400714819323198485, 14029467366897019727)
theorem xy_take {l : List Int} {k : Nat} (h : k < l.length) : xy (l.take (k + 1)) = stp (xy (l.take k)) l[k] := by
  unfold xy
  rw [List.take_succ_eq_append_getElem h, List.foldl_append]
  rfl
theorem blk_set' {w : World} {g t : Nat} {cs : Array Value} (h : w.heap[g]? = some (.cells cs t (0, 0))) (i : Nat) (u : Value) : (w.setCell ⟨g, i, none⟩ u).heap[g]? = some (.cells (cs.setIfInBounds i u) t (0, 0)) := by
  simp [World.setCell, Array.getElem?_modify, h]
/-- Byte i of x. -/
def bt (x : Int) (i : Nat) : Value := .int .u8 (IntKind.u8.wrap (x / 2 ^ (56 - 8 * i)))
/-- The first i bytes of both stand. -/
def Cs (cs : Array Value) (x y : Int) (i : Nat) : Prop := cs.size = 16 ∧ ∀ j, j < i → cs[j]? = some (bt x j) ∧ cs[8 + j]? = some (bt y j)
theorem Cs.zero (x y : Int) : Cs (Array.replicate 16 (.int .u8 0)) x y 0 := ⟨by simp, fun j h => absurd h (Nat.not_lt_zero j)⟩
theorem Cs.more {cs : Array Value} {x y : Int} {i : Nat} (h : Cs cs x y i) (hi : i < 8) : Cs ((cs.setIfInBounds i (bt x i)).setIfInBounds (8 + i) (bt y i)) x y (i + 1) := by
  obtain ⟨hs, hj⟩ := h
  refine ⟨by simp [hs], fun j hlt => ?_⟩
  by_cases e : j = i
  · subst e
    constructor
    · rw [Array.getElem?_setIfInBounds_ne (by omega), Array.getElem?_setIfInBounds, if_pos rfl, if_pos (by omega)]
    · rw [Array.getElem?_setIfInBounds, if_pos rfl, if_pos (by simp [hs]; omega)]
  · obtain ⟨h1, h2⟩ := hj j (by omega)
    constructor
    · rw [Array.getElem?_setIfInBounds_ne (by omega), Array.getElem?_setIfInBounds_ne (by omega)]
      exact h1
    · rw [Array.getElem?_setIfInBounds_ne (by omega), Array.getElem?_setIfInBounds_ne (by omega)]
      exact h2
theorem two_sets {w wq : World} {g : Nat} (hb : Below w.heap.size w wq) (hg : w.heap.size < g) (i j : Nat) (u v : Value) :
    Below w.heap.size w ((wq.setCell ⟨g, i, none⟩ u).setCell ⟨g, j, none⟩ v).drew ∧ ((wq.setCell ⟨g, i, none⟩ u).setCell ⟨g, j, none⟩ v).drew.heap[w.heap.size]? = wq.heap[w.heap.size]? := by
  have h : ∀ k, k ≠ g → ((wq.setCell ⟨g, i, none⟩ u).setCell ⟨g, j, none⟩ v).heap[k]? = wq.heap[k]? := fun k hk => (Below.heap_setCell (wq.setCell ⟨g, i, none⟩ u) ⟨g, j, none⟩ v k hk).trans (Below.heap_setCell wq ⟨g, i, none⟩ u k hk)
  refine ⟨below_drew (hb.trans ⟨rfl, rfl, rfl, by simp [World.setCell], fun k hk => h k (by omega)⟩), h _ (by omega)⟩
theorem run_store36 (w : World) (g : Nat) (old cs : Array Value) (hg : w.heap[g]? = some (.cells old 36 (0, 0))) (ho : old.size = 16) (hs : cs.size = 16) (h1 : ∀ v ∈ cs.toList, v.oneCell' = true) :
    (storeCells ⟨g, 0, none⟩ cs.toList).run Try.prog w = .ok () (w.setRow g cs) := by
  have h := run_storeCells_at Try.prog g 0 36 cs.toList 0 old w hg (by simp; omega) h1
  have e : (old.toList.take (0 + 0) ++ cs.toList ++ old.toList.drop (0 + 0 + cs.toList.length)).toArray = cs := by
    rw [List.drop_of_length_le (by simp; omega)]
    simp
  rw [e] at h
  exact h
theorem Cs.ones {cs : Array Value} {x y : Int} (h : Cs cs x y 8) : ∀ v ∈ cs.toList, v.oneCell' = true := by
  intro v hv
  obtain ⟨j, hj, rfl⟩ := List.mem_iff_getElem.1 hv
  have hjs : j < 16 := by have := h.1; simp at hj; omega
  rcases Nat.lt_or_ge j 8 with h8 | h8
  · have := (h.2 j h8).1
    have e : cs.toList[j] = bt x j := by
      rw [Array.getElem_toList]
      exact (Array.getElem?_eq_some_iff.1 this).2
    rw [e]; rfl
  · have := (h.2 (j - 8) (by omega)).2
    rw [show 8 + (j - 8) = j by omega] at this
    have e : cs.toList[j] = bt y (j - 8) := by
      rw [Array.getElem_toList]
      exact (Array.getElem?_eq_some_iff.1 this).2
    rw [e]; rfl
/-- The sixteen bytes. -/
def ids (p : Int × Int) : Array Value := ((List.range 16).map fun j => if j < 8 then bt p.1 j else bt p.2 (j - 8)).toArray
theorem Cs.all {cs : Array Value} {x y : Int} (h : Cs cs x y 8) : cs = ids (x, y) := by
  apply Array.ext_getElem?
  intro j
  by_cases hj : j < 16
  · rcases Nat.lt_or_ge j 8 with h8 | h8
    · rw [(h.2 j h8).1]; simp [ids, hj, h8]
    · have := (h.2 (j - 8) (by omega)).2
      rw [show 8 + (j - 8) = j by omega] at this
      rw [this]; simp [ids, hj, Nat.not_lt.2 h8]
  · rw [Array.getElem?_eq_none (by have := h.1; omega), Array.getElem?_eq_none (by simp [ids]; omega)]
theorem rune_at {w : World} {A : Option Addr} {n : Nat} {l : List Int} (h : Kd.C (Kd.int .i32) w A n l) {k : Nat} (hk : k < l.length) : ∃ a, A = some a ∧ w.cell? (a.add k) = some (.int .i32 l[k]) := by
  have hn := Kd.C_len h
  obtain ⟨ad, c, e, _, hK, hc0⟩ := Kd.C_get h (0 : Int) (k : Int) (by omega) (by omega)
  have hc : ∀ j u, c[j]? = some u → w.cell? (ad.add (k * 1 + j)) = some u := hc0
  have hK' : c = [.int .i32 (l.getD k 0)] := hK
  subst hK'
  refine ⟨ad, e, ?_⟩
  have := hc 0 _ rfl
  rw [List.getD_eq_getElem?_getD, List.getElem?_eq_getElem hk] at this
  simpa using this
set_option maxHeartbeats 8000000 in
set_option maxRecDepth 100000 in
theorem id_some (s : ByteArray) (w : World) (hok : (RU s).2 = 0) : Calls Try.prog 18 #[.string s] w fun e w' => e = .returned (.tuple #[.agg (ids (xy (RU s).1)), .int .i64 0]) ∧ Below w.heap.size w w' := by
  have hz := run_zero36
  have HOK := Aside0.mk hok
  obtain ⟨l, hl⟩ : ∃ l, l = (RU s).1 := ⟨_, rfl⟩
  have HL := Aside0.mk hl
  obtain ⟨n, hn⟩ : ∃ n, n = l.length := ⟨_, rfl⟩
  have HN := Aside0.mk hn
  clear hok hl hn
  go_enter Try.func18, Try.ntmps18
  go_wp2_with (first
    | (go_at_call 9; (with_reducible refine (runes_c s _).mono ?_); rintro e w1 ⟨A, c, rfl, _, hC, hb⟩; rw [HOK.out, ← HL.out, ← HN.out]; rw [← HL.out, ← HN.out] at hC; have HB := Aside0.mk hb; have HC := Aside0.mk hC; have hn63 := Kd.C_max hC; clear hC hb))
  go_loopw [6, 7, 9, 23] (fun v6 v7 _ v23 wr => ∃ (k : Nat) (x y : Int), v6 = .int .u64 x ∧ v7 = .int .u64 y ∧ v23 = .int .i64 k ∧ k ≤ n ∧ wr = w1 ∧ Aside0 (xy (l.take k) = (x, y))) (fun _ _ _ i _ => n - (intOf i).toNat)
  case atStart => exact ⟨0, _, _, rfl, rfl, by go_num, Nat.zero_le _, rfl, ⟨rfl⟩⟩
  case round =>
    obtain ⟨k, x, y, rfl, rfl, rfl, hk, rfl, HXY⟩ := hrel
    by_cases hlt : k < n
    · have q1 : (k : Int) < (n : Int) := by omega
      have q0 : (0 : Int) ≤ (k : Int) := by omega
      have hkl : k < l.length := by rw [← HN.out]; exact hlt
      obtain ⟨ad, eA, hcr⟩ := rune_at HC.out hkl
      subst eA
      obtain ⟨r, hr⟩ : ∃ r, r = l[k] := ⟨_, rfl⟩
      rw [← hr] at hcr
      have HX2 : Aside0 (xy (l.take (k + 1)) = stp (x, y) r) := ⟨by rw [xy_take hkl, HXY.out, hr]⟩
      clear hr
      go_wp2
      go_roundw
      case rel => exact ⟨k + 1, _, _, rfl, rfl, by go_num, by omega, by simp, HX2⟩
      case measure => simp [intOf]; omega
    · have q1 : (n : Int) ≤ (k : Int) := by omega
      have HX2 : Aside0 (xy l = (x, y)) := ⟨by rw [← HXY.out, List.take_of_length_le (by rw [← HN.out]; omega)]⟩
      go_wp2
      obtain ⟨g, hg⟩ : ∃ g : Nat, g = wr.heap.size := ⟨_, rfl⟩
      have HG : Aside0 ((wr.alloc (.cells (Array.replicate 16 (.int .u8 0)) 36)).heap[g]? = some (.cells (Array.replicate 16 (.int .u8 0)) 36 (0, 0))) := ⟨by rw [hg]; exact heap_alloc_new wr _⟩
      have hgs : w.heap.size < g := by
        have := HB.out.size
        rw [World.size_alloc] at this
        omega
      have HR0 : Aside0 ((wr.alloc (.cells (Array.replicate 16 (.int .u8 0)) 36)).heap[w.heap.size]? = some (.cells (Array.replicate 16 (.int .u8 0)) 36 (0, 0))) := ⟨by
        have h1 := heap_alloc_new w (.cells (Array.replicate 16 (.int .u8 0)) 36)
        have h2 := HB.out.block w.heap.size (by rw [World.size_alloc]; omega)
        have h3 := (below_alloc (Below.refl wr.heap.size wr) (.cells (Array.replicate 16 (.int .u8 0)) 36)).block w.heap.size (by omega)
        exact h3.trans (h2.trans h1)⟩
      have HB2 : Aside0 (Below w.heap.size w (wr.alloc (.cells (Array.replicate 16 (.int .u8 0)) 36))) := ⟨below_alloc ((below_alloc (Below.refl w.heap.size w) (.cells (Array.replicate 16 (.int .u8 0)) 36)).trans (HB.out.mono (by rw [World.size_alloc]; omega))) _⟩
      rw [← hg]
      clear hg
      go_loopw [11, 41] (fun _ v41 wr => ∃ (i : Nat) (cs : Array Value), v41 = .int .i64 i ∧ i ≤ 8 ∧ wr.heap[g]? = some (.cells cs 36 (0, 0)) ∧ Aside0 (Cs cs x y i) ∧ Aside0 (wr.heap[w.heap.size]? = some (.cells (Array.replicate 16 (.int .u8 0)) 36 (0, 0))) ∧ Aside0 (Below w.heap.size w wr)) (fun _ i _ => 8 - (intOf i).toNat)
      case atStart => exact ⟨0, _, by go_num, Nat.zero_le _, HG.out, ⟨Cs.zero _ _⟩, HR0, HB2⟩
      case round =>
        obtain ⟨i, cs, rfl, hi, hgb, HCS, HR, HBB⟩ := hrel
        obtain ⟨wq, rfl⟩ : ∃ wq : World, wq = wr := ⟨_, rfl⟩
        by_cases hlt : i < 8
        · have q1 : (i : Int) < 8 := by omega
          have q0 : (0 : Int) ≤ (i : Int) := by omega
          have hcsz : cs.size = 16 := HCS.out.1
          have f1 : wq.frozen? ⟨g, i, none⟩ = false := by simp [World.frozen?, hgb]
          have f3 : wq.frozen? ⟨g, 8 + i, none⟩ = false := by simp [World.frozen?, hgb]
          have cl1 : wq.cell? ⟨g, i, none⟩ = some cs[i] := by rw [cell_of_row _ g i cs 36 (0, 0) hgb]; exact Array.getElem?_eq_getElem (by omega)
          have cl3 : wq.cell? ⟨g, 8 + i, none⟩ = some cs[8 + i] := by rw [cell_of_row _ g (8 + i) cs 36 (0, 0) hgb]; exact Array.getElem?_eq_getElem (by omega)
          obtain ⟨va, hva⟩ : ∃ v, v = cs[i] := ⟨_, rfl⟩
          obtain ⟨vb, hvb⟩ : ∃ v, v = cs[8 + i] := ⟨_, rfl⟩
          rw [← hva] at cl1
          rw [← hvb] at cl3
          have HGB := Aside0.mk hgb
          clear hva hvb hgb
          go_wp2
          have g1 : IntKind.i64.wrap (8 + (i : Int)) = 8 + (i : Int) := by rw [IntKind.wrap_i64]; omega
          have g2 : IntKind.i64.wrap (8 * (i : Int)) = 8 * (i : Int) := by rw [IntKind.wrap_i64]; omega
          have g3 : IntKind.i64.wrap (56 - 8 * (i : Int)) = 56 - 8 * (i : Int) := by rw [IntKind.wrap_i64]; omega
          have g4 : (8 + (i : Int)).toNat = 8 + i := by omega
          have g5 : (56 - 8 * (i : Int)).toNat = 56 - 8 * i := by omega
          have g6 : (0 : Int) ≤ 56 - 8 * (i : Int) := by omega
          have g7 : 8 + (i : Int) < 16 := by omega
          have g8 : (0 : Int) ≤ 8 + (i : Int) := by omega
          have g9 : (i : Int) < 16 := by omega
          have g10 : ¬ (i = 8 + i) := by omega
          have g11 : ¬ (8 + i = i) := by omega
          refine start_ (n := 19) (S := fun w' => True) (ds := [16, 18]) #[false, false, false, false, false, false, false, false, false, false, false, false, false, false, false, false, false, false, false] (by kernel_rfl) rfl rfl trivial (fun hHeld => ?_)
          refine pure_ (i := 0) (N := some 44) (v := ?_) (a' := ?_) #[true, false, false, false, false, false, false, false, false, false, false, false, false, false, false, false, false, false, false] rfl rfl (by kernel_rfl) (fun _ _ _ h => h) (Or.inl ⟨by rfl, ?_⟩) ?_ ?_
          rotate_left
          · intro w'
            go_simp
            with_reducible rfl
          rotate_left
          · simp only [Act.put, List.setIfInBounds_toArray, List.set_cons_zero, List.set_cons_succ, i64_w, i32_w]
            rfl
          refine pure_ (i := 1) (N := some 45) (v := ?_) (a' := ?_) #[true, true, false, false, false, false, false, false, false, false, false, false, false, false, false, false, false, false, false] rfl rfl (by kernel_rfl) (fun _ _ _ h => h) (Or.inl ⟨by rfl, ?_⟩) ?_ ?_
          rotate_left
          · intro w'
            go_simp
            with_reducible rfl
          rotate_left
          · simp only [Act.put, List.setIfInBounds_toArray, List.set_cons_zero, List.set_cons_succ, i64_w, i32_w]
            rfl
          refine pure_ (i := 2) (N := some 46) (v := ?_) (a' := ?_) #[true, true, true, false, false, false, false, false, false, false, false, false, false, false, false, false, false, false, false] rfl rfl (by kernel_rfl) (fun _ _ _ h => h) (Or.inl ⟨by rfl, ?_⟩) ?_ ?_
          rotate_left
          · intro w'
            go_simp
            with_reducible rfl
          rotate_left
          · simp only [Act.put, List.setIfInBounds_toArray, List.set_cons_zero, List.set_cons_succ, i64_w, i32_w]
            rfl
          refine pure_ (i := 3) (N := some 47) (v := ?_) (a' := ?_) #[true, true, true, true, false, false, false, false, false, false, false, false, false, false, false, false, false, false, false] rfl rfl (by kernel_rfl) (fun _ _ _ h => h) (Or.inl ⟨by rfl, ?_⟩) ?_ ?_
          rotate_left
          · intro w'
            go_simp
            with_reducible rfl
          rotate_left
          · simp only [Act.put, List.setIfInBounds_toArray, List.set_cons_zero, List.set_cons_succ, i64_w, i32_w]
            rfl
          refine pure_ (i := 4) (N := some 48) (v := ?_) (a' := ?_) #[true, true, true, true, true, false, false, false, false, false, false, false, false, false, false, false, false, false, false] rfl rfl (by kernel_rfl) (fun _ _ _ h => h) (Or.inl ⟨by rfl, ?_⟩) ?_ ?_
          rotate_left
          · intro w'
            go_simp
            with_reducible rfl
          rotate_left
          · simp only [Act.put, List.setIfInBounds_toArray, List.set_cons_zero, List.set_cons_succ, i64_w, i32_w]
            rfl
          refine pure_ (i := 5) (N := some 49) (v := ?_) (a' := ?_) #[true, true, true, true, true, true, false, false, false, false, false, false, false, false, false, false, false, false, false] rfl rfl (by kernel_rfl) (fun _ _ _ h => h) (Or.inl ⟨by rfl, ?_⟩) ?_ ?_
          rotate_left
          · intro w'
            go_simp
            with_reducible rfl
          rotate_left
          · simp only [Act.put, List.setIfInBounds_toArray, List.set_cons_zero, List.set_cons_succ, i64_w, i32_w]
            rfl
          refine pure_ (i := 6) (N := some 50) (v := ?_) (a' := ?_) #[true, true, true, true, true, true, true, false, false, false, false, false, false, false, false, false, false, false, false] rfl rfl (by kernel_rfl) (fun _ _ _ h => h) (Or.inl ⟨by rfl, ?_⟩) ?_ ?_
          rotate_left
          · intro w'
            go_simp
            with_reducible rfl
          rotate_left
          · simp only [Act.put, List.setIfInBounds_toArray, List.set_cons_zero, List.set_cons_succ, i64_w, i32_w]
            rfl
          refine pure_ (i := 7) (N := some 51) (v := ?_) (a' := ?_) #[true, true, true, true, true, true, true, true, false, false, false, false, false, false, false, false, false, false, false] rfl rfl (by kernel_rfl) (fun _ _ _ h => h) (Or.inl ⟨by rfl, ?_⟩) ?_ ?_
          rotate_left
          · intro w'
            go_simp
            with_reducible rfl
          rotate_left
          · simp only [Act.put, List.setIfInBounds_toArray, List.set_cons_zero, List.set_cons_succ, i64_w, i32_w]
            rfl
          refine pure_ (i := 8) (N := some 52) (v := ?_) (a' := ?_) #[true, true, true, true, true, true, true, true, true, false, false, false, false, false, false, false, false, false, false] rfl rfl (by kernel_rfl) (fun _ _ _ h => h) (Or.inl ⟨by rfl, ?_⟩) ?_ ?_
          rotate_left
          · intro w'
            go_simp
            with_reducible rfl
          rotate_left
          · simp only [Act.put, List.setIfInBounds_toArray, List.set_cons_zero, List.set_cons_succ, i64_w, i32_w]
            rfl
          refine pure_ (i := 9) (N := some 53) (v := ?_) (a' := ?_) #[true, true, true, true, true, true, true, true, true, true, false, false, false, false, false, false, false, false, false] rfl rfl (by kernel_rfl) (fun _ _ _ h => h) (Or.inl ⟨by rfl, ?_⟩) ?_ ?_
          rotate_left
          · intro w'
            go_simp
            with_reducible rfl
          rotate_left
          · simp only [Act.put, List.setIfInBounds_toArray, List.set_cons_zero, List.set_cons_succ, i64_w, i32_w]
            rfl
          refine pure_ (i := 10) (N := some 54) (v := ?_) (a' := ?_) #[true, true, true, true, true, true, true, true, true, true, true, false, false, false, false, false, false, false, false] rfl rfl (by kernel_rfl) (fun _ _ _ h => h) (Or.inl ⟨by rfl, ?_⟩) ?_ ?_
          rotate_left
          · intro w'
            go_simp
            with_reducible rfl
          rotate_left
          · simp only [Act.put, List.setIfInBounds_toArray, List.set_cons_zero, List.set_cons_succ, i64_w, i32_w]
            rfl
          refine pure_ (i := 11) (N := some 55) (v := ?_) (a' := ?_) #[true, true, true, true, true, true, true, true, true, true, true, true, false, false, false, false, false, false, false] rfl rfl (by kernel_rfl) (fun _ _ _ h => h) (Or.inl ⟨by rfl, ?_⟩) ?_ ?_
          rotate_left
          · intro w'
            go_simp
            with_reducible rfl
          rotate_left
          · simp only [Act.put, List.setIfInBounds_toArray, List.set_cons_zero, List.set_cons_succ, i64_w, i32_w]
            rfl
          refine pure_ (i := 12) (N := some 56) (v := ?_) (a' := ?_) #[true, true, true, true, true, true, true, true, true, true, true, true, true, false, false, false, false, false, false] rfl rfl (by kernel_rfl) (fun _ _ _ h => h) (Or.inl ⟨by rfl, ?_⟩) ?_ ?_
          rotate_left
          · intro w'
            go_simp
            with_reducible rfl
          rotate_left
          · simp only [Act.put, List.setIfInBounds_toArray, List.set_cons_zero, List.set_cons_succ, i64_w, i32_w]
            rfl
          refine pure_ (i := 13) (N := some 57) (v := ?_) (a' := ?_) #[true, true, true, true, true, true, true, true, true, true, true, true, true, true, false, false, false, false, false] rfl rfl (by kernel_rfl) (fun _ _ _ h => h) (Or.inl ⟨by rfl, ?_⟩) ?_ ?_
          rotate_left
          · intro w'
            go_simp
            with_reducible rfl
          rotate_left
          · simp only [Act.put, List.setIfInBounds_toArray, List.set_cons_zero, List.set_cons_succ, i64_w, i32_w]
            rfl
          refine pure_ (i := 14) (N := some 58) (v := ?_) (a' := ?_) #[true, true, true, true, true, true, true, true, true, true, true, true, true, true, true, false, false, false, false] rfl rfl (by kernel_rfl) (fun _ _ _ h => h) (Or.inl ⟨by rfl, ?_⟩) ?_ ?_
          rotate_left
          · intro w'
            go_simp
            with_reducible rfl
          rotate_left
          · simp only [Act.put, List.setIfInBounds_toArray, List.set_cons_zero, List.set_cons_succ, i64_w, i32_w]
            rfl
          refine pure_ (i := 15) (N := some 59) (v := ?_) (a' := ?_) #[true, true, true, true, true, true, true, true, true, true, true, true, true, true, true, true, false, false, false] rfl rfl (by kernel_rfl) (fun _ _ _ h => h) (Or.inl ⟨by rfl, ?_⟩) ?_ ?_
          rotate_left
          · intro w'
            go_simp
            with_reducible rfl
          rotate_left
          · simp only [Act.put, List.setIfInBounds_toArray, List.set_cons_zero, List.set_cons_succ, i64_w, i32_w]
            rfl
          refine last_ (i := 16) (N := none) #[true, true, true, true, true, true, true, true, true, true, true, true, true, true, true, true, true, false, false] rfl rfl (by kernel_rfl) (by decide) (fun K hK => ?_)
          refine skip_ (w1 := ?_) (by rfl) rfl ?_ ?_
          rotate_left
          · go_simp
            rfl
          refine hK.out _ _ ?_
          clear hK K
          refine pure_ (i := 17) (N := some 60) (v := ?_) (a' := ?_) #[true, true, true, true, true, true, true, true, true, true, true, true, true, true, true, true, true, true, false] rfl rfl (by kernel_rfl) (fun _ _ _ h => h) (Or.inl ⟨by rfl, ?_⟩) ?_ ?_
          rotate_left
          · intro w'
            go_simp
            with_reducible rfl
          rotate_left
          · simp only [Act.put, List.setIfInBounds_toArray, List.set_cons_zero, List.set_cons_succ, i64_w, i32_w]
            rfl
          refine last_ (i := 18) (N := none) #[true, true, true, true, true, true, true, true, true, true, true, true, true, true, true, true, true, true, true] rfl rfl (by kernel_rfl) (by decide) (fun K hK => ?_)
          refine skip_ (w1 := ?_) (by rfl) rfl ?_ ?_
          rotate_left
          · go_simp
            rfl
          refine hK.out _ _ ?_
          clear hK K
          refine done_ (by kernel_rfl) ?_
          go_wp2
          go_roundw
          case rel => exact ⟨i + 1, _, by go_num, by omega, blk_set' (blk_set' HGB.out i _) (8 + i) _, ⟨HCS.out.more (by omega)⟩, ⟨(two_sets HBB.out hgs _ _ _ _).2.trans HR.out⟩, ⟨(two_sets HBB.out hgs _ _ _ _).1⟩⟩
          case measure => simp [intOf]; omega
        · have q1 : (8 : Int) ≤ (i : Int) := by omega
          have hi8 : i = 8 := by omega
          subst hi8
          have HIN : Aside0 ((Try.prog.info? 36).map (·.size) = some cs.size) := ⟨by rw [HCS.out.1]; kernel_rfl⟩
          have hc16 : cs.size = 16 := HCS.out.1
          have hst := run_store36 wq w.heap.size _ cs HR.out (by simp) HCS.out.1 HCS.out.ones
          have HGB := Aside0.mk hgb
          clear hgb
          go_wp2_with (first
            | ((with_reducible refine gate_dst (N := 62) rfl ?_); (try (refine gate_guard (by rfl) ?_; dsimp only)); refine wpList_load_row rfl 36 (.tmp 10) rfl g rfl 36 cs (0, 0) (.array 16 5) HGB.out Try.underlying36 rfl HIN.out ?_))
          have HX : Aside0 (cs = ids (xy l)) := ⟨by rw [HX2.out]; exact HCS.out.all⟩
          refine bodyPost_ret (results_ct rfl _ _ w.heap.size 36 cs (0, 0) (.array 16 5) rfl (setRow_heap wq w.heap.size _ cs 36 (0, 0) HR.out) Try.underlying36 rfl HIN.out) rfl ⟨?_, ?_⟩
          · rw [HX.out, HL.out]; rfl
          · exact below_setRow HBB.out (Nat.le_refl _) cs
end Go.Proofs.Ytkeiiaedikicdaa.PL
