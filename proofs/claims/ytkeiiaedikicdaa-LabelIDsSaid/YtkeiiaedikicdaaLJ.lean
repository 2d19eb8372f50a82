/- The contract of annuletref02.ID. -/
import Derived.Test.YtkeiiaedikicdaaLG
import Derived.Test.YtkeiiaedikicdaaLI
namespace Go.Proofs.Ytkeiiaedikicdaa.PL
open Go.RowKit Go.Proofs.YtkeiiaedikicdaaW.PrintWords Go.Proofs.YtkeiiaedikicdaaW.PrintLast Go.Proofs.YtkeiiaedikicdaaW.PrintMore
attribute [local go_sem] max2_int min2_int max_two min_two max_three min_three max_four min_four
set_option linter.unusedVariables false
set_option linter.unusedSimpArgs false
theorem wrap_lt (x : Int) : IntKind.u64.wrap x < 18446744073709551616 := by
  simp [IntKind.wrap, IntKind.bits, IntKind.signed]
  omega
theorem bits_nonneg (x y : Int) : 0 ≤ bits BinOp.xor IntKind.u64 x y := by
  simp only [bits]
  exact wrap_u64_nonneg _
theorem bits_lt (x y : Int) : bits BinOp.xor IntKind.u64 x y < 18446744073709551616 := by
  simp only [bits]
  exact wrap_lt _
theorem wrap_small {x : Int} (h0 : 0 ≤ x) (h1 : x < 18446744073709551616) : IntKind.u64.wrap x = x := by
  simp [IntKind.wrap, IntKind.bits, IntKind.signed]
  omega
theorem quo_small {x d : Int} (h0 : 0 ≤ x) (h1 : x < 18446744073709551616) (hd : 0 < d) : 0 ≤ x / d ∧ x / d < 18446744073709551616 ∧ x / d ≤ x := by
  have h2 : x / d ≤ x := Int.ediv_le_self d h0
  exact ⟨Int.ediv_nonneg h0 (by omega), by omega, h2⟩
/-- The last bytes of both stand, behind place i. -/
def Ds (cs : Array Value) (x y : Int) (i : Int) : Prop := cs.size = 16 ∧ ∀ j : Nat, i < j → j < 8 → cs[j]? = some (bt x j) ∧ cs[8 + j]? = some (bt y j)
theorem Ds.zero {zs : Array Value} (h : zs.size = 16) (x y : Int) : Ds zs x y 7 := ⟨h, fun j h1 h2 => by omega⟩
theorem Ds.all {cs : Array Value} {x y : Int} (h : Ds cs x y (-1)) : Cs cs x y 8 := ⟨h.1, fun j hj => h.2 j (by omega) hj⟩
theorem Ds.more {cs : Array Value} {x y : Int} {i : Nat} (h : Ds cs x y i) (hi : i < 8) : Ds ((cs.setIfInBounds i (bt x i)).setIfInBounds (8 + i) (bt y i)) x y ((i : Int) - 1) := by
  obtain ⟨hs, hj⟩ := h
  refine ⟨by simp [hs], fun j hlt h8 => ?_⟩
  by_cases e : j = i
  · subst e
    constructor
    · rw [Array.getElem?_setIfInBounds_ne (by omega), Array.getElem?_setIfInBounds, if_pos rfl, if_pos (by omega)]
    · rw [Array.getElem?_setIfInBounds, if_pos rfl, if_pos (by simp [hs]; omega)]
  · obtain ⟨h1, h2⟩ := hj j (by omega) h8
    constructor
    · rw [Array.getElem?_setIfInBounds_ne (by omega), Array.getElem?_setIfInBounds_ne (by omega)]
      exact h1
    · rw [Array.getElem?_setIfInBounds_ne (by omega), Array.getElem?_setIfInBounds_ne (by omega)]
      exact h2
theorem pow_step (i : Nat) (h : i ≤ 7) : (2 : Int) ^ (56 - 8 * i) * 256 = 2 ^ (64 - 8 * i) := by
  rw [show 64 - 8 * i = (56 - 8 * i) + 8 by omega, Int.pow_add]
  rfl
/-- x as it stands when byte i is next. -/
def sh (x : Int) (i : Int) : Int := x / 2 ^ (56 - 8 * i).toNat
theorem sh_first (x : Int) : sh x 7 = x := by simp [sh]
theorem sh_more (x : Int) (i : Nat) (h : i ≤ 7) : sh x i / 256 = sh x ((i : Int) - 1) := by
  unfold sh
  rw [show (56 - 8 * (i : Int)).toNat = 56 - 8 * i by omega, show (56 - 8 * ((i : Int) - 1)).toNat = 64 - 8 * i by omega, ← pow_step i h, Int.ediv_ediv_of_nonneg (Int.pow_nonneg (by decide))]
theorem wrap_byte (x : Int) (h : 0 ≤ x) : IntKind.u8.wrap (x % 256) = IntKind.u8.wrap x := by
  simp [IntKind.wrap, IntKind.bits, IntKind.signed]
theorem bt_sh (x : Int) (i : Nat) : Value.int .u8 (IntKind.u8.wrap (sh x i)) = bt x i := by
  unfold sh bt
  rw [show (56 - 8 * (i : Int)).toNat = 56 - 8 * i by omega]
theorem sh_nonneg {x : Int} (h : 0 ≤ x) (h1 : x < 18446744073709551616) (i : Int) : 0 ≤ sh x i ∧ sh x i < 18446744073709551616 := by
  have hp : (0 : Int) < 2 ^ (56 - 8 * i).toNat := Int.pow_pos (by decide)
  have := quo_small h h1 hp
  exact ⟨this.1, this.2.1⟩
theorem bt_mod {x a : Int} {i : Nat} (h : a = sh x i) : Value.int .u8 (a % 256) = bt x i := by
  rw [← bt_sh, ← h]
  simp [IntKind.wrap, IntKind.bits, IntKind.signed]
theorem two_sets0 {w wq : World} {g : Nat} (hb : Below w.heap.size w wq) (hg : w.heap.size < g) (i j : Nat) (u v : Value) :
    Below w.heap.size w ((wq.setCell ⟨g, i, none⟩ u).setCell ⟨g, j, none⟩ v) ∧ ((wq.setCell ⟨g, i, none⟩ u).setCell ⟨g, j, none⟩ v).heap[w.heap.size]? = wq.heap[w.heap.size]? := by
  have h : ∀ k, k ≠ g → ((wq.setCell ⟨g, i, none⟩ u).setCell ⟨g, j, none⟩ v).heap[k]? = wq.heap[k]? := fun k hk => (Below.heap_setCell (wq.setCell ⟨g, i, none⟩ u) ⟨g, j, none⟩ v k hk).trans (Below.heap_setCell wq ⟨g, i, none⟩ u k hk)
  refine ⟨hb.trans ⟨rfl, rfl, rfl, by simp [World.setCell], fun k hk => h k (by omega)⟩, h _ (by omega)⟩
/-- In range. -/
def Rg (x : Int) : Prop := 0 ≤ x ∧ x < 18446744073709551616
theorem sy_rg (x y r : Int) : Rg (sy x y r) := ⟨wrap_u64_nonneg _, wrap_lt _⟩
theorem stp_rg (p : Int × Int) (r : Int) : Rg (stp p r).1 ∧ Rg (stp p r).2 := ⟨⟨bits_nonneg _ _, bits_lt _ _⟩, sy_rg _ _ _⟩
theorem tdiv_pos {x : Int} (h : 0 ≤ x) (d : Int) : x.tdiv d = x / d := Int.tdiv_eq_ediv_of_nonneg h
theorem tmod_pos {x : Int} (h : 0 ≤ x) (d : Int) : x.tmod d = x % d := Int.tmod_eq_emod_of_nonneg h
theorem sy_quo (x y r : Int) : IntKind.u64.wrap ((sy x y r).tdiv 536870912) = sy x y r / 536870912 := by
  have h := sy_rg x y r
  rw [tdiv_pos h.1]
  have := quo_small h.1 h.2 (show (0 : Int) < 536870912 by decide)
  exact wrap_small this.1 this.2.1
set_option maxHeartbeats 8000000 in
set_option maxRecDepth 100000 in
theorem refID_some (s : ByteArray) (w : World) (hsz : s.size ≤ 140737488355328) (hok : (RU s).2 = 0) : Calls Try.prog 19 #[.string s] w fun e w' => e = .returned (.tuple #[.agg (ids (xy (RU s).1)), .int .i64 0]) ∧ Below w.heap.size w w' := by
  have hz := run_zero36
  obtain ⟨zs, hzs⟩ : ∃ zs, zs = Array.replicate 16 (Value.int .u8 0) := ⟨_, rfl⟩
  have HZS : Aside0 (zs.size = 16) := ⟨by rw [hzs]; exact zs_size⟩
  have HZO : Aside0 (∀ v ∈ zs.toList, v.oneCell' = true) := ⟨by rw [hzs]; exact zs_ones⟩
  rw [← hzs] at hz
  have HSZ := Aside0.mk hsz
  have HOK := Aside0.mk hok
  obtain ⟨l, hl⟩ : ∃ l, l = (RU s).1 := ⟨_, rfl⟩
  have HL := Aside0.mk hl
  obtain ⟨n, hn⟩ : ∃ n, n = l.length := ⟨_, rfl⟩
  have HN := Aside0.mk hn
  clear hzs hok hl hn hsz
  go_enter Try.func19, Try.ntmps19
  go_wp2_with (first
    | (go_at_call 10; (with_reducible refine (refRunes_c s _ HSZ.out).mono ?_); rintro e w1 ⟨A, c, rfl, _, hC, hb⟩; rw [HOK.out, ← HL.out, ← HN.out]; rw [← HL.out, ← HN.out] at hC; have HB := Aside0.mk hb; have HC := Aside0.mk ((Kd.heap_int .i32).C (fun k hlt => (below_alloc (Below.refl w1.heap.size w1) (.cells zs 36)).block k hlt) hC); have hn63 := Kd.C_max hC; clear hC hb))
  go_loopw [7, 8, 9] (fun v7 v8 v9 wr => ∃ (k : Nat) (x y : Int), v7 = .int .u64 x ∧ v8 = .int .u64 y ∧ v9 = .int .i64 k ∧ k ≤ n ∧ wr = w1.alloc (.cells zs 36) ∧ Aside0 (xy (l.take k) = (x, y) ∧ Rg x ∧ Rg y)) (fun _ _ i _ => n - (intOf i).toNat)
  case atStart => exact ⟨0, _, _, rfl, rfl, by go_num, Nat.zero_le _, rfl, ⟨rfl, ⟨by decide, by decide⟩, ⟨by decide, by decide⟩⟩⟩
  case round =>
    obtain ⟨k, x, y, rfl, rfl, rfl, hk, rfl, HXY⟩ := hrel
    by_cases hlt : k < n
    · have q1 : (k : Int) < (n : Int) := by omega
      have q0 : (0 : Int) ≤ (k : Int) := by omega
      have hkl : k < l.length := by rw [← HN.out]; exact hlt
      obtain ⟨ad, eA, hcr⟩ := rune_at HC.out hkl
      subst eA
      obtain ⟨r, hr⟩ : ∃ r, r = l[k] := ⟨_, rfl⟩
      rw [← hr] at hcr
      have HX2 : Aside0 (xy (l.take (k + 1)) = stp (x, y) r ∧ Rg (stp (x, y) r).1 ∧ Rg (stp (x, y) r).2) := ⟨by rw [xy_take hkl, HXY.out.1, hr], stp_rg _ _⟩
      clear hr
      have hq := sy_quo x y r
      simp only [sy, sx] at hq
      go_wp2
      go_roundw
      case rel => exact ⟨k + 1, _, _, rfl, rfl, by go_num, by omega, by simp, HX2⟩
      case measure => simp [intOf]; omega
    · have q1 : (n : Int) ≤ (k : Int) := by omega
      have HX2 : Aside0 (xy l = (x, y)) := ⟨by rw [← HXY.out.1, List.take_of_length_le (by rw [← HN.out]; omega)]⟩
      have HRX := Aside0.mk HXY.out.2.1
      have HRY := Aside0.mk HXY.out.2.2
      clear HXY
      go_wp2
      obtain ⟨g, hg⟩ : ∃ g : Nat, g = w1.heap.size := ⟨_, rfl⟩
      have HG : Aside0 ((w1.alloc (.cells zs 36)).heap[g]? = some (.cells zs 36 (0, 0))) := ⟨by rw [hg]; exact heap_alloc_new w1 _⟩
      have hgs : w.heap.size < g := by
        have := HB.out.size
        rw [World.size_alloc] at this
        omega
      have HR0 : Aside0 ((w1.alloc (.cells zs 36)).heap[w.heap.size]? = some (.cells zs 36 (0, 0))) := ⟨by
        have h1 := heap_alloc_new w (.cells zs 36)
        have h2 := HB.out.block w.heap.size (by rw [World.size_alloc]; omega)
        have h3 := (below_alloc (Below.refl w1.heap.size w1) (.cells zs 36)).block w.heap.size (by omega)
        exact h3.trans (h2.trans h1)⟩
      have HB2 : Aside0 (Below w.heap.size w (w1.alloc (.cells zs 36))) := ⟨below_alloc ((below_alloc (Below.refl w.heap.size w) (.cells zs 36)).trans (HB.out.mono (by rw [World.size_alloc]; omega))) _⟩
      rw [← hg]
      clear hg
      go_loopw [7, 8, 10] (fun v7 v8 v10 wr => ∃ (i : Int) (cs : Array Value), v7 = .int .u64 (sh x i) ∧ v8 = .int .u64 (sh y i) ∧ v10 = .int .i64 i ∧ -1 ≤ i ∧ i ≤ 7 ∧ wr.heap[g]? = some (.cells cs 36 (0, 0)) ∧ Aside0 (Ds cs x y i) ∧ Aside0 (wr.heap[w.heap.size]? = some (.cells zs 36 (0, 0))) ∧ Aside0 (Below w.heap.size w wr)) (fun _ _ i _ => (intOf i + 1).toNat)
      case atStart => exact ⟨7, _, by rw [sh_first], by rw [sh_first], by go_num, by omega, by omega, HG.out, ⟨Ds.zero HZS.out _ _⟩, HR0, HB2⟩
      case round =>
        obtain ⟨j, cs, rfl, rfl, rfl, hj1, hj7, hgb, HDS, HR, HBB⟩ := hrel
        obtain ⟨wq, rfl⟩ : ∃ wq : World, wq = wr := ⟨_, rfl⟩
        by_cases hlt : 0 ≤ j
        · obtain ⟨i, rfl⟩ : ∃ i : Nat, j = (i : Int) := ⟨j.toNat, by omega⟩
          have hi8 : i < 8 := by omega
          have q1 : (i : Int) < 16 := by omega
          have q0 : (0 : Int) ≤ (i : Int) := by omega
          have hcsz : cs.size = 16 := HDS.out.1
          have f1 : wq.frozen? ⟨g, i, none⟩ = false := by simp [World.frozen?, hgb]
          have f3 : wq.frozen? ⟨g, 8 + i, none⟩ = false := by simp [World.frozen?, hgb]
          have cl1 : wq.cell? ⟨g, i, none⟩ = some cs[i] := by rw [cell_of_row _ g i cs 36 (0, 0) hgb]; exact Array.getElem?_eq_getElem (by omega)
          have cl3 : wq.cell? ⟨g, 8 + i, none⟩ = some cs[8 + i] := by rw [cell_of_row _ g (8 + i) cs 36 (0, 0) hgb]; exact Array.getElem?_eq_getElem (by omega)
          obtain ⟨va, hva⟩ : ∃ v, v = cs[i] := ⟨_, rfl⟩
          obtain ⟨vb, hvb⟩ : ∃ v, v = cs[8 + i] := ⟨_, rfl⟩
          rw [← hva] at cl1
          rw [← hvb] at cl3
          have HGB := Aside0.mk hgb
          obtain ⟨a, ha⟩ : ∃ a, a = sh x i := ⟨_, rfl⟩
          obtain ⟨b, hb⟩ : ∃ b, b = sh y i := ⟨_, rfl⟩
          obtain ⟨ra0, ra1⟩ := sh_nonneg HRX.out.1 HRX.out.2 i
          obtain ⟨rb0, rb1⟩ := sh_nonneg HRY.out.1 HRY.out.2 i
          rw [← ha] at ra0 ra1
          rw [← hb] at rb0 rb1
          rw [← ha, ← hb]
          have HA := Aside0.mk ha
          have HBq := Aside0.mk hb
          clear hva hvb hgb ha hb hlt hj1 hj7
          have g1 : IntKind.i64.wrap (8 + (i : Int)) = 8 + (i : Int) := by rw [IntKind.wrap_i64]; omega
          have g4 : (8 + (i : Int)).toNat = 8 + i := by omega
          have g7 : 8 + (i : Int) < 16 := by omega
          have g8 : (0 : Int) ≤ 8 + (i : Int) := by omega
          have g10 : ¬ (i = 8 + i) := by omega
          have g11 : ¬ (8 + i = i) := by omega
          go_wp2
          go_roundw
          case rel =>
            refine ⟨(i : Int) - 1, _, by rw [HA.out, sh_more x i (by omega)], by rw [HBq.out, sh_more y i (by omega)], rfl, by omega, by omega, blk_set' (blk_set' HGB.out i _) (8 + i) _, ⟨?_⟩, ⟨(two_sets0 HBB.out hgs _ _ _ _).2.trans HR.out⟩, ⟨(two_sets0 HBB.out hgs _ _ _ _).1⟩⟩
            rw [bt_mod HA.out, bt_mod HBq.out]
            exact HDS.out.more hi8
          case measure => simp [intOf]
        · have q1 : j < 0 := by omega
          have hjm : j = -1 := by omega
          have HX : Aside0 (cs = ids (xy l)) := ⟨by rw [HX2.out]; rw [hjm] at HDS; exact HDS.out.all.all⟩
          have HCS := Aside0.mk HDS.out.1
          have hc16 : cs.size = 16 := HDS.out.1
          have HIN : Aside0 ((Try.prog.info? 36).map (·.size) = some cs.size) := ⟨by rw [hc16]; kernel_rfl⟩
          have hst := run_store36 wq w.heap.size _ cs HR.out HZS.out hc16 (by rw [hjm] at HDS; exact HDS.out.all.ones)
          have HGB := Aside0.mk hgb
          clear hgb hjm hlt hj1 hj7
          go_wp2_with (first
            | ((with_reducible refine gate_dst (N := 61) rfl ?_); (try (refine gate_guard (by rfl) ?_; dsimp only)); refine wpList_load_row rfl 36 (.tmp 6) rfl g rfl 36 cs (0, 0) (.array 16 5) HGB.out Try.underlying36 rfl HIN.out ?_))
          refine bodyPost_ret (results_ct rfl _ _ w.heap.size 36 cs (0, 0) (.array 16 5) rfl (setRow_heap wq w.heap.size _ cs 36 (0, 0) HR.out) Try.underlying36 rfl HIN.out) rfl ⟨?_, ?_⟩
          · rw [HX.out, HL.out]; rfl
          · exact below_setRow HBB.out (Nat.le_refl _) cs
set_option maxHeartbeats 8000000 in
set_option maxRecDepth 100000 in
theorem refID_none (s : ByteArray) (w : World) (hsz : s.size ≤ 140737488355328) (hok : (RU s).2 ≠ 0) : Calls Try.prog 19 #[.string s] w fun e w' => e = .returned (.tuple #[.agg (Array.replicate 16 (.int .u8 0)), .int .i64 (RU s).2]) ∧ Below w.heap.size w w' := by
  have hz := run_zero36
  obtain ⟨zs, hzs⟩ : ∃ zs, zs = Array.replicate 16 (Value.int .u8 0) := ⟨_, rfl⟩
  have HZS : Aside0 (zs.size = 16) := ⟨by rw [hzs]; exact zs_size⟩
  have HZO : Aside0 (∀ v ∈ zs.toList, v.oneCell' = true) := ⟨by rw [hzs]; exact zs_ones⟩
  rw [← hzs] at hz ⊢
  have HSZ := Aside0.mk hsz
  obtain ⟨ec, hec⟩ : ∃ e, e = (RU s).2 := ⟨_, rfl⟩
  rw [← hec] at hok ⊢
  have HE := Aside0.mk hec
  have q0 : (ec != 0) = true := by simpa using hok
  have hz16 := HZS.out
  have HIN : Aside0 ((Try.prog.info? 36).map (·.size) = some zs.size) := ⟨by rw [HZS.out]; kernel_rfl⟩
  clear hzs hec hok hsz
  go_enter Try.func19, Try.ntmps19
  go_wp2_with (first
    | (go_at_call 10; (with_reducible refine (refRunes_c s _ HSZ.out).mono ?_); rintro e w1 ⟨A, c, rfl, _, hC, hb⟩; rw [← HE.out]; have HB := Aside0.mk hb; have hrow : (w1.alloc (.cells zs 36)).heap[w.heap.size]? = some (.cells zs 36 (0, 0)) := (((below_alloc (Below.refl w1.heap.size w1) (.cells zs 36)).block w.heap.size (by have := hb.size; rw [World.size_alloc] at this; omega)).trans ((hb.block w.heap.size (by rw [World.size_alloc]; omega)).trans (heap_alloc_new w (.cells zs 36)))); have hst := run_store36 (w1.alloc (.cells zs 36)) w.heap.size zs zs hrow HZS.out HZS.out HZO.out; have HROW := Aside0.mk hrow; clear hC hb hrow)
    | ((with_reducible refine gate_dst (N := 18) rfl ?_); (try (refine gate_guard (by rfl) ?_; dsimp only)); refine wpList_load_row rfl 36 (.tmp 6) rfl w1.heap.size rfl 36 zs (0, 0) (.array 16 5) (heap_alloc_new w1 _) Try.underlying36 rfl HIN.out ?_))
  refine bodyPost_ret (results_ct rfl _ _ w.heap.size 36 zs (0, 0) (.array 16 5) rfl (setRow_heap (w1.alloc (.cells zs 36)) w.heap.size _ zs 36 (0, 0) HROW.out) Try.underlying36 rfl HIN.out) rfl ⟨?_, ?_⟩
  · rfl
  · exact below_setRow (below_alloc ((below_alloc (Below.refl w.heap.size w) (.cells zs 36)).trans (HB.out.mono (by rw [World.size_alloc]; omega))) _) (Nat.le_refl _) zs
end Go.Proofs.Ytkeiiaedikicdaa.PL
