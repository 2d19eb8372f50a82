/- What PipePlays writes besides: a copied frame, the frames of All, the op's own box. -/
import Derived.Test.YtefkaefgihhcaaaDJ
namespace Go.Proofs.Ytefkaefgihhcaaa.PP
open Go.RowKit Go.Proofs.YtefkaefgihhcaaaW.PrintWords Go.Proofs.YtefkaefgihhcaaaW.PrintLast Go.Proofs.YtefkaefgihhcaaaW.PrintMore
set_option linter.unusedVariables false
/-- A frame of n bytes, whatever they are. -/
def FRt (u : Value) (n : Nat) (w : World) (F : Nat → Prop) : Prop := ∃ bs, bs.length = n ∧ Fr w F u bs
/-- A row of the frames us, of the lengths ns. -/
def LUs (v : Value) (us : List Value) (ns : List Nat) (w : World) (F : Nat → Prop) : Prop :=
  Out w F v us ∧ us.length = ns.length ∧ ∀ (i : Nat) (u : Value) (n : Nat), us[i]? = some u → ns[i]? = some n → FRt u n w F
/-- The op's box at g. -/
def OBt (g : Nat) (k n : Int) (A : Option Addr) (L C : Nat) (w : World) (F : Nat → Prop) : Prop := F g ∧ w.heap[g]? = some (.cells #[.int .i64 k, .int .i64 n, .slice A L C] 40 (0, 0))
section
variable {X Y : World → (Nat → Prop) → Prop} {w0 w w' : World} {F S : Nat → Prop} {u v : Value} {us : List Value} {ns : List Nat} {n : Nat} {bs : List Int} {xs : List (List Int)}
theorem good_FR : Good (FRt u n) := ⟨fun ⟨bs, h1, h2⟩ hf => ⟨bs, h1, h2.mono hf⟩, fun ⟨bs, h1, h2⟩ hm hf => ⟨bs, h1, h2.mv hm hf⟩, fun ⟨bs, h1, h2⟩ => ⟨bs, h1, h2.bound⟩⟩
theorem good_LU : Good (LUs v us ns) :=
  ⟨fun ⟨h1, h2, h3⟩ hf => ⟨h1.mono hf, h2, fun i u n a b => good_FR.mono (h3 i u n a b) hf⟩, fun ⟨h1, h2, h3⟩ hm hf => ⟨h1.mv hm hf, h2, fun i u n a b => good_FR.mv (h3 i u n a b) hm hf⟩,
   fun ⟨h1, h2, h3⟩ => ⟨h1.bound, h2, fun i u n a b => good_FR.bound (h3 i u n a b)⟩⟩
theorem good_OB {g : Nat} {k n : Int} {A : Option Addr} {L C : Nat} : Good (OBt g k n A L C) := ⟨fun h hf => ⟨hf g h.1, h.2⟩, fun h hm hf => ⟨h.1, (hm.block g (lt_blk h.2) (hf g h.1)).trans h.2⟩, fun h => ⟨⟨h.1, lt_blk h.2⟩, h.2⟩⟩
theorem good_True : Good (fun _ _ => True) := ⟨fun _ _ => trivial, fun _ _ _ => trivial, fun _ => trivial⟩
/-- A byte is written into a block of bytes: a frame is one of the same length. -/
theorem Fr.touch (h : Fr w F u bs) {g : Nat} {cs : Array Value} (hb : w.heap[g]? = some (.cells cs 5 (0, 0))) (j : Nat) (x : Int) : FRt u bs.length (w.setCell ⟨g, j, none⟩ (.int .u8 x)) F := by
  obtain ⟨A, c, rfl, hc, hl, hr⟩ := h
  by_cases hp : 0 < bs.length
  · obtain ⟨k, cells, rfl, hk, hbk, hx⟩ := hr hp
    by_cases hkg : k = g
    · subst hkg
      rw [hb] at hbk
      injection hbk with hbk
      injection hbk with e1 _ _
      subst e1
      refine ⟨bs.set j x, List.length_set, ⟨_, c, by rw [List.length_set], by rw [List.length_set]; exact hc, by rw [List.length_set]; exact hl, fun _ => ⟨k, _, rfl, hk, blk_set hb j _, fun i y hy => ?_⟩⟩⟩
      rw [List.getElem?_set] at hy
      rw [Array.getElem?_setIfInBounds]
      by_cases hji : j = i
      · subst hji
        simp only [if_true] at hy ⊢
        by_cases hjl : j < bs.length
        · rw [if_pos hjl] at hy
          injection hy with hy
          subst hy
          have h2 := hx j bs[j] (List.getElem?_eq_getElem hjl)
          rw [if_pos (by exact (Array.getElem?_eq_some_iff.1 h2).1)]
        · rw [if_neg hjl] at hy; cases hy
      · rw [if_neg hji] at hy ⊢
        exact hx i y hy
    · refine ⟨bs, rfl, ⟨_, c, rfl, hc, hl, fun _ => ⟨k, cells, rfl, hk, ?_, hx⟩⟩⟩
      rw [Below.heap_setCell w ⟨g, j, none⟩ _ k hkg]
      exact hbk
  · exact ⟨bs, rfl, ⟨A, c, rfl, hc, hl, fun h0 => absurd h0 hp⟩⟩
/-- The place k of a frame. -/
theorem FRt.at_ (h : FRt u n w F) {k : Nat} (hk : k < n) : ∃ (g c : Nat) (cs : Array Value) (x : Int), u = .slice (some ⟨g, 0, none⟩) n c ∧ n ≤ c ∧ F g ∧ w.heap[g]? = some (.cells cs 5 (0, 0)) ∧ w.cell? ⟨g, k, none⟩ = some (.int .u8 x) ∧ w.frozen? ⟨g, k, none⟩ = false := by
  obtain ⟨bs, hl, A, c, rfl, hc, _, hr⟩ := h
  obtain ⟨g, cells, rfl, hg, hb, hx⟩ := hr (by omega)
  refine ⟨g, c, cells, bs.getD k 0, by rw [hl], by omega, hg, hb, ?_, by simp [World.frozen?, hb]⟩
  rw [cell_of_row w g k cells 5 (0, 0) hb]
  have hkl : k < bs.length := by omega
  rw [List.getD_eq_getElem?_getD, List.getElem?_eq_getElem hkl]
  exact hx k _ (List.getElem?_eq_getElem hkl)
theorem hp_fr_at (GY : Good Y) (h : Hp w0 w (Star (FRt u n) Y)) {k : Nat} (hk : k < n) : ∃ (g c : Nat) (x : Int), u = .slice (some ⟨g, 0, none⟩) n c ∧ n ≤ c ∧ w.cell? ⟨g, k, none⟩ = some (.int .u8 x) ∧ w.frozen? ⟨g, k, none⟩ = false ∧
    ∀ y, Hp w0 (w.setCell ⟨g, k, none⟩ (.int .u8 y)) (Star (FRt u n) Y) := by
  obtain ⟨b0, F1, F2, h1, h2, hd, hx, hy⟩ := h
  obtain ⟨g, c, cs, x, e, hc, hg, hb, hcell, hfz⟩ := hx.at_ hk
  refine ⟨g, c, x, e, hc, hcell, hfz, fun y => Hp.op GY b0 h1 h2 hd hy ?_ ((Mv.set_ w g k _).mono (fun i hi => by subst hi; exact hg))⟩
  obtain ⟨bs, hl, hf⟩ := hx
  subst hl
  exact good_FR.mono (hf.touch hb k y) (fun i hi => .inl hi)
theorem hp_lu_at (h : Hp w0 w (Star (LUs v us ns) Y)) {i : Nat} (hi : i < ns.length) : ∃ (G cap : Nat) (A : Option Addr) (c : Nat), v = .slice (some ⟨G, 0, none⟩) ns.length cap ∧ ns.length ≤ cap ∧ w.cell? ⟨G, i, none⟩ = some (.slice A ns[i] c) ∧ ns[i] ≤ c ∧ us[i]? = some (.slice A ns[i] c) := by
  obtain ⟨b0, F1, F2, h1, h2, hd, ⟨ho, hl, hf⟩, hy⟩ := h
  have hiu : i < us.length := by omega
  obtain ⟨G, cap, e, hcap, hGF, hcell⟩ := ho.at_ hiu
  obtain ⟨bs, hbl, A, c, eu, hc, _⟩ := hf i us[i] ns[i] (List.getElem?_eq_getElem hiu) (List.getElem?_eq_getElem hi)
  rw [hbl] at eu hc
  rw [hl] at e hcap
  rw [eu] at hcell
  exact ⟨G, cap, A, c, e, hcap, hcell, hc, by rw [List.getElem?_eq_getElem hiu, eu]⟩
theorem hp_lu_touch (GY : Good Y) (h : Hp w0 w (Star (LUs v us ns) Y)) {i : Nat} {A : Option Addr} {c : Nat} (hu : us[i]? = some (.slice A n c)) (hn : ns[i]? = some n) {k : Nat} (hk : k < n) : ∃ (g : Nat) (x : Int), A = some ⟨g, 0, none⟩ ∧
    w.cell? ⟨g, k, none⟩ = some (.int .u8 x) ∧ w.frozen? ⟨g, k, none⟩ = false ∧ ∀ y, Hp w0 (w.setCell ⟨g, k, none⟩ (.int .u8 y)) (Star (LUs v us ns) Y) := by
  obtain ⟨b0, F1, F2, h1, h2, hd, ⟨ho, hl, hf⟩, hy⟩ := h
  obtain ⟨g, c', cs, x, e, hc, hg, hb, hcell, hfz⟩ := (hf i _ n hu hn).at_ hk
  injection e with e1 e2 e3
  refine ⟨g, x, e1, hcell, hfz, fun y => Hp.op GY b0 h1 h2 hd hy ⟨(ho.other (set_other hb (by decide) k _)).mono (fun i hi => .inl hi), hl, fun i' u' n' a b => ?_⟩ ((Mv.set_ w g k _).mono (fun i hi => by subst hi; exact hg))⟩
  obtain ⟨bs, hbl, hfr⟩ := hf i' u' n' a b
  subst hbl
  exact good_FR.mono (hfr.touch hb k y) (fun i hi => .inl hi)
/-- Rows that are read are frames of their lengths. -/
theorem Hp.loose (h : Hp w0 w (Star (LLt v xs) Y)) : ∃ us, Hp w0 w (Star (LUs v us (xs.map List.length)) Y) := by
  obtain ⟨b0, F1, F2, h1, h2, hd, ⟨us, ho, hf⟩, hy⟩ := h
  refine ⟨us, b0, F1, F2, h1, h2, hd, ⟨ho, by rw [List.length_map]; exact hf.1, fun i u n a b => ?_⟩, hy⟩
  rw [List.getElem?_map] at b
  cases hx : xs[i]? with
  | none => rw [hx] at b; cases b
  | some bs =>
    rw [hx] at b
    injection b with b
    exact ⟨bs, b, hf.2 i u bs a hx⟩
/-- A new frame beside all. -/
theorem Hp.copied (G : Good X) (h : Hp w0 w X) (hb : Below w.heap.size w w') (hf : Fr w' (fun k => w.heap.size ≤ k) u bs) : Hp w0 w' (Star (FRt u bs.length) X) := h.more G hb ⟨bs, rfl, hf⟩
section
variable {g : Nat} {k n : Int} {A : Option Addr} {L C : Nat}
theorem ob_cells (h : Hp w0 w (OBt g k n A L C)) : w.cell? ⟨g, 0, none⟩ = some (.int .i64 k) ∧ w.cell? ⟨g, 1, none⟩ = some (.int .i64 n) ∧ w.cell? ⟨g, 2, none⟩ = some (.slice A L C) ∧ w.frozen? ⟨g, 2, none⟩ = false := by
  refine ⟨?_, ?_, ?_, by simp [World.frozen?, h.2.2]⟩ <;> (rw [cell_of_row w g _ _ 40 (0, 0) h.2.2]; rfl)
theorem ob_set (GY : Good Y) (h : Hp w0 w (Star (OBt g k n A L C) Y)) (A' : Option Addr) (L' C' : Nat) : Hp w0 (w.setCell ⟨g, 2, none⟩ (.slice A' L' C')) (Star (OBt g k n A' L' C') Y) := by
  obtain ⟨b0, F1, F2, h1, h2, hd, hx, hy⟩ := h
  refine Hp.op GY b0 h1 h2 hd hy ⟨.inl hx.1, ?_⟩ ((Mv.set_ w g 2 _).mono (fun i hi => by subst hi; exact hx.1))
  rw [blk_set hx.2]
  rfl
end
end
section
variable {A B C X Y Y' : World → (Nat → Prop) → Prop} {w0 w w' : World} {F : Nat → Prop} {xs : List (List Int)} {g g2 : Nat}
theorem Star.left (h : Star A (Star B C) w F) : Star B (Star A C) w F := by
  obtain ⟨F1, F2, h1, h2, hd, hx, G1, G2, g1, g2, gd, hy, hz⟩ := h
  refine ⟨G1, fun k => F1 k ∨ G2 k, fun k hk => h2 k (g1 k hk), fun k hk => ?_, fun k hk hk2 => ?_, hy, F1, G2, fun k hk => .inl hk, fun k hk => .inr hk, fun k hk hk2 => hd k hk (g2 k hk2), hx, hz⟩
  · rcases hk with hk | hk
    · exact h1 k hk
    · exact h2 k (g2 k hk)
  · rcases hk2 with hk2 | hk2
    · exact hd k hk2 (g1 k hk)
    · exact gd k hk hk2
theorem Star.comm (h : Star A B w F) : Star B A w F := by
  obtain ⟨F1, F2, h1, h2, hd, hx, hy⟩ := h
  exact ⟨F2, F1, h2, h1, fun k hk hk2 => hd k hk2 hk, hy, hx⟩
theorem Hp.left (h : Hp w0 w (Star A (Star B C))) : Hp w0 w (Star B (Star A C)) := ⟨h.1, h.2.left⟩
theorem Hp.imp (hi : ∀ w F, Y w F → Y' w F) (h : Hp w0 w (Star X Y)) : Hp w0 w (Star X Y') := by
  obtain ⟨hb, F1, F2, h1, h2, hd, hx, hy⟩ := h
  exact ⟨hb, F1, F2, h1, h2, hd, hx, hi w F2 hy⟩
theorem Hp.third (h : Hp w0 w (Star A (Star B C))) : Hp w0 w (Star A (Star C B)) := h.imp (fun _ _ h => h.comm)
/-- Of three things the third is let go. -/
theorem Hp.two (G : Good B) (h : Hp w0 w (Star A (Star B C))) : Hp w0 w (Star B A) := by
  refine Hp.swap (h.imp (fun w F hy => ?_))
  obtain ⟨G1, G2, g1, g2, gd, hb, hc⟩ := hy
  exact G.mono hb g1
theorem Hp.imp1 {A' : World → (Nat → Prop) → Prop} (hi : ∀ w F, A w F → A' w F) (h : Hp w0 w (Star A B)) : Hp w0 w (Star A' B) := (h.swap.imp hi).swap
/-- The document's pipe, its row's slice by name. -/
def RVt (g : Nat) (lv : Value) (xs : List (List Int)) (w : World) (F : Nat → Prop) : Prop := F g ∧ xs.length ≤ 256 ∧ w.heap[g]? = some (.cells #[lv] 38 (0, 0)) ∧ ∃ us, Out w F lv us ∧ Frs w F us xs
theorem good_RV {lv : Value} : Good (RVt g lv xs) := ⟨fun ⟨h1, h2, h3, us, h4, h5⟩ hf => ⟨hf g h1, h2, h3, us, h4.mono hf, h5.mono hf⟩,
  fun ⟨h1, h2, h3, us, h4, h5⟩ hm hf => ⟨h1, h2, (hm.block g (lt_blk h3) (hf g h1)).trans h3, us, h4.mv hm hf, h5.mv hm hf⟩, fun ⟨h1, h2, h3, us, h4, h5⟩ => ⟨⟨h1, lt_blk h3⟩, h2, h3, us, h4.bound, h5.bound⟩⟩
theorem RVt.rp {lv : Value} (h : RVt g lv xs w F) : RPt g xs w F := by
  obtain ⟨h1, h2, h3, us, h4, h5⟩ := h
  exact ⟨h1, h2, lv, us, h3, h4, h5⟩
theorem Hp.rv (h : Hp w0 w (Star (RPt g xs) Y)) : ∃ A c, xs.length ≤ c ∧ Hp w0 w (Star (RVt g (.slice A xs.length c) xs) Y) := by
  obtain ⟨b0, F1, F2, h1, h2, hd, ⟨hg, hl, lv, us, hb, ho, hf⟩, hy⟩ := h
  obtain ⟨A, c, e, hc, _⟩ := out_reads ho hf (by omega)
  subst e
  exact ⟨A, c, hc, b0, F1, F2, h1, h2, hd, ⟨hg, hl, hb, us, ho, hf⟩, hy⟩
theorem rv_cell {lv : Value} (h : Hp w0 w (RVt g lv xs)) : w.cell? ⟨g, 0, none⟩ = some lv ∧ w.frozen? ⟨g, 0, none⟩ = false :=
  ⟨cell_of_row w g 0 _ 38 (0, 0) h.2.2.2.1, by simp [World.frozen?, h.2.2.2.1]⟩
theorem rv_C {A : Option Addr} {n c : Nat} (h : Hp w0 w (RVt g (.slice A n c) xs)) : n = xs.length ∧ Kd.C (Kd.slice 5 (Kd.int .u8)) w A xs.length xs := by
  obtain ⟨h1, h2, h3, us, h4, h5⟩ := h.2
  obtain ⟨A', c', e, _, hC⟩ := out_reads h4 h5 (by omega)
  injection e with e1 e2 e3
  subst e1
  exact ⟨e2, hC⟩
theorem sameAll_n {A0 A1 : Option Addr} {c0 c1 n : Nat} (hn : xs.length = n) (h0 : Kd.C (Kd.slice 5 (Kd.int .u8)) w A0 xs.length xs) (hc0 : xs.length ≤ c0) (h1 : Kd.C (Kd.slice 5 (Kd.int .u8)) w A1 xs.length xs) (hc1 : xs.length ≤ c1) (hl : xs.length ≤ 100000) :
    Calls Try.prog 18 #[.slice A0 n c0, .slice A1 n c1] w fun e w' => e = .returned (.bool true) ∧ Drawn0 w w' := by
  subst hn
  exact sameAll_c h0 hc0 h1 hc1 hl
theorem Pip.short {T : TypeId} (h : Pip T w F g xs) : ∀ x ∈ xs, x.length ≤ 140737488351232 := by
  obtain ⟨_, _, lv, us, _, _, hf⟩ := h
  intro x hx
  obtain ⟨i, hi, rfl⟩ := List.mem_iff_getElem.1 hx
  have hiu : i < us.length := by rw [hf.1]; exact hi
  obtain ⟨_, _, _, _, h, _⟩ := hf.2 i _ _ (List.getElem?_eq_getElem hiu) (List.getElem?_eq_getElem hi)
  exact h
theorem cell_drew (w : World) (a : Addr) : w.drew.cell? a = w.cell? a := rfl
end
end Go.Proofs.Ytefkaefgihhcaaa.PP
