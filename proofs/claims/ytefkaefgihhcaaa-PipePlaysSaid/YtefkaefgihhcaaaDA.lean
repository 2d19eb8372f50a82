/- Things that lie apart in memory, and the pipe functions' contracts over them. -/
import Derived.Test.YtefkaefgihhcaaaD9
namespace Go.Proofs.Ytefkaefgihhcaaa.PP
open Go.RowKit Go.Proofs.YtefkaefgihhcaaaW.PrintWords Go.Proofs.YtefkaefgihhcaaaW.PrintLast Go.Proofs.YtefkaefgihhcaaaW.PrintMore
set_option linter.unusedVariables false

/-- A thing: what a world holds in the blocks of F. -/
structure Good (X : World → (Nat → Prop) → Prop) : Prop where
  mono : ∀ {w : World} {F F' : Nat → Prop}, X w F → (∀ k, F k → F' k) → X w F'
  mv : ∀ {w w' : World} {F S : Nat → Prop}, X w F → Mv S w w' → (∀ k, F k → ¬ S k) → X w' F
  bound : ∀ {w : World} {F : Nat → Prop}, X w F → X w (fun k => F k ∧ k < w.heap.size)
/-- Two things in blocks of their own. -/
def Star (X Y : World → (Nat → Prop) → Prop) (w : World) (F : Nat → Prop) : Prop :=
  ∃ F1 F2 : Nat → Prop, (∀ k, F1 k → F k) ∧ (∀ k, F2 k → F k) ∧ (∀ k, F1 k → ¬ F2 k) ∧ X w F1 ∧ Y w F2
/-- Below what w0 had all is as it was; above lies X. -/
def Hp (w0 w : World) (X : World → (Nat → Prop) → Prop) : Prop := Below w0.heap.size w0 w ∧ X w (fun k => w0.heap.size ≤ k)
/-- The pipe at g. -/
def PPt (g : Nat) (xs : List (List Int)) (w : World) (F : Nat → Prop) : Prop := Pip 25 w F g xs
/-- The document's pipe at g. -/
def RPt (g : Nat) (xs : List (List Int)) (w : World) (F : Nat → Prop) : Prop := Pip 38 w F g xs
/-- A list of frames. -/
def LLt (v : Value) (xs : List (List Int)) (w : World) (F : Nat → Prop) : Prop := ∃ us, Out w F v us ∧ Frs w F us xs
/-- A pipe, and a frame beside it. -/
def And2 (X : World → (Nat → Prop) → Prop) (u : Value) (bs : List Int) (w : World) (F : Nat → Prop) : Prop := X w F ∧ Fr w F u bs
section
variable {X X' Y Z : World → (Nat → Prop) → Prop} {w0 w w' : World} {F S : Nat → Prop} {g : Nat} {xs : List (List Int)} {u v : Value} {bs : List Int}
theorem good_PP : Good (PPt g xs) := ⟨fun h hf => Pip.mono h hf, fun h hm hf => Pip.mv h hm hf, fun h => Pip.bound h⟩
theorem good_RP : Good (RPt g xs) := ⟨fun h hf => Pip.mono h hf, fun h hm hf => Pip.mv h hm hf, fun h => Pip.bound h⟩
theorem good_LL : Good (LLt v xs) := ⟨fun ⟨us, h1, h2⟩ hf => ⟨us, h1.mono hf, h2.mono hf⟩, fun ⟨us, h1, h2⟩ hm hf => ⟨us, h1.mv hm hf, h2.mv hm hf⟩, fun ⟨us, h1, h2⟩ => ⟨us, h1.bound, h2.bound⟩⟩
theorem good_And (G : Good X) : Good (And2 X u bs) := ⟨fun h hf => ⟨G.mono h.1 hf, h.2.mono hf⟩, fun h hm hf => ⟨G.mv h.1 hm hf, h.2.mv hm hf⟩, fun h => ⟨G.bound h.1, h.2.bound⟩⟩
theorem good_Star (G : Good X) (H : Good Y) : Good (Star X Y) :=
  ⟨fun ⟨F1, F2, h1, h2, hd, hx, hy⟩ hf => ⟨F1, F2, fun k hk => hf k (h1 k hk), fun k hk => hf k (h2 k hk), hd, hx, hy⟩,
   fun ⟨F1, F2, h1, h2, hd, hx, hy⟩ hm hf => ⟨F1, F2, h1, h2, hd, G.mv hx hm (fun k hk => hf k (h1 k hk)), H.mv hy hm (fun k hk => hf k (h2 k hk))⟩,
   fun {w F} ⟨F1, F2, h1, h2, hd, hx, hy⟩ => ⟨fun k => F1 k ∧ k < w.heap.size, fun k => F2 k ∧ k < w.heap.size, fun k hk => ⟨h1 k hk.1, hk.2⟩, fun k hk => ⟨h2 k hk.1, hk.2⟩, fun k hk hk2 => hd k hk.1 hk2.1, G.bound hx, H.bound hy⟩⟩
theorem Hp.swap (h : Hp w0 w (Star X Y)) : Hp w0 w (Star Y X) := by
  obtain ⟨hb, F1, F2, h1, h2, hd, hx, hy⟩ := h
  exact ⟨hb, F2, F1, h2, h1, fun k hk hk2 => hd k hk2 hk, hy, hx⟩
theorem Hp.fst (G : Good X) (h : Hp w0 w (Star X Y)) : Hp w0 w X := by
  obtain ⟨hb, F1, F2, h1, h2, hd, hx, hy⟩ := h
  exact ⟨hb, G.mono hx h1⟩
theorem Hp.snd (G : Good Y) (h : Hp w0 w (Star X Y)) : Hp w0 w Y := h.swap.fst G
theorem Hp.below (G : Good X) (h : Hp w0 w X) (hb : Below w.heap.size w w') : Hp w0 w' X :=
  ⟨h.1.trans (hb.mono h.1.size), G.mv h.2 (Mv.of_below hb (fun _ => False)) (fun _ _ hk => hk)⟩
theorem Hp.drawn (G : Good X) (h : Hp w0 w X) (hb : Drawn0 w w') : Hp w0 w' X := h.below G hb.below
/-- Something new is made. -/
theorem Hp.more (G : Good X) (h : Hp w0 w X) (hb : Below w.heap.size w w') (hz : Z w' (fun k => w.heap.size ≤ k)) : Hp w0 w' (Star Z X) := by
  have hs := h.1.size
  refine ⟨h.1.trans (hb.mono hs), fun k => w.heap.size ≤ k, fun k => w0.heap.size ≤ k ∧ k < w.heap.size, fun k hk => Nat.le_trans hs hk, fun k hk => hk.1, fun k hk hk2 => by have := hk2.2; omega, hz, ?_⟩
  exact G.mv (G.bound h.2) (Mv.of_below hb (fun _ => False)) (fun _ _ hk => hk)
theorem Hp.base (hb : Below w0.heap.size w0 w) (hx : X w (fun k => w0.heap.size ≤ k)) : Hp w0 w X := ⟨hb, hx⟩
/-- The first thing changes in its own blocks, and new ones. -/
theorem Hp.op (G : Good Y) {F1 F2 : Nat → Prop} (hb : Below w0.heap.size w0 w) (h1 : ∀ k, F1 k → w0.heap.size ≤ k) (h2 : ∀ k, F2 k → w0.heap.size ≤ k) (hd : ∀ k, F1 k → ¬ F2 k) (hy : Y w F2)
    (hx : X' w' (fun k => F1 k ∨ w.heap.size ≤ k)) (hm : Mv F1 w w') : Hp w0 w' (Star X' Y) := by
  refine ⟨hb.trans (hm.below hb.size h1), fun k => F1 k ∨ w.heap.size ≤ k, fun k => F2 k ∧ k < w.heap.size, fun k hk => ?_, fun k hk => h2 k hk.1, fun k hk hk2 => ?_, hx, G.mv (G.bound hy) hm (fun k hk hk1 => hd k hk1 hk.1)⟩
  · rcases hk with hk | hk
    · exact h1 k hk
    · exact Nat.le_trans hb.size hk
  · rcases hk with hk | hk
    · exact hd k hk hk2.1
    · have := hk2.2; omega
theorem Hp.op1 (hb : Below w0.heap.size w0 w) (hx : X' w' (fun k => w0.heap.size ≤ k ∨ w.heap.size ≤ k)) (G : Good X') (hm : Mv (fun k => w0.heap.size ≤ k) w w') : Hp w0 w' X' :=
  ⟨hb.trans (hm.below hb.size (fun _ hk => hk)), G.mono hx (fun k hk => by rcases hk with hk | hk; exact hk; exact Nat.le_trans hb.size hk)⟩
/-- A call that changes the first thing. -/
theorem hp_call {P : Program} {f : FuncId} {args : Array Value} {E : Ending → Prop} (G : Good Y) (H : Hp w0 w (Star X Y)) (h : ∀ F, X w F → Calls P f args w fun e w' => E e ∧ X' w' (fun k => F k ∨ w.heap.size ≤ k) ∧ Mv F w w') :
    Calls P f args w fun e w' => E e ∧ Hp w0 w' (Star X' Y) := by
  obtain ⟨hb, F1, F2, h1, h2, hd, hx, hy⟩ := H
  exact (h F1 hx).mono fun e w' ⟨he, hx', hm⟩ => ⟨he, Hp.op G hb h1 h2 hd hy hx' hm⟩
theorem hp_call1 {P : Program} {f : FuncId} {args : Array Value} {E : Ending → Prop} (G : Good X') (H : Hp w0 w X) (h : ∀ F, X w F → Calls P f args w fun e w' => E e ∧ X' w' (fun k => F k ∨ w.heap.size ≤ k) ∧ Mv F w w') :
    Calls P f args w fun e w' => E e ∧ Hp w0 w' X' :=
  (h _ H.2).mono fun e w' ⟨he, hx', hm⟩ => ⟨he, Hp.op1 H.1 hx' G hm⟩
theorem hp_callE {P : Program} {f : FuncId} {args : Array Value} {E : Value → Ending} {X' : Value → World → (Nat → Prop) → Prop} (G : Good Y) (H : Hp w0 w (Star X Y)) (h : ∀ F, X w F → Calls P f args w fun e w' => ∃ u, e = E u ∧ X' u w' (fun k => F k ∨ w.heap.size ≤ k) ∧ Mv F w w') :
    Calls P f args w fun e w' => ∃ u, e = E u ∧ Hp w0 w' (Star (X' u) Y) := by
  obtain ⟨hb, F1, F2, h1, h2, hd, hx, hy⟩ := H
  exact (h F1 hx).mono fun e w' ⟨u, he, hx', hm⟩ => ⟨u, he, Hp.op G hb h1 h2 hd hy hx' hm⟩
theorem hp_callE1 {P : Program} {f : FuncId} {args : Array Value} {E : Value → Ending} {X' : Value → World → (Nat → Prop) → Prop} (G : ∀ u, Good (X' u)) (H : Hp w0 w X) (h : ∀ F, X w F → Calls P f args w fun e w' => ∃ u, e = E u ∧ X' u w' (fun k => F k ∨ w.heap.size ≤ k) ∧ Mv F w w') :
    Calls P f args w fun e w' => ∃ u, e = E u ∧ Hp w0 w' (X' u) :=
  (h _ H.2).mono fun e w' ⟨u, he, hx', hm⟩ => ⟨u, he, Hp.op1 H.1 hx' (G u) hm⟩
/-- Put, with the frame's length by its own name. -/
theorem put_n (h : Pip 25 w F g xs) {A1 : Option Addr} {n c1 : Nat} (hn : n = bs.length) (hr : Kd.C (Kd.int .u8) w A1 n bs) (hb1 : bs.length ≤ 140737488351232) (hx : xs.length < 256) :
    Calls Try.prog 8 #[.pointer (some ⟨g, 0, none⟩), .slice A1 n c1] w fun e w' => e = .returned (.bool true) ∧ Pip 25 w' (fun k => F k ∨ w.heap.size ≤ k) g (xs ++ [bs]) ∧ Mv F w w' := by
  subst hn
  exact put_c h hr hb1 hx
theorem refPut_n (h : Pip 38 w F g xs) {A1 : Option Addr} {n c1 : Nat} (hn : n = bs.length) (hr : Kd.C (Kd.int .u8) w A1 n bs) (hb1 : bs.length ≤ 140737488351232) (hx : xs.length < 256) :
    Calls Try.prog 13 #[.pointer (some ⟨g, 0, none⟩), .slice A1 n c1] w fun e w' => e = .returned (.bool true) ∧ Pip 38 w' (fun k => F k ∨ w.heap.size ≤ k) g (xs ++ [bs]) ∧ Mv F w w' := by
  subst hn
  exact refPut_c h hr hb1 hx
/-- Take: the frame beside the pipe. -/
theorem take_and (h : Pip 25 w F g xs) (i : Int) {x : List Int} (hx : xs[pk i xs.length]? = some x) : Calls Try.prog 10 #[.pointer (some ⟨g, 0, none⟩), .int .i64 i] w fun e w' =>
    ∃ u, e = .returned (.tuple #[u, .bool true]) ∧ And2 (PPt g (xs.eraseIdx (pk i xs.length))) u x w' (fun j => F j ∨ w.heap.size ≤ j) ∧ Mv F w w' := by
  have h0 : 0 < xs.length := by
    have := (List.getElem?_eq_some_iff.1 hx).1
    omega
  exact (take_c h i h0).mono fun e w' ⟨u, he, hf, hp, hm⟩ => ⟨u, he, ⟨hp, (hf x hx).mono (fun k hk => .inl hk)⟩, hm⟩
theorem refTake_and (h : Pip 38 w F g xs) (i : Int) {x : List Int} (hx : xs[pk i xs.length]? = some x) : Calls Try.prog 14 #[.pointer (some ⟨g, 0, none⟩), .int .i64 i] w fun e w' =>
    ∃ u, e = .returned (.tuple #[u, .bool true]) ∧ And2 (RPt g (xs.eraseIdx (pk i xs.length))) u x w' (fun j => F j ∨ w.heap.size ≤ j) ∧ Mv F w w' := by
  have h0 : 0 < xs.length := by
    have := (List.getElem?_eq_some_iff.1 hx).1
    omega
  exact (refTake_c h i h0).mono fun e w' ⟨u, he, hf, hp, hm⟩ => ⟨u, he, ⟨hp, (hf x hx).mono (fun k hk => .inl hk)⟩, hm⟩
section
variable {A1 : Option Addr} {n c1 : Nat}
theorem hp_put1 (H : Hp w0 w (PPt g xs)) (hn : n = bs.length) (hr : Kd.C (Kd.int .u8) w A1 n bs) (hb1 : bs.length ≤ 140737488351232) (hx : xs.length < 256) :
    Calls Try.prog 8 #[.pointer (some ⟨g, 0, none⟩), .slice A1 n c1] w fun e w' => e = .returned (.bool true) ∧ Hp w0 w' (PPt g (xs ++ [bs])) :=
  hp_call1 (X' := PPt g (xs ++ [bs])) (E := fun e => e = .returned (.bool true)) good_PP H (fun F h => put_n h hn hr hb1 hx)
theorem hp_put (G : Good Y) (H : Hp w0 w (Star (PPt g xs) Y)) (hn : n = bs.length) (hr : Kd.C (Kd.int .u8) w A1 n bs) (hb1 : bs.length ≤ 140737488351232) (hx : xs.length < 256) :
    Calls Try.prog 8 #[.pointer (some ⟨g, 0, none⟩), .slice A1 n c1] w fun e w' => e = .returned (.bool true) ∧ Hp w0 w' (Star (PPt g (xs ++ [bs])) Y) :=
  hp_call (X' := PPt g (xs ++ [bs])) (E := fun e => e = .returned (.bool true)) G H (fun F h => put_n h hn hr hb1 hx)
theorem hp_rput (G : Good Y) (H : Hp w0 w (Star (RPt g xs) Y)) (hn : n = bs.length) (hr : Kd.C (Kd.int .u8) w A1 n bs) (hb1 : bs.length ≤ 140737488351232) (hx : xs.length < 256) :
    Calls Try.prog 13 #[.pointer (some ⟨g, 0, none⟩), .slice A1 n c1] w fun e w' => e = .returned (.bool true) ∧ Hp w0 w' (Star (RPt g (xs ++ [bs])) Y) :=
  hp_call (X' := RPt g (xs ++ [bs])) (E := fun e => e = .returned (.bool true)) G H (fun F h => refPut_n h hn hr hb1 hx)
theorem hp_take1 (H : Hp w0 w (PPt g xs)) (i : Int) {x : List Int} (hx : xs[pk i xs.length]? = some x) :
    Calls Try.prog 10 #[.pointer (some ⟨g, 0, none⟩), .int .i64 i] w fun e w' => ∃ u, e = .returned (.tuple #[u, .bool true]) ∧ Hp w0 w' (And2 (PPt g (xs.eraseIdx (pk i xs.length))) u x) :=
  hp_callE1 (X' := fun u => And2 (PPt g (xs.eraseIdx (pk i xs.length))) u x) (E := fun u => .returned (.tuple #[u, .bool true])) (fun _ => good_And good_PP) H (fun F h => take_and h i hx)
theorem hp_take (G : Good Y) (H : Hp w0 w (Star (PPt g xs) Y)) (i : Int) {x : List Int} (hx : xs[pk i xs.length]? = some x) :
    Calls Try.prog 10 #[.pointer (some ⟨g, 0, none⟩), .int .i64 i] w fun e w' => ∃ u, e = .returned (.tuple #[u, .bool true]) ∧ Hp w0 w' (Star (And2 (PPt g (xs.eraseIdx (pk i xs.length))) u x) Y) :=
  hp_callE (X' := fun u => And2 (PPt g (xs.eraseIdx (pk i xs.length))) u x) (E := fun u => .returned (.tuple #[u, .bool true])) G H (fun F h => take_and h i hx)
theorem hp_rtake (G : Good Y) (H : Hp w0 w (Star (RPt g xs) Y)) (i : Int) {x : List Int} (hx : xs[pk i xs.length]? = some x) :
    Calls Try.prog 14 #[.pointer (some ⟨g, 0, none⟩), .int .i64 i] w fun e w' => ∃ u, e = .returned (.tuple #[u, .bool true]) ∧ Hp w0 w' (Star (And2 (RPt g (xs.eraseIdx (pk i xs.length))) u x) Y) :=
  hp_callE (X' := fun u => And2 (RPt g (xs.eraseIdx (pk i xs.length))) u x) (E := fun u => .returned (.tuple #[u, .bool true])) G H (fun F h => refTake_and h i hx)
theorem twice_n (h : Pip 25 w F g xs) (i : Int) (hl : xs.length < 256) {x : List Int} (hxk : xs[pk i xs.length]? = some x) : Calls Try.prog 9 #[.pointer (some ⟨g, 0, none⟩), .int .i64 i] w fun e w' =>
    e = .returned (.bool true) ∧ Pip 25 w' (fun j => F j ∨ w.heap.size ≤ j) g (xs ++ [x]) ∧ Mv F w w' :=
  twice_c h i (by have := (List.getElem?_eq_some_iff.1 hxk).1; omega) hl hxk
theorem hp_twice1 (H : Hp w0 w (PPt g xs)) (i : Int) (hl : xs.length < 256) {x : List Int} (hx : xs[pk i xs.length]? = some x) :
    Calls Try.prog 9 #[.pointer (some ⟨g, 0, none⟩), .int .i64 i] w fun e w' => e = .returned (.bool true) ∧ Hp w0 w' (PPt g (xs ++ [x])) :=
  hp_call1 (X' := PPt g (xs ++ [x])) (E := fun e => e = .returned (.bool true)) good_PP H (fun F h => twice_n h i hl hx)
theorem hp_twice (G : Good Y) (H : Hp w0 w (Star (PPt g xs) Y)) (i : Int) (hl : xs.length < 256) {x : List Int} (hx : xs[pk i xs.length]? = some x) :
    Calls Try.prog 9 #[.pointer (some ⟨g, 0, none⟩), .int .i64 i] w fun e w' => e = .returned (.bool true) ∧ Hp w0 w' (Star (PPt g (xs ++ [x])) Y) :=
  hp_call (X' := PPt g (xs ++ [x])) (E := fun e => e = .returned (.bool true)) G H (fun F h => twice_n h i hl hx)
theorem hp_fall1 (H : Hp w0 w (PPt g xs)) : Calls Try.prog 16 #[.pointer (some ⟨g, 0, none⟩)] w fun e w' => e = .returned (.int .i64 (xs.length : Int)) ∧ Hp w0 w' (PPt g []) :=
  hp_call1 (X' := PPt g []) (E := fun e => e = .returned (.int .i64 (xs.length : Int))) good_PP H (fun F h => (fall_c h).mono fun e w' ⟨he, hp, hm⟩ => ⟨he, hp.mono (fun k hk => .inl hk), hm⟩)
theorem hp_fall (G : Good Y) (H : Hp w0 w (Star (PPt g xs) Y)) : Calls Try.prog 16 #[.pointer (some ⟨g, 0, none⟩)] w fun e w' => e = .returned (.int .i64 (xs.length : Int)) ∧ Hp w0 w' (Star (PPt g []) Y) :=
  hp_call (X' := PPt g []) (E := fun e => e = .returned (.int .i64 (xs.length : Int))) G H (fun F h => (fall_c h).mono fun e w' ⟨he, hp, hm⟩ => ⟨he, hp.mono (fun k hk => .inl hk), hm⟩)
theorem Hp.old (h : Hp w0 w X) : Below w0.heap.size w0 w := h.1
theorem Hp.pip (h : Hp w0 w (PPt g xs)) : Pip 25 w (fun k => w0.heap.size ≤ k) g xs := h.2
theorem Hp.pip2 (h : Hp w0 w (Star (PPt g xs) Y)) : Pip 25 w (fun k => w0.heap.size ≤ k) g xs := (h.fst good_PP).2
theorem Hp.rpip (h : Hp w0 w (RPt g xs)) : Pip 38 w (fun k => w0.heap.size ≤ k) g xs := h.2
theorem Hp.rows {v : Value} (h : Hp w0 w (LLt v xs)) (hl : xs.length ≤ 9223372036854775807) : ∃ A c, v = .slice A xs.length c ∧ xs.length ≤ c ∧ Kd.C (Kd.slice 5 (Kd.int .u8)) w A xs.length xs := by
  obtain ⟨us, h1, h2⟩ := h.2
  exact out_reads h1 h2 hl
theorem Hp.frame {X : World → (Nat → Prop) → Prop} (h : Hp w0 w (And2 X u bs)) : ∃ A c, u = .slice A bs.length c ∧ bs.length ≤ c ∧ Kd.C (Kd.int .u8) w A bs.length bs := h.2.2.reads
theorem Hp.frame2 {X : World → (Nat → Prop) → Prop} (h : Hp w0 w (Star (And2 X u bs) Y)) : ∃ A c, u = .slice A bs.length c ∧ bs.length ≤ c ∧ Kd.C (Kd.int .u8) w A bs.length bs := by
  obtain ⟨hb, F1, F2, h1, h2, hd, hx, hy⟩ := h
  exact hx.2.reads
/-- All: new rows, and all else as it was. -/
theorem hp_all (G : Good X) (H : Hp w0 w X) (hp : Pip 25 w F g xs) : Calls Try.prog 17 #[.pointer (some ⟨g, 0, none⟩)] w fun e w' => ∃ v, e = .returned v ∧ Hp w0 w' (Star (LLt v xs) X) :=
  (all_c hp).mono fun e w' ⟨v, us, he, ho, hf, hb⟩ => ⟨v, he, H.more G hb ⟨us, ho, hf⟩⟩
theorem And2.reads {X : World → (Nat → Prop) → Prop} (h : And2 X u bs w F) : ∃ A c, u = .slice A bs.length c ∧ bs.length ≤ c ∧ Kd.C (Kd.int .u8) w A bs.length bs := h.2.reads
theorem Hp.unand (h : Hp w0 w (And2 X u bs)) : Hp w0 w X := ⟨h.1, h.2.1⟩
theorem Hp.unand2 (h : Hp w0 w (Star (And2 X u bs) Y)) : Hp w0 w (Star X Y) := by
  obtain ⟨hb, F1, F2, h1, h2, hd, hx, hy⟩ := h
  exact ⟨hb, F1, F2, h1, h2, hd, hx.1, hy⟩
theorem LLt.reads (h : LLt v xs w F) (hl : xs.length ≤ 9223372036854775807) : ∃ A c, v = .slice A xs.length c ∧ xs.length ≤ c ∧ Kd.C (Kd.slice 5 (Kd.int .u8)) w A xs.length xs := by
  obtain ⟨us, h1, h2⟩ := h
  exact out_reads h1 h2 hl
end
/-- A new pipe. -/
theorem hp_new (w : World) : Hp w (w.alloc (.cells #[.slice none 0 0] 25)) (PPt w.heap.size []) := ⟨below_alloc (Below.refl _ _) _, pip_new (Nat.le_refl _) (heap_alloc_new w _)⟩
/-- A literal of one byte. -/
theorem lit_one {w1 : World} {v1 : Value} {x : Int} {ok : Nat → Prop} {b : Nat} (h : Kd.R (Kd.int .u8) 5 w1 b ok v1 [x]) : ∃ A c, v1 = .slice A 1 c ∧ Kd.C (Kd.int .u8) w1 A 1 [x] := by
  obtain ⟨A, c, rfl, _, hC⟩ := Kd.R_reads h
  exact ⟨A, c, rfl, hC⟩
end
end Go.Proofs.Ytefkaefgihhcaaa.PP
