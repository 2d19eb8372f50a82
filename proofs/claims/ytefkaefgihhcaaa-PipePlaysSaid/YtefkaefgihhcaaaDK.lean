/- An argument of type []Op, opened: each op's three cells, and its row of bytes. -/
import Derived.Test.YtefkaefgihhcaaaDF
import Derived.Deep.Strs
namespace Go.Proofs.Ytefkaefgihhcaaa.PP
open Go.ChangeShapes Go.WideShapes Go.ChangeAt Go.RowKit Go.Deep Go.Proofs.YtefkaefgihhcaaaW.PrintWords
set_option linter.unusedVariables false
/-- The op at b. -/
def OpAt (w : World) (b : Addr) : Prop :=
  ∃ (k n : Int) (A : Option Addr) (L C : Nat) (zs : List Int), w.cell? b = some (.int .i64 k) ∧ w.cell? (b.add 1) = some (.int .i64 n) ∧ w.cell? (b.add 2) = some (.slice A L C) ∧
    L ≤ C ∧ zs.length = L ∧ L ≤ 140737488351232 ∧ Kd.C (Kd.int .u8) w A L zs ∧ ∀ z ∈ zs, (Lit.int .u8 z).wf = true
theorem cells_op : Try.prog.cellsOf 40 = 3 := by kernel_rfl
theorem cells_3 : Try.prog.cellsOf 3 = 1 := by kernel_rfl
theorem cells_26 : Try.prog.cellsOf 26 = 1 := by kernel_rfl
theorem cells_5 : Try.prog.cellsOf 5 = 1 := by kernel_rfl
theorem bytes_op : Try.prog.bytesOf 40 = 40 := by kernel_rfl
theorem cells3_of {w : World} {base : Nat} {b : Addr} {cs : List Value} (h : w.cells? base b 3 = some cs) : ∃ x y z, cs = [x, y, z] ∧ w.cell? b = some x ∧ w.cell? (b.add 1) = some y ∧ w.cell? (b.add 2) = some z := by
  unfold World.cells? at h
  split at h
  · have e : List.range 3 = [0, 1, 2] := rfl
    have e0 : b.add 0 = b := by simp [Addr.add]
    rw [e] at h
    simp only [List.mapM_cons, List.mapM_nil, e0] at h
    cases h0 : w.cell? b with
    | none => rw [h0] at h; simp at h
    | some x => cases h1 : w.cell? (b.add 1) with
      | none => rw [h0, h1] at h; simp at h
      | some y => cases h2 : w.cell? (b.add 2) with
        | none => rw [h0, h1, h2] at h; simp at h
        | some z =>
          rw [h0, h1, h2] at h
          simp at h
          exact ⟨x, y, z, h.symm, rfl, rfl, rfl⟩
  · simp at h
theorem row_in {H : Type} {enc : TypeId × Value → H} {W : World} {base : Nat} {held : Bool} {n : Nat} {cs : List Value} {y : DataW H × List MemPlace} (h : DataW.trod enc Try.prog W base (fun _ => true) held n 26 cs = some y)
    (hall : ∀ n ∈ y.1.weights Try.prog 26, n ≤ reachBytes) : ∃ (A : Option Addr) (L C : Nat) (zs : List Int), cs = [.slice A L C] ∧ L ≤ C ∧ zs.length = L ∧ L ≤ 140737488351232 ∧ Kd.C (Kd.int .u8) W A L zs ∧ ∀ z ∈ zs, (Lit.int .u8 z).wf = true := by
  rcases open_ints Try.underlying26 Try.underlying5 cells_5 h with ⟨hcs, hy⟩ | ⟨a, L, C, zs, hcs, hb, hl, hm, hz, hy, hcell, hwz⟩
  · exact ⟨none, 0, 0, [], hcs, Nat.le_refl _, rfl, by decide, Kd.C_nil _ _, by simp⟩
  · simp only [if_true] at hz
    have hlen : (zs.take L).length = L := by rw [List.length_take]; omega
    have hL : L ≤ 140737488351232 := by
      subst hy
      have h1 := hall ((lits (H := H) .u8 (zs.take L)).length + (lits (H := H) .u8 (zs.drop L)).length) (by
        simp only [DataW.weights, Try.underlying26, bytes_one, Nat.mul_one]
        exact List.mem_cons_self)
      simp [lits] at h1
      have h2 : reachBytes = 140737488351232 := rfl
      omega
    refine ⟨some a, L, C, zs.take L, hcs, hl, hlen, hL, ⟨hlen, by omega, fun hpp => ⟨a, rfl, fun c x hc => ?_⟩⟩, fun z hzm => hwz z (List.mem_of_mem_take hzm)⟩
    have hcl : c < L := by
      have := (List.getElem?_eq_some_iff.1 hc).1
      omega
    rw [List.getElem?_take_of_lt hcl] at hc
    refine ⟨[.int .u8 x], rfl, rfl, fun i v hv => ?_⟩
    have hi0 : i = 0 := by
      rcases i with _ | i
      · rfl
      · simp at hv
    subst hi0
    simp only [List.getElem?_cons_zero, Option.some.injEq] at hv
    subst hv
    have h6 := hcell c (by omega)
    rw [List.getD_eq_getElem?_getD, hc] at h6
    have e : a.add (c * (Kd.int .u8).sz + 0) = a.add c := by
      show a.add (c * 1 + 0) = a.add c
      rw [Nat.mul_one, Nat.add_zero]
    rw [e]
    exact h6
theorem ops_in {H : Type} {enc : TypeId × Value → H} {W : World} {base : Nat} {held : Bool} {a : Option Addr} {len cap : Nat} {d : DataW H} {ps : List MemPlace} {ts : List TypeId} {ds : List (DataW H)} {j : Nat}
    (hsz : (DataW.weightsEach Try.prog ts ds).all (· ≤ reachBytes) = true) (ht : ts[j]? = some 35) (hd : ds[j]? = some d)
    (h : DataW.Trod enc Try.prog W base (fun _ => true) held 35 (.slice a len cap) d ps) : len ≤ 9223372036854775807 ∧ (0 < len → ∃ x, a = some x) ∧ ∀ x, a = some x → ∀ i, i < len → OpAt W (x.add (i * 3)) := by
  have hall : ∀ n ∈ d.weights Try.prog 35, n ≤ reachBytes := fun n hn => by
    have := List.all_eq_true.1 hsz n (DataW.weights_mem_each ht hd n hn)
    simpa using this
  obtain ⟨fuel, hf⟩ := h
  rcases DataW.trod_slice Try.underlying35 hf with ⟨hcs, hx⟩ | ⟨x, l, c, elems, rest, n, _, hcs, hx, _, hl, hm, hlen, hel, _, _⟩
  · simp [Value.cells] at hcs
    obtain ⟨rfl, rfl, rfl⟩ := hcs
    exact ⟨by decide, fun h => absurd h (Nat.lt_irrefl 0), fun x hx => by cases hx⟩
  · simp [Value.cells] at hcs
    obtain ⟨rfl, rfl, rfl⟩ := hcs
    refine ⟨by simp only [maxLen] at hm; omega, fun _ => ⟨x, rfl⟩, fun x' hx' i hi => ?_⟩
    injection hx' with hx'
    subst hx'
    have hE := hel i hi
    rw [cells_op] at hE
    have hil : i < elems.length := by omega
    rw [List.getElem?_eq_getElem hil] at hE
    simp only [Option.bind_eq_some_iff] at hE
    obtain ⟨cs, hcells, htr⟩ := hE
    obtain ⟨v0, v1, v2, rfl, c0, c1, c2⟩ := cells3_of hcells
    obtain ⟨y0, y1, y2, m, hy, _, t0, t1, t2⟩ := trod_struct3 Try.underlying40 htr
    simp only [cells_3, cells_26, List.drop_zero, List.drop_succ_cons, List.take_succ_cons, List.take_zero] at t0 t1 t2
    obtain ⟨k0, e0, _, _⟩ := DataW.trod_int Try.underlying3 t0
    obtain ⟨k1, e1, _, _⟩ := DataW.trod_int Try.underlying3 t1
    simp only [Prod.mk.injEq] at hx
    obtain ⟨A, L, C, zs, e2, h1, h2, h3, h4, h5⟩ := row_in t2 (fun n hn => hall n (by
      rw [hx.1]
      simp only [DataW.weights, Try.underlying35]
      refine List.mem_cons_of_mem _ (List.mem_append_left _ ?_)
      refine weights_all (d := elems[i].1) ?_ (List.mem_map.2 ⟨elems[i], List.getElem_mem hil, rfl⟩)
      rw [hy]
      simp only [DataW.weights, Try.underlying40]
      exact DataW.weights_mem_each (j := 2) (t := 26) (by rfl) (by rfl) n hn))
    simp only [List.cons.injEq, and_true] at e0 e1 e2
    subst e0 e1 e2
    exact ⟨k0, k1, A, L, C, zs, c0, c1, c2, h1, h2, h3, h4, h5⟩
end Go.Proofs.Ytefkaefgihhcaaa.PP
