/- An argument of type [][]byte, opened: rows of bytes, none longer than the reach. -/
import Derived.Test.YtefkaefgihhcaaaDA
import Derived.ProofKit
import Derived.SizedLaws
import Derived.Deep.Matrix
namespace Go.Proofs.Ytefkaefgihhcaaa.PP
open Go.ChangeShapes Go.WideShapes Go.ChangeAt Go.RowKit Go.Deep Go.Proofs.YtefkaefgihhcaaaW.PrintWords
theorem weights_all {H : Type} {P : Program} {e : TypeId} {d : DataW H} {n : Nat} (hn : n ∈ d.weights P e) : ∀ {l : List (DataW H)}, d ∈ l → n ∈ DataW.weightsAll P e l
  | [], h => by cases h
  | x :: r, h => by
    rw [DataW.weightsAll, List.mem_append]
    rcases List.mem_cons.1 h with h | h
    · subst h; exact .inl hn
    · exact .inr (weights_all hn h)
theorem bytes_one : Try.prog.bytesOf 5 = 1 := by kernel_rfl
theorem bytes_row : Try.prog.bytesOf 26 = 24 := by kernel_rfl
/-- A row's list of bytes is no longer than the reach. -/
theorem row_sized {H : Type} {A : Option Addr} {L : Nat} {zs : List Int} (h : ∀ n ∈ (intRow (H := H) .u8 A L zs).weights Try.prog 26, n ≤ reachBytes) (h0 : A = none → zs.length = 0) (hL : L ≤ zs.length) : L ≤ 140737488351232 := by
  cases A with
  | none => have := h0 rfl; omega
  | some a =>
    have h1 := h ((lits (H := H) .u8 (zs.take L)).length + (lits (H := H) .u8 (zs.drop L)).length) (by
      unfold intRow
      simp only [DataW.weights, Try.underlying26, bytes_one, Nat.mul_one]
      exact List.mem_cons_self)
    simp [lits] at h1
    have h2 : reachBytes = 140737488351232 := rfl
    omega
theorem rows_in {H : Type} {enc : TypeId × Value → H} {W : World} {base : Nat} {held : Bool} {a : Option Addr} {len cap : Nat} {d : DataW H} {ps : List MemPlace} {ts : List TypeId} {ds : List (DataW H)} {j : Nat}
    (hsz : (DataW.weightsEach Try.prog ts ds).all (· ≤ reachBytes) = true) (ht : ts[j]? = some 22) (hd : ds[j]? = some d)
    (h : DataW.Trod enc Try.prog W base (fun _ => true) held 22 (.slice a len cap) d ps) :
    ∃ xs : List (List Int), xs.length = len ∧ len ≤ cap ∧ len * 24 ≤ 140737488351232 ∧ Kd.C (Kd.slice 5 (Kd.int .u8)) W a len xs ∧ (∀ x ∈ xs, x.length ≤ 140737488351232) ∧ ∀ x ∈ xs, ∀ n ∈ x, (Lit.int .u8 n).wf = true := by
  have hall : ∀ n ∈ d.weights Try.prog 22, n ≤ reachBytes := fun n hn => by
    have := List.all_eq_true.1 hsz n (DataW.weights_mem_each ht hd n hn)
    simpa using this
  have hre : reachBytes = 140737488351232 := rfl
  obtain ⟨fuel, hf⟩ := h
  rcases open_int_rows Try.underlying22 Try.underlying26 Try.underlying5 (by kernel_rfl) (by kernel_rfl) hf with ⟨hcs, hx⟩ | ⟨x, l, c, A, L, C, Z, hcs, _, hl, hm, hx, hr⟩
  · simp [Value.cells] at hcs
    obtain ⟨rfl, rfl, rfl⟩ := hcs
    exact ⟨[], rfl, Nat.le_refl _, by decide, Kd.C_nil _ _, fun x hx => by simp at hx, fun x hx => by simp at hx⟩
  · simp [Value.cells] at hcs
    obtain ⟨rfl, rfl, rfl⟩ := hcs
    simp only [Prod.mk.injEq] at hx
    obtain ⟨rfl, rfl⟩ := hx
    have hw := hall ((len + (cap - len)) * 24) (by
      simp only [DataW.weights, Try.underlying22, bytes_row]
      rw [List.length_map, List.length_map, List.length_range, List.length_range]
      exact List.mem_cons_self)
    have hrow : ∀ r, r < len → L r ≤ 140737488351232 := fun r hr' => by
      obtain ⟨_, h1, h2, h3, _, h4, _⟩ := hr r (by omega)
      refine row_sized (H := H) (A := A r) (zs := Z r) (fun n hn => hall n ?_) (fun e => by rw [h3]; exact h4 e) (by omega)
      simp only [DataW.weights, Try.underlying22]
      refine List.mem_cons_of_mem _ (List.mem_append_left _ (weights_all hn ?_))
      exact List.mem_map.2 ⟨r, List.mem_range.2 hr', rfl⟩
    have hget : ∀ r, r < len → ((List.range len).map fun r => (Z r).take (L r))[r]? = some ((Z r).take (L r)) := fun r hr' => by simp [hr']
    refine ⟨(List.range len).map fun r => (Z r).take (L r), by simp, hl, by omega, ⟨by simp, by simp only [maxLen] at hm; omega, fun hp => ⟨x, rfl, fun r p hj => ?_⟩⟩, fun p hp => ?_, fun p hp n hn => ?_⟩
    · have hrl : r < len := by
        have := (List.getElem?_eq_some_iff.1 hj).1
        simpa using this
      rw [hget r hrl] at hj
      injection hj with hj
      subst hj
      obtain ⟨h0, h1, h2, h3, _, h4, h5⟩ := hr r (by omega)
      have hlen : ((Z r).take (L r)).length = L r := by rw [List.length_take]; omega
      refine ⟨[.slice (A r) (L r) (C r)], rfl, ⟨A r, C r, by rw [hlen], by rw [hlen]; exact h1, ?_⟩, fun i u hu => ?_⟩
      · refine ⟨by rw [hlen], by have := hrow r hrl; omega, fun hpp => ?_⟩
        cases hA : A r with
        | none => have := h4 hA; omega
        | some a' =>
          refine ⟨a', rfl, fun c n hc => ?_⟩
          have hcl : c < L r := by
            have := (List.getElem?_eq_some_iff.1 hc).1
            omega
          rw [List.getElem?_take_of_lt hcl] at hc
          refine ⟨[.int .u8 n], rfl, rfl, fun i v hv => ?_⟩
          have hi0 : i = 0 := by
            rcases i with _ | i
            · rfl
            · simp at hv
          subst hi0
          simp only [List.getElem?_cons_zero, Option.some.injEq] at hv
          subst hv
          have h6 := (h5 a' hA).2 c (by omega)
          rw [List.getD_eq_getElem?_getD, hc] at h6
          have e : a'.add (c * (Kd.int .u8).sz + 0) = a'.add c := by
            show a'.add (c * 1 + 0) = a'.add c
            rw [Nat.mul_one, Nat.add_zero]
          rw [e]
          exact h6
      · have hi0 : i = 0 := by
          rcases i with _ | i
          · rfl
          · simp at hu
        subst hi0
        simp only [List.getElem?_cons_zero, Option.some.injEq] at hu
        subst hu
        have e : x.add (r * (Kd.slice 5 (Kd.int .u8)).sz + 0) = x.add r := by
          show x.add (r * 1 + 0) = x.add r
          rw [Nat.mul_one, Nat.add_zero]
        rw [e]
        exact h0
    · obtain ⟨r, hr', rfl⟩ := List.mem_map.1 hp
      have := hrow r (List.mem_range.1 hr')
      rw [List.length_take]
      omega
    · obtain ⟨r, hr', rfl⟩ := List.mem_map.1 hp
      obtain ⟨_, _, _, _, h6, _⟩ := hr r (by have := List.mem_range.1 hr'; omega)
      exact h6 n (List.mem_of_mem_take hn)
end Go.Proofs.Ytefkaefgihhcaaa.PP
