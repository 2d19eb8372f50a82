/- The contract of label.ID where the text is no label. -/
import Derived.Test.YtkeiiaedikicdaaLC
namespace Go.Proofs.Ytkeiiaedikicdaa.PL
open Go.RowKit Go.Proofs.YtkeiiaedikicdaaW.PrintWords Go.Proofs.YtkeiiaedikicdaaW.PrintLast Go.Proofs.YtkeiiaedikicdaaW.PrintMore
attribute [local go_sem] max2_int min2_int max_two min_two max_three min_three max_four min_four
set_option linter.unusedVariables false
set_option linter.unusedSimpArgs false
theorem zs_size : (Array.replicate 16 (Value.int .u8 0)).size = 16 := by simp
theorem zs_ones : ∀ v ∈ (Array.replicate 16 (Value.int .u8 0)).toList, v.oneCell' = true := by
  intro v hv
  rw [Array.toList_replicate] at hv
  rw [List.eq_of_mem_replicate hv]
  rfl
set_option maxHeartbeats 8000000 in
set_option maxRecDepth 100000 in
theorem id_none (s : ByteArray) (w : World) (hok : (RU s).2 ≠ 0) : Calls Try.prog 18 #[.string s] w fun e w' => e = .returned (.tuple #[.agg (Array.replicate 16 (.int .u8 0)), .int .i64 (RU s).2]) ∧ Below w.heap.size w w' := by
  have hz := run_zero36
  obtain ⟨zs, hzs⟩ : ∃ zs, zs = Array.replicate 16 (Value.int .u8 0) := ⟨_, rfl⟩
  have HZS : Aside0 (zs.size = 16) := ⟨by rw [hzs]; exact zs_size⟩
  have HZO : Aside0 (∀ v ∈ zs.toList, v.oneCell' = true) := ⟨by rw [hzs]; exact zs_ones⟩
  rw [← hzs] at hz ⊢
  obtain ⟨ec, hec⟩ : ∃ e, e = (RU s).2 := ⟨_, rfl⟩
  rw [← hec] at hok ⊢
  have HE := Aside0.mk hec
  have q0 : (ec != 0) = true := by simpa using hok
  have hz16 := HZS.out
  clear hzs hec hok
  go_enter Try.func18, Try.ntmps18
  go_wp2_with (first
    | (go_at_call 9; (with_reducible refine (runes_c s _).mono ?_); rintro e w1 ⟨A, c, rfl, _, hC, hb⟩; rw [← HE.out]; have HB := Aside0.mk hb; have hrow : w1.heap[w.heap.size]? = some (.cells zs 36 (0, 0)) := ((hb.block w.heap.size (by rw [World.size_alloc]; omega)).trans (heap_alloc_new w (.cells zs 36))); have hst := run_store36 w1 w.heap.size zs zs hrow HZS.out HZS.out HZO.out; have HROW := Aside0.mk hrow; clear hC hb hrow))
  have HIN : Aside0 ((Try.prog.info? 36).map (·.size) = some zs.size) := ⟨by rw [HZS.out]; kernel_rfl⟩
  refine bodyPost_ret (results_ct rfl _ _ w.heap.size 36 zs (0, 0) (.array 16 5) rfl (setRow_heap w1 w.heap.size _ zs 36 (0, 0) HROW.out) Try.underlying36 rfl HIN.out) rfl ⟨?_, ?_⟩
  · rfl
  · exact below_setRow ((below_alloc (Below.refl w.heap.size w) (.cells zs 36)).trans (HB.out.mono (by rw [World.size_alloc]; omega))) (Nat.le_refl _) zs
end Go.Proofs.Ytkeiiaedikicdaa.PL
