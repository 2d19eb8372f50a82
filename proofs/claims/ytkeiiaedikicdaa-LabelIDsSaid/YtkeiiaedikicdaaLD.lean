/- A label folded is read as it counts: plain. -/
import Derived.Test.YtkeiiaedikicdaaLC
import Derived.Stop.FmtQuoteTie
namespace Go.Proofs.Ytkeiiaedikicdaa.PL
open Go.RowKit Go.Proofs.YtkeiiaedikicdaaW.PrintWords Go.Proofs.YtkeiiaedikicdaaW.PrintLast Go.Proofs.YtkeiiaedikicdaaW.PrintMore
attribute [local go_sem] max2_int min2_int max_two min_two max_three min_three max_four min_four
set_option linter.unusedVariables false
set_option linter.unusedSimpArgs false
theorem u8_nat {n : Nat} (h : n < 256) : (UInt8.ofNat n).toNat = n := by simp; omega
theorem dec_en1 (c : Nat) (h : c < 128) (r : List UInt8) : Lib.decodeL ((Utf8.encode (c : Int)).data.toList ++ r) = (c, (Utf8.encode (c : Int)).data.toList.length) := by
  have e : (Utf8.encode (c : Int)).data.toList = [UInt8.ofNat c] := Extern.FmtText.enc1 c h
  rw [e, Lib.decodeL_N]
  simp only [List.cons_append, List.nil_append, List.getD_cons_zero, List.length_cons]
  rw [u8_nat (by omega)]
  unfold Lib.decodeN
  rw [if_pos h]
  rfl
theorem dec_en2 (c : Nat) (h0 : ¬ c < 128) (h : c < 2048) (r : List UInt8) : Lib.decodeL ((Utf8.encode (c : Int)).data.toList ++ r) = (c, (Utf8.encode (c : Int)).data.toList.length) := by
  have e : (Utf8.encode (c : Int)).data.toList = [UInt8.ofNat (192 + c / 64), UInt8.ofNat (128 + c % 64)] := Extern.FmtText.enc2 c h0 h
  rw [e, Lib.decodeL_N]
  simp only [List.cons_append, List.nil_append, List.getD_cons_zero, List.getD_cons_succ, List.length_cons, List.length_nil]
  rw [u8_nat (by omega), u8_nat (by omega)]
  unfold Lib.decodeN
  rw [if_neg (by omega), if_pos (by omega), if_pos (by omega)]
  have e2 : (192 + c / 64) % 32 * 64 + (128 + c % 64) % 64 = c := by omega
  rw [e2]
theorem dec_en3 (c : Nat) (h0 : ¬ c < 2048) (h : c < 65536) (hv : c < 55296 ∨ 57344 ≤ c) (r : List UInt8) : Lib.decodeL ((Utf8.encode (c : Int)).data.toList ++ r) = (c, (Utf8.encode (c : Int)).data.toList.length) := by
  have e : (Utf8.encode (c : Int)).data.toList = [UInt8.ofNat (224 + c / 4096), UInt8.ofNat (128 + c / 64 % 64), UInt8.ofNat (128 + c % 64)] := Extern.FmtText.enc3 c h0 h hv
  rw [e, Lib.decodeL_N]
  simp only [List.cons_append, List.nil_append, List.getD_cons_zero, List.getD_cons_succ, List.length_cons, List.length_nil]
  rw [u8_nat (by omega), u8_nat (by omega), u8_nat (by omega)]
  have e2 : (224 + c / 4096) % 16 * 4096 + (128 + c / 64 % 64) % 64 * 64 + (128 + c % 64) % 64 = c := by omega
  unfold Lib.decodeN
  rw [e2, if_neg (by omega), if_neg (by omega), if_pos (by omega), if_pos (by omega)]
theorem dec_en4 (c : Nat) (h0 : ¬ c < 65536) (h : c ≤ 1114111) (r : List UInt8) : Lib.decodeL ((Utf8.encode (c : Int)).data.toList ++ r) = (c, (Utf8.encode (c : Int)).data.toList.length) := by
  have e : (Utf8.encode (c : Int)).data.toList = [UInt8.ofNat (240 + c / 262144), UInt8.ofNat (128 + c / 4096 % 64), UInt8.ofNat (128 + c / 64 % 64), UInt8.ofNat (128 + c % 64)] := Extern.FmtText.enc4 c h0 h
  rw [e, Lib.decodeL_N]
  simp only [List.cons_append, List.nil_append, List.getD_cons_zero, List.getD_cons_succ, List.length_cons, List.length_nil]
  rw [u8_nat (by omega), u8_nat (by omega), u8_nat (by omega), u8_nat (by omega)]
  have e2 : (240 + c / 262144) % 8 * 262144 + (128 + c / 4096 % 64) % 64 * 4096 + (128 + c / 64 % 64) % 64 * 64 + (128 + c % 64) % 64 = c := by omega
  unfold Lib.decodeN
  rw [e2, if_neg (by omega), if_neg (by omega), if_neg (by omega), if_pos (by omega), if_pos (by omega)]
/-- What is read of a rune's bytes is the rune. -/
theorem dec_en (c : Nat) (hv : c < 55296 ∨ (57344 ≤ c ∧ c ≤ 1114111)) (r : List UInt8) : Lib.decodeL ((Utf8.encode (c : Int)).data.toList ++ r) = (c, (Utf8.encode (c : Int)).data.toList.length) := by
  by_cases h1 : c < 128
  · exact dec_en1 c h1 r
  by_cases h2 : c < 2048
  · exact dec_en2 c h1 h2 r
  by_cases h3 : c < 65536
  · exact dec_en3 c h2 h3 (by omega) r
  · exact dec_en4 c h3 (by omega) r
/-- A rune that is no half of a pair. -/
def Vr (n : Int) : Prop := 0 ≤ n ∧ (n < 55296 ∨ (57344 ≤ n ∧ n ≤ 1114111))
def ens (ns : List Int) : List UInt8 := ns.flatMap fun n => (Utf8.encode n).data.toList
theorem fold_list (ns : List Int) : ∀ s : ByteArray, (ns.foldl (fun r n => r ++ Utf8.encode n) s).data.toList = s.data.toList ++ ens ns := by
  induction ns with
  | nil => intro s; simp [ens]
  | cons n t ih =>
    intro s
    rw [List.foldl_cons, ih]
    simp [ens]
theorem rb_list (ns : List Int) : (runesBytes ns).data.toList = ens ns := by
  unfold runesBytes
  rw [fold_list]
  rfl
theorem rl_ens : ∀ (ns : List Int), (∀ n ∈ ns, Vr n) → ∀ (s : ByteArray) (pos : Nat), s.data.toList.drop pos = ens ns → rl s pos = ns
  | [], _, s, pos, h => by
    refine rl_end ?_
    have h2 : s.data.toList.drop pos = [] := h
    have h3 := congrArg List.length h2
    rw [List.length_drop, List.length_nil, Array.length_toList] at h3
    have : s.data.size = s.size := rfl
    omega
  | n :: t, hv, s, pos, h => by
    obtain ⟨h0, h1⟩ := hv n List.mem_cons_self
    obtain ⟨c, rfl⟩ : ∃ c : Nat, n = (c : Int) := ⟨n.toNat, by omega⟩
    have e : ens ((c : Int) :: t) = (Utf8.encode (c : Int)).data.toList ++ ens t := by simp [ens]
    rw [e] at h
    have hd := dec_en c (by omega) (ens t)
    rw [← h, Lib.decodeL_drop] at hd
    have hw := Lib.width_pos s pos
    rw [hd] at hw
    have hlen := congrArg List.length h
    rw [List.length_drop, List.length_append, Array.length_toList] at hlen
    have hsz : s.data.size = s.size := rfl
    have hp : pos < s.size := by
      dsimp only at hw
      omega
    rw [rl_step hp, hd]
    have ih := rl_ens t (fun m hm => hv m (List.mem_cons_of_mem _ hm)) s (pos + (Utf8.encode (c : Int)).data.toList.length) (by
      rw [← List.drop_drop, h]
      exact List.drop_left' rfl)
    dsimp only
    rw [ih]
theorem rl_vr (s : ByteArray) : ∀ (f pos : Nat), ∀ r ∈ rlf s f pos, Vr r
  | 0, _, r, h => by simp [rlf] at h
  | f + 1, pos, r, h => by
    simp only [rlf] at h
    split at h
    · rcases List.mem_cons.1 h with h | h
      · have hd := (decN (s.size - pos) (s.get! pos).toNat (s.get! (pos + 1)).toNat (s.get! (pos + 2)).toNat (s.get! (pos + 3)).toNat (b_lt s pos)).1
        rw [← Lib.decode_at] at hd
        obtain ⟨c, hc⟩ : ∃ c, c = (Utf8.decode s pos).1 := ⟨_, rfl⟩
        rw [← hc] at hd h
        subst h
        unfold Vr
        by_cases h5 : c = 65533
        · omega
        · have := (hd h5).1
          omega
      · exact rl_vr s f _ r h
    · simp at h
theorem lg_map : ∀ (l out : List Int), (lg l out).2 = 0 → (lg l out).1 = out ++ l.map fr
  | [], out, _ => by simp [lg]
  | r :: t, out, h => by
    cases hr : okr r with
    | false => rw [lg_bad hr] at h; simp at h
    | true =>
      by_cases h24 : out.length = 24
      · rw [lg_long hr t h24] at h; simp at h
      · rw [lg_more hr t h24] at h ⊢
        rw [lg_map t _ h]
        simp
theorem okr_fr {r : Int} (h : okr r = true) : okr (fr r) = true := by
  have h1 := of_decide_eq_true h
  unfold okr
  apply decide_eq_true
  unfold fr
  split <;> omega
theorem fr_fr (r : Int) : fr (fr r) = fr r := by
  unfold fr
  repeat' split
  all_goals omega
theorem vr_fr {r : Int} (h : Vr r) : Vr (fr r) := by
  unfold Vr at h ⊢
  unfold fr
  split <;> omega
/-- A label folded is a label, with the same runes. -/
theorem ru_fold {s : ByteArray} (h : (RU s).2 = 0) : RU (FS s) = ((RU s).1, 0) := by
  obtain ⟨hs, hok, hlen⟩ := (ru_ok s).1 h
  have hout : (RU s).1 = (rl s 0).map fr := by
    have e : RU s = lg (rl s 0) [] := by unfold RU; rw [if_neg hs]
    rw [e] at h ⊢
    rw [lg_map _ _ h]
    simp
  have hrl : rl (FS s) 0 = (RU s).1 := by
    refine rl_ens _ (fun n hn => ?_) _ _ (by rw [List.drop_zero]; exact rb_list _)
    rw [hout] at hn
    obtain ⟨r, hr, rfl⟩ := List.mem_map.1 hn
    exact vr_fr (rl_vr s _ _ r hr)
  have hne : (FS s).size ≠ 0 := by
    intro h0
    have h1 : rl (FS s) 0 = [] := rl_end (by omega)
    rw [hrl, hout, rl_step (by omega)] at h1
    simp at h1
  have h2 : (RU (FS s)).2 = 0 := by
    rw [ru_ok, hrl, hout]
    refine ⟨hne, fun r hr => ?_, by simpa using hlen⟩
    obtain ⟨q, hq, rfl⟩ := List.mem_map.1 hr
    exact okr_fr (hok q hq)
  have h3 : (RU (FS s)).1 = (RU s).1 := by
    have e : RU (FS s) = lg (rl (FS s) 0) [] := by unfold RU; rw [if_neg hne]
    rw [e] at h2 ⊢
    rw [lg_map _ _ h2, hrl, hout]
    simp [fr_fr]
  exact Prod.ext h3 h2
theorem fs_fold {s : ByteArray} (h : (RU s).2 = 0) : FS (FS s) = FS s := by
  have := congrArg Prod.fst (ru_fold h)
  unfold FS at this ⊢
  rw [this]
end Go.Proofs.Ytkeiiaedikicdaa.PL
