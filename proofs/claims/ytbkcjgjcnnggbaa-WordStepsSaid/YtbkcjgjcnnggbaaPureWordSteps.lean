/- WordSteps: the pure statement of the law: the printed law answers true, with rounds enough. No conditions but the row's own. -/
import Derived.Test.YtbkcjgjcnnggbaaTot2
import Derived.Test.YtbkcjgjcnnggbaaQ7
namespace Go.Proofs.Ytbkcjgjcnnggbaa.Pure
open Go.RowKit Go.Proofs.Ytbkcjgjcnnggbaa.Q Go.Proofs.YtbkcjgjcnnggbaaW.PrintWords Go.Proofs.YtbkcjgjcnnggbaaW.PrintLast Gw
set_option linter.unusedVariables false
theorem Step_tot (k q c K : Nat) (hk : k < 3) (hq : q < (tab k).length) (hc : c < 256) (hK : 5 ≤ K) : word_Step.f K (k : Int) (q : Int) (c : Int) = some (stepR (next k q c)) := by
  have ht := tab_le k hk
  unfold word_Step.f word_find.f
  have hf : findT (k : Int) (q : Int) = toS (at_ k q) := by
    unfold findT
    rw [if_neg (by omega), ← rd_T38_tab hk hq]
    rfl
  rw [hf]
  simp only [Option.bind_some]
  rw [step_tot k q c K hk (by omega) hc hK]; rfl
theorem findT_tab (k q : Nat) (hk : k < 3) (hq : q < (tab k).length) : findT (k : Int) (q : Int) = toS (at_ k q) := by
  unfold findT
  rw [if_neg (by omega), ← rd_T38_tab hk hq]
  rfl
theorem Steps_l0 (k : Nat) (hk : k < 3) (s : ByteArray) (hs : s.size ≤ 60) : ∀ (r : List Nat) (i q K : Nat), (bs s).drop i = r → i ≤ s.size → goes k 0 ((bs s).take i) = some q → 2 * r.length + 500 < K → graftwoodlaw06_WordSteps.l0 K s (k : Int) (q : Int) (i : Int) = some true := by
  intro r
  induction r with
  | nil =>
    intro i q K hr hi hg hK
    have e := drop_nil hr hi
    have ht := tab_le k hk
    have ho : oct ((bs s).take i) := fun c hc => bs_oct s c (List.mem_of_mem_take hc)
    have hq := goes_lt hk _ 0 q ho ht.1 hg
    obtain ⟨K, rfl⟩ : ∃ m, K = m + 2 := ⟨K - 2, by omega⟩
    have hsz : (s.extract 0 i).size = i := by simp only [ByteArray.size_extract]; omega
    have hb : bs (s.extract 0 i) = (bs s).take i := by rw [bs_extract]; rfl
    have hro := (tab_oct k hk q (by omega)).2.1
    have hrs : (ofB (at_ k q).rest).size ≤ 6 := EndsB_size _ (List.mem_map.2 ⟨_, rest_in k hk q (by omega) hq, rfl⟩)
    have he := ends_rest k hk q (by omega) hq
    have hw : isKind k ((bs s).take i) = (at_ k q).ends := by
      rw [← acc_kind k hk _ ho]; unfold acc; rw [hg]
    have hrw := rest_word hk ho hg
    have htl : ((ofB (at_ k q).rest).toList == ([] : List UInt8)) = (at_ k q).rest.isEmpty := by
      rw [show (ofB (at_ k q).rest).toList = (at_ k q).rest.map UInt8.ofNat from by rw [ByteArray.toList_eq]; rfl]
      cases (at_ k q).rest <;> rfl
    have hcat : (s.extract 0 i ++ ofB (at_ k q).rest).size = i + (ofB (at_ k q).rest).size := by simp [hsz]
    have m1 : (i : Int) ≤ (s.size : Int) := by omega
    have m2 : (0 : Int) ≤ (i : Int) := by omega
    have m3 : Small (s.extract 0 i) := by unfold Small; omega
    have m4 : 2 * (s.extract 0 i).size + 10 < K + 1 := by omega
    have m5 : (s.extract 0 i).size + (ofB (at_ k q).rest).size ≤ 9223372036854775807 := by omega
    have m6 : Small (s.extract 0 i ++ ofB (at_ k q).rest) := by unfold Small; omega
    have m7 : 2 * (s.extract 0 i ++ ofB (at_ k q).rest).size + 10 < K + 1 := by omega
    have m8 : 100 < K := by omega
    simp only [graftwoodlaw06_WordSteps.l0, word_Rest.f, word_Ends.f, findT_tab k q hk hq, Option.bind_some, toS]
    rw [if_pos m1, if_pos m2, Int.toNat_natCast, Whole6_tot k hk (s.extract 0 i) m3 (K + 1) m4, hb, hw]
    simp only [Option.bind_some, bne_self_eq_false, Bool.false_eq_true, if_false]
    rw [if_pos m5, Whole6_tot k hk (s.extract 0 i ++ ofB (at_ k q).rest) m6 (K + 1) m7, bs_append, hb, bs_ofB hro, hrw]
    simp only [Option.bind_some, if_true]
    rw [htl, he]
    simp only [bne_self_eq_false, graftwoodlaw06_WordSteps.j1, Bool.false_eq_true, if_false]
    rw [if_pos (by omega), awake_tot K m8]; rfl
  | cons c r ih =>
    intro i q K hr hi hg hK
    obtain ⟨h1, h2, h3, h4⟩ := bt_drop hr
    have ht := tab_le k hk
    have ho : oct ((bs s).take i) := fun c hc => bs_oct s c (List.mem_of_mem_take hc)
    have hq := goes_lt hk _ 0 q ho ht.1 hg
    simp only [List.length_cons] at hK
    obtain ⟨K, rfl⟩ : ∃ m, K = m + 2 := ⟨K - 2, by omega⟩
    have n9 : 2 * r.length + 500 < K := by omega
    have h1' : i + 1 ≤ s.size := h1
    have hsz : (s.extract 0 i).size = i := by simp only [ByteArray.size_extract]; omega
    have hb : bs (s.extract 0 i) = (bs s).take i := by rw [bs_extract]; rfl
    have hro := (tab_oct k hk q (by omega)).2.1
    have hrs : (ofB (at_ k q).rest).size ≤ 6 := EndsB_size _ (List.mem_map.2 ⟨_, rest_in k hk q (by omega) hq, rfl⟩)
    have he := ends_rest k hk q (by omega) hq
    have hw : isKind k ((bs s).take i) = (at_ k q).ends := by
      rw [← acc_kind k hk _ ho]; unfold acc; rw [hg]
    have hrw := rest_word hk ho hg
    have htl : ((ofB (at_ k q).rest).toList == ([] : List UInt8)) = (at_ k q).rest.isEmpty := by
      rw [show (ofB (at_ k q).rest).toList = (at_ k q).rest.map UInt8.ofNat from by rw [ByteArray.toList_eq]; rfl]
      cases (at_ k q).rest <;> rfl
    have hcat : (s.extract 0 i ++ ofB (at_ k q).rest).size = i + (ofB (at_ k q).rest).size := by simp [hsz]
    have htk : (bs s).take (i + 1) = (bs s).take i ++ [c] := cur_snoc (f := 0) hr (Nat.zero_le _)
    have hgn : goes k 0 ((bs s).take (i + 1)) = next k q c := by
      rw [htk, goes_append, hg]
      show goes k q [c] = _
      rw [goes]
      cases next k q c <;> rfl
    have m1 : (i : Int) ≤ (s.size : Int) := by omega
    have m2 : (0 : Int) ≤ (i : Int) := by omega
    have m3 : Small (s.extract 0 i) := by unfold Small; omega
    have m4 : 2 * (s.extract 0 i).size + 10 < K + 1 := by omega
    have m5 : (s.extract 0 i).size + (ofB (at_ k q).rest).size ≤ 9223372036854775807 := by omega
    have m6 : Small (s.extract 0 i ++ ofB (at_ k q).rest) := by unfold Small; omega
    have m7 : 2 * (s.extract 0 i ++ ofB (at_ k q).rest).size + 10 < K + 1 := by omega
    have m8 : 100 < K := by omega
    simp only [graftwoodlaw06_WordSteps.l0, word_Rest.f, word_Ends.f, findT_tab k q hk hq, Option.bind_some, toS]
    rw [if_pos m1, if_pos m2, Int.toNat_natCast, Whole6_tot k hk (s.extract 0 i) m3 (K + 1) m4, hb, hw]
    simp only [Option.bind_some, bne_self_eq_false, Bool.false_eq_true, if_false]
    rw [if_pos m5, Whole6_tot k hk (s.extract 0 i ++ ofB (at_ k q).rest) m6 (K + 1) m7, bs_append, hb, bs_ofB hro, hrw]
    simp only [Option.bind_some, if_true]
    rw [htl, he]
    clear htl hcat hrs hsz
    have n1 : ¬ (i : Int) = (s.size : Int) := by omega
    have n2 : (0 : Int) ≤ (i : Int) := by omega
    have n3 : (i : Int) < (s.size : Int) := by omega
    have n4 : (0 : Int) ≤ ((i + 1 : Nat) : Int) := by omega
    have n5 : ((i + 1 : Nat) : Int) ≤ (s.size : Int) := by omega
    have n6 : 5 ≤ K := by omega
    have hsz1 : (s.extract 0 (i + 1)).size = i + 1 := by simp only [ByteArray.size_extract]; omega
    have n7 : (s.extract 0 (i + 1)).size ≤ 4398046511000 := by omega
    have n8 : 2 * (s.extract 0 (i + 1)).size + 40 < K := by omega
    have hb1 : bs (s.extract 0 (i + 1)) = (bs s).take (i + 1) := by rw [bs_extract]; rfl
    have hw1 : wrap64 ((i : Int) + 1) = ((i + 1 : Nat) : Int) := w1 h1 (by omega)
    simp only [bne_self_eq_false, graftwoodlaw06_WordSteps.j1, Bool.false_eq_true, if_false]
    rw [if_neg n1]
    rw [if_pos n2, if_pos n3]
    rw [h2, Step_tot k q c K hk hq h4 n6, hw1]
    simp only [Option.bind_some]
    rw [if_pos n4, if_pos n5, Int.toNat_natCast, Lives6_tot k hk (s.extract 0 (i + 1)) n7 K n8, hb1, hgn]
    simp only [Option.bind_some]
    cases hn : next k q c with
    | none =>
      simp only [stepR, Option.isSome_none, bne_self_eq_false, Bool.false_eq_true, if_false, if_true, awake_tot K m8, Option.bind_some]
    | some q' =>
      simp only [stepR, Option.isSome_some, bne_self_eq_false, Bool.false_eq_true, if_false, if_true]
      exact ih (i + 1) q' K h3 h1' (hgn.trans hn) n9
theorem WordSteps : graftwoodlaw06_WordSteps.Pure := by
  intro a0 a1 h0 h1
  obtain ⟨s, hs, hsl⟩ := Few_tot a1
  obtain ⟨k, hk, hm⟩ := mod3 a0 h0
  obtain ⟨K, hK⟩ : ∃ K, K = 1000 := ⟨_, rfl⟩
  have hl : 2 * (bs s).length + 500 < K := by rw [bs_length]; omega
  clear hK
  refine ⟨K, ?_⟩
  unfold graftwoodlaw06_WordSteps.f
  rw [hs, hm]
  simp only [Option.bind_some]
  exact Steps_l0 k hk s hsl (bs s) 0 0 K rfl (Nat.zero_le _) rfl hl

end Go.Proofs.Ytbkcjgjcnnggbaa.Pure
