/- Part 7 of this claim: several texts one behind the other: NMinus. What each shows stands in its theorems; conditions: sizes of texts and lists, as the functions' definitions say. -/
import Derived.Test.YtnknjhdpjjddeaaDoorMNodeStays3
import Derived.Test.YtnknjhdpjjddeaaDoorMNodeStays0
import Derived.Test.YtnknjhdpjjddeaaDoorMNodeStays4
import Derived.Test.YtnknjhdpjjddeaaDoorMNodeStays5
section
namespace Go.Proofs.YtnknjhdpjjddeaaDoor.Q
open Go.Proofs.YtnknjhdpjjddeaaDoor.QB.D
open Go Go.RowKit Go.Maps Go.Lib Go.Proofs.YtnknjhdpjjddeaaDoorW.PrintWords Go.Proofs.YtnknjhdpjjddeaaDoorW.PrintLast Go.Proofs.YtnknjhdpjjddeaaDoorW.PrintMore Gw
set_option linter.unusedVariables false
set_option linter.unusedSimpArgs false
/-- What of a list's first i nodes is not in another one. -/
def lessN (l m : List S23) (i : Nat) : List S23 := (l.take i).filter (fun x => !decide (x ∈ m))
theorem lessN_succ (l m : List S23) (i : Nat) (hi : i < l.length) : lessN l m (i + 1) = if l[i] ∈ m then lessN l m i else lessN l m i ++ [l[i]] := by
  unfold lessN
  rw [List.take_succ_eq_append_getElem hi, List.filter_append]
  by_cases h : l[i] ∈ m
  · rw [if_pos h]; simp [h]
  · rw [if_neg h]; simp [h]
theorem lessN_len (l m : List S23) (i : Nat) : (lessN l m i).length ≤ i := Nat.le_trans (List.length_filter_le _ _) (by rw [List.length_take]; omega)
set_option maxHeartbeats 4000000 in
set_option maxRecDepth 100000 in
theorem nminus_go (A0 : Option Addr) (c0 : Nat) (l0 : List S23) (A1 : Option Addr) (c1 : Nat) (l1 : List S23) (w : World) (hr0 : Kd.C k23 w A0 l0.length l0) (hr1 : Kd.C k23 w A1 l1.length l1) (hc0 : l0.length ≤ c0) (hc1 : l1.length ≤ c1)
    (hl0 : l0.length ≤ 4294967296) (hl1 : l1.length ≤ 4294967296) (ht0 : ∀ x ∈ l0, TinyN x) (ht1 : ∀ x ∈ l1, TinyN x) (hk0 : checkN l0 = true) (hk1 : checkN l1 = true) :
    Calls Tryd.prog 19 #[.slice A0 l0.length c0, .slice A1 l1.length c1] w fun e w' => ∃ v, e = .returned (.tuple #[v, .int .i64 0]) ∧ Kd.R k23 23 w' w.heap.size (fun _ => True) v (lessN l0 l1 l0.length) ∧ Below w.heap.size w w' := by
  have hu23 := Tryd.underlying23
  have hmm := @run_makeMap Tryd.prog
  have HR0 := Aside0.mk hr0
  have HR1 := Aside0.mk hr1
  have HT0 := Aside0.mk ht0
  have HT1 := Aside0.mk ht1
  have e0 := check_val l0 hl0 ht0 8589934600 (Nat.le_refl _)
  have e1 := check_val l1 hl1 ht1 8589934600 (Nat.le_refl _)
  rw [hk0] at e0
  rw [hk1] at e1
  have q0 : (l0.length : Int) ≤ 4294967296 := by omega
  have q1 : (l1.length : Int) ≤ 4294967296 := by omega
  have CK0 := fun (W : World) (h : Kd.C k23 W A0 l0.length l0) => node_Check.calls 8589934600 A0 c0 l0 0 W h hc0 e0
  have CK1 := fun (W : World) (h : Kd.C k23 W A1 l1.length l1) => node_Check.calls 8589934600 A1 c1 l1 0 W h hc1 e1
  clear hr0 hr1 ht0 ht1 e0 e1
  go_enter Tryd.func19, Tryd.ntmps19
  go_wp2_with fail
  refine (CK0 _ HR0.out).mono ?_
  rintro e w1 ⟨rfl, hb1⟩
  go_wp2_with fail
  refine (CK1 _ (Kd.C_below HR1.out hb1)).mono ?_
  rintro e w2 ⟨rfl, hb2⟩
  have HB2 : Aside0 (Below w.heap.size w w2) := ⟨hb1.trans (hb2.mono hb1.size)⟩
  have hz2 : w.heap.size ≤ w2.heap.size := HB2.out.size
  clear hb1 hb2 CK0 CK1
  go_wp2_with fail
  go_loopw [25] (fun v25 wr => ∃ i : Nat, i ≤ l1.length ∧ v25 = .int .i64 (i : Int) ∧ (∃ D, Aside0 (wr.ownsMap Tryd.prog 23 unitElem w2.heap.size i D) ∧ Aside0 (Met D (l1.take i))) ∧ Aside0 (Below w2.heap.size w2 wr) ∧ w2.heap.size + 1 ≤ wr.heap.size) (fun v25 _ => l1.length - (RowKit.intOf v25).toNat)
  case atStart => exact ⟨0, Nat.zero_le _, rfl, ⟨_, ⟨World.ownsMap_made _ _ _ _⟩, ⟨Met.none⟩⟩, ⟨below_alloc (Below.refl _ _) _⟩, by simp⟩
  case round =>
    obtain ⟨i, hi, rfl, ⟨D, HM, HD⟩, HB, hws⟩ := hrel
    have HBw : Aside0 (Below w.heap.size w wr) := ⟨HB2.out.trans (HB.out.mono HB2.out.size)⟩
    by_cases hil : i < l1.length
    · have j1 : (i : Int) < (l1.length : Int) := by omega
      have hdi : decide ((i : Int) < (l1.length : Int)) = true := decide_eq_true j1
      obtain ⟨x, hx⟩ : ∃ x, x = l1[i] := ⟨_, rfl⟩
      have hmem : x ∈ l1 := by rw [hx]; exact List.getElem_mem hil
      obtain ⟨ad, e0, hx0, hx1⟩ := at_T23 HR1.out (i : Int) (by omega) (by omega)
      have hrd : rd_T23 l1 (i : Int) = x := by rw [hx]; simp [rd_T23, List.getD_eq_getElem?_getD, List.getElem?_eq_getElem hil]
      rw [hrd, Int.toNat_natCast] at hx0 hx1
      cases e0
      replace hx0 := (HBw.out.cell (World.block_lt_of_cell? w _ hx0)).trans hx0
      replace hx1 := (HBw.out.cell (World.block_lt_of_cell? w _ hx1)).trans hx1
      have htx := HT1.out x hmem
      have hnx : NS x := by unfold TinyN Tiny at htx; unfold NS maxLen; omega
      have hkey := keyOf_node x hnx.1 hnx.2
      have htk : l1.take (i + 1) = l1.take i ++ [x] := by rw [hx]; exact List.take_succ_eq_append_getElem hil
      have HTK := Aside0.mk htk
      clear hx hrd htk hmem htx
      go_wp2_with (first
        | (at_mapUpdate; refine wpList_mapUpdate_own _ rfl _ _ _ 54 rfl 23 55 law_node Tryd.underlying54 (unitElem (H := Unit)) w2.heap.size i _ rfl (HM.out.alloc (.cells #[.string x.f0, .string x.f1] 23 (0, 0))) (by unfold maxLen; omega) _ _ _ rfl rfl hkey _ [] unitElem_mk ?_; intro w8 hown8 hgrow8)
        | fail)
      have HB8 := Aside0.mk (pw_below_grown (below_alloc HB.out (.cells #[.string x.f0, .string x.f1] 23 (0, 0))) _ (by simp; omega) hgrow8 (fun j hj => by cases hj; exact Nat.le_refl _))
      have hz8 := hgrow8.size
      go_roundw
      case rel => exact ⟨i + 1, by omega, by go_num, ⟨_, ⟨hown8⟩, ⟨HD.out.put x hnx _ (fun y => by rw [HTK.out, List.mem_append, List.mem_singleton]; exact Or.comm)⟩⟩, HB8, by simp at hz8; omega⟩
      case measure => simp [RowKit.intOf]; omega
    · obtain rfl : i = l1.length := by omega
      have hdi : decide ((l1.length : Int) < (l1.length : Int)) = false := decide_eq_false (by omega)
      have hmet := HD.out
      rw [List.take_length] at hmet
      have HMET := Aside0.mk hmet
      clear hmet HD
      go_wp2_with fail
      have hwr := HB.out.size
      go_loopw [9, 35] (fun v9 v35 wr => ∃ i : Nat, i ≤ l0.length ∧ v35 = .int .i64 (i : Int) ∧ Aside0 (wr.ownsMap Tryd.prog 23 unitElem w2.heap.size l1.length D) ∧ Aside0 (Kd.R k23 23 wr w.heap.size (fun j => j ≠ w2.heap.size) v9 (lessN l0 l1 i)) ∧ Aside0 (Below w.heap.size w wr) ∧ w2.heap.size + 1 ≤ wr.heap.size) (fun _ v35 _ => l0.length - (RowKit.intOf v35).toNat)
      case atStart => exact ⟨0, Nat.zero_le _, rfl, HM, ⟨Kd.R_nil _ _ _ _ _⟩, HBw, hws⟩
      case round =>
        clear HM HBw HB hws hwr
        obtain ⟨i, hi, rfl, HM5, HO5, HB5, hws⟩ := hrel
        by_cases hil : i < l0.length
        · have j1 : (i : Int) < (l0.length : Int) := by omega
          have hdi : decide ((i : Int) < (l0.length : Int)) = true := decide_eq_true j1
          obtain ⟨x, hx⟩ : ∃ x, x = l0[i] := ⟨_, rfl⟩
          have hmem : x ∈ l0 := by rw [hx]; exact List.getElem_mem hil
          obtain ⟨ad, e0, hx0, hx1⟩ := at_T23 HR0.out (i : Int) (by omega) (by omega)
          have hrd : rd_T23 l0 (i : Int) = x := by rw [hx]; simp [rd_T23, List.getD_eq_getElem?_getD, List.getElem?_eq_getElem hil]
          rw [hrd, Int.toNat_natCast] at hx0 hx1
          cases e0
          replace hx0 := (HB5.out.cell (World.block_lt_of_cell? w _ hx0)).trans hx0
          replace hx1 := (HB5.out.cell (World.block_lt_of_cell? w _ hx1)).trans hx1
          have htx := HT0.out x hmem
          have hnx : NS x := by unfold TinyN Tiny at htx; unfold NS maxLen; omega
          have hkey := keyOf_node x hnx.1 hnx.2
          have hhas := HMET.out.has x hnx
          have hls := lessN_succ l0 l1 i hil
          rw [← hx] at hls
          have HLS := Aside0.mk hls
          have HHAS := Aside0.mk hhas
          have hva : some w2.heap.size ≠ u9.ownBlock := Kd.R_away HO5.out (fun j hj => hj)
          have HVA := Aside0.mk hva
          have LEN := Aside0.mk (lessN_len l0 l1 i)
          obtain ⟨bh, hbh⟩ : ∃ b, b = Maps.has D (nkey x) := ⟨_, rfl⟩
          have HBH := Aside0.mk hbh
          clear hx hrd hmem htx hhas hls hva hbh
          replace HM5 := Aside0.mk (HM5.out.alloc (.cells #[.string x.f0, .string x.f1] 23 (0, 0)))
          replace HO5 := Aside0.mk (Kd.R_alloc HO5.out (.cells #[.string x.f0, .string x.f1] 23 (0, 0)))
          replace HB5 := Aside0.mk (below_alloc HB5.out (.cells #[.string x.f0, .string x.f1] 23 (0, 0)))
          cases bh
          · have hnew : x ∉ l1 := by
              have h := HHAS.out
              rw [← HBH.out] at h
              exact of_decide_eq_false h.symm
            have HDN : Aside0 (lessN l0 l1 (i + 1) = lessN l0 l1 i ++ [x]) := ⟨by rw [HLS.out, if_neg hnew]⟩
            clear hnew
            go_wp2_with (first
              | (at_lookup; refine wpList_lookup_own_unit _ rfl _ _ 54 rfl 23 55 law_node Tryd.underlying54 (zero_unit _) w2.heap.size l1.length _ rfl HM5.out _ _ rfl hkey ?_; rw [← HBH.out])
              | ((with_reducible refine gate_dst (N := 12) rfl ?_); refine box_event ?hg (N := 12) ?hd (cs := #[]) (t := 55) ?hr ?_; (case hd => rfl); (case hg => rfl); (case hr => first | (go_simp; done) | (go_simp; rfl)); intro gb hg w6 hbox hb6; have n0_6 : w6.cell? ⟨wr.heap.size, 0, none⟩ = some (.string x.f0) := (hb6.cell (p := ⟨wr.heap.size, 0, none⟩) (by simp)).trans (by simp [go_sem]); have n1_6 : w6.cell? ⟨wr.heap.size, 1, none⟩ = some (.string x.f1) := (hb6.cell (p := ⟨wr.heap.size, 1, none⟩) (by simp)).trans (by simp [go_sem]); have HM6 := Aside0.mk (HM5.out.kept (grown_of_below hb6 none) (by simp)); have HO6 := Aside0.mk (Kd.R_below HO5.out hb6); have HB6 := Aside0.mk (below_step HB5.out hb6); have hz6 : wr.heap.size + 1 ≤ w6.heap.size := (by have := hb6.size; simp at this; omega); clear hb6 hg hbox)
              | ((with_reducible refine gate_builtin (b := .append) (xs := #[.tmp 47, .tmp 49]) rfl ?_); at_builtin; refine Kd.R_append k23 (w0 := w) w.heap.size rfl (.tmp 47) (.tmp 49) 37 23 (.agg #[(.string ⟨#[]⟩), (.string ⟨#[]⟩)]) 32 rfl Tryd.underlying37 info23 rfl (by decide) (by omega) u9 (lessN l0 l1 i) x [.string x.f0, .string x.f1] (fun j => j ≠ w2.heap.size) (fun _ => False) rfl rfl ?aP (fun _ hk => hk.elim) ?aF ?aO ?aB ?aS ?aL ?_; (case aP => exact k23_mkM _ _ _ x); (case aB => exact HB6.out); (case aF => exact (fun j hj => by omega)); (case aO => exact HO6.out); (case aS => exact HB6.out.size); (case aL => have := LEN.out; omega); intro v7 w7 ho7 hb7 hg7 hat7; have HM7 := Aside0.mk (HM6.out.kept hg7 HVA.out); have HO7 := Aside0.mk ho7; have HB7 := Aside0.mk hb7; have hz7 := hg7.size; clear ho7 hb7 hg7 hat7)
              | fail)
            go_roundw
            case rel => exact ⟨i + 1, by omega, by go_num, HM7, ⟨by rw [HDN.out]; exact HO7.out⟩, HB7, by omega⟩
            case measure => simp [RowKit.intOf]; omega
          · have hold : x ∈ l1 := by
              have h := HHAS.out
              rw [← HBH.out] at h
              exact of_decide_eq_true h.symm
            have HDN : Aside0 (lessN l0 l1 (i + 1) = lessN l0 l1 i) := ⟨by rw [HLS.out, if_pos hold]⟩
            clear hold
            go_wp2_with (first
              | (at_lookup; refine wpList_lookup_own_unit _ rfl _ _ 54 rfl 23 55 law_node Tryd.underlying54 (zero_unit _) w2.heap.size l1.length _ rfl HM5.out _ _ rfl hkey ?_; rw [← HBH.out])
              | ((with_reducible refine gate_dst (N := 12) rfl ?_); refine box_event ?hg (N := 12) ?hd (cs := #[]) (t := 55) ?hr ?_; (case hd => rfl); (case hg => rfl); (case hr => first | (go_simp; done) | (go_simp; rfl)); intro gb hg w6 hbox hb6; have n0_6 : w6.cell? ⟨wr.heap.size, 0, none⟩ = some (.string x.f0) := (hb6.cell (p := ⟨wr.heap.size, 0, none⟩) (by simp)).trans (by simp [go_sem]); have n1_6 : w6.cell? ⟨wr.heap.size, 1, none⟩ = some (.string x.f1) := (hb6.cell (p := ⟨wr.heap.size, 1, none⟩) (by simp)).trans (by simp [go_sem]); have HM6 := Aside0.mk (HM5.out.kept (grown_of_below hb6 none) (by simp)); have HO6 := Aside0.mk (Kd.R_below HO5.out hb6); have HB6 := Aside0.mk (below_step HB5.out hb6); have hz6 : wr.heap.size + 1 ≤ w6.heap.size := (by have := hb6.size; simp at this; omega); clear hb6 hg hbox)
              | fail)
            go_roundw
            case rel => exact ⟨i + 1, by omega, by go_num, HM6, ⟨by rw [HDN.out]; exact HO6.out⟩, HB6, by omega⟩
            case measure => simp [RowKit.intOf]; omega
        · obtain rfl : i = l0.length := by omega
          have hdi : decide ((l0.length : Int) < (l0.length : Int)) = false := decide_eq_false (by omega)
          go_wp2
          go_ret2
          exact ⟨_, rfl, Kd.R_mono HO5.out (fun _ _ => trivial), HB5.out⟩
def node_Minus.f (l m : List S23) : Option (List S23 × Int) := if l.length ≤ 4294967296 ∧ m.length ≤ 4294967296 ∧ (∀ x ∈ l, TinyN x) ∧ (∀ x ∈ m, TinyN x) then some (if checkN l = true ∧ checkN m = true then (l.filter (fun x => !decide (x ∈ m)), 0) else ([], 1)) else none
set_option maxHeartbeats 4000000 in
set_option maxRecDepth 100000 in
theorem nminus_err (A0 : Option Addr) (c0 : Nat) (l0 : List S23) (A1 : Option Addr) (c1 : Nat) (l1 : List S23) (w : World) (hr0 : Kd.C k23 w A0 l0.length l0) (hr1 : Kd.C k23 w A1 l1.length l1) (hc0 : l0.length ≤ c0) (hc1 : l1.length ≤ c1)
    (hl0 : l0.length ≤ 4294967296) (hl1 : l1.length ≤ 4294967296) (ht0 : ∀ x ∈ l0, TinyN x) (ht1 : ∀ x ∈ l1, TinyN x) (hk : ¬ (checkN l0 = true ∧ checkN l1 = true)) :
    Calls Tryd.prog 19 #[.slice A0 l0.length c0, .slice A1 l1.length c1] w fun e w' => e = .returned (.tuple #[.slice none 0 0, .int .i64 1]) ∧ Below w.heap.size w w' := by
  have HR1 := Aside0.mk hr1
  have e0 := check_val l0 hl0 ht0 8589934600 (Nat.le_refl _)
  have e1 := check_val l1 hl1 ht1 8589934600 (Nat.le_refl _)
  by_cases h0 : checkN l0 = true
  · have h1 : checkN l1 = false := by
      cases h : checkN l1
      · rfl
      · exact absurd ⟨h0, h⟩ hk
    rw [h0] at e0
    rw [h1] at e1
    have CK0 := fun (W : World) (h : Kd.C k23 W A0 l0.length l0) => node_Check.calls 8589934600 A0 c0 l0 0 W h hc0 e0
    have CK1 := fun (W : World) (h : Kd.C k23 W A1 l1.length l1) => node_Check.calls 8589934600 A1 c1 l1 1 W h hc1 e1
    clear e0 e1 h0 h1 hk ht0 ht1
    go_enter Tryd.func19, Tryd.ntmps19
    go_wp2_with fail
    refine (CK0 _ hr0).mono ?_
    rintro e w1 ⟨rfl, hb1⟩
    go_wp2_with fail
    refine (CK1 _ (Kd.C_below HR1.out hb1)).mono ?_
    rintro e w2 ⟨rfl, hb2⟩
    have HB2 : Aside0 (Below w.heap.size w w2) := ⟨hb1.trans (hb2.mono hb1.size)⟩
    clear hb1 hb2 CK0 CK1
    go_wp2
    go_ret2
    exact ⟨rfl, HB2.out⟩
  · rw [Bool.not_eq_true] at h0
    rw [h0] at e0
    have CK0 := fun (W : World) (h : Kd.C k23 W A0 l0.length l0) => node_Check.calls 8589934600 A0 c0 l0 1 W h hc0 e0
    clear e0 e1 h0 hk ht0 ht1
    go_enter Tryd.func19, Tryd.ntmps19
    go_wp2_with fail
    refine (CK0 _ hr0).mono ?_
    rintro e w1 ⟨rfl, hb1⟩
    have HB2 := Aside0.mk hb1
    clear hb1 CK0
    go_wp2
    go_ret2
    exact ⟨rfl, HB2.out⟩
theorem node_Minus.calls (A0 : Option Addr) (c0 : Nat) (l0 : List S23) (A1 : Option Addr) (c1 : Nat) (l1 : List S23) (r1 : List S23) (r2 : Int) (w : World) (hr0 : Kd.C k23 w A0 l0.length l0) (hc0 : l0.length ≤ c0) (hr1 : Kd.C k23 w A1 l1.length l1) (hc1 : l1.length ≤ c1) (h : node_Minus.f l0 l1 = some (r1, r2)) :
    Calls Tryd.prog 19 #[.slice A0 l0.length c0, .slice A1 l1.length c1] w fun e w' => ∃ v, e = .returned (.tuple #[v, .int .i64 r2]) ∧ Kd.R k23 23 w' w.heap.size (fun _ => True) v r1 ∧ Below w.heap.size w w' := by
  unfold node_Minus.f at h
  split at h
  case isFalse => cases h
  case isTrue hc =>
    obtain ⟨hl0, hl1, ht0, ht1⟩ := hc
    by_cases hk : checkN l0 = true ∧ checkN l1 = true
    · rw [if_pos hk, Option.some.injEq, Prod.mk.injEq] at h
      obtain ⟨rfl, rfl⟩ := h
      have := nminus_go A0 c0 l0 A1 c1 l1 w hr0 hr1 hc0 hc1 hl0 hl1 ht0 ht1 hk.1 hk.2
      unfold lessN at this
      rw [List.take_length] at this
      exact this
    · rw [if_neg hk, Option.some.injEq, Prod.mk.injEq] at h
      obtain ⟨rfl, rfl⟩ := h
      refine (nminus_err A0 c0 l0 A1 c1 l1 w hr0 hr1 hc0 hc1 hl0 hl1 ht0 ht1 hk).mono ?_
      rintro e w' ⟨rfl, hb⟩
      exact ⟨_, rfl, Kd.R_nil _ _ _ _ _, hb⟩
end Go.Proofs.YtnknjhdpjjddeaaDoor.Q
end
