/- Part 8 of this claim: several texts one behind the other: FConcat, FBoth, ECells, ELit, FTurn, FdiffCount, PDiff, Aw13, R13Same, DVal, PEdit, C13, LFewE, Split. What each shows stands in its theorems; conditions: sizes of texts and lists, as the functions' definitions say. -/
import Derived.Test.YtcfphieogalnbaaGreatDoorMDiffEdits0
import Derived.Test.YtcfphieogalnbaaGreatDoorMDiffEdits7
import Derived.Test.YtcfphieogalnbaaGreatDoorMDiffEdits6
import Derived.Laws.CopyRow
import Derived.Laws.CopyOwn
import Derived.Lib.SlBuf
import Derived.Test.YtcfphieogalnbaaGreatDoorMDiffEdits2
import Derived.Test.YtcfphieogalnbaaGreatDoorMDiffEdits3
import Derived.Test.YtcfphieogalnbaaGreatDoorMDiffEdits1
import Derived.RegionTactic
import Derived.BigRegion
import Derived.ChangeAlike
section
namespace Go.Proofs.YtcfphieogalnbaaGreatDoor.Q
open Go.Proofs.YtcfphieogalnbaaGreatDoor.QB.D
open Go Go.RowKit Go.Maps Go.Lib Go.Proofs.YtcfphieogalnbaaGreatDoorW.PrintWords Go.Proofs.YtcfphieogalnbaaGreatDoorW.PrintLast Go.Proofs.YtcfphieogalnbaaGreatDoorW.PrintMore Gw
set_option linter.unusedVariables false
set_option linter.unusedSimpArgs false
set_option maxHeartbeats 4000000 in
set_option maxRecDepth 100000 in
theorem growE_calls (n : Nat) (hn : n ≤ 4294967296) (w : World) :
    Calls Tryz.prog 40 #[.slice none 0 0, .int .i64 (n : Int)] w fun e w' => ∃ v, e = .returned v ∧ Kd.R k35 35 w' w.heap.size (fun _ => True) v ([] : List S35) ∧ Below w.heap.size w w' := by
  have hwr : IntKind.i64.wrap (n : Int) = (n : Int) := by rw [IntKind.wrap_i64]; omega
  have hd0 : decide ((n : Int) < 0) = false := decide_eq_false (by omega)
  have HB0 := Aside0.mk (Below.refl w.heap.size w)
  by_cases h0 : n = 0
  · subst h0
    clear hwr hd0
    go_enter Tryz.func40, Tryz.ntmps40
    go_wp2
    go_ret
    exact ⟨_, rfl, Kd.R_nil _ _ _ _ _, HB0.out⟩
  · have hp1 : decide ((n : Int) > 0) = true := decide_eq_true (by omega)
    have hp2 : decide ((0 : Int) < (n : Int)) = true := decide_eq_true (by omega)
    have HO0 := Aside0.mk (Kd.R_nil k35 35 w w.heap.size (fun _ => True))
    go_enter Tryz.func40, Tryz.ntmps40
    go_wp2_with (first
      | ((with_reducible refine gate_builtin (b := .append) (xs := #[.tmp 20, .tmp 21]) rfl ?_); at_builtin; refine Kd.R_append_zeros k35 (w0 := w) w.heap.size rfl (.tmp 20) (.tmp 21) 27 3 35 (.agg #[(.string ⟨#[]⟩), (.string ⟨#[]⟩), (.int .i64 0)]) 40 rfl Tryz.underlying27 Tryz.underlying3 info35 rfl (by decide) (by omega) (.slice none 0 0) [] ⟨⟨⟨#[]⟩, ⟨#[]⟩⟩, 0⟩ (n : Int) (fun _ => True) rfl rfl ?aP (fun _ _ => trivial) ?aO ?aN ?aB ?aS ?aL ?_; (case aP => exact k35_mkM _ _ _ ⟨⟨⟨#[]⟩, ⟨#[]⟩⟩, 0⟩); (case aB => exact HB0.out); (case aN => omega); (case aO => exact HO0.out); (case aS => exact Nat.le_refl _); (case aL => simp; omega); intro v9 w9 ho9 hb9 hg9 hat9; obtain ⟨gg, gc, hvv, _, _, _⟩ := Kd.R_form ho9 (by simp; omega); subst hvv; have HO9 := Aside0.mk (Kd.R_take ho9 (Nat.zero_le _)); have HB9 := Aside0.mk hb9; clear ho9 hb9 hg9 hat9)
      | fail)
    go_wp2
    go_ret
    exact ⟨_, rfl, HO9.out, HB9.out⟩
set_option maxHeartbeats 8000000 in
set_option maxRecDepth 100000 in
theorem concatE_calls (B : Nat) (A0 : Option Addr) (c0 : Nat) (l0 : List S35) (A1 : Option Addr) (c1 : Nat) (l1 : List S35) (w : World) (hr0 : Kd.C k35 w A0 l0.length l0) (hr1 : Kd.C k35 w A1 l1.length l1)
    (hl0 : l0.length ≤ 65536) (hl1 : l1.length ≤ 65536) (hB : B < w.heap.size) (g0 : w.cell? ⟨B, 0, none⟩ = some (.slice A0 l0.length c0)) (g1 : w.cell? ⟨B, 1, none⟩ = some (.slice A1 l1.length c1)) :
    Calls Tryz.prog 29 #[.slice (some ⟨B, 0, none⟩) 2 2] w fun e w' => ∃ v, e = .returned v ∧ Kd.R k35 35 w' w.heap.size (fun _ => True) v (l0 ++ l1) ∧ Below w.heap.size w w' := by
  have HR0 := Aside0.mk hr0
  have HR1 := Aside0.mk hr1
  have HB0 := Aside0.mk (Below.refl w.heap.size w)
  have hw0 : IntKind.i64.wrap (l0.length : Int) = (l0.length : Int) := by rw [IntKind.wrap_i64]; omega
  have hw1 : IntKind.i64.wrap ((l0.length : Int) + (l1.length : Int)) = (l0.length : Int) + (l1.length : Int) := by rw [IntKind.wrap_i64]; omega
  have hd0 : decide ((l0.length : Int) < 0) = false := decide_eq_false (by omega)
  have hd1 : decide ((l0.length : Int) + (l1.length : Int) < 0) = false := decide_eq_false (by omega)
  have CG := fun (W : World) => growE_calls (l0.length + l1.length) (by omega) W
  have G0 := Aside0.mk g0
  have G1 := Aside0.mk g1
  clear hr0 hr1
  go_enter Tryz.func29, Tryz.ntmps29
  go_wp2_with fail
  go_loopw [3, 11] (fun v3 v11 wr => ((v11 = .int .i64 0 ∧ v3 = .int .i64 0) ∨ (v11 = .int .i64 1 ∧ v3 = .int .i64 (l0.length : Int)) ∨ (v11 = .int .i64 2 ∧ v3 = .int .i64 ((l0.length : Int) + (l1.length : Int)))) ∧ Aside0 (wr = w)) (fun _ v11 _ => 2 - (RowKit.intOf v11).toNat)
  case atStart => exact ⟨Or.inl ⟨rfl, rfl⟩, ⟨rfl⟩⟩
  case round =>
    obtain ⟨hcase, HW⟩ := hrel
    have hw := HW.out.symm
    subst hw
    clear HW
    rcases hcase with ⟨rfl, rfl⟩ | ⟨rfl, rfl⟩ | ⟨rfl, rfl⟩
    · clear CG hw1 hd1
      go_wp2
      go_roundw
      case rel => exact ⟨Or.inr (Or.inl ⟨rfl, rfl⟩), ⟨trivial⟩⟩
      case measure => simp [RowKit.intOf]
    · clear CG
      go_wp2
      go_roundw
      case rel => exact ⟨Or.inr (Or.inr ⟨rfl, rfl⟩), ⟨trivial⟩⟩
      case measure => simp [RowKit.intOf]
    · clear hw0 hw1 hd0 hd1
      go_wp2_with fail
      refine (CG _).mono ?_
      rintro e w2 ⟨v, rfl, hR, hb⟩
      have HB2 := Aside0.mk hb
      have HO2 := Aside0.mk hR
      have q0 := (hb.cell hB).trans G0.out
      have q1 := (hb.cell hB).trans G1.out
      clear hR hb CG g0 g1
      go_wp2_with fail
      go_loopw [6, 27] (fun v6 v27 wr => ∃ i : Nat, i ≤ 2 ∧ v27 = .int .i64 (i : Int) ∧ Aside0 (Kd.R k35 35 wr w.heap.size (fun _ => True) v6 (([l0, l1].take i).flatten)) ∧ Aside0 (Below w.heap.size w wr)) (fun _ v27 _ => 2 - (RowKit.intOf v27).toNat)
      case atStart => exact ⟨0, by omega, rfl, HO2, HB2⟩
      case round =>
        clear HO2 HB2 q0 q1
        obtain ⟨i, hi, rfl, HO, HB⟩ := hrel
        have q0 := (HB.out.cell hB).trans G0.out
        have q1 := (HB.out.cell hB).trans G1.out
        obtain rfl | rfl | rfl : i = 0 ∨ i = 1 ∨ i = 2 := by omega
        · go_wp2_with (first
            | ((with_reducible refine gate_builtin (b := .append) (xs := #[.tmp 31, .tmp 32]) rfl ?_); at_builtin; refine Kd.R_append_rows k35 (w0 := w) w.heap.size rfl (.tmp 31) (.tmp 32) 27 35 (.agg #[(.string ⟨#[]⟩), (.string ⟨#[]⟩), (.int .i64 0)]) 40 rfl Tryz.underlying27 info35 rfl (by decide) (by omega) u6 [] l0 _ _ _ (fun _ => True) (fun _ => False) rfl rfl ?aO ?aR (fun _ _ h => h) (fun _ h => h.elim) ?aF ?aB ?aS ?aL ?_; (case aR => exact Kd.C_below HR0.out HB.out); (case aB => exact HB.out); (case aF => exact (fun _ _ => trivial)); (case aO => exact HO.out); (case aS => exact HB.out.size); (case aL => simp; omega); intro v7 w7 ho7 hb7 hg7 hat7; have HO7 := Aside0.mk ho7; have HB7 := Aside0.mk hb7; clear ho7 hb7 hg7 hat7)
            | fail)
          go_roundw
          case rel => exact ⟨1, by omega, by go_num, ⟨by simpa using HO7.out⟩, HB7⟩
          case measure => simp [RowKit.intOf]
        · go_wp2_with (first
            | ((with_reducible refine gate_builtin (b := .append) (xs := #[.tmp 31, .tmp 32]) rfl ?_); at_builtin; refine Kd.R_append_rows k35 (w0 := w) w.heap.size rfl (.tmp 31) (.tmp 32) 27 35 (.agg #[(.string ⟨#[]⟩), (.string ⟨#[]⟩), (.int .i64 0)]) 40 rfl Tryz.underlying27 info35 rfl (by decide) (by omega) u6 l0 l1 _ _ _ (fun _ => True) (fun _ => False) rfl rfl ?aO ?aR (fun _ _ h => h) (fun _ h => h.elim) ?aF ?aB ?aS ?aL ?_; (case aR => exact Kd.C_below HR1.out HB.out); (case aB => exact HB.out); (case aF => exact (fun _ _ => trivial)); (case aO => simpa using HO.out); (case aS => exact HB.out.size); (case aL => omega); intro v7 w7 ho7 hb7 hg7 hat7; have HO7 := Aside0.mk ho7; have HB7 := Aside0.mk hb7; clear ho7 hb7 hg7 hat7)
            | fail)
          go_roundw
          case rel => exact ⟨2, by omega, by go_num, ⟨by simpa using HO7.out⟩, HB7⟩
          case measure => simp [RowKit.intOf]
        · go_wp2
          go_ret
          exact ⟨_, rfl, by simpa using HO.out, HB.out⟩
/-- All edits counted. -/
def countE (m : List (S24 × Int)) (l : List S35) : List (S24 × Int) := l.foldl (fun m x => bumpC m x.f0 x.f1) m
theorem countE_take (m : List (S24 × Int)) (l : List S35) (i : Nat) (h : i < l.length) : countE m (l.take (i + 1)) = bumpC (countE m (l.take i)) l[i].f0 l[i].f1 := by
  unfold countE
  rw [List.take_succ_eq_append_getElem h, List.foldl_append]
  rfl
theorem countE_ok {p : S24 → Prop} : ∀ (l : List S35) (m : List (S24 × Int)) (n : Nat), (m.map (·.1)).Nodup ∧ (∀ q ∈ m, p q.1) ∧ m.length ≤ n → (∀ x ∈ l, p x.f0) →
    ((countE m l).map (·.1)).Nodup ∧ (∀ q ∈ countE m l, p q.1) ∧ (countE m l).length ≤ n + l.length
  | [], m, n, h, _ => h
  | x :: r, m, n, h, hl => by
    have := countE_ok (p := p) r (bumpC m x.f0 x.f1) (n + 1) (bumpC_ok h x.f0 (hl x (.head _)) x.f1) (fun y hy => hl y (.tail _ hy))
    rw [List.length_cons]
    exact ⟨this.1, this.2.1, by have := this.2.2; unfold countE at this ⊢; rw [List.foldl_cons]; omega⟩
/-- Two edits together. -/
def bothV (a b : List S35) : List S35 := editsF (countE [] (a ++ b)) (sortN ((countE [] (a ++ b)).map (·.1)))
theorem bothC_ok (a b : List S35) (ha : a.length ≤ 32768) (hb : b.length ≤ 32768) (ta : ∀ x ∈ a, TinyN x.f0 ∧ mayN x.f0 = true) (tb : ∀ x ∈ b, TinyN x.f0 ∧ mayN x.f0 = true) : CntOk (countE [] (a ++ b)) := by
  have h1 := countE_ok (p := fun x => TinyN x ∧ mayN x = true) (a ++ b) [] 0 ⟨List.nodup_nil, fun q h => (by cases h), Nat.le_refl _⟩ (fun x hx => by rcases List.mem_append.1 hx with h | h; exact ta x h; exact tb x h)
  exact ⟨h1.1, h1.2.1, by have := h1.2.2; rw [List.length_append] at this; omega⟩
theorem bothV_tiny {m : List (S24 × Int)} (h : CntOk m) : (∀ x ∈ editsF m (sortN (m.map (·.1))), TinyN x.f0) ∧ (editsF m (sortN (m.map (·.1)))).length ≤ 65536 := by
  refine ⟨fun x hx => ?_, Nat.le_trans (editsF_len _ _) (by rw [(sortN_perm _).length_eq, List.length_map]; exact h.len)⟩
  unfold editsF at hx
  obtain ⟨n, hn, rfl⟩ := List.mem_map.1 hx
  obtain ⟨p, hp, rfl⟩ := List.mem_map.1 ((sortN_perm _).mem_iff.1 (List.mem_filter.1 hn).1)
  exact (h.may p hp).1
def diff_Both.f (a b : List S35) : Option (List S35 × Int) := if a.length ≤ 32768 ∧ b.length ≤ 32768 ∧ (∀ x ∈ a, TinyN x.f0) ∧ (∀ x ∈ b, TinyN x.f0) then some (if checkE a = true ∧ checkE b = true then (if checkE (bothV a b) = true then (bothV a b, 0) else ([], 4)) else ([], 1)) else none
theorem edE_ok {l : List S35} (ht : ∀ x ∈ l, TinyN x.f0) (h : checkE l = true) : ∀ x ∈ l, (TinyN x.f0 ∧ mayN x.f0 = true) ∧ -1099511627776 ≤ x.f1 ∧ x.f1 ≤ 1099511627776 := fun x hx => by
  have := (edE_iff x).1 (chkE_all l none h x hx)
  exact ⟨⟨ht x hx, this.1⟩, this.2.2.2, this.2.2.1⟩
set_option maxHeartbeats 8000000 in
set_option maxRecDepth 100000 in
theorem both_go (A0 : Option Addr) (c0 : Nat) (l0 : List S35) (A1 : Option Addr) (c1 : Nat) (l1 : List S35) (w : World) (hr0 : Kd.C k35 w A0 l0.length l0) (hr1 : Kd.C k35 w A1 l1.length l1) (hc0 : l0.length ≤ c0) (hc1 : l1.length ≤ c1)
    (hl0 : l0.length ≤ 32768) (hl1 : l1.length ≤ 32768) (ht0 : ∀ x ∈ l0, TinyN x.f0) (ht1 : ∀ x ∈ l1, TinyN x.f0) (rr : Int) (re : List S35)
    (hyes : checkE l0 = true → checkE l1 = true → checkE (bothV l0 l1) = true → rr = 0 ∧ re = bothV l0 l1) (hbig : checkE l0 = true → checkE l1 = true → checkE (bothV l0 l1) = false → rr = 4 ∧ re = []) (hno : (checkE l0 = false ∨ checkE l1 = false) → rr = 1 ∧ re = []) :
    Calls Tryz.prog 17 #[.slice A0 l0.length c0, .slice A1 l1.length c1] w fun e w' => ∃ v, e = .returned (.tuple #[v, .int .i64 rr]) ∧ Kd.R k35 35 w' w.heap.size (fun _ => True) v re ∧ Below w.heap.size w w' := by
  have hu24 := Tryz.underlying24
  have hu35 := Tryz.underlying35
  have hmm := @run_makeMap Tryz.prog
  have HYES := Aside0.mk hyes
  have HBIG := Aside0.mk hbig
  have HNO := Aside0.mk hno
  clear hyes hbig hno
  obtain ⟨K, hK⟩ : ∃ K, 65536 + 4294967320 ≤ K := ⟨_, Nat.le_refl _⟩
  have e0 := checkE_val l0 (by omega) ht0 K (by omega)
  have e1 := checkE_val l1 (by omega) ht1 K (by omega)
  have HR0 := Aside0.mk hr0
  have HR1 := Aside0.mk hr1
  have HT0 := Aside0.mk ht0
  have HT1 := Aside0.mk ht1
  obtain ⟨b0, hb0⟩ : ∃ b, b = checkE l0 := ⟨_, rfl⟩
  obtain ⟨b1, hb1⟩ : ∃ b, b = checkE l1 := ⟨_, rfl⟩
  rw [← hb0] at e0
  rw [← hb1] at e1
  have HE0 := Aside0.mk hb0
  have HE1 := Aside0.mk hb1
  have CK0 := diff_Check.calls K A0 c0 l0 _ w hr0 hc0 e0
  have CK1 := fun (W : World) (h : Kd.C k35 W A1 l1.length l1) => diff_Check.calls K A1 c1 l1 _ W h hc1 e1
  clear hr0 hr1 ht0 ht1 hb0 hb1 e0 e1
  cases b0
  · obtain ⟨rfl, rfl⟩ := HNO.out (Or.inl HE0.out.symm)
    clear HYES HNO HBIG CK1
    go_enter Tryz.func17, Tryz.ntmps17
    go_wp2_with fail
    refine CK0.mono ?_
    rintro e w1 ⟨rfl, hb1⟩
    have HB1 := Aside0.mk hb1
    clear hb1 CK0
    simp only [okV]
    go_wp2
    go_ret2
    exact ⟨_, rfl, Kd.R_nil _ _ _ _ _, HB1.out⟩
  · go_enter Tryz.func17, Tryz.ntmps17
    go_wp2_with fail
    refine CK0.mono ?_
    rintro e w1 ⟨rfl, hb1⟩
    have HB1 := Aside0.mk hb1
    have CK2 := CK1 w1 (Kd.C_below HR1.out hb1)
    clear hb1 CK0 CK1
    simp only [okV]
    cases b1
    · obtain ⟨rfl, rfl⟩ := HNO.out (Or.inr HE1.out.symm)
      clear HYES HNO HBIG
      go_wp2_with fail
      refine CK2.mono ?_
      rintro e w2 ⟨rfl, hb2⟩
      have HB2 : Aside0 (Below w.heap.size w w2) := ⟨HB1.out.trans (hb2.mono HB1.out.size)⟩
      clear hb2 CK2
      simp only [okV]
      go_wp2
      go_ret2
      exact ⟨_, rfl, Kd.R_nil _ _ _ _ _, HB2.out⟩
    · go_wp2_with fail
      refine CK2.mono ?_
      rintro e w2 ⟨rfl, hb2⟩
      have HB2 : Aside0 (Below w.heap.size w w2) := ⟨HB1.out.trans (hb2.mono HB1.out.size)⟩
      clear hb2 CK2 HB1
      simp only [okV]
      have CC := concatE_calls (w2.heap.size + 1) A0 c0 l0 A1 c1 l1 ((w2.alloc (.map #[] 0)).alloc (.cells #[.slice A0 l0.length c0, .slice A1 l1.length c1] 27 (0, 0))) (Kd.C_alloc (Kd.C_alloc (Kd.C_below HR0.out HB2.out) _) _) (Kd.C_alloc (Kd.C_alloc (Kd.C_below HR1.out HB2.out) _) _) (by omega) (by omega) (by simp) (by simp [go_sem]) (by simp [go_sem])
      have HB3 := Aside0.mk (below_alloc (below_alloc HB2.out (.map #[] 0)) (.cells #[.slice A0 l0.length c0, .slice A1 l1.length c1] 27 (0, 0)))
      have HM3 : Aside0 (((w2.alloc (.map #[] 0)).alloc (.cells #[.slice A0 l0.length c0, .slice A1 l1.length c1] 27 (0, 0))).ownsMap Tryz.prog 24 (plainElem (H := Unit) Tryz.prog 3) w2.heap.size 0 (.map [])) := ⟨(World.ownsMap_made _ _ _ _).alloc _⟩
      have hz2 := HB2.out.size
      go_wp2_with fail
      refine CC.mono ?_
      rintro e w4 ⟨v4, rfl, hR4, hb4⟩
      obtain ⟨L, hL⟩ : ∃ L, L = l0 ++ l1 := ⟨_, rfl⟩
      rw [← hL] at hR4
      have hLl : L.length ≤ 65536 := by rw [hL, List.length_append]; omega
      have hLi : (L.length : Int) ≤ 65536 := by omega
      have hLo : ∀ x ∈ L, (TinyN x.f0 ∧ mayN x.f0 = true) ∧ -1099511627776 ≤ x.f1 ∧ x.f1 ≤ 1099511627776 := fun x hx => by
        rw [hL] at hx
        rcases List.mem_append.1 hx with h | h
        · exact edE_ok HT0.out HE0.out.symm x h
        · exact edE_ok HT1.out HE1.out.symm x h
      have HL := Aside0.mk hL
      have HLO := Aside0.mk hLo
      have HB4 : Aside0 (Below w.heap.size w w4) := ⟨HB3.out.trans (hb4.mono HB3.out.size)⟩
      have HM4 := Aside0.mk (HM3.out.kept (grown_of_below hb4 none) (by simp))
      have HG4 : Aside0 (Kd.R k35 35 w4 w.heap.size (fun j => j ≠ w2.heap.size) v4 L) := ⟨Kd.R_lower (Kd.R_mono (Kd.R_bound hR4) (fun j hj => by have := hj.2.1; simp at this; omega)) (by simp; omega)⟩
      have hz4 := hb4.size
      simp only [World.size_alloc] at hz4
      clear CC hR4 hb4 hL hLo HM3 HB3
      obtain ⟨Ag, cg, eg⟩ := Kd.R_slice HG4.out
      subst eg
      go_wp2_with fail
      go_loopw [24] (fun v24 wr => ∃ (i : Nat) (D : DataW Unit), i ≤ L.length ∧ v24 = .int .i64 (i : Int) ∧ Aside0 (wr.ownsMap Tryz.prog 24 (plainElem (H := Unit) Tryz.prog 3) w2.heap.size (0 + i) D) ∧ Aside0 (CntM D (countE [] (L.take i))) ∧ Aside0 (FarC (countE [] (L.take i)) (1099511627776 * (i : Int))) ∧ Aside0 (Kd.R k35 35 wr w.heap.size (fun j => j ≠ w2.heap.size) (.slice Ag L.length cg) L) ∧ Aside0 (Below w.heap.size w wr) ∧ w2.heap.size + 2 ≤ wr.heap.size) (fun v24 _ => L.length - (RowKit.intOf v24).toNat)
      case atStart => exact ⟨0, _, Nat.zero_le _, rfl, HM4, ⟨CntM.none⟩, ⟨farC_nil⟩, HG4, HB4, by omega⟩
      case round =>
        clear HM4 HG4 HB4 hz4
        obtain ⟨i, D, hi, rfl, HM, HD, HF, HG, HB, hws⟩ := hrel
        by_cases hil : i < L.length
        · have j1 : (i : Int) < (L.length : Int) := by omega
          have hdi : decide ((i : Int) < (L.length : Int)) = true := decide_eq_true j1
          obtain ⟨x, hx⟩ : ∃ x, x = L[i] := ⟨_, rfl⟩
          have hmem : x ∈ L := by rw [hx]; exact List.getElem_mem hil
          obtain ⟨ad, eA, hx0, hx1, hx2⟩ := at_T35 (Kd.R_reads' HG.out).2.2 (i : Int) (by omega) (by omega)
          have hrd : rd_T35 L (i : Int) = x := by rw [hx]; simp [rd_T35, List.getD_eq_getElem?_getD, List.getElem?_eq_getElem hil]
          rw [hrd, Int.toNat_natCast] at hx0 hx1 hx2
          cases eA
          have hxo := HLO.out x hmem
          have hns := tiny_ns hxo.1.1
          have hkey := keyOf_node x.f0 hns.1 hns.2
          have hct := countE_take [] L i hil
          rw [← hx] at hct
          have HCT := Aside0.mk hct
          have hfx := HF.out x.f0
          have hb1 := hxo.2.1
          have hb2 := hxo.2.2
          have HNS := Aside0.mk hns
          obtain ⟨c, hc⟩ : ∃ c, c = (lookC (countE [] (L.take i)) x.f0).getD 0 := ⟨_, rfl⟩
          rw [← hc] at hfx
          have hws2 : IntKind.i64.wrap (c + x.f1) = c + x.f1 := by rw [IntKind.wrap_i64]; omega
          have hwd : (Lit.int .i64 (c + x.f1)).wf = true := by simp [Lit.wf, IntKind.min, IntKind.max, IntKind.signed, IntKind.bits]; omega
          have HFX := Aside0.mk (⟨hb1, hb2⟩ : -1099511627776 ≤ x.f1 ∧ x.f1 ≤ 1099511627776)
          clear hx hrd hct hmem hxo hns hfx hb1 hb2
          have HM5 := Aside0.mk (HM.out.alloc (.cells #[.string x.f0.f0, .string x.f0.f1, .int .i64 x.f1] 35 (0, 0)))
          have HB5 := Aside0.mk (below_alloc HB.out (.cells #[.string x.f0.f0, .string x.f0.f1, .int .i64 x.f1] 35 (0, 0)))
          have HG5 := Aside0.mk (Kd.R_alloc HG.out (.cells #[.string x.f0.f0, .string x.f0.f1, .int .i64 x.f1] 35 (0, 0)))
          obtain ⟨W5, hW5⟩ : ∃ W5, W5 = wr.alloc (.cells #[.string x.f0.f0, .string x.f0.f1, .int .i64 x.f1] 35 (0, 0)) := ⟨_, rfl⟩
          have n0 : W5.cell? ⟨wr.heap.size, 0, none⟩ = some (.string x.f0.f0) := by rw [hW5]; simp [go_sem]
          have n1 : W5.cell? ⟨wr.heap.size, 1, none⟩ = some (.string x.f0.f1) := by rw [hW5]; simp [go_sem]
          have n2 : W5.cell? ⟨wr.heap.size, 2, none⟩ = some (.int .i64 x.f1) := by rw [hW5]; simp [go_sem]
          rw [← hW5] at HM5 HB5 HG5
          have HW5 := Aside0.mk hW5
          have hzr : wr.heap.size + 1 = W5.heap.size := by rw [hW5]; simp
          clear hW5
          obtain ⟨v0, st, w6, E2, hg1, E1, E1', E3⟩ := own_bump (HM5.out.drew) (deep_law_laid laid_all (m := 3) (by omega) keyr_node keyt_node wide_node) Tryz.underlying49 (by unfold maxLen; omega) zero_intN hkey
          obtain ⟨c2, hrun, hat, hwc⟩ := (HM5.out.drew).lookup_int law_node Tryz.underlying49 Tryz.underlying3 (zero_intN _) hkey
          have hc2 : c2 = c := by
            have h9 := hat.symm.trans (HD.out.at_ x.f0 HNS.out)
            rw [← hc] at h9
            injection h9 with h9; injection h9
          subst hc2
          have hv0 : v0 = .int .i64 c2 := by
            rw [hrun] at E1; injection E1 with E1 _; exact E1.symm
          subst hv0
          obtain ⟨w7, E4, hown3, hg3⟩ := E3 w6 (.int .i64 (c2 + x.f1)) _ [] rfl (plainElem_int Tryz.underlying3 hwd)
          have E5 : (Instr.entryStore 49 (.map (some w2.heap.size)) (.int .i64 (st : Int)) (.int .i64 (c2 + x.f1))).run Tryz.prog w6 = .ok () w7 := E4
          have E6 : (Instr.mapEntry 49 (.map (some w2.heap.size)) (.agg #[.string x.f0.f0, .string x.f0.f1])).run Tryz.prog W5.drew = .ok (.tuple #[.int .i64 c2, .int .i64 (st : Int)]) w6 := E2
          have HC := Aside0.mk hc
          have HM7 := Aside0.mk hown3
          have HB6 := Aside0.mk (pw_below_grown (below_drew HB5.out) _ (below_drew HB5.out).size hg1 (fun j hj => by cases hj; exact hz2))
          have HB7 := Aside0.mk (pw_below_grown HB6.out _ HB6.out.size hg3 (fun j hj => by cases hj; exact hz2))
          have HG6 := Aside0.mk (Kd.R_grown (Kd.R_drew HG5.out) hg1 (fun j hj => by simp; exact hj))
          have HG7 := Aside0.mk (Kd.R_grown HG6.out hg3 (fun j hj => by simp; exact hj))
          have HD7 : Aside0 (CntM (D.put (nkey x.f0) (.lit (.int .i64 (c2 + x.f1)))) (countE [] (L.take (i + 1)))) := ⟨by rw [HCT.out]; unfold bumpC; rw [← HC.out]; exact HD.out.put x.f0 HNS.out _⟩
          have HF7 : Aside0 (FarC (countE [] (L.take (i + 1))) (1099511627776 * ((i + 1 : Nat) : Int))) := ⟨by rw [HCT.out, show 1099511627776 * ((i + 1 : Nat) : Int) = 1099511627776 * (i : Int) + 1099511627776 by omega]; exact HF.out.bump (by omega) x.f0 x.f1 HFX.out.1 HFX.out.2⟩
          have hz7 : w2.heap.size + 2 ≤ w7.heap.size := by have h1 := hg1.size; have h2 := hg3.size; (have h3 : W5.drew.heap.size = W5.heap.size := rfl); omega
          clear E3 E4 E2 hrun hat hwc hown3 hg1 hg3 hc hwd
          go_wp2_with fail
          rw [← HW5.out]
          go_region
          all_goals
            go_wp2
            go_roundw
            case rel => exact ⟨i + 1, _, by omega, by go_num, HM7, HD7, HF7, HG7, HB7, hz7⟩
            case measure => simp [RowKit.intOf]; omega
        · obtain rfl : i = L.length := by omega
          have hdi : decide ((L.length : Int) < (L.length : Int)) = false := decide_eq_false (by omega)
          have hd := HD.out
          rw [List.take_length, HL.out] at hd
          have hok := bothC_ok l0 l1 hl0 hl1 (fun x h => (edE_ok HT0.out HE0.out.symm x h).1) (fun x h => (edE_ok HT1.out HE1.out.symm x h).1)
          have CE := edits_calls w2.heap.size _ D _ hd hok (Nat.le_trans HM.out.size_le (by omega)) wr HM.out
          have hbt := bothV_tiny hok
          have eB := checkE_val (bothV l0 l1) (by unfold bothV; omega) hbt.1 K (by have := hbt.2; unfold bothV; omega)
          obtain ⟨b2, hb2⟩ : ∃ b, b = checkE (bothV l0 l1) := ⟨_, rfl⟩
          rw [← hb2] at eB
          have HE2 := Aside0.mk hb2
          have CB := fun (W : World) (A : Option Addr) (cc : Nat) (h : Kd.C k35 W A (bothV l0 l1).length (bothV l0 l1)) (hcc : (bothV l0 l1).length ≤ cc) => diff_Check.calls K A cc (bothV l0 l1) _ W h hcc eB
          have HCB := Aside0.mk CB
          clear hd hok hbt eB hb2 CB
          go_wp2_with fail
          refine CE.mono ?_
          rintro e w8 ⟨v, rfl, hR, hb8⟩
          have HB8 : Aside0 (Below w.heap.size w w8) := ⟨HB.out.trans (hb8.mono HB.out.size)⟩
          have HR8 : Aside0 (Kd.R k35 35 w8 w.heap.size (fun _ => True) v (bothV l0 l1)) := ⟨Kd.R_lower hR HB.out.size⟩
          clear hR hb8 CE
          obtain ⟨Ae, ce, ee⟩ := Kd.R_slice HR8.out
          subst ee
          have CB2 := HCB.out w8 Ae ce (Kd.R_reads' HR8.out).2.2 (Kd.R_reads' HR8.out).2.1
          clear HCB
          go_wp2_with fail
          refine CB2.mono ?_
          rintro e w9 ⟨rfl, hb9⟩
          have HB9 : Aside0 (Below w.heap.size w w9) := ⟨HB8.out.trans (hb9.mono HB8.out.size)⟩
          have HR9 := Aside0.mk (Kd.R_below HR8.out hb9)
          clear hb9 CB2
          simp only [okV]
          cases b2
          · obtain ⟨rfl, rfl⟩ := HBIG.out HE0.out.symm HE1.out.symm HE2.out.symm
            clear HYES HNO HBIG
            simp only [okV]
            go_wp2
            go_ret2
            exact ⟨_, rfl, Kd.R_nil _ _ _ _ _, HB9.out⟩
          · obtain ⟨rfl, rfl⟩ := HYES.out HE0.out.symm HE1.out.symm HE2.out.symm
            clear HYES HNO HBIG
            simp only [okV]
            go_wp2
            go_ret2
            exact ⟨_, rfl, HR9.out, HB9.out⟩
theorem diff_Both.calls (A0 : Option Addr) (c0 : Nat) (l0 : List S35) (A1 : Option Addr) (c1 : Nat) (l1 : List S35) (r1 : List S35) (r2 : Int) (w : World) (hr0 : Kd.C k35 w A0 l0.length l0) (hc0 : l0.length ≤ c0) (hr1 : Kd.C k35 w A1 l1.length l1) (hc1 : l1.length ≤ c1) (h : diff_Both.f l0 l1 = some (r1, r2)) :
    Calls Tryz.prog 17 #[.slice A0 l0.length c0, .slice A1 l1.length c1] w fun e w' => ∃ v, e = .returned (.tuple #[v, .int .i64 r2]) ∧ Kd.R k35 35 w' w.heap.size (fun _ => True) v r1 ∧ Below w.heap.size w w' := by
  unfold diff_Both.f at h
  split at h
  case isFalse => cases h
  case isTrue hc =>
    refine both_go A0 c0 l0 A1 c1 l1 w hr0 hr1 hc0 hc1 hc.1 hc.2.1 hc.2.2.1 hc.2.2.2 r2 r1 (fun h0 h1 h2 => ?_) (fun h0 h1 h2 => ?_) (fun h2 => ?_)
    · rw [if_pos ⟨h0, h1⟩, if_pos h2, Option.some.injEq, Prod.mk.injEq] at h
      exact ⟨h.2.symm, h.1.symm⟩
    · rw [if_pos ⟨h0, h1⟩, if_neg (by rw [h2]; decide), Option.some.injEq, Prod.mk.injEq] at h
      exact ⟨h.2.symm, h.1.symm⟩
    · rw [if_neg (by rintro ⟨h0, h1⟩; rcases h2 with h2 | h2 <;> simp_all), Option.some.injEq, Prod.mk.injEq] at h
      exact ⟨h.2.symm, h.1.symm⟩
end Go.Proofs.YtcfphieogalnbaaGreatDoor.Q
end

section
namespace Go.Proofs.YtcfphieogalnbaaGreatDoor.Q
open Go.Proofs.YtcfphieogalnbaaGreatDoor.QB.D
open Go Go.RowKit Go.Lib Go.Proofs.YtcfphieogalnbaaGreatDoorW.PrintWords Go.Proofs.YtcfphieogalnbaaGreatDoorW.PrintLast Go.Proofs.YtcfphieogalnbaaGreatDoorW.PrintMore Gw
set_option linter.unusedVariables false
set_option linter.unusedSimpArgs false
def cellE (x : S35) : List Value := [.string x.f0.f0, .string x.f0.f1, .int .i64 x.f1]
def cellsE (xs : List S35) : List Value := xs.flatMap cellE
theorem cellsE_len : ∀ xs, (cellsE xs).length = xs.length * 3
  | [] => rfl
  | x :: xs => by
    show (cellE x ++ cellsE xs).length = _
    rw [List.length_append, cellsE_len xs]; simp [cellE]; omega
theorem cellsE_get : ∀ (xs : List S35) (j : Nat), (cellsE xs)[j]? = (xs[j / 3]?).bind (fun x => (cellE x)[j % 3]?) := by
  intro xs
  induction xs with
  | nil => intro j; simp [cellsE]
  | cons x xs ih =>
    intro j
    have h : cellsE (x :: xs) = cellE x ++ cellsE xs := rfl
    have hl : (cellE x).length = 3 := rfl
    rw [h]
    rcases Nat.lt_or_ge j 3 with hj | hj
    · rw [List.getElem?_append_left (by omega), show j / 3 = 0 by omega, show j % 3 = j by omega]; rfl
    · rw [List.getElem?_append_right (by omega), hl, ih, show j / 3 = (j - 3) / 3 + 1 by omega, List.getElem?_cons_succ, show j % 3 = (j - 3) % 3 by omega]
theorem cellsE_append (a b : List S35) : cellsE (a ++ b) = cellsE a ++ cellsE b := by unfold cellsE; rw [List.flatMap_append]
theorem edit_reps (w : World) (base : Nat) (ok : Nat → Prop) (xs : List S35) : Reps (k35.M w base ok) k35.sz xs (cellsE xs) := by
  refine ⟨cellsE_len xs, fun j p hj => ?_⟩
  obtain ⟨hjl, rfl⟩ := List.getElem?_eq_some_iff.1 hj
  have e : ((cellsE xs).drop (j * 3)).take 3 = cellE xs[j] := by
    apply List.ext_getElem?
    intro t
    rcases Nat.lt_or_ge t 3 with h | h
    · rw [List.getElem?_take_of_lt h, List.getElem?_drop, cellsE_get, show (j * 3 + t) / 3 = j by omega, List.getElem?_eq_getElem hjl, show (j * 3 + t) % 3 = t by omega]
      rfl
    · rw [List.getElem?_eq_none (by rw [List.length_take]; omega), List.getElem?_eq_none (by simp [cellE]; omega)]
  show k35.M w base ok xs[j] (((cellsE xs).drop (j * 3)).take 3)
  rw [e]
  exact k35_mkM _ _ _ _
theorem R_of_cellsE {w : World} {base : Nat} {ok : Nat → Prop} {v : Value} {xs : List S35} (ho : w.ownsRow base 35 3 v xs.length (cellsE xs)) (hok : ∀ k, v.ownBlock = some k → ok k) : Kd.R k35 35 w base ok v xs := ⟨hok, cellsE xs, ho, edit_reps _ _ _ _⟩
end Go.Proofs.YtcfphieogalnbaaGreatDoor.Q
end

section
namespace Go.Proofs.YtcfphieogalnbaaGreatDoor.Q
open Go.Proofs.YtcfphieogalnbaaGreatDoor.QB.D
open Go Go.RowKit Go.Lib Go.Proofs.YtcfphieogalnbaaGreatDoorW.PrintWords Go.Proofs.YtcfphieogalnbaaGreatDoorW.PrintLast Go.Proofs.YtcfphieogalnbaaGreatDoorW.PrintMore Gw
set_option linter.unusedVariables false
theorem litE {W : World} {g : Nat} (xs : List S35) (h : W.heap[g]? = some (.cells (cellsE xs).toArray 35 (0, 0))) (hn : xs.length ≤ maxLen := by decide) : Kd.C k35 W (some ⟨g, 0, none⟩) xs.length xs :=
  (Kd.R_reads' (R_of_cellsE (own_lit h (by rw [List.size_toArray]; exact cellsE_len xs) hn) (ok := fun _ => True) (fun _ _ => trivial))).2.2
end Go.Proofs.YtcfphieogalnbaaGreatDoor.Q
end

section
namespace Go.Proofs.YtcfphieogalnbaaGreatDoor.Q
open Go.Proofs.YtcfphieogalnbaaGreatDoor.QB.D
open Go Go.RowKit Go.Maps Go.Lib Go.Proofs.YtcfphieogalnbaaGreatDoorW.PrintWords Go.Proofs.YtcfphieogalnbaaGreatDoorW.PrintLast Go.Proofs.YtcfphieogalnbaaGreatDoorW.PrintMore Gw
set_option linter.unusedVariables false
set_option linter.unusedSimpArgs false
/-- copy of a whole row of elements of any size. -/
theorem run_copy_wide {P : Program} (w : World) (dT sT ty elem : TypeId) (g n dCap sCap size : Nat) (ad : Addr) (cur : Array Value) (t : TypeId) (cs : List Value)
    (hu : P.underlying dT = some (.slice elem)) (hs : (P.info? elem).map (·.size) = some size) (hg : w.heap[g]? = some (.cells cur t (0, 0))) (hn : cs.length = n * size)
    (hsrc : ∀ j v, cs[j]? = some v → w.cell? (ad.add j) = some v) (hfit : cs.length ≤ cur.size) (h1 : ∀ v ∈ cs, v.oneCell' = true) :
    (Builtin.copy_ #[dT, sT] ty #[.slice (some ⟨g, 0, none⟩) n dCap, .slice (some ad) n sCap]).run P w = .ok (goInt n) (w.setRow g (cs ++ cur.toList.drop cs.length).toArray) := by
  have hl := run_loadCells_list (P := P) w ad cs hsrc
  have hst := run_storeCells_at P g 0 t cs 0 cur w hg (by simpa using hfit) h1
  simp only [Nat.zero_add, List.take_zero, List.nil_append, Nat.add_zero] at hst
  cases hq : P.info? elem with
  | none => simp [hq] at hs
  | some i =>
    have hi : i.size = size := by simpa [hq] using hs
    simp [Builtin.copy_, run_underlying hu, Builtin.lenOf, Builtin.firstCells, sizeOf, typeInfo, hq, hi, ← hn, hl, hst]
theorem run_copy_zero {P : Program} (w : World) (dT sT ty elem : TypeId) (A B : Option Addr) (dCap sCap size : Nat) (hu : P.underlying dT = some (.slice elem)) (hs : (P.info? elem).map (·.size) = some size) :
    (Builtin.copy_ #[dT, sT] ty #[.slice B 0 dCap, .slice A 0 sCap]).run P w = .ok (goInt 0) w := by
  cases hq : P.info? elem with
  | none => simp [hq] at hs
  | some i =>
    cases A <;> cases B <;> simp [Builtin.copy_, run_underlying hu, Builtin.lenOf, Builtin.firstCells, sizeOf, typeInfo, hq, loadCells, loadCellsFrom, storeCells]
def turnE (x : S35) : S35 := ⟨x.f0, -x.f1⟩
/-- The first i of them turned. -/
def turned (l : List S35) (i : Nat) : List S35 := (l.take i).map turnE ++ l.drop i
theorem cellsE_turn (A B : List S35) (x : S35) (v : Int) (T : List Value) : (cellsE (A ++ x :: B) ++ T).set (A.length * 3 + 2) (.int .i64 v) = cellsE (A ++ ⟨x.f0, v⟩ :: B) ++ T := by
  have h1 : ∀ y : S35, cellsE (A ++ y :: B) = cellsE A ++ (cellE y ++ cellsE B) := fun y => by rw [cellsE_append]; rfl
  rw [h1, h1, List.append_assoc, List.append_assoc, List.set_append_right _ _ (by rw [cellsE_len]; omega), cellsE_len]
  rw [show A.length * 3 + 2 - A.length * 3 = 2 by omega, List.append_assoc, List.append_assoc]
  rfl
theorem turned_len (l : List S35) (i : Nat) : (turned l i).length = l.length := by unfold turned; rw [List.length_append, List.length_map, List.length_take, List.length_drop]; omega
theorem turned_step (l : List S35) (i : Nat) (h : i < l.length) (T : List Value) : (cellsE (turned l i) ++ T).set (i * 3 + 2) (.int .i64 (-l[i].f1)) = cellsE (turned l (i + 1)) ++ T ∧ (cellsE (turned l i) ++ T)[i * 3 + 2]? = some (.int .i64 l[i].f1) := by
  have e1 : turned l i = (l.take i).map turnE ++ l[i] :: l.drop (i + 1) := by unfold turned; rw [List.drop_eq_getElem_cons h]
  have e2 : turned l (i + 1) = (l.take i).map turnE ++ turnE l[i] :: l.drop (i + 1) := by unfold turned; rw [List.take_succ_eq_append_getElem h, List.map_append, List.append_assoc]; rfl
  have hl : ((l.take i).map turnE).length = i := by rw [List.length_map, List.length_take]; omega
  constructor
  · have := cellsE_turn ((l.take i).map turnE) (l.drop (i + 1)) l[i] (-l[i].f1) T
    rw [hl] at this
    rw [e1, e2]
    exact this
  · rw [List.getElem?_append_left (by rw [cellsE_len, turned_len]; omega), cellsE_get, show (i * 3 + 2) / 3 = i by omega, show (i * 3 + 2) % 3 = 2 by omega, e1, List.getElem?_append_right (by omega), hl, Nat.sub_self]
    rfl
theorem C_cellsE {w : World} {A : Option Addr} {xs : List S35} (h : Kd.C k35 w A xs.length xs) : ∀ b, A = some b → ∀ j u, (cellsE xs)[j]? = some u → w.cell? (b.add j) = some u := by
  intro b hb j u hu
  rw [cellsE_get] at hu
  obtain ⟨x, hx, hu⟩ := Option.bind_eq_some_iff.1 hu
  obtain ⟨hl, hxx⟩ := List.getElem?_eq_some_iff.1 hx
  obtain ⟨ad, e, hc⟩ := h.2.2 (by omega)
  rw [hb] at e
  injection e with e
  subst e
  obtain ⟨c, hcl, hk, hcell⟩ := hc (j / 3) x hx
  have ho := k35_open hk
  subst ho
  have hs : k35.sz = 3 := rfl
  rw [hs] at hcell
  have := hcell (j % 3) u hu
  rwa [show j / 3 * 3 + j % 3 = j by omega] at this
theorem rowE {W : World} {base : Nat} {ok : Nat → Prop} {v : Value} {xs : List S35} (h : Kd.R k35 35 W base ok v xs) (hp : 0 < xs.length) : ∃ (g cap : Nat) (cur : Array Value), v = .slice (some ⟨g, 0, none⟩) xs.length cap ∧ base ≤ g ∧ W.heap[g]? = some (.cells cur 35 (0, 0)) ∧ xs.length ≤ cap ∧ cap ≤ maxLen ∧ cur.size = cap * 3 := by
  obtain ⟨_, inner, ho, _⟩ := h
  have hs : k35.sz = 3 := rfl
  rw [hs] at ho
  rcases ho.2 with ⟨_, h0⟩ | ⟨g, cap, cur, hv, hb, hg, hn, hc, hz, _⟩
  · omega
  · exact ⟨g, cap, cur, hv, hb, hg, hn, hc, hz⟩
set_option maxHeartbeats 8000000 in
set_option maxRecDepth 100000 in
theorem turn_go (A0 : Option Addr) (c0 : Nat) (l0 : List S35) (w : World) (hr0 : Kd.C k35 w A0 l0.length l0) (hc0 : l0.length ≤ c0) (hl0 : l0.length ≤ 65536) (ht0 : ∀ x ∈ l0, TinyN x.f0) (hpos : 0 < l0.length) (hch : checkE l0 = true) :
    Calls Tryz.prog 18 #[.slice A0 l0.length c0] w fun e w' => ∃ v, e = .returned (.tuple #[v, .int .i64 0]) ∧ Kd.R k35 35 w' w.heap.size (fun _ => True) v (l0.map turnE) ∧ Below w.heap.size w w' := by
  have hu35 := Tryz.underlying35
  obtain ⟨K, hK⟩ : ∃ K, 65536 + 4294967320 ≤ K := ⟨_, Nat.le_refl _⟩
  have e0 := checkE_val l0 (by omega) ht0 K (by omega)
  rw [hch] at e0
  have CK0 := diff_Check.calls K A0 c0 l0 _ w hr0 hc0 e0
  obtain ⟨ad, eA, _⟩ := at_T35 hr0 0 (by omega) (by omega)
  subst eA
  have HR0 := Aside0.mk hr0
  have hbnd : ∀ (i : Nat) (h : i < l0.length), -1099511627776 ≤ l0[i].f1 ∧ l0[i].f1 ≤ 1099511627776 := fun i h => (edE_ok ht0 hch _ (List.getElem_mem h)).2
  have HBND := Aside0.mk hbnd
  have hl1 : (l0.length : Int) ≤ 65536 := by omega
  have hone : ∀ u ∈ cellsE l0, u.oneCell' = true := fun u hu => by
    unfold cellsE at hu
    obtain ⟨x, _, hx⟩ := List.mem_flatMap.1 hu
    simp only [cellE, List.mem_cons, List.not_mem_nil, or_false] at hx
    rcases hx with rfl | rfl | rfl <;> rfl
  have HONE := Aside0.mk hone
  clear hr0 ht0 e0 hch hbnd hK hone
  go_enter Tryz.func18, Tryz.ntmps18
  go_wp2_with fail
  refine CK0.mono ?_
  rintro e w1 ⟨rfl, hb1⟩
  have HB1 := Aside0.mk hb1
  clear hb1 CK0
  simp only [okV]
  go_wp2_with (first
    | (refine Kd.R_make k35 (w0 := w) w.heap.size 35 rfl (N := 14) rfl 27 (.tmp 13) (.tmp 13) rfl (l0.length : Int) rfl rfl Tryz.underlying27 (.agg #[(.string ⟨#[]⟩), (.string ⟨#[]⟩), (.int .i64 0)]) 40 info35 rfl (by decide) (by omega) ⟨⟨⟨#[]⟩, ⟨#[]⟩⟩, 0⟩ (ok := fun _ => True) (okp := fun _ => False) ?aP (fun _ h => h.elim) trivial ?aN ?aL ?aB ?aS ?_; (case aP => exact k35_mkM _ _ _ ⟨⟨⟨#[]⟩, ⟨#[]⟩⟩, 0⟩); (case aN => omega); (case aL => simp; omega); (case aB => exact HB1.out); (case aS => exact HB1.out.size); intro v2 w2 hR2 hb2 _ _; obtain ⟨gg, gc, cur, hvv, hgb, hg, hnc, hcap, hcs⟩ := rowE hR2 (by simp; omega); rw [List.length_replicate, Int.toNat_natCast] at hvv; rw [List.length_replicate, Int.toNat_natCast] at hnc; subst hvv;
        have hcr := run_copy_wide (P := Tryz.prog) w2 27 27 3 35 gg l0.length gc c0 3 ad cur 35 (cellsE l0) Tryz.underlying27 rfl hg (cellsE_len l0) (C_cellsE (Kd.C_below HR0.out hb2) ad rfl) (by rw [cellsE_len]; omega) HONE.out;
        obtain ⟨T, hT⟩ : ∃ T, T = cur.toList.drop (cellsE l0).length := ⟨_, rfl⟩; rw [← hT] at hcr;
        have HBK := Aside0.mk (setRow_heap w2 gg cur (cellsE l0 ++ T).toArray 35 (0, 0) hg); have HB3 := Aside0.mk (below_setRow hb2 hgb (cellsE l0 ++ T).toArray);
        obtain ⟨W3, hW3⟩ : ∃ W3, W3 = w2.setRow gg (cellsE l0 ++ T).toArray := ⟨_, rfl⟩; rw [← hW3] at hcr HBK HB3;
        have HT : Aside0 (T.length = (gc - l0.length) * 3) := ⟨by rw [hT, List.length_drop, cellsE_len, Array.length_toList, hcs, Nat.sub_mul]⟩; clear hR2 hb2 hT hW3 hg hcs)
    | (at_builtin; refine Lib.wpList_copy_run _ rfl _ _ 27 27 rfl _ _ rfl rfl hcr ?_)
    | fail)
  go_loopw [20] (fun v20 wr => ∃ i : Nat, i ≤ l0.length ∧ v20 = .int .i64 (i : Int) ∧ Aside0 (wr.heap[gg]? = some (.cells (cellsE (turned l0 i) ++ T).toArray 35 (0, 0))) ∧ Aside0 (Below w.heap.size w wr)) (fun v20 _ => l0.length - (RowKit.intOf v20).toNat)
  case atStart => exact ⟨0, Nat.zero_le _, rfl, by simpa [turned] using HBK, HB3⟩
  case round =>
    clear HBK HB3 hcr
    obtain ⟨i, hi, rfl, HBK, HB⟩ := hrel
    by_cases hil : i < l0.length
    · have j1 : (i : Int) < (l0.length : Int) := by omega
      have hdi : decide ((i : Int) < (l0.length : Int)) = true := decide_eq_true j1
      have hst := turned_step l0 i hil T
      have hb := HBND.out i hil
      obtain ⟨y, hy⟩ : ∃ y, y = l0[i].f1 := ⟨_, rfl⟩
      rw [← hy] at hst hb
      have n2 : wr.cell? ⟨gg, i * 3 + 2, none⟩ = some (.int .i64 y) := (blk_cell HBK.out _).trans (by simpa using hst.2)
      have f2 := blk_frozen HBK.out (i * 3 + 2)
      have hwn : IntKind.i64.wrap (-y) = -y := by rw [IntKind.wrap_i64]; omega
      have HBK2 : Aside0 ((wr.setCell ⟨gg, i * 3 + 2, none⟩ (.int .i64 (-y))).heap[gg]? = some (.cells (cellsE (turned l0 (i + 1)) ++ T).toArray 35 (0, 0))) := ⟨by rw [blk_set HBK.out (i * 3 + 2) (.int .i64 (-y)), ← hst.1]; simp⟩
      have HB2 := Aside0.mk (below_set (W := wr) (g := gg) (j := i * 3 + 2) (v := .int .i64 (-y)) HB.out hgb)
      clear hst hb hy
      go_wp2
      go_roundw
      case rel => exact ⟨i + 1, by omega, by go_num, HBK2, HB2⟩
      case measure => simp [RowKit.intOf]; omega
    · obtain rfl : i = l0.length := by omega
      have hdi : decide ((l0.length : Int) < (l0.length : Int)) = false := decide_eq_false (by omega)
      have hfin : turned l0 l0.length = l0.map turnE := by unfold turned; rw [List.take_length, List.drop_length, List.append_nil]
      have hrow : Kd.R k35 35 wr w.heap.size (fun _ => True) (.slice (some ⟨gg, 0, none⟩) l0.length gc) (l0.map turnE) := by
        have hb := HBK.out
        rw [hfin] at hb
        refine R_of_cellsE ?_ (fun _ _ => trivial)
        rw [List.length_map]
        have hl : (cellsE (l0.map turnE)).length = l0.length * 3 := by rw [cellsE_len, List.length_map]
        refine ⟨hl, Or.inr ⟨gg, gc, _, rfl, hgb, hb, hnc, hcap, ?_, ?_⟩⟩
        · simp only [List.size_toArray, List.length_append]
          rw [hl, HT.out]
          have := Nat.sub_mul gc l0.length 3
          have := Nat.mul_le_mul_right 3 hnc
          omega
        · simp only []
          rw [← hl, List.take_left]
      have HROW := Aside0.mk hrow
      clear hfin hrow
      go_wp2
      go_ret2
      exact ⟨_, rfl, HROW.out, HB.out⟩
def diff_Turn.f (l : List S35) : Option (List S35 × Int) := if l.length ≤ 65536 ∧ (∀ x ∈ l, TinyN x.f0) then some (if checkE l = true then (l.map turnE, 0) else ([], 1)) else none
set_option maxHeartbeats 4000000 in
theorem turn_no (A0 : Option Addr) (c0 : Nat) (l0 : List S35) (w : World) (hr0 : Kd.C k35 w A0 l0.length l0) (hc0 : l0.length ≤ c0) (hl0 : l0.length ≤ 65536) (ht0 : ∀ x ∈ l0, TinyN x.f0) (hch : checkE l0 = false) :
    Calls Tryz.prog 18 #[.slice A0 l0.length c0] w fun e w' => ∃ v, e = .returned (.tuple #[v, .int .i64 1]) ∧ Kd.R k35 35 w' w.heap.size (fun _ => True) v [] ∧ Below w.heap.size w w' := by
  obtain ⟨K, hK⟩ : ∃ K, 65536 + 4294967320 ≤ K := ⟨_, Nat.le_refl _⟩
  have e0 := checkE_val l0 (by omega) ht0 K (by omega)
  rw [hch] at e0
  have CK0 := diff_Check.calls K A0 c0 l0 _ w hr0 hc0 e0
  clear hr0 ht0 e0 hch hK
  go_enter Tryz.func18, Tryz.ntmps18
  go_wp2_with fail
  refine CK0.mono ?_
  rintro e w1 ⟨rfl, hb1⟩
  have HB1 := Aside0.mk hb1
  clear hb1 CK0
  simp only [okV]
  go_wp2
  go_ret2
  exact ⟨_, rfl, Kd.R_nil _ _ _ _ _, HB1.out⟩
set_option maxHeartbeats 4000000 in
set_option maxRecDepth 100000 in
theorem turn_nil (A0 : Option Addr) (c0 : Nat) (w : World) :
    Calls Tryz.prog 18 #[.slice A0 0 c0] w fun e w' => ∃ v, e = .returned (.tuple #[v, .int .i64 0]) ∧ Kd.R k35 35 w' w.heap.size (fun _ => True) v [] ∧ Below w.heap.size w w' := by
  have hu35 := Tryz.underlying35
  obtain ⟨K, hK⟩ : ∃ K, 65536 + 4294967320 ≤ K := ⟨_, Nat.le_refl _⟩
  have e0 := checkE_val [] (by simp) (fun x h => by cases h) K (by simp; omega)
  have CK0 := diff_Check.calls K A0 c0 [] _ w ⟨rfl, by simp, fun h => by simp at h⟩ (Nat.zero_le _) e0
  clear e0 hK
  go_enter Tryz.func18, Tryz.ntmps18
  go_wp2_with fail
  refine CK0.mono ?_
  rintro e w1 ⟨rfl, hb1⟩
  have HB1 := Aside0.mk hb1
  clear hb1 CK0
  simp only [okV, checkE, chkE]
  go_wp2_with (first
    | (refine Kd.R_make k35 (w0 := w) w.heap.size 35 rfl (N := 14) rfl 27 (.tmp 13) (.tmp 13) rfl (0 : Int) rfl rfl Tryz.underlying27 (.agg #[(.string ⟨#[]⟩), (.string ⟨#[]⟩), (.int .i64 0)]) 40 info35 rfl (by decide) (by omega) ⟨⟨⟨#[]⟩, ⟨#[]⟩⟩, 0⟩ (ok := fun _ => True) (okp := fun _ => False) ?aP (fun _ h => h.elim) trivial ?aN ?aL ?aB ?aS ?_; (case aP => exact k35_mkM _ _ _ ⟨⟨⟨#[]⟩, ⟨#[]⟩⟩, 0⟩); (case aN => omega); (case aL => simp); (case aB => exact HB1.out); (case aS => exact HB1.out.size); intro v2 w2 hR2 hb2 _ _; have HR2 := Aside0.mk hR2; have HB2 := Aside0.mk hb2; obtain ⟨Ag, cg, eg⟩ := Kd.R_slice HR2.out; subst eg; have hcp := run_copy_zero (P := Tryz.prog) w2 27 27 3 35 A0 Ag cg c0 3 Tryz.underlying27 rfl; clear hR2 hb2)
    | (at_builtin; refine Lib.wpList_copy_run _ rfl _ _ 27 27 rfl _ _ rfl rfl hcp ?_)
    | fail)
  have hd0 : decide ((0 : Int) < (0 : Int)) = false := rfl
  go_loopw [20] (fun v20 wr => v20 = .int .i64 0 ∧ wr = w2) (fun v20 _ => 0)
  case atStart => exact ⟨rfl, rfl⟩
  case round =>
    obtain ⟨rfl, rfl⟩ := hrel
    go_wp2
    go_ret2
    exact ⟨_, rfl, HR2.out, HB2.out⟩
theorem diff_Turn.calls (A0 : Option Addr) (c0 : Nat) (l0 : List S35) (r1 : List S35) (r2 : Int) (w : World) (hr0 : Kd.C k35 w A0 l0.length l0) (hc0 : l0.length ≤ c0) (h : diff_Turn.f l0 = some (r1, r2)) :
    Calls Tryz.prog 18 #[.slice A0 l0.length c0] w fun e w' => ∃ v, e = .returned (.tuple #[v, .int .i64 r2]) ∧ Kd.R k35 35 w' w.heap.size (fun _ => True) v r1 ∧ Below w.heap.size w w' := by
  unfold diff_Turn.f at h
  split at h
  · rename_i g
    injection h with h
    cases hch : checkE l0
    · rw [hch, if_neg (by decide)] at h
      injection h with h1 h2
      subst h1 h2
      exact turn_no A0 c0 l0 w hr0 hc0 g.1 g.2 hch
    · rw [hch, if_pos rfl] at h
      injection h with h1 h2
      subst h1 h2
      cases l0 with
      | nil => exact turn_nil A0 c0 w
      | cons x r => exact turn_go A0 c0 (x :: r) w hr0 hc0 g.1 g.2 (by simp) hch
  · cases h
end Go.Proofs.YtcfphieogalnbaaGreatDoor.Q
end

section
namespace Go.Proofs.YtcfphieogalnbaaGreatDoor.Q
open Go.RowKit Go.Proofs.YtcfphieogalnbaaGreatDoorW.PrintWords Go.Proofs.YtcfphieogalnbaaGreatDoorW.PrintLast Go.Proofs.YtcfphieogalnbaaGreatDoorW.PrintMore
attribute [local go_sem] max2_int min2_int max_two min_two max_three min_three max_four min_four   -- for this text's walks alone
set_option linter.unusedVariables false
set_option linter.unusedSimpArgs false
attribute [local go_sem high] eqA35
/-! ### diff_Count: function 13 -/
def diff_Count.f (l0 : List (S24)) : Option ((List (S35)) × Int) := (diff_Diff.f ([] : List (S24)) l0).bind fun bt233 => (some (bt233.1, bt233.2))
set_option maxHeartbeats 8000000 in
set_option maxRecDepth 100000 in
theorem diff_Count.calls (A0 : Option Addr) (c0 : Nat) (l0 : List (S24)) (r1 : List (S35)) (r2 : Int) (w : World) (hr0 : Kd.C k24 w A0 l0.length l0) (hc0 : l0.length ≤ c0) (h : diff_Count.f l0 = some (r1, r2)) :
    Calls Tryz.prog 13 #[.slice A0 l0.length c0] w fun e w' => ∃ v0_ : Value, e = .returned (.tuple #[v0_, .int .i64 r2]) ∧ Kd.R k35 35 w' w.heap.size (fun _ => True) v0_ r1 ∧ Below w.heap.size w w' := by
  have HR0 := Aside0.mk hr0
  have HC0 := Aside0.mk hc0
  clear hr0 hc0
  have HB := Aside0.mk (Below.refl w.heap.size w)
  have H : ((diff_Diff.f ([] : List (S24)) l0).bind fun bt233 => (some (bt233.1, bt233.2))) = some (r1, r2) := h
  clear h
  replace H := Option.bind_eq_some_iff.mp H
  obtain ⟨⟨t233, t234⟩, A20, H⟩ := H
  replace H : (some (t233, t234)) = some (r1, r2) := H
  have A2 := Aside0.mk A20
  clear A20
  simp only [Option.some.injEq, Prod.mk.injEq] at H
  obtain ⟨rfl, rfl⟩ := H
  go_enter Tryz.func13, Tryz.ntmps13
  go_wp2_with (first | ((with_reducible refine gate_callee (f := 9) rfl ?_); refine goesL_ (some 5) rfl rfl Tryz.func9 (by kernel_rfl) rfl #[.slice none 0 0, .slice A0 l0.length c0] rfl (by (try simp only [List.map_toArray, List.map_cons, List.map_nil]); first | done | rfl | (simp only [List.length_drop, List.length_take]; rfl)) ?_; (refine (diff_Diff.calls _ _ ([] : List (S24)) _ _ l0 t233 t234 _ ?side1 ?side2 ?side3 ?side4 A2.out).mono ?_); (case side1 => exact Kd.C_nil _ _); (case side2 => exact Nat.le_refl _); (case side3 => repeat (first | exact HR0.out | (with_reducible refine Kd.C_alloc ?_ _) | (with_reducible refine Kd.C_drewN ?_ _) | (with_reducible refine Kd.C_drew ?_))); (case side4 => exact HC0.out); rintro e w3 ⟨v235, rfl, ho0, hb⟩; refine ⟨_, rfl, ?_⟩; have n0_ := Aside0.mk (Kd.R_lower ho0 (below_size (by repeat (first | (with_reducible first | exact HB.out | apply below_alloc | apply pw_below_drewN | apply below_drew1) | exact HB.out)))); have n1_ := Aside0.mk (below_step (by repeat (first | (with_reducible first | exact HB.out | apply below_alloc | apply pw_below_drewN | apply below_drew1) | exact HB.out)) hb); clear HB; have HO236 := n0_; have HB := n1_; clear n0_ n1_; (try clear hb); (try clear hb2); (try clear hk); (try clear hi); (try clear ho0)))
  go_ret2
  exact ⟨_, by first | rfl | (simp [errW_none, errW_some] <;> rfl) | (simp [*, errW_none, errW_some] <;> rfl), by (with_reducible repeat (first | apply Kd.R_alloc | apply Kd.R_drewN | apply Kd.R_drew)); exact HO236.out, by repeat (first | (with_reducible first | exact HB.out | apply below_alloc | apply pw_below_drewN | apply below_drew1) | exact HB.out)⟩
end Go.Proofs.YtcfphieogalnbaaGreatDoor.Q
end

section
namespace Go.Proofs.YtcfphieogalnbaaGreatDoor.Q
open Go.Proofs.YtcfphieogalnbaaGreatDoor.QB.D
open Go Go.RowKit Go.Lib
set_option linter.unusedVariables false
/-- How often a node is in a list. -/
def cntN : List S24 → S24 → Int
  | [], _ => 0
  | y :: r, x => (if y = x then 1 else 0) + cntN r x
theorem cntN_cons (y : S24) (r : List S24) (x : S24) : cntN (y :: r) x = (if y = x then 1 else 0) + cntN r x := rfl
theorem cntN_append (a b : List S24) (x : S24) : cntN (a ++ b) x = cntN a x + cntN b x := by
  induction a with
  | nil => simp [cntN]
  | cons y r ih => rw [List.cons_append, cntN_cons, cntN_cons, ih]; omega
theorem cntN_perm {a b : List S24} (h : a.Perm b) (x : S24) : cntN a x = cntN b x := by
  induction h with
  | nil => rfl
  | cons y _ ih => rw [cntN_cons, cntN_cons, ih]
  | swap y z l => simp only [cntN]; omega
  | trans _ _ h1 h2 => rw [h1, h2]
theorem cntN_none {l : List S24} {x : S24} (h : x ∉ l) : cntN l x = 0 := by
  induction l with
  | nil => rfl
  | cons y r ih =>
    unfold cntN
    rw [if_neg (fun e => h (by rw [e]; exact .head _)), ih (fun hm => h (.tail _ hm))]
    rfl
theorem look_bump (m : List (S24 × Int)) (x y : S24) (v : Int) : (lookC (bumpC m x v) y).getD 0 = (lookC m y).getD 0 + (if x = y then v else 0) := by
  unfold bumpC
  rw [lookC_put]
  by_cases e : y = x
  · rw [if_pos e, if_pos e.symm, e]; rfl
  · rw [if_neg e, if_neg (fun h => e h.symm)]; omega
theorem look_count (v : Int) : ∀ (l : List S24) (m : List (S24 × Int)) (x : S24), (lookC (countC m l v) x).getD 0 = (lookC m x).getD 0 + v * cntN l x
  | [], m, x => by simp [countC, cntN]
  | y :: r, m, x => by
    have h : countC m (y :: r) v = countC (bumpC m y v) r v := rfl
    rw [h, look_count v r, look_bump, cntN_cons, Int.mul_add]
    split <;> simp <;> omega
theorem look_diff (l m : List S24) (x : S24) : (lookC (diffC l m) x).getD 0 = cntN m x - cntN l x := by
  unfold diffC
  rw [look_count, look_count]
  have : (lookC [] x).getD 0 = 0 := by simp [lookC]
  rw [this]
  omega
theorem keys_bump (m : List (S24 × Int)) (x y : S24) (v : Int) : y ∈ (bumpC m x v).map (·.1) ↔ y ∈ m.map (·.1) ∨ y = x := by
  unfold bumpC
  rw [putC_keys]
  split
  · rename_i h
    exact ⟨Or.inl, fun h2 => h2.elim id (fun e => e ▸ h)⟩
  · rw [List.mem_append, List.mem_singleton]
theorem keys_count (v : Int) : ∀ (l : List S24) (m : List (S24 × Int)) (y : S24), y ∈ (countC m l v).map (·.1) ↔ y ∈ m.map (·.1) ∨ y ∈ l
  | [], m, y => by simp [countC]
  | x :: r, m, y => by
    have h : countC m (x :: r) v = countC (bumpC m x v) r v := rfl
    rw [h, keys_count v r, keys_bump, List.mem_cons, or_assoc]
theorem keys_diff (l m : List S24) (y : S24) : y ∈ (diffC l m).map (·.1) ↔ y ∈ l ∨ y ∈ m := by
  unfold diffC
  rw [keys_count, keys_count]
  simp
theorem filter_one_of {α : Type} [DecidableEq α] {p : α → Bool} {n : α} : ∀ {S : List α}, S.Nodup → n ∈ S → (∀ x ∈ S, p x = true ↔ x = n) → S.filter p = [n]
  | [], _, h, _ => by cases h
  | y :: r, hn, h, hp => by
    rw [List.nodup_cons] at hn
    by_cases e : y = n
    · subst e
      rw [List.filter_cons_of_pos ((hp y (.head _)).2 rfl), List.filter_eq_nil_iff.2 (fun x hx h2 => hn.1 ((hp x (.tail _ hx)).1 h2 ▸ hx))]
    · rw [List.filter_cons_of_neg (fun h2 => e ((hp y (.head _)).1 h2))]
      exact filter_one_of hn.2 ((List.mem_cons.1 h).resolve_left (fun h2 => e h2.symm)) (fun x hx => hp x (.tail _ hx))
/-- Lists of the same nodes as often have no difference. -/
theorem diffV_same {l m : List S24} (h : ∀ x, cntN l x = cntN m x) : diffV l m = [] := by
  unfold diffV editsF
  rw [List.filter_eq_nil_iff.2 (fun x hx => by rw [look_diff, h x]; simp)]
  rfl
/-- One node more is just that. -/
theorem diffV_more {l m : List S24} (n : S24) (hn : ((diffC l m).map (·.1)).Nodup) (hm : n ∈ m) (h : ∀ x, cntN m x = cntN l x + (if n = x then 1 else 0)) : diffV l m = [⟨n, 1⟩] := by
  have hl : ∀ x, (lookC (diffC l m) x).getD 0 = if n = x then 1 else 0 := fun x => by rw [look_diff, h x]; omega
  unfold diffV editsF
  rw [filter_one_of (n := n) ((sortN_perm _).nodup_iff.2 hn) ((sortN_perm _).mem_iff.2 ((keys_diff l m n).2 (Or.inr hm))) (fun x _ => by
    rw [hl x]
    by_cases e : n = x
    · rw [if_pos e]; simp [e]
    · rw [if_neg e]; simp; exact fun h => e h.symm)]
  rw [List.map_singleton, hl n, if_pos rfl]
theorem cntN_range (l : List S24) (x : S24) : 0 ≤ cntN l x ∧ cntN l x ≤ l.length := by
  induction l with
  | nil => simp [cntN]
  | cons y r ih => rw [cntN_cons, List.length_cons]; split <;> omega
theorem sorted_is {l : List S24} (hn : l.Nodup) (hm : ∀ x ∈ l, TinyN x ∧ mayN x = true) : IsSet (sortN l) := by
  have hg : ∀ x ∈ sortN l, TinyN x ∧ mayN x = true := fun x hx => hm x ((sortN_perm _).mem_iff.1 hx)
  have hs := sortN_sorted l (fun x hx => mayN_good (hm x hx).1 (hm x hx).2)
  refine ⟨fun x hx => mayN_good (hg x hx).1 (hg x hx).2, fun x hx => (hg x hx).2, ?_⟩
  have hnd := (sortN_perm l).nodup_iff.2 hn
  exact (List.pairwise_and_iff.2 ⟨hs, hnd⟩).imp_of_mem (fun {x y} hx hy h => by
    have := (ordN_to.eq x y (mayN_good (hg x hx).1 (hg x hx).2) (mayN_good (hg y hy).1 (hg y hy).2)).1
    rcases Int.lt_or_eq_of_le h.1 with h1 | h1
    · exact h1
    · exact absurd (this h1) h.2)
end Go.Proofs.YtcfphieogalnbaaGreatDoor.Q
end

section
namespace Go.Proofs.YtcfphieogalnbaaGreatDoor.Q
open Go.Proofs.YtcfphieogalnbaaGreatDoor.QB.D
open Go Go.RowKit Go.Lib Go.Proofs.YtcfphieogalnbaaGreatDoorW.PrintWords Go.Proofs.YtcfphieogalnbaaGreatDoorW.PrintLast Go.Proofs.YtcfphieogalnbaaGreatDoorW.PrintMore Gw
set_option linter.unusedVariables false
set_option linter.unusedSimpArgs false
def nW13 (c : UInt8) : S24 := ⟨⟨#[c]⟩, ⟨#[118, 49, 46, 48, 46, 48]⟩⟩
theorem pairsE {a b : List S35} (h : a.map (fun e => (e.f0, e.f1)) = b.map (fun e => (e.f0, e.f1))) : a = b :=
  (List.map_inj_right (fun x y h => by cases x; cases y; simp only [Prod.mk.injEq] at h; rw [h.1, h.2])).1 h
theorem nW13_tiny (c : UInt8) : TinyN (nW13 c) := Brief.tiny ⟨show (1 : Nat) ≤ 400 by decide, show (6 : Nat) ≤ 400 by decide⟩
set_option maxRecDepth 100000 in
theorem aw13_diff : diff_Diff.f [nW13 97, nW13 97, nW13 98] [nW13 98, nW13 99] = some ([⟨nW13 97, -2⟩, ⟨nW13 99, 1⟩], 0) := by
  unfold diff_Diff.f
  rw [if_pos ⟨by decide, by decide, fun x hx => by simp only [List.mem_cons, List.not_mem_nil, or_false] at hx; rcases hx with rfl | rfl | rfl <;> exact nW13_tiny _, fun x hx => by simp only [List.mem_cons, List.not_mem_nil, or_false] at hx; rcases hx with rfl | rfl <;> exact nW13_tiny _⟩]
  rw [if_pos (by decide +kernel), show diffV [nW13 97, nW13 97, nW13 98] [nW13 98, nW13 99] = [⟨nW13 97, -2⟩, ⟨nW13 99, 1⟩] from pairsE (by decide +kernel)]
set_option maxRecDepth 100000 in
theorem aw13_both : diff_Both.f [⟨nW13 97, 1⟩] [⟨nW13 97, -1⟩] = some ([], 0) := by
  unfold diff_Both.f
  rw [if_pos ⟨by decide, by decide, fun x hx => by simp only [List.mem_cons, List.not_mem_nil, or_false] at hx; subst hx; exact nW13_tiny _, fun x hx => by simp only [List.mem_cons, List.not_mem_nil, or_false] at hx; subst hx; exact nW13_tiny _⟩]
  rw [if_pos (by decide +kernel), show bothV [⟨nW13 97, 1⟩] [⟨nW13 97, -1⟩] = [] from pairsE (by decide +kernel)]
  rfl
set_option maxHeartbeats 4000000 in
set_option maxRecDepth 100000 in
theorem awake13_calls (w : World) : Calls Tryz.prog 11 #[] w fun e w' => e = .returned (.bool true) ∧ Below w.heap.size w w' := by
  have hu24 := Tryz.underlying24
  have hu35 := Tryz.underlying35
  go_enter Tryz.func11, Tryz.ntmps11
  go_wp2_with fail
  refine (diff_Diff.calls (some ⟨w.heap.size + 1 + 1 + 1, 0, none⟩) 3 [nW13 97, nW13 97, nW13 98] (some ⟨w.heap.size + 1 + 1 + 1 + 1, 0, none⟩) 2 [nW13 98, nW13 99] _ _ _ (litN _ (blk_alloc blk_at _)) (Nat.le_refl _) (litN _ blk_at) (Nat.le_refl _) aw13_diff).mono ?_
  rintro e w2 ⟨v, rfl, hR, hb⟩
  have HB : Aside0 (Below w.heap.size w w2) := ⟨below_step (by repeat (first | exact Below.refl _ _ | apply below_alloc)) hb⟩
  have a0 : w2.cell? ⟨w.heap.size, 0, none⟩ = some (.string ⟨#[97]⟩) := (hb.cell (by simp <;> omega)).trans (by simp [go_sem])
  have a1 : w2.cell? ⟨w.heap.size, 1, none⟩ = some (.string ⟨#[118, 49, 46, 48, 46, 48]⟩) := (hb.cell (by simp <;> omega)).trans (by simp [go_sem])
  have c0 : w2.cell? ⟨w.heap.size + 1 + 1, 0, none⟩ = some (.string ⟨#[99]⟩) := (hb.cell (by simp <;> omega)).trans (by simp [go_sem])
  have c1 : w2.cell? ⟨w.heap.size + 1 + 1, 1, none⟩ = some (.string ⟨#[118, 49, 46, 48, 46, 48]⟩) := (hb.cell (by simp <;> omega)).trans (by simp [go_sem])
  have hz : w.heap.size + 1 + 1 < w2.heap.size := Nat.lt_of_lt_of_le (by simp <;> omega) hb.size
  have a0' := fun o => ((below_alloc (Below.refl _ w2) o).cell (by simp <;> omega)).trans a0
  have a1' := fun o => ((below_alloc (Below.refl _ w2) o).cell (by simp <;> omega)).trans a1
  have HR := Aside0.mk hR
  obtain ⟨A2, m2, e2⟩ := Kd.R_slice HR.out
  subst e2
  clear hR hb
  go_wp2_with fail
  refine (diff_Both.calls (some ⟨w2.heap.size, 0, none⟩) 1 [⟨nW13 97, 1⟩] (some ⟨w2.heap.size + 1, 0, none⟩) 1 [⟨nW13 97, -1⟩] _ _ _ (litE _ (blk_alloc blk_at _)) (Nat.le_refl _) (litE _ blk_at) (Nat.le_refl _) aw13_both).mono ?_
  rintro e w3 ⟨v, rfl, hR3, hb⟩
  have hk : Below w2.heap.size w2 w3 := below_step (by repeat (first | exact Below.refl _ _ | apply below_alloc)) hb
  have HB3 : Aside0 (Below w.heap.size w w3) := ⟨below_step HB.out hk⟩
  replace a0 := (hk.cell (by simp <;> omega)).trans a0
  replace a1 := (hk.cell (by simp <;> omega)).trans a1
  replace c0 := (hk.cell (by simp <;> omega)).trans c0
  replace c1 := (hk.cell (by simp <;> omega)).trans c1
  have hC := (Kd.R_reads' (Kd.R_below HR.out hk)).2.2
  obtain ⟨ad, eA, x0, x1, x2⟩ := at_T35 hC 0 (by decide) (by decide)
  obtain ⟨ad', eA', y0, y1, y2⟩ := at_T35 hC 1 (by decide) (by decide)
  cases eA
  cases eA'
  clear a0' a1' hz hC hk hb HB
  obtain ⟨A3, m3, e3⟩ := Kd.R_slice hR3
  subst e3
  clear hR3
  simp [rd_T35, nW13, go_sem] at x0 x1 x2 y0 y1 y2
  go_wp2
  go_region
  all_goals
    go_wp2
    go_ret
    exact ⟨rfl, below_drew HB3.out⟩
def graftwoodlaw13_awake.f : Option Bool := some true
theorem graftwoodlaw13_awake.calls (r : Bool) (w : World) (h : graftwoodlaw13_awake.f = some r) (HR_ : Aside0 (r = true)) : Calls Tryz.prog 11 #[] w fun e w' => e = .returned (.bool r) ∧ Below w.heap.size w w' := by
  rw [HR_.out]
  exact awake13_calls w
theorem awake13_val : graftwoodlaw13_awake.f = some true := rfl
theorem same13_l0 (l : List S35) (hl : l.length ≤ 4294967296) : ∀ (r i k : Nat), i + r = l.length → r + 1 ≤ k → graftwoodref13_Same.l0 k l l (i : Int) = some true := by
  intro r
  induction r with
  | zero =>
    intro i k hi hk
    obtain ⟨j, rfl⟩ : ∃ j, k = j + 1 := ⟨k - 1, by omega⟩
    simp only [graftwoodref13_Same.l0]
    rw [if_neg (by omega)]
  | succ r ih =>
    intro i k hi hk
    obtain ⟨j, rfl⟩ : ∃ j, k = j + 1 := ⟨k - 1, by omega⟩
    have hwr : wrap64 ((i : Int) + 1) = ((i + 1 : Nat) : Int) := by unfold wrap64; omega
    simp only [graftwoodref13_Same.l0]
    rw [if_pos (by omega), if_pos (by omega), if_pos (by omega), if_neg (by simp), hwr]
    exact ih (i + 1) j (by omega) (by omega)
theorem same13_self (l : List S35) (hl : l.length ≤ 4294967296) (k : Nat) (hk : l.length + 1 ≤ k) : graftwoodref13_Same.f k l l = some true := by
  unfold graftwoodref13_Same.f
  rw [if_pos rfl]
  exact same13_l0 l hl l.length 0 k (by omega) (by omega)
end Go.Proofs.YtcfphieogalnbaaGreatDoor.Q
end

section
namespace Go.Proofs.YtcfphieogalnbaaGreatDoor.Q
open Go.Proofs.YtcfphieogalnbaaGreatDoor.QB.D
open Go Go.RowKit Go.Lib Go.Proofs.YtcfphieogalnbaaGreatDoorW.PrintWords Go.Proofs.YtcfphieogalnbaaGreatDoorW.PrintLast Go.Proofs.YtcfphieogalnbaaGreatDoorW.PrintMore Gw
set_option linter.unusedVariables false
theorem diff_val (l m : List S24) (hl : l.length ≤ 100) (hm : m.length ≤ 100) (bl : ∀ x ∈ l, Brief x) (bm : ∀ x ∈ m, Brief x) : diff_Diff.f l m = some (if l.all mayN = true ∧ m.all mayN = true then (diffV l m, 0) else ([], 1)) :=
  if_pos ⟨by omega, by omega, fun x h => (bl x h).tiny, fun x h => (bm x h).tiny⟩
end Go.Proofs.YtcfphieogalnbaaGreatDoor.Q
end

section
namespace Go.Proofs.YtcfphieogalnbaaGreatDoor.Q
open Go.Proofs.YtcfphieogalnbaaGreatDoor.QB.D
open Go Go.RowKit Go.Lib Gw
set_option linter.unusedVariables false
/-- By how many more a node is there. -/
def byE : List S35 → S24 → Int
  | [], _ => 0
  | e :: r, x => (if e.f0 = x then e.f1 else 0) + byE r x
theorem byE_cons (e : S35) (r : List S35) (x : S24) : byE (e :: r) x = (if e.f0 = x then e.f1 else 0) + byE r x := rfl
theorem byE_append (a b : List S35) (x : S24) : byE (a ++ b) x = byE a x + byE b x := by
  induction a with
  | nil => simp [byE]
  | cons y r ih => rw [List.cons_append, byE_cons, byE_cons, ih]; omega
theorem byE_turn (a : List S35) (x : S24) : byE (a.map turnE) x = - byE a x := by
  induction a with
  | nil => rfl
  | cons y r ih => rw [List.map_cons, byE_cons, byE_cons, ih]; simp only [turnE]; by_cases e : y.f0 = x <;> simp only [e, if_true, if_false] <;> omega
theorem byE_none {l : List S35} {x : S24} (h : x ∉ l.map (·.f0)) : byE l x = 0 := by
  induction l with
  | nil => rfl
  | cons y r ih =>
    rw [List.map_cons, List.mem_cons, not_or] at h
    rw [byE_cons, if_neg (fun e => h.1 e.symm), ih h.2]
    rfl
/-- Edits that rise, none by nothing. -/
structure CanE (l : List S35) : Prop where
  set : IsSet (l.map (·.f0))
  nz : ∀ x ∈ l, x.f1 ≠ 0
theorem CanE.nil : CanE [] := ⟨IsSet.nil, fun x h => by cases h⟩
theorem CanE.tail {x : S35} {l : List S35} (h : CanE (x :: l)) : CanE l := ⟨IsSet.tail h.set, fun y hy => h.nz y (.tail _ hy)⟩
theorem CanE.by_mem : ∀ {l : List S35}, CanE l → ∀ x ∈ l, byE l x.f0 = x.f1
  | [], _, x, h => by cases h
  | y :: r, h, x, hx => by
    have hn := h.set.nodup
    rw [List.map_cons, List.nodup_cons] at hn
    rw [byE_cons]
    rcases List.mem_cons.1 hx with rfl | hx
    · rw [if_pos rfl, byE_none hn.1]; omega
    · rw [if_neg (fun e => hn.1 (by rw [e]; exact List.mem_map_of_mem hx)), h.tail.by_mem x hx]; omega
theorem CanE.mem_iff {l : List S35} (h : CanE l) (x : S24) : x ∈ l.map (·.f0) ↔ byE l x ≠ 0 := by
  constructor
  · intro hx
    obtain ⟨e, he, rfl⟩ := List.mem_map.1 hx
    rw [h.by_mem e he]
    exact h.nz e he
  · intro hx
    by_cases hm : x ∈ l.map (·.f0)
    · exact hm
    · exact absurd (byE_none hm) hx
theorem CanE.back {l : List S35} (h : CanE l) : l = (l.map (·.f0)).map (fun n => ⟨n, byE l n⟩) := by
  rw [List.map_map]
  refine ((List.map_congr_left (fun x hx => ?_)).trans (List.map_id _)).symm
  simp only [Function.comp]
  rw [h.by_mem x hx]
  rfl
/-- Edits are told by how many more of each node there are. -/
theorem CanE.ext {a b : List S35} (ha : CanE a) (hb : CanE b) (h : ∀ x, byE a x = byE b x) : a = b := by
  have hs : a.map (·.f0) = b.map (·.f0) := ha.set.ext hb.set (fun x => by rw [ha.mem_iff, hb.mem_iff, h x])
  have he : (fun n : S24 => (⟨n, byE a n⟩ : S35)) = (fun n => ⟨n, byE b n⟩) := funext fun n => by rw [h n]
  rw [ha.back, hb.back, hs, he]
theorem CanE.turn {a : List S35} (h : CanE a) : CanE (a.map turnE) := by
  refine ⟨?_, fun x hx => ?_⟩
  · rw [List.map_map]; exact h.set
  · obtain ⟨y, hy, rfl⟩ := List.mem_map.1 hx
    have := h.nz y hy
    simp only [turnE]
    omega
theorem turn_turn (a : List S35) : (a.map turnE).map turnE = a := by
  rw [List.map_map]
  refine (List.map_congr_left (fun x hx => ?_)).trans (List.map_id _)
  simp only [Function.comp, turnE, Int.neg_neg]
  rfl
theorem chkE_of : ∀ (l : List S35) (p : Option S35), (∀ x ∈ l, edE x = true) → (l.map (·.f0)).Pairwise (fun x y => ordN x y < 0) → (∀ q, p = some q → ∀ x ∈ l, ordN q.f0 x.f0 < 0) → chkE p l = true
  | [], p, _, _, _ => by cases p <;> rfl
  | x :: r, p, hm, hs, hp => by
    rw [List.map_cons, List.pairwise_cons] at hs
    have ih := chkE_of r (some x) (fun y hy => hm y (.tail _ hy)) hs.2 (fun q e y hy => by injection e with e; rw [← e]; exact hs.1 y.f0 (List.mem_map_of_mem hy))
    cases p with
    | none => simp only [chkE]; rw [hm x (.head _), ih]; rfl
    | some q => simp only [chkE]; rw [hm x (.head _), ih, decide_eq_true (hp q rfl x (.head _))]; rfl
/-- No number of these is too great. -/
def InE (l : List S35) : Prop := ∀ x ∈ l, x.f1 ≤ 1099511627776 ∧ -1099511627776 ≤ x.f1
theorem CanE.check {l : List S35} (h : CanE l) (hi : InE l) : checkE l = true :=
  chkE_of l none (fun x hx => (edE_iff x).2 ⟨h.set.may x.f0 (List.mem_map_of_mem hx), h.nz x hx, hi x hx⟩) h.set.lt (fun q e => by cases e)
theorem chkE_pw : ∀ (l : List S35) (p : Option S35), (∀ x ∈ l, GoodN x.f0) → (∀ q, p = some q → GoodN q.f0) → chkE p l = true → (l.map (·.f0)).Pairwise (fun x y => ordN x y < 0) ∧ ∀ q, p = some q → ∀ x ∈ l, ordN q.f0 x.f0 < 0
  | [], p, _, _, _ => ⟨List.Pairwise.nil, fun q _ x h => by cases h⟩
  | x :: r, p, hg, hp, h => by
    have gx := hg x (.head _)
    have h2 : chkE (some x) r = true := by
      cases p with
      | none => simp only [chkE, Bool.and_eq_true] at h; exact h.2
      | some q => simp only [chkE, Bool.and_eq_true] at h; exact h.2.2
    have ih := chkE_pw r (some x) (fun y hy => hg y (.tail _ hy)) (fun q e => by injection e with e; rw [← e]; exact gx) h2
    refine ⟨?_, fun q e y hy => ?_⟩
    · rw [List.map_cons, List.pairwise_cons]
      refine ⟨fun y hy => ?_, ih.1⟩
      obtain ⟨z, hz, rfl⟩ := List.mem_map.1 hy
      exact ih.2 x rfl z hz
    · subst e
      simp only [chkE, Bool.and_eq_true] at h
      have hq := of_decide_eq_true h.2.1
      rcases List.mem_cons.1 hy with rfl | hy
      · exact hq
      · exact ordN_to.tr q.f0 x.f0 y.f0 (hp q rfl) gx (hg y (.tail _ hy)) hq (ih.2 x rfl y hy)
theorem check_can {l : List S35} (ht : ∀ x ∈ l, TinyN x.f0) (h : checkE l = true) : CanE l ∧ InE l := by
  have he := chkE_all l none h
  have hf := fun x hx => (edE_iff x).1 (he x hx)
  have hg : ∀ x ∈ l, GoodN x.f0 := fun x hx => mayN_good (ht x hx) (hf x hx).1
  refine ⟨⟨⟨fun x hx => ?_, fun x hx => ?_, (chkE_pw l none hg (fun q e => by cases e) h).1⟩, fun x hx => (hf x hx).2.1⟩, fun x hx => (hf x hx).2.2⟩
  · obtain ⟨y, hy, rfl⟩ := List.mem_map.1 hx; exact hg y hy
  · obtain ⟨y, hy, rfl⟩ := List.mem_map.1 hx; exact (hf y hy).1
theorem turn_in {l : List S35} (h : InE l) : InE (l.map turnE) := fun x hx => by
  obtain ⟨y, hy, rfl⟩ := List.mem_map.1 hx
  have := h y hy
  simp only [turnE]
  omega
theorem editsF_names (m : List (S24 × Int)) (S : List S24) : (editsF m S).map (·.f0) = S.filter (fun n => !decide ((lookC m n).getD 0 = 0)) := by
  unfold editsF
  rw [List.map_map]
  exact List.map_id _
theorem editsF_can {m : List (S24 × Int)} (h : CntOk m) : CanE (editsF m (sortN (m.map (·.1)))) := by
  refine ⟨?_, fun x hx => ?_⟩
  · rw [editsF_names]
    exact (sorted_is h.nodup (fun x hx => by obtain ⟨p, hp, rfl⟩ := List.mem_map.1 hx; exact h.may p hp)).filter _
  · unfold editsF at hx
    obtain ⟨n, hn, rfl⟩ := List.mem_map.1 hx
    have := (List.mem_filter.1 hn).2
    simpa using this
theorem editsF_by {m : List (S24 × Int)} (h : CntOk m) (x : S24) : byE (editsF m (sortN (m.map (·.1)))) x = (lookC m x).getD 0 := by
  by_cases hx : x ∈ (editsF m (sortN (m.map (·.1)))).map (·.f0)
  · obtain ⟨e, he, rfl⟩ := List.mem_map.1 hx
    rw [(editsF_can h).by_mem e he]
    unfold editsF at he
    obtain ⟨n, hn, rfl⟩ := List.mem_map.1 he
    rfl
  · rw [byE_none hx]
    rw [editsF_names, List.mem_filter] at hx
    by_cases hk : x ∈ m.map (·.1)
    · have := fun h2 => hx ⟨(sortN_perm _).mem_iff.2 hk, h2⟩
      simp only [Bool.not_eq_true', decide_eq_false_iff_not] at this
      exact (Classical.not_not.1 this).symm
    · have : lookC m x = none := by
        cases e : lookC m x with
        | none => rfl
        | some v => exact absurd ((look_mem m x).1 (by rw [e]; rfl)) hk
      rw [this]
      rfl
theorem diffV_can (l m : List S24) (hl : l.length ≤ 32768) (hm : m.length ≤ 32768) (tl : ∀ x ∈ l, TinyN x ∧ mayN x = true) (tm : ∀ x ∈ m, TinyN x ∧ mayN x = true) : CanE (diffV l m) := editsF_can (diffC_ok l m hl hm tl tm)
theorem diffV_by (l m : List S24) (hl : l.length ≤ 32768) (hm : m.length ≤ 32768) (tl : ∀ x ∈ l, TinyN x ∧ mayN x = true) (tm : ∀ x ∈ m, TinyN x ∧ mayN x = true) (x : S24) : byE (diffV l m) x = cntN m x - cntN l x := by
  unfold diffV
  rw [editsF_by (diffC_ok l m hl hm tl tm), look_diff]
theorem diffV_in (l m : List S24) (hl : l.length ≤ 32768) (hm : m.length ≤ 32768) : InE (diffV l m) := fun x hx => by
  unfold diffV editsF at hx
  obtain ⟨n, hn, rfl⟩ := List.mem_map.1 hx
  have h1 := cntN_range l n
  have h2 := cntN_range m n
  simp only [look_diff]
  omega
theorem look_countE : ∀ (l : List S35) (m : List (S24 × Int)) (x : S24), (lookC (countE m l) x).getD 0 = (lookC m x).getD 0 + byE l x
  | [], m, x => by simp [countE, byE]
  | y :: r, m, x => by
    have h : countE m (y :: r) = countE (bumpC m y.f0 y.f1) r := rfl
    rw [h, look_countE r, look_bump, byE_cons]
    omega
theorem keys_countE : ∀ (l : List S35) (m : List (S24 × Int)) (y : S24), y ∈ (countE m l).map (·.1) ↔ y ∈ m.map (·.1) ∨ y ∈ l.map (·.f0)
  | [], m, y => by simp [countE]
  | x :: r, m, y => by
    have h : countE m (x :: r) = countE (bumpC m x.f0 x.f1) r := rfl
    rw [h, keys_countE r, keys_bump, List.map_cons, List.mem_cons, or_assoc]
/-- Edits of tiny nodes that may be. -/
def TinyE (l : List S35) : Prop := ∀ x ∈ l, TinyN x.f0 ∧ mayN x.f0 = true
theorem bothV_can (a b : List S35) (hl : a.length ≤ 32768) (hm : b.length ≤ 32768) (ta : TinyE a) (tb : TinyE b) : CanE (bothV a b) := editsF_can (bothC_ok a b hl hm ta tb)
theorem bothV_by (a b : List S35) (hl : a.length ≤ 32768) (hm : b.length ≤ 32768) (ta : TinyE a) (tb : TinyE b) (x : S24) : byE (bothV a b) x = byE a x + byE b x := by
  unfold bothV
  rw [editsF_by (bothC_ok a b hl hm ta tb), look_countE, byE_append]
  have : (lookC [] x).getD 0 = 0 := by simp [lookC]
  rw [this]
  omega
theorem diffV_tiny (l m : List S24) (tl : ∀ x ∈ l, TinyN x ∧ mayN x = true) (tm : ∀ x ∈ m, TinyN x ∧ mayN x = true) : TinyE (diffV l m) := fun x hx => by
  unfold diffV editsF at hx
  obtain ⟨n, hn, rfl⟩ := List.mem_map.1 hx
  rcases (keys_diff l m n).1 ((sortN_perm _).mem_iff.1 (List.mem_filter.1 hn).1) with h | h
  · exact tl n h
  · exact tm n h
theorem diffV_len2 (l m : List S24) : (diffV l m).length ≤ l.length + m.length := by
  have h0 := countC_ok (p := fun _ => True) (-1) l [] 0 ⟨List.nodup_nil, fun q h => trivial, Nat.le_refl _⟩ (fun _ _ => trivial)
  have h1 := countC_ok (p := fun _ => True) 1 m _ _ h0 (fun _ _ => trivial)
  have h2 := editsF_len (diffC l m) (sortN ((diffC l m).map (·.1)))
  rw [(sortN_perm _).length_eq, List.length_map] at h2
  have h3 := h1.2.2
  unfold diffV
  unfold diffC at h2 ⊢
  omega
theorem bothV_len2 (a b : List S35) : (bothV a b).length ≤ a.length + b.length := by
  have h1 := countE_ok (p := fun _ => True) (a ++ b) [] 0 ⟨List.nodup_nil, fun q h => trivial, Nat.le_refl _⟩ (fun _ _ => trivial)
  have h2 := editsF_len (countE [] (a ++ b)) (sortN ((countE [] (a ++ b)).map (·.1)))
  rw [(sortN_perm _).length_eq, List.length_map] at h2
  have h3 := h1.2.2
  rw [List.length_append] at h3
  unfold bothV
  omega
theorem bothV_tinyE (a b : List S35) (ta : TinyE a) (tb : TinyE b) : TinyE (bothV a b) := fun x hx => by
  unfold bothV editsF at hx
  obtain ⟨n, hn, rfl⟩ := List.mem_map.1 hx
  have h := (keys_countE (a ++ b) [] n).1 ((sortN_perm _).mem_iff.1 (List.mem_filter.1 hn).1)
  rw [List.map_append, List.mem_append] at h
  rcases h with h | h | h
  · cases h
  · obtain ⟨y, hy, rfl⟩ := List.mem_map.1 h; exact ta y hy
  · obtain ⟨y, hy, rfl⟩ := List.mem_map.1 h; exact tb y hy
theorem turn_tinyE {a : List S35} (h : TinyE a) : TinyE (a.map turnE) := fun x hx => by
  obtain ⟨y, hy, rfl⟩ := List.mem_map.1 hx
  exact h y hy
end Go.Proofs.YtcfphieogalnbaaGreatDoor.Q
end

section
namespace Go.Proofs.YtcfphieogalnbaaGreatDoor.Q
open Go.Proofs.YtcfphieogalnbaaGreatDoor.QB.D
open Go Go.RowKit Go.Lib Go.Proofs.YtcfphieogalnbaaGreatDoorW.PrintWords Go.Proofs.YtcfphieogalnbaaGreatDoorW.PrintLast Go.Proofs.YtcfphieogalnbaaGreatDoorW.PrintMore Gw
set_option linter.unusedVariables false
set_option linter.unusedSimpArgs false
/-- Nodes as the law looks at them. -/
def Okl (F : List S24) : Prop := F.length ≤ 50 ∧ ∀ x ∈ F, Brief x
theorem few_okl (l : List S24) : Okl (fewN l) := ⟨Nat.le_trans (fewN_len l) (by omega), fewN_brief l⟩
theorem few_c (A0 : Option Addr) (c0 : Nat) (l0 : List S24) (w : World) (h : SeeA k24 w A0 c0 l0) : Calls Tryz.prog 7 #[.slice A0 l0.length c0] w fun x w' => ∃ A c, x = .returned (.slice A (fewN l0).length c) ∧ SeeA k24 w' A c (fewN l0) ∧ Aside0 (Below w.heap.size w w') :=
  cR (graftwoodlaw05_Few.calls 30 A0 c0 l0 _ w h.out.2 h.out.1 (fewN_val l0 30 (by omega)))
def dE (F G : List S24) : List S35 := if F.all mayN = true ∧ G.all mayN = true then diffV F G else []
def dI (F G : List S24) : Int := if F.all mayN = true ∧ G.all mayN = true then 0 else 1
theorem diff_c {A0 : Option Addr} {c0 : Nat} {F : List S24} {A1 : Option Addr} {c1 : Nat} {G : List S24} {w : World} (h0 : SeeA k24 w A0 c0 F) (h1 : SeeA k24 w A1 c1 G) (hF : Okl F) (hG : Okl G) :
    Calls Tryz.prog 9 #[.slice A0 F.length c0, .slice A1 G.length c1] w fun x w' => ∃ A c, x = .returned (.tuple #[.slice A (dE F G).length c, .int .i64 (dI F G)]) ∧ SeeA k35 w' A c (dE F G) ∧ Aside0 (Below w.heap.size w w') :=
  cR2 (diff_Diff.calls A0 c0 F A1 c1 G _ _ w h0.out.2 h0.out.1 h1.out.2 h1.out.1 (by rw [diff_val F G (by have := hF.1; omega) (by have := hG.1; omega) hF.2 hG.2]; unfold dE dI; split <;> rfl))
theorem count_c {A1 : Option Addr} {c1 : Nat} {G : List S24} {w : World} (h1 : SeeA k24 w A1 c1 G) (hG : Okl G) :
    Calls Tryz.prog 13 #[.slice A1 G.length c1] w fun x w' => ∃ A c, x = .returned (.tuple #[.slice A (dE [] G).length c, .int .i64 (dI [] G)]) ∧ SeeA k35 w' A c (dE [] G) ∧ Aside0 (Below w.heap.size w w') :=
  cR2 (diff_Count.calls A1 c1 G _ _ w h1.out.2 h1.out.1 (by unfold diff_Count.f; rw [diff_val [] G (by simp) (by have := hG.1; omega) (fun x h => by cases h) hG.2]; unfold dE dI; split <;> rfl))
theorem aw13_c (w : World) : Calls Tryz.prog 11 #[] w fun x w' => x = .returned (.bool true) ∧ Aside0 (Below w.heap.size w w') := cB (awake13_calls w)
theorem same13_c {A0 : Option Addr} {c0 : Nat} {A1 : Option Addr} {c1 : Nat} {l : List S35} {w : World} (h0 : SeeA k35 w A0 c0 l) (h1 : SeeA k35 w A1 c1 l) (hl : l.length ≤ 100000) :
    Calls Tryz.prog 14 #[.slice A0 l.length c0, .slice A1 l.length c1] w fun x w' => x = .returned (.bool true) ∧ Aside0 (Below w.heap.size w w') :=
  cD (graftwoodref13_Same.calls 100001 A0 c0 l A1 c1 l _ w h0.out.2 h0.out.1 h1.out.2 h1.out.1 (same13_self l (by omega) 100001 (by omega)))
/-- Edits as Both and Turn take them. -/
structure Oke (l : List S35) : Prop where
  can : CanE l
  inn : InE l
  tiny : TinyE l
  len : l.length ≤ 32768
theorem Oke.check {l : List S35} (h : Oke l) : checkE l = true := h.can.check h.inn
theorem both_c {A0 : Option Addr} {c0 : Nat} {A1 : Option Addr} {c1 : Nat} {l m r : List S35} {w : World} (h0 : SeeA k35 w A0 c0 l) (h1 : SeeA k35 w A1 c1 m) (hl : Oke l) (hm : Oke m) (hr : Oke r) (he : ∀ x, byE r x = byE l x + byE m x) :
    Calls Tryz.prog 17 #[.slice A0 l.length c0, .slice A1 m.length c1] w fun x w' => ∃ A c, x = .returned (.tuple #[.slice A r.length c, .int .i64 0]) ∧ SeeA k35 w' A c r ∧ Aside0 (Below w.heap.size w w') := by
  have e : bothV l m = r := (bothV_can l m hl.len hm.len hl.tiny hm.tiny).ext hr.can (fun x => by rw [bothV_by l m hl.len hm.len hl.tiny hm.tiny, he])
  exact cR2 (diff_Both.calls A0 c0 l A1 c1 m _ _ w h0.out.2 h0.out.1 h1.out.2 h1.out.1 (by
    unfold diff_Both.f
    rw [if_pos ⟨hl.len, hm.len, fun x h => (hl.tiny x h).1, fun x h => (hm.tiny x h).1⟩, if_pos ⟨hl.check, hm.check⟩, e, if_pos hr.check]))
theorem turn_c {A0 : Option Addr} {c0 : Nat} {l : List S35} {w : World} (h0 : SeeA k35 w A0 c0 l) (hl : Oke l) :
    Calls Tryz.prog 18 #[.slice A0 l.length c0] w fun x w' => ∃ A c, x = .returned (.tuple #[.slice A (l.map turnE).length c, .int .i64 0]) ∧ SeeA k35 w' A c (l.map turnE) ∧ Aside0 (Below w.heap.size w w') :=
  cR2 (diff_Turn.calls A0 c0 l _ _ w h0.out.2 h0.out.1 (by
    unfold diff_Turn.f
    rw [if_pos ⟨by have := hl.len; omega, fun x h => (hl.tiny x h).1⟩, if_pos hl.check]))
theorem oke_nil : Oke [] := ⟨CanE.nil, (fun x h => by cases h), (fun x h => by cases h), by simp⟩
theorem Oke.turn {l : List S35} (h : Oke l) : Oke (l.map turnE) := ⟨h.can.turn, turn_in h.inn, turn_tinyE h.tiny, by rw [List.length_map]; exact h.len⟩
theorem check_c {A0 : Option Addr} {c0 : Nat} {l : List S35} {w : World} (h0 : SeeA k35 w A0 c0 l) (hl : Oke l) :
    Calls Tryz.prog 19 #[.slice A0 l.length c0] w fun x w' => x = .returned (.int .i64 0) ∧ Aside0 (Below w.heap.size w w') := by
  obtain ⟨K, hK⟩ : ∃ K, 65536 + 4294967320 ≤ K := ⟨_, Nat.le_refl _⟩
  have e0 := checkE_val l (by have := hl.len; omega) (fun x h => (hl.tiny x h).1) K (by have := hl.len; omega)
  rw [hl.check] at e0
  exact cB (diff_Check.calls K A0 c0 l _ w h0.out.2 h0.out.1 e0)
theorem Okl.tm {F : List S24} (h : Okl F) (ha : F.all mayN = true) : ∀ x ∈ F, TinyN x ∧ mayN x = true := fun x hx => ⟨(h.2 x hx).tiny, List.all_eq_true.1 ha x hx⟩
theorem oke_diff {F G : List S24} (hF : Okl F) (hG : Okl G) (f : F.all mayN = true) (g : G.all mayN = true) : Oke (diffV F G) ∧ ∀ x, byE (diffV F G) x = cntN G x - cntN F x :=
  have a := hF.1; have b := hG.1
  ⟨⟨diffV_can F G (by omega) (by omega) (hF.tm f) (hG.tm g), diffV_in F G (by omega) (by omega), diffV_tiny F G (hF.tm f) (hG.tm g), by have := diffV_len2 F G; omega⟩, diffV_by F G (by omega) (by omega) (hF.tm f) (hG.tm g)⟩
theorem okl_nil : Okl [] := ⟨by simp, fun x h => by cases h⟩
def oneE (e : S35) : S35 := ⟨oneN e.f0, e.f1⟩
def fewE (l : List S35) : List S35 := (l.take 20).map oneE
theorem fewE_l0 (l : List S35) : ∀ (n i k : Nat), 20 ≤ i + n → i ≤ 20 → n + 1 ≤ k → graftwoodlaw13_Few.l0 k l ((l.take i).map oneE) (i : Int) = some (fewE l) := by
  intro n
  induction n with
  | zero =>
    intro i k h1 h2 hk
    obtain ⟨j, rfl⟩ : ∃ j, k = j + 1 := ⟨k - 1, by omega⟩
    have e : i = 20 := by omega
    subst e
    simp only [graftwoodlaw13_Few.l0]
    by_cases h : ((20 : Nat) : Int) < (l.length : Int)
    · rw [if_pos h, if_neg (by omega)]; rfl
    · rw [if_neg h]; rfl
  | succ n ih =>
    intro i k h1 h2 hk
    obtain ⟨j, rfl⟩ : ∃ j, k = j + 1 := ⟨k - 1, by omega⟩
    by_cases h : i < l.length
    · by_cases h24 : i < 20
      · have hrd : rd_T35 l (i : Int) = l[i] := by simp [rd_T35, List.getD_eq_getElem?_getD, List.getElem?_eq_getElem h]
        have hx : (l.take i).map oneE ++ [(⟨⟨few l[i].f0.f0, few l[i].f0.f1⟩, l[i].f1⟩ : S35)] = (l.take (i + 1)).map oneE := by
          rw [List.take_succ_eq_append_getElem h, List.map_append]; rfl
        simp only [graftwoodlaw13_Few.l0]
        rw [if_pos (by omega), if_pos (by omega), if_pos (by omega), hrd, One_val]
        simp only [Option.bind_some]
        rw [if_pos (by rw [List.length_map, List.length_take]; omega), hx, show wrap64 ((i : Int) + 1) = ((i + 1 : Nat) : Int) by unfold wrap64; omega]
        exact ih (i + 1) j (by omega) (by omega) (by omega)
      · exact ih i (j + 1) (by omega) h2 (by omega)
    · simp only [graftwoodlaw13_Few.l0]
      rw [if_neg (by omega)]
      unfold fewE
      rw [List.take_of_length_le (by omega : l.length ≤ i), List.take_of_length_le (by omega : l.length ≤ 20)]
theorem fewE_len (l : List S35) : (fewE l).length ≤ 20 := by unfold fewE; rw [List.length_map, List.length_take]; omega
theorem fewE_brief (l : List S35) : ∀ x ∈ fewE l, Brief x.f0 := fun x hx => by
  obtain ⟨y, _, rfl⟩ := List.mem_map.1 hx
  exact oneN_brief y.f0
/-- Edits as the laws look at them. -/
def Oks (F : List S35) : Prop := F.length ≤ 20 ∧ ∀ x ∈ F, Brief x.f0
theorem few13_c {A0 : Option Addr} {c0 : Nat} {l0 : List S35} {w : World} (h : SeeA k35 w A0 c0 l0) : Calls Tryz.prog 16 #[.slice A0 l0.length c0] w fun x w' => ∃ A c, x = .returned (.slice A (fewE l0).length c) ∧ SeeA k35 w' A c (fewE l0) ∧ Aside0 (Below w.heap.size w w') :=
  cR (graftwoodlaw13_Few.calls 30 A0 c0 l0 _ w h.out.2 h.out.1 (fewE_l0 l0 20 0 30 (by omega) (by omega) (by omega)))
/-- Two edits together, or why not. -/
def bV (a b : List S35) : List S35 × Int := if checkE a = true ∧ checkE b = true then (if checkE (bothV a b) = true then (bothV a b, 0) else ([], 4)) else ([], 1)
theorem bV_c {A0 : Option Addr} {c0 : Nat} {A1 : Option Addr} {c1 : Nat} {l m : List S35} {w : World} (h0 : SeeA k35 w A0 c0 l) (h1 : SeeA k35 w A1 c1 m) (hl : Oks l) (hm : Oks m) :
    Calls Tryz.prog 17 #[.slice A0 l.length c0, .slice A1 m.length c1] w fun x w' => ∃ A c, x = .returned (.tuple #[.slice A (bV l m).1.length c, .int .i64 (bV l m).2]) ∧ SeeA k35 w' A c (bV l m).1 ∧ Aside0 (Below w.heap.size w w') :=
  cR2 (diff_Both.calls A0 c0 l A1 c1 m _ _ w h0.out.2 h0.out.1 h1.out.2 h1.out.1 (by
    unfold diff_Both.f bV
    rw [if_pos ⟨by have := hl.1; omega, by have := hm.1; omega, fun x h => (hl.2 x h).tiny, fun x h => (hm.2 x h).tiny⟩]))
theorem Oks.oke {l : List S35} (h : Oks l) (hc : checkE l = true) : Oke l :=
  have ht : ∀ x ∈ l, TinyN x.f0 := fun x hx => (h.2 x hx).tiny
  have c := check_can ht hc
  ⟨c.1, c.2, fun x hx => ⟨ht x hx, c.1.set.may x.f0 (List.mem_map_of_mem hx)⟩, by have := h.1; omega⟩
theorem bV_comm {a b : List S35} (ha : Oks a) (hb : Oks b) : bV b a = bV a b := by
  unfold bV
  by_cases h : checkE a = true ∧ checkE b = true
  · have oa := ha.oke h.1
    have ob := hb.oke h.2
    have e : bothV b a = bothV a b := (bothV_can b a ob.len oa.len ob.tiny oa.tiny).ext (bothV_can a b oa.len ob.len oa.tiny ob.tiny) (fun x => by rw [bothV_by b a ob.len oa.len ob.tiny oa.tiny, bothV_by a b oa.len ob.len oa.tiny ob.tiny]; omega)
    rw [if_pos h, if_pos ⟨h.2, h.1⟩, e]
  · rw [if_neg h, if_neg (fun g => h ⟨g.2, g.1⟩)]
theorem bV_len (a b : List S35) (ha : a.length ≤ 20) (hb : b.length ≤ 20) : (bV a b).1.length ≤ 40 := by
  unfold bV
  have := bothV_len2 a b
  split
  · split
    · simp only []; omega
    · simp
  · simp
theorem turnI_c {A0 : Option Addr} {c0 : Nat} {l : List S35} {w : World} {b : Bool} (h0 : SeeA k35 w A0 c0 l) (hl : Oks l) (hb : checkE l = b) :
    Calls Tryz.prog 18 #[.slice A0 l.length c0] w fun x w' => ∃ A c, x = .returned (.tuple #[.slice A (if b = true then l.map turnE else []).length c, .int .i64 (if b = true then 0 else 1)]) ∧ SeeA k35 w' A c (if b = true then l.map turnE else []) ∧ Aside0 (Below w.heap.size w w') :=
  cR2 (diff_Turn.calls A0 c0 l _ _ w h0.out.2 h0.out.1 (by
    unfold diff_Turn.f
    rw [if_pos ⟨by have := hl.1; omega, fun x h => (hl.2 x h).tiny⟩, hb]
    split <;> rfl))
end Go.Proofs.YtcfphieogalnbaaGreatDoor.Q
end

section
namespace Go.Proofs.YtcfphieogalnbaaGreatDoor.Q
open Go.RowKit Go.Proofs.YtcfphieogalnbaaGreatDoorW.PrintWords Go.Proofs.YtcfphieogalnbaaGreatDoorW.PrintLast Go.Proofs.YtcfphieogalnbaaGreatDoorW.PrintMore Gw
set_option linter.unusedVariables false
def cutFrom (l : List Nat) (n : Nat) : Nat := n + (cutDash (l.drop n)).1.length
abbrev V4 := ByteArray × ByteArray × ByteArray × List ByteArray × Bool
def zeroV : V4 := (⟨#[]⟩, ⟨#[]⟩, ⟨#[]⟩, [], false)
def SplitPost (v : V4) (w : World) (e : Ending) (w' : World) : Prop := ∃ u : Value, e = .returned (.tuple #[.agg #[.string v.1, .string v.2.1, .string v.2.2.1, u], .bool v.2.2.2.2]) ∧ Kd.R Kd.string 9 w' w.heap.size (fun _ => True) u v.2.2.2.1 ∧ Below w.heap.size w w'
theorem parts_any (s : ByteArray) (hs : Small s) (sep : Nat) (w : World) : Calls Tryz.prog 36 #[.string s, .int .u8 (sep : Int)] w fun e w' => ∃ v, e = .returned v ∧ Kd.R Kd.string 9 w' w.heap.size (fun _ => True) v ((parts sep (bs s)).map ofB) ∧ Below w.heap.size w w' :=
  graftwoodref01_Parts.calls (s.size + 1) s sep _ w (Parts_tot s hs sep _ (by omega))
theorem cutFrom_step {l : List Nat} {n c : Nat} {r : List Nat} (h : l.drop n = c :: r) : cutFrom l n = if c = 45 then n else cutFrom l (n + 1) := by
  have h2 : l.drop (n + 1) = r := by rw [← List.drop_drop, h]; rfl
  unfold cutFrom
  rw [h, h2]
  by_cases hc : c = 45
  · simp [cutDash, hc]
  · simp [cutDash, hc]; omega
theorem may_any (s : ByteArray) (hs : Small s) (w : World) : Calls Tryz.prog 50 #[.string s] w fun e w' => e = .returned (.bool (isNum (bs s))) ∧ Drawn0 w w' :=
  graftwoodref02_May.calls (s.size + 1) s _ w (ref2May_tot s hs _ (by omega))
theorem word_any (s : ByteArray) (hs : Small s) (w : World) : Calls Tryz.prog 51 #[.string s] w fun e w' => e = .returned (.bool (isWord (bs s))) ∧ Drawn0 w w' :=
  graftwoodref03_Word.calls (2 * s.size + 7) s _ w (Word_tot s hs _ (by omega))
theorem parts46 (s : ByteArray) (hs : Small s) (w : World) : Calls Tryz.prog 36 #[.string s, .int .u8 46] w fun e w' => ∃ v, e = .returned v ∧ Kd.R Kd.string 9 w' w.heap.size (fun _ => True) v ((parts 46 (bs s)).map ofB) ∧ Below w.heap.size w w' := parts_any s hs 46 w
theorem R_cells {w : World} {base : Nat} {ok : Nat → Prop} {v : Value} {xs : List ByteArray} (h : Kd.R Kd.string 9 w base ok v xs) (hp : 0 < xs.length) : ∃ g c, v = .slice (some ⟨g, 0, none⟩) xs.length c ∧ base ≤ g ∧ g < w.heap.size ∧ ∀ i (hi : i < xs.length), w.cell? ⟨g, i, none⟩ = some (.string (xs[i])) := by
  obtain ⟨g, cap, rfl, h1, h2, _⟩ := Kd.R_form h hp
  refine ⟨g, cap, rfl, h1, h2, fun i hi => ?_⟩
  obtain ⟨ad, he, hc⟩ := Kd.at_string (Kd.R_reads' h).2.2 (i : Int) (by omega) (by omega)
  injection he with he
  subst he
  rw [add_plain, Int.toNat_natCast] at hc
  rw [hc]
  simp [rdOf, List.getD_eq_getElem?_getD, List.getElem?_eq_getElem hi]
theorem two_blocks {w w1 : World} {A B : Array Value} {t u : TypeId} (hb : Below ((w.alloc (.cells A t)).alloc (.cells B u)).heap.size ((w.alloc (.cells A t)).alloc (.cells B u)) w1) :
    (∀ i, w1.cell? ⟨w.heap.size, i, none⟩ = A[i]?) ∧ (∀ i, w1.cell? ⟨w.heap.size + 1, i, none⟩ = B[i]?) ∧ (∀ i, w1.frozen? ⟨w.heap.size, i, none⟩ = false) ∧ (∀ i, w1.frozen? ⟨w.heap.size + 1, i, none⟩ = false) ∧ w.heap.size + 1 < w1.heap.size := by
  have h1 := (hb.block w.heap.size (by simp; omega)).trans (heap_alloc2_old w (.cells A t) (.cells B u))
  have h2 := (hb.block (w.heap.size + 1) (by simp)).trans (heap_alloc2_new w (.cells A t) (.cells B u))
  exact ⟨blk_cell h1, blk_cell h2, blk_frozen h1, blk_frozen h2, by have := hb.size; simp at this; omega⟩
def splitOf (s : ByteArray) (cut : Nat) : List ByteArray → V4
  | [a, b, c] => if isNum (bs a) && isNum (bs b) && isNum (bs c) then
      if cut = s.size then (a, b, c, [], true)
      else if (parts 46 ((bs s).drop (cut + 1))).all isWord then (a, b, c, (parts 46 ((bs s).drop (cut + 1))).map ofB, true) else zeroV
    else zeroV
  | _ => zeroV
def splitS (s : ByteArray) : V4 := splitOf s (cutFrom (bs s) 0) ((parts 46 (((bs s).take (cutFrom (bs s) 0)).drop 1)).map ofB)
set_option maxHeartbeats 2000000 in
theorem split_go (s : ByteArray) (hs : Small s) (h0 : 0 < s.size) (h1 : bt s 0 = 118) (cut : Nat) (hcut : cutFrom (bs s) 0 = cut) (hc1 : 1 ≤ cut) (hc2 : cut ≤ s.size) (v : V4) (hv : splitS s = v) (w : World) : Calls Tryz.prog 38 #[.string s] w (SplitPost v w) := by
  have hu49 := Tryz.underlying65
  have Hv := Aside0.mk hv
  clear hv
  have hd : ((s.size : Int) == 0) = false := beq_eq_false_iff_ne.2 (by omega)
  have hx9 : ∀ h : 0 < s.size, ((s[0]'h).toNat : Int) = 118 := fun h => by rw [← h1]; exact bt_at s 0 h
  have hq : decide (0 < s.size) = true := decide_eq_true h0
  have hsz : s.size ≤ 4398046511104 := hs
  have Hcut := Aside0.mk hcut
  clear h1 hcut
  go_enter Tryz.func38, Tryz.ntmps38
  go_wp2
  go_loop [5, 6] (fun v5 v6 => ∃ j : Int, -1 ≤ j ∧ j < s.size ∧ v5 = .int .i64 (cutFrom (bs s) (j + 1).toNat : Nat) ∧ v6 = .int .i64 j) (fun _ v6 => (intOf v6 + 1).toNat)
  case atStart =>
    have e : cutFrom (bs s) ((s.size : Int) - 1 + 1).toNat = s.size := by
      rw [show ((s.size : Int) - 1 + 1).toNat = s.size from by omega]
      unfold cutFrom
      rw [List.drop_eq_nil_of_le (by rw [bs_length]; omega)]
      rfl
    exact ⟨(s.size : Int) - 1, by omega, by omega, by rw [e], rfl⟩
  case round =>
    obtain ⟨j, hj1, hj2, rfl, rfl⟩ := hrel
    by_cases hj : 0 ≤ j
    · obtain ⟨m, rfl⟩ := Int.eq_ofNat_of_zero_le hj
      have hm : m < s.size := by omega
      have hdr : (bs s).drop m = (bs s)[m]'(by rw [bs_length]; exact hm) :: (bs s).drop (m + 1) := List.drop_eq_getElem_cons _
      have hst := cutFrom_step hdr
      have hbt := (bt_drop hdr).2.1
      obtain ⟨c, hc⟩ : ∃ c, c = (bs s)[m]'(by rw [bs_length]; exact hm) := ⟨_, rfl⟩
      rw [← hc] at hst hbt
      have hxm : ∀ h : m < s.size, ((s[m]'h).toNat : Int) = (c : Int) := fun h => by rw [← hbt]; exact bt_at s m h
      have Hst := Aside0.mk hst
      have hqm : decide (m < s.size) = true := decide_eq_true hm
      clear hc hst hbt hdr hj1 hj2
      have hj3 : (-1 : Int) ≤ (m : Int) - 1 := by omega
      by_cases h45 : c = 45
      · have hb : ((c : Int) == 45) = true := beq_iff_eq.2 (by omega)
        have H45 := Aside0.mk h45
        clear h45
        go_wp2
        go_round
        case rel => exact ⟨(m : Int) - 1, by omega, by omega, by rw [show ((m : Int) - 1 + 1).toNat = m from by omega, Hst.out, if_pos H45.out], rfl⟩
        case measure => simp [intOf]
      · have hb : ((c : Int) == 45) = false := beq_eq_false_iff_ne.2 (by omega)
        have H45 := Aside0.mk h45
        clear h45
        go_wp2
        go_round
        case rel => exact ⟨(m : Int) - 1, by omega, by omega, by rw [show ((m : Int) - 1 + 1).toNat = m from by omega, Hst.out, if_neg H45.out, show ((m : Int) + 1).toNat = m + 1 from by omega], rfl⟩
        case measure => simp [intOf]
    · obtain rfl : j = -1 := by omega
      rw [show ((-1 : Int) + 1).toNat = 0 from rfl, Hcut.out]
      clear hj1 hj2 hj
      have hc1' : (1 : Int) ≤ (cut : Int) := by omega
      have hc2' : (cut : Int) ≤ (s.size : Int) := by omega
      go_wp2_with fail
      refine (parts46 _ ?_ _).mono ?_
      · unfold Small; simp only [ByteArray.size_extract]; omega
      rintro e w1 ⟨u, rfl, hR, hb⟩
      rw [bs_extract] at hR
      obtain ⟨xs, hxs⟩ : ∃ xs, xs = (parts 46 (((bs s).take cut).drop 1)).map ofB := ⟨_, rfl⟩
      rw [← hxs] at hR
      have hsp : splitS s = splitOf s cut xs := by unfold splitS; rw [Hcut.out, ← hxs]
      rw [Hv.out] at hsp
      have hxl : ∀ x ∈ xs, Small x := fun x hx => by
        rw [hxs, ← bs_extract] at hx
        refine ((parts_small (s := s.extract 1 cut) ?_ 46).2 x hx).1
        unfold Small; simp only [ByteArray.size_extract]; omega
      clear hxs Hcut Hv
      obtain ⟨kc2, kc4, kf2, kf4, hz⟩ := two_blocks hb
      have hB : Below w.heap.size w w1 := ((((Below.refl _ _).alloc (Nat.le_refl _) _).alloc (by simp) _).trans (hb.mono (by simp; omega)))
      have HB := Aside0.mk hB
      clear hB hb
      by_cases h3 : xs.length = 3
      · obtain ⟨x0, x1, x2, rfl⟩ : ∃ a b c, xs = [a, b, c] := by
          match xs, h3 with
          | [a, b, c], _ => exact ⟨a, b, c, rfl⟩
        obtain ⟨g, cap, rfl, hg1, hg2, hcs⟩ := R_cells hR (by simp)
        have hcx0 : w1.cell? ⟨g, 0, none⟩ = some (.string x0) := hcs 0 (by simp)
        have hcx1 : w1.cell? ⟨g, 1, none⟩ = some (.string x1) := hcs 1 (by simp)
        have hcx2 : w1.cell? ⟨g, 2, none⟩ = some (.string x2) := hcs 2 (by simp)
        have hs0 : Small x0 := hxl x0 (by simp)
        have hs1 : Small x1 := hxl x1 (by simp)
        have hs2 : Small x2 := hxl x2 (by simp)
        simp only [splitOf] at hsp
        generalize hb0 : isNum (bs x0) = b0 at hsp
        generalize hb1 : isNum (bs x1) = b1 at hsp
        generalize hb2 : isNum (bs x2) = b2 at hsp
        have B0 := Aside0.mk hb0
        have B1 := Aside0.mk hb1
        have B2 := Aside0.mk hb2
        have Hsp := Aside0.mk hsp
        clear hsp h3 hxl hcs hb0 hb1 hb2
        go_wp2_with fail
        refine (may_any x0 hs0 _).mono ?_
        rintro e w2 ⟨rfl, ⟨n2, rfl⟩⟩
        rw [B0.out]
        cases b0
        · have hvz : v = zeroV := Hsp.out
          subst hvz
          go_wp2
          exact bodyPost_ret (v := .tuple #[.agg #[.string ⟨#[]⟩, .string ⟨#[]⟩, .string ⟨#[]⟩, .slice none 0 0], .bool false]) (by simp [results, Tryz.results38, go_sem, kc2]) rfl ⟨_, rfl, Kd.R_nil _ _ _ _ _, by repeat (with_reducible first | exact HB.out | refine below_set ?_ (by omega) | refine pw_below_drewN ?_ _ | refine below_drew ?_)⟩
        go_wp2_with fail
        refine (may_any x1 hs1 _).mono ?_
        rintro e w3 ⟨rfl, ⟨n3, rfl⟩⟩
        rw [B1.out]
        cases b1
        · have hvz : v = zeroV := Hsp.out
          subst hvz
          go_wp2
          exact bodyPost_ret (v := .tuple #[.agg #[.string ⟨#[]⟩, .string ⟨#[]⟩, .string ⟨#[]⟩, .slice none 0 0], .bool false]) (by simp [results, Tryz.results38, go_sem, kc2]) rfl ⟨_, rfl, Kd.R_nil _ _ _ _ _, by repeat (with_reducible first | exact HB.out | refine below_set ?_ (by omega) | refine pw_below_drewN ?_ _ | refine below_drew ?_)⟩
        go_wp2_with fail
        refine (may_any x2 hs2 _).mono ?_
        rintro e w4 ⟨rfl, ⟨n4, rfl⟩⟩
        rw [B2.out]
        cases b2
        · have hvz : v = zeroV := Hsp.out
          subst hvz
          go_wp2
          exact bodyPost_ret (v := .tuple #[.agg #[.string ⟨#[]⟩, .string ⟨#[]⟩, .string ⟨#[]⟩, .slice none 0 0], .bool false]) (by simp [results, Tryz.results38, go_sem, kc2]) rfl ⟨_, rfl, Kd.R_nil _ _ _ _ _, by repeat (with_reducible first | exact HB.out | refine below_set ?_ (by omega) | refine pw_below_drewN ?_ _ | refine below_drew ?_)⟩
        by_cases hcs : cut = s.size
        · have e77 : ((cut : Int) == (s.size : Int)) = true := beq_iff_eq.2 (by omega)
          have hvz : v = (x0, x1, x2, [], true) := Hsp.out.trans (if_pos hcs)
          subst hvz
          clear hcs
          go_wp2_with fail
          go_region
          go_wp2_with fail
          exact bodyPost_ret (v := .tuple #[.agg #[.string x0, .string x1, .string x2, .slice none 0 0], .bool true]) (by simp [results, Tryz.results38, go_sem, kc2]) rfl ⟨_, rfl, Kd.R_nil _ _ _ _ _, by repeat (with_reducible first | exact HB.out | refine below_set ?_ (by omega) | refine pw_below_drewN ?_ _ | refine below_drew ?_)⟩
        have e77 : ((cut : Int) == (s.size : Int)) = false := beq_eq_false_iff_ne.2 (by omega)
        have hv2 : v = if (parts 46 ((bs s).drop (cut + 1))).all isWord then (x0, x1, x2, (parts 46 ((bs s).drop (cut + 1))).map ofB, true) else zeroV := Hsp.out.trans (if_neg hcs)
        have HV2 := Aside0.mk hv2
        have hlt : (cut : Int) + 1 ≤ (s.size : Int) := by omega
        have hle : cut + 1 ≤ s.size := by omega
        clear hcs hv2 Hsp
        go_wp2_with fail
        go_region
        go_wp2_with fail
        refine (parts46 _ ?_ _).mono ?_
        · unfold Small; simp only [ByteArray.size_extract]; omega
        rintro e w5 ⟨u5, rfl, hR5, hb5⟩
        have e5 : bs (s.extract (cut + 1) s.size) = (bs s).drop (cut + 1) := by rw [bs_extract, List.take_of_length_le (by rw [bs_length]; omega)]
        rw [e5] at hR5
        have hss : ∀ x ∈ (parts 46 ((bs s).drop (cut + 1))).map ofB, Small x := fun x hx => by
          rw [← e5] at hx
          refine ((parts_small (s := s.extract (cut + 1) s.size) ?_ 46).2 x hx).1
          unfold Small; simp only [ByteArray.size_extract]; omega
        have hall : ((parts 46 ((bs s).drop (cut + 1))).map ofB).all (fun x => isWord (bs x)) = (parts 46 ((bs s).drop (cut + 1))).all isWord := by rw [← e5]; exact parts_all _ _ _
        obtain ⟨q, qs, hq2⟩ := parts_cons 46 ((bs s).drop (cut + 1))
        have hne : 0 < ((parts 46 ((bs s).drop (cut + 1))).map ofB).length := by rw [hq2]; simp
        have hyl : ((parts 46 ((bs s).drop (cut + 1))).map ofB).length ≤ 8796093022208 := by
          have := (parts_small (s := s.extract (cut + 1) s.size) (by unfold Small; simp only [ByteArray.size_extract]; omega) 46).1
          rw [← e5]; simp only [ByteArray.size_extract] at this; omega
        generalize (parts 46 ((bs s).drop (cut + 1))).map ofB = ys at hR5 hss hall HV2 hne hyl
        clear hq2 e5
        obtain ⟨g5, cap5, rfl, hg51, hg52, hc5⟩ := R_cells hR5 hne
        have hz5 : w.heap.size + 1 < w5.heap.size := by have := hb5.size; simp at this; omega
        have hg5 : w.heap.size + 1 < g5 := by simp at hg51; omega
        have m40 : w5.cell? ⟨w.heap.size + 1, 0, none⟩ = some (.string x0) := (hb5.cell (p := ⟨w.heap.size + 1, 0, none⟩) (by simp; omega)).trans (by simp [go_sem, kc4])
        have m41 : w5.cell? ⟨w.heap.size + 1, 1, none⟩ = some (.string x1) := (hb5.cell (p := ⟨w.heap.size + 1, 1, none⟩) (by simp; omega)).trans (by simp [go_sem, kc4])
        have m42 : w5.cell? ⟨w.heap.size + 1, 2, none⟩ = some (.string x2) := (hb5.cell (p := ⟨w.heap.size + 1, 2, none⟩) (by simp; omega)).trans (by simp [go_sem, kc4])
        have m43 : w5.cell? ⟨w.heap.size + 1, 3, none⟩ = some (.slice none 0 0) := (hb5.cell (p := ⟨w.heap.size + 1, 3, none⟩) (by simp; omega)).trans (by simp [go_sem, kc4])
        have m20 : w5.cell? ⟨w.heap.size, 0, none⟩ = some (.string ⟨#[]⟩) := (hb5.cell (p := ⟨w.heap.size, 0, none⟩) (by simp; omega)).trans (by simp [go_sem, kc2])
        have m21 : w5.cell? ⟨w.heap.size, 1, none⟩ = some (.string ⟨#[]⟩) := (hb5.cell (p := ⟨w.heap.size, 1, none⟩) (by simp; omega)).trans (by simp [go_sem, kc2])
        have m22 : w5.cell? ⟨w.heap.size, 2, none⟩ = some (.string ⟨#[]⟩) := (hb5.cell (p := ⟨w.heap.size, 2, none⟩) (by simp; omega)).trans (by simp [go_sem, kc2])
        have m23 : w5.cell? ⟨w.heap.size, 3, none⟩ = some (.slice none 0 0) := (hb5.cell (p := ⟨w.heap.size, 3, none⟩) (by simp; omega)).trans (by simp [go_sem, kc2])
        have f43 := (hb5.frozen (p := ⟨w.heap.size + 1, 3, none⟩) (by simp; omega)).trans (show _ = false by simp [kf4])
        have f20 := (hb5.frozen (p := ⟨w.heap.size, 0, none⟩) (by simp; omega)).trans (show _ = false by simp [kf2])
        have f21 := (hb5.frozen (p := ⟨w.heap.size, 1, none⟩) (by simp; omega)).trans (show _ = false by simp [kf2])
        have f22 := (hb5.frozen (p := ⟨w.heap.size, 2, none⟩) (by simp; omega)).trans (show _ = false by simp [kf2])
        have f23 := (hb5.frozen (p := ⟨w.heap.size, 3, none⟩) (by simp; omega)).trans (show _ = false by simp [kf2])
        have HB5 := Aside0.mk ((by repeat (with_reducible first | exact HB.out | refine below_set ?_ (by omega) | refine pw_below_drewN ?_ _ | refine below_drew ?_) : Below w.heap.size w _).trans (hb5.mono (by simp; omega)))
        have HR5 := Aside0.mk (Kd.R_lower hR5 (by simp; omega : w.heap.size ≤ _))
        clear hb5 hR5 hg51 kc2 kc4 kf2 kf4 HB hcx0 hcx1 hcx2 hz hg1 hg2
        have hyl2 : (ys.length : Int) ≤ 8796093022208 := by omega
        go_wp2_with fail
        generalize hw6 : w5.setCell ⟨w.heap.size + 1, 3, none⟩ (.slice (some ⟨g5, 0, none⟩) ys.length cap5) = w6
        have q43 : w6.cell? ⟨w.heap.size + 1, 3, none⟩ = some (.slice (some ⟨g5, 0, none⟩) ys.length cap5) := by rw [← hw6]; simp [go_sem, m43]
        have q40 : w6.cell? ⟨w.heap.size + 1, 0, none⟩ = some (.string x0) := by rw [← hw6]; simp [go_sem, m40]
        have q41 : w6.cell? ⟨w.heap.size + 1, 1, none⟩ = some (.string x1) := by rw [← hw6]; simp [go_sem, m41]
        have q42 : w6.cell? ⟨w.heap.size + 1, 2, none⟩ = some (.string x2) := by rw [← hw6]; simp [go_sem, m42]
        have q20 : w6.cell? ⟨w.heap.size, 0, none⟩ = some (.string ⟨#[]⟩) := by rw [← hw6]; simp [go_sem, m20]
        have q21 : w6.cell? ⟨w.heap.size, 1, none⟩ = some (.string ⟨#[]⟩) := by rw [← hw6]; simp [go_sem, m21]
        have q22 : w6.cell? ⟨w.heap.size, 2, none⟩ = some (.string ⟨#[]⟩) := by rw [← hw6]; simp [go_sem, m22]
        have q23 : w6.cell? ⟨w.heap.size, 3, none⟩ = some (.slice none 0 0) := by rw [← hw6]; simp [go_sem, m23]
        have g20 : w6.frozen? ⟨w.heap.size, 0, none⟩ = false := by rw [← hw6]; simp [go_sem, f20]
        have g21 : w6.frozen? ⟨w.heap.size, 1, none⟩ = false := by rw [← hw6]; simp [go_sem, f21]
        have g22 : w6.frozen? ⟨w.heap.size, 2, none⟩ = false := by rw [← hw6]; simp [go_sem, f22]
        have g23 : w6.frozen? ⟨w.heap.size, 3, none⟩ = false := by rw [← hw6]; simp [go_sem, f23]
        have hz6 : w.heap.size + 1 < w6.heap.size := by rw [← hw6]; simp; exact hz5
        have q5 : ∀ i (hi : i < ys.length), w6.cell? ⟨g5, i, none⟩ = some (.string (ys[i])) := fun i hi => by rw [← hw6, World.cell?_setCell_other _ _ _ _ (by first | (simp; done) | (simp; omega))]; exact hc5 i hi
        have HB6 : Aside0 (Below w.heap.size w w6) := ⟨by rw [← hw6]; exact below_set HB5.out (by omega)⟩
        have HR6 : Aside0 (Kd.R Kd.string 9 w6 w.heap.size (fun k => some k = (Value.slice (some ⟨g5, 0, none⟩) ys.length cap5).ownBlock) (.slice (some ⟨g5, 0, none⟩) ys.length cap5) ys) := ⟨by
          rw [← hw6]
          exact Kd.R_far (p := ⟨w.heap.size + 1, 3, none⟩) (Kd.R_tight rfl HR5.out) (fun k hk => by simp [Value.ownBlock] at hk; simp; omega) _⟩
        have Q5 := Aside0.mk q5
        clear q5 hw6 m40 m41 m42 m43 m20 m21 m22 m23 f43 f20 f21 f22 f23 HB5 HR5 hc5 hz5
        go_loopw [8] (fun v8 wr => ∃ i n : Nat, i ≤ ys.length ∧ v8 = .int .i64 (i : Int) ∧ wr = w6.drewN n ∧ Aside0 ((ys.take i).all (fun x => isWord (bs x)) = true)) (fun v8 _ => ys.length - (intOf v8).toNat)
        case atStart => exact ⟨0, 0, Nat.zero_le _, rfl, rfl, ⟨rfl⟩⟩
        case round =>
          obtain ⟨i, n, hi, rfl, rfl, hA⟩ := hrel
          by_cases hil : i < ys.length
          · have hce := Q5.out i hil
            have hsx := hss _ (List.getElem_mem hil)
            have hi0 : (i : Int) < (ys.length : Int) := by omega
            have hi1 : decide ((i : Int) < (ys.length : Int)) = true := decide_eq_true hi0
            have htk : ys.take (i + 1) = ys.take i ++ [ys[i]] := List.take_succ_eq_append_getElem hil
            have hmem : ys[i] ∈ ys := List.getElem_mem hil
            have Hmem := Aside0.mk hmem
            have Htk := Aside0.mk htk
            obtain ⟨y, hy⟩ : ∃ y, y = ys[i] := ⟨_, rfl⟩
            rw [← hy] at hce hsx Htk Hmem
            clear hmem htk hy
            go_wp2_with fail
            refine (word_any y hsx _).mono ?_
            rintro e w7 ⟨rfl, ⟨n7, rfl⟩⟩
            generalize hwy : isWord (bs y) = b7
            have Hwy := Aside0.mk hwy
            clear hwy
            cases b7
            · have hvz : v = zeroV := by
                have hno : ys.all (fun x => isWord (bs x)) = false := by
                  rw [List.all_eq_false]
                  exact ⟨y, Hmem.out, by rw [Hwy.out]; decide⟩
                have := HV2.out
                rw [← hall, hno] at this
                exact this
              subst hvz
              go_wp2
              exact bodyPost_ret (v := .tuple #[.agg #[.string ⟨#[]⟩, .string ⟨#[]⟩, .string ⟨#[]⟩, .slice none 0 0], .bool false]) (by simp [results, Tryz.results38, go_sem, q20, q21, q22, q23]) rfl ⟨_, rfl, Kd.R_nil _ _ _ _ _, by repeat (with_reducible first | exact HB6.out | refine below_set ?_ (by omega) | refine pw_below_drewN ?_ _ | refine below_drew ?_)⟩
            · go_wp2
              go_roundw
              case rel => exact ⟨i + 1, n + n7, by omega, by go_num, by simp, ⟨by rw [Htk.out, List.all_append, hA.out]; simp [Hwy.out]⟩⟩
              case measure => simp [intOf]; omega
          · obtain rfl : i = ys.length := by omega
            have hi1 : decide ((ys.length : Int) < (ys.length : Int)) = false := decide_eq_false (by omega)
            have hvz : v = (x0, x1, x2, ys, true) := by
              have h2 := hA.out
              rw [List.take_length] at h2
              have := HV2.out
              rw [← hall, h2] at this
              exact this
            subst hvz
            have hk : ∀ k, some k = (Value.slice (some ⟨g5, 0, none⟩) ys.length cap5).ownBlock → k ≠ w.heap.size := fun k hk => by simp [Value.ownBlock] at hk; omega
            have Hk := Aside0.mk hk
            clear hk
            go_wp2
            exact bodyPost_ret (v := .tuple #[.agg #[.string x0, .string x1, .string x2, .slice (some ⟨g5, 0, none⟩) ys.length cap5], .bool true]) (by simp [results, Tryz.results38, go_sem, q20, q21, q22, q23]) rfl ⟨_, rfl, Kd.R_mono (Kd.R_far (p := ⟨w.heap.size, 3, none⟩) (Kd.R_far (p := ⟨w.heap.size, 2, none⟩) (Kd.R_far (p := ⟨w.heap.size, 1, none⟩) (Kd.R_far (p := ⟨w.heap.size, 0, none⟩) (Kd.R_drewN HR6.out _) Hk.out _) Hk.out _) Hk.out _) Hk.out _) (fun _ _ => trivial), by repeat (with_reducible first | exact HB6.out | refine below_set ?_ (by omega) | refine pw_below_drewN ?_ _ | refine below_drew ?_)⟩
      · have hl3 : ((xs.length : Int) != 3) = true := bne_iff_ne.2 (by omega)
        have hvz : v = zeroV := by
          rw [hsp]
          match xs, h3 with
          | [], _ => rfl
          | [_], _ => rfl
          | [_, _], _ => rfl
          | [_, _, _], h => exact absurd rfl h
          | _ :: _ :: _ :: _ :: _, _ => rfl
        subst hvz
        obtain ⟨A, c, rfl⟩ := Kd.R_slice hR
        clear hsp h3 hxl hR
        go_wp2
        exact bodyPost_ret (v := .tuple #[.agg #[.string ⟨#[]⟩, .string ⟨#[]⟩, .string ⟨#[]⟩, .slice none 0 0], .bool false]) (by simp [results, Tryz.results38, go_sem, kc2]) rfl ⟨_, rfl, Kd.R_nil _ _ _ _ _, by repeat (with_reducible first | exact HB.out | refine below_set ?_ (by omega) | refine pw_below_drewN ?_ _ | refine below_drew ?_)⟩
set_option maxHeartbeats 1000000 in
theorem split_empty (s : ByteArray) (h0 : s.size = 0) (w : World) : Calls Tryz.prog 38 #[.string s] w (SplitPost zeroV w) := by
  have hu49 := Tryz.underlying65
  have hd : ((s.size : Int) == 0) = true := by rw [h0]; rfl
  have Hh := Aside0.mk h0
  clear h0
  go_enter Tryz.func38, Tryz.ntmps38
  go_wp2
  exact bodyPost_ret (v := .tuple #[.agg #[.string ⟨#[]⟩, .string ⟨#[]⟩, .string ⟨#[]⟩, .slice none 0 0], .bool false]) (by simp [results, Tryz.results38, go_sem]) rfl ⟨_, rfl, Kd.R_nil _ _ _ _ _, ((Below.refl _ _).alloc (Nat.le_refl _) _).alloc (by simp) _⟩
set_option maxHeartbeats 1000000 in
theorem split_other (s : ByteArray) (h0 : 0 < s.size) (c : Int) (hc : bt s 0 = c) (h1 : (c != 118) = true) (w : World) : Calls Tryz.prog 38 #[.string s] w (SplitPost zeroV w) := by
  have hu49 := Tryz.underlying65
  have hd : ((s.size : Int) == 0) = false := beq_eq_false_iff_ne.2 (by omega)
  have hx9 : ∀ h : 0 < s.size, ((s[0]'h).toNat : Int) = c := fun h => by rw [← hc]; exact bt_at s 0 h
  clear hc
  go_enter Tryz.func38, Tryz.ntmps38
  go_wp2
  exact bodyPost_ret (v := .tuple #[.agg #[.string ⟨#[]⟩, .string ⟨#[]⟩, .string ⟨#[]⟩, .slice none 0 0], .bool false]) (by simp [results, Tryz.results38, go_sem]) rfl ⟨_, rfl, Kd.R_nil _ _ _ _ _, ((Below.refl _ _).alloc (Nat.le_refl _) _).alloc (by simp) _⟩
def splitV (s : ByteArray) : V4 := if bs s = [] then zeroV else if (bs s).head? = some 118 then splitS s else zeroV
theorem cutFrom_le (l : List Nat) : cutFrom l 0 ≤ l.length := by
  unfold cutFrom
  simp only [Nat.zero_add, List.drop_zero]
  induction l with
  | nil => simp [cutDash]
  | cons c r ih =>
    by_cases hc : c = 45
    · simp [cutDash, hc]
    · simp [cutDash, hc]; exact ih
theorem Split_any (s : ByteArray) (hs : Small s) (w : World) : Calls Tryz.prog 38 #[.string s] w (SplitPost (splitV s) w) := by
  unfold splitV
  cases hb : bs s with
  | nil =>
    have h0 : s.size = 0 := by rw [← bs_length, hb]; rfl
    rw [if_pos rfl]
    exact split_empty s h0 w
  | cons c r =>
    have h0 : s.size = r.length + 1 := by rw [← bs_length, hb]; rfl
    have hd : (bs s).drop 0 = c :: r := by simpa using hb
    have hc := (bt_drop hd).2.1
    rw [show ((0 : Nat) : Int) = 0 from rfl] at hc
    rw [if_neg (by simp)]
    by_cases h : c = 118
    · subst h
      rw [if_pos (by simp)]
      refine split_go s hs (by omega) hc _ rfl ?_ ?_ _ rfl w
      · rw [cutFrom_step hd, if_neg (by decide)]; unfold cutFrom; omega
      · have := cutFrom_le (bs s); rw [bs_length] at this; exact this
    · rw [if_neg (by simp; exact h)]
      exact split_other s (by omega) c hc (by rw [bne_iff_ne]; omega) w
def graftwoodref03_Split.f (a0 : ByteArray) : Option V4 := if Small a0 then some (splitV a0) else none
theorem graftwoodref03_Split.calls (a0 : ByteArray) (r1 : ByteArray) (r2 : ByteArray) (r3 : ByteArray) (r4 : List ByteArray) (r5 : Bool) (w : World) (h : graftwoodref03_Split.f a0 = some (r1, r2, r3, r4, r5)) :
    Calls Tryz.prog 38 #[.string a0] w fun e w' => ∃ v3_ : Value, e = .returned (.tuple #[.agg #[.string r1, .string r2, .string r3, v3_], .bool r5]) ∧ Kd.R Kd.string 9 w' w.heap.size (fun _ => True) v3_ r4 ∧ Below w.heap.size w w' := by
  unfold graftwoodref03_Split.f at h
  by_cases hs : Small a0
  · rw [if_pos hs] at h
    have := Split_any a0 hs w
    rw [Option.some.inj h] at this
    exact this
  · rw [if_neg hs] at h
    cases h
end Go.Proofs.YtcfphieogalnbaaGreatDoor.Q
end
