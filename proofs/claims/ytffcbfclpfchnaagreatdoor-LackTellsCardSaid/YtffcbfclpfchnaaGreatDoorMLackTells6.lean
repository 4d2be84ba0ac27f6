/- Part 6 of this claim: several texts one behind the other: NSet, Sort, NSort, NCells, NDelW, KDel, NSetF, NMinus, FlackBy. What each shows stands in its theorems; conditions: sizes of texts and lists, as the functions' definitions say. -/
import Derived.Test.YtffcbfclpfchnaaGreatDoorMLackTells4
import Derived.Test.YtffcbfclpfchnaaGreatDoorMLackTells0
import Derived.Test.YtffcbfclpfchnaaGreatDoorMLackTells5
import Derived.RegionTactic
import Derived.BigRegion
import Derived.ChangeAlike
import Derived.Deep.QuietTactic
import Derived.BigQuiet
import Derived.Deep.RegionHeld3
import Derived.Maps.OwnSet
import Derived.Maps.AppendAt
import Derived.DeepKeys4
import Derived.Shelf.SlSortCmp.NoneTotal
import Derived.Ground.SlsfProg
import Derived.Test.YtffcbfclpfchnaaGreatDoorProg
import Derived.Deep.RegionLaw
import Derived.Lib.SliceRun
import Derived.Test.YtffcbfclpfchnaaGreatDoorMLackTells2
import Derived.Test.YtffcbfclpfchnaaGreatDoorMLackTells3
import Derived.Deep.LoopGhost
import Derived.Test.YtffcbfclpfchnaaGreatDoorMLackTells1
section
namespace Go.Proofs.YtffcbfclpfchnaaGreatDoor.Q
open Go.Proofs.YtffcbfclpfchnaaGreatDoor.QB.D
open Go Go.RowKit Go.Maps Go.Lib Go.Proofs.YtffcbfclpfchnaaGreatDoorW.PrintWords Go.Proofs.YtffcbfclpfchnaaGreatDoorW.PrintLast Go.Proofs.YtffcbfclpfchnaaGreatDoorW.PrintMore Gw
set_option linter.unusedVariables false
set_option linter.unusedSimpArgs false
set_option maxRecDepth 100000
/-- The set of what was met. -/
structure Met (D : DataW Unit) (L : List S42) : Prop where
  map : IsMap D
  has : ∀ y, NS y → Maps.has D (nkey y) = decide (y ∈ L)
theorem Met.none : Met (.map []) [] := ⟨isMap_empty, fun y _ => by simp [Maps.has]⟩
theorem Met.put {D : DataW Unit} {L L' : List S42} (h : Met D L) (x : S42) (hx : NS x) (d : DataW Unit) (hL : ∀ y, y ∈ L' ↔ y = x ∨ y ∈ L) : Met (D.put (nkey x) d) L' := by
  refine ⟨h.map.put _ _, fun y hy => ?_⟩
  by_cases e : y = x
  · subst e
    rw [has_put_same h.map (nkey_lit _), decide_eq_true ((hL y).2 (Or.inl rfl))]
  · rw [has_put_other (fun h2 => e ((nkey_inj hy hx).1 h2)), h.has y hy]
    exact decide_eq_decide.2 ⟨fun h3 => (hL y).2 (Or.inr h3), fun h3 => ((hL y).1 h3).resolve_left e⟩
theorem zero_unit (w : World) : (zeroValue 65).run Tryz.prog w = .ok (.agg #[]) w := by kernel_rfl
set_option maxHeartbeats 4000000 in
set_option maxRecDepth 100000 in
theorem nset_go (k : Nat) (A0 : Option Addr) (c0 : Nat) (l0 : List S42) (w : World) (hr0 : Kd.C k42 w A0 l0.length l0) (hl : l0.length ≤ 4294967296) (hns : ∀ x ∈ l0, NS x) (may : S42 → Bool) (hmay : ∀ x ∈ l0, node_May.f k x.f0 x.f1 = some (may x))
    (srt r1 : List S42) (r2 : Int) (hT : l0.all may = true → r1 = srt ∧ r2 = 0) (hF : l0.all may = false → r1 = [] ∧ r2 = 1)
    (hsort : l0.all may = true → ∀ (W : World) (v : Value), Below w.heap.size w W → Kd.R k42 42 W w.heap.size (fun j => j ≠ w.heap.size) v (ded l0) → Calls Tryz.prog 43 #[v, .func (.func 44) #[] #[]] W fun e w' => e = .returned (.tuple #[]) ∧ Kd.R k42 42 w' w.heap.size (fun _ => True) v srt ∧ Below w.heap.size w w') :
    Calls Tryz.prog 31 #[.slice A0 l0.length c0] w fun e w' => ∃ v, e = .returned (.tuple #[v, .int .i64 r2]) ∧ Kd.R k42 42 w' w.heap.size (fun _ => True) v r1 ∧ Below w.heap.size w w' := by
  have hu23 := Tryz.underlying42
  have hmm := @run_makeMap Tryz.prog
  have HR0 := Aside0.mk hr0
  have HNS := Aside0.mk hns
  have HMAY := Aside0.mk hmay
  have HT := Aside0.mk hT
  have HF := Aside0.mk hF
  have HSORT := Aside0.mk hsort
  have hl1 : (l0.length : Int) ≤ 4294967296 := by omega
  clear hr0 hns hmay hT hF hsort
  go_enter Tryz.func31, Tryz.ntmps31
  go_wp2_with fail
  go_loopw [5, 13] (fun v5 v13 wr => ∃ i : Nat, i ≤ l0.length ∧ v13 = .int .i64 (i : Int) ∧ (∃ D, Aside0 (wr.ownsMap Tryz.prog 42 unitElem w.heap.size i D) ∧ Aside0 (Met D (ded (l0.take i)))) ∧ Aside0 (Kd.R k42 42 wr w.heap.size (fun j => j ≠ w.heap.size) v5 (ded (l0.take i))) ∧ Aside0 (Below w.heap.size w wr) ∧ w.heap.size + 1 ≤ wr.heap.size ∧ Aside0 ((l0.take i).all may = true)) (fun _ v13 _ => l0.length - (RowKit.intOf v13).toNat)
  case atStart => exact ⟨0, Nat.zero_le _, rfl, ⟨_, ⟨World.ownsMap_made _ _ _ _⟩, ⟨Met.none⟩⟩, ⟨Kd.R_nil _ _ _ _ _⟩, ⟨below_alloc (Below.refl _ _) _⟩, by simp, ⟨rfl⟩⟩
  case round =>
    obtain ⟨i, hi, rfl, ⟨D, HM, HD⟩, HO, HB, hws, HA⟩ := hrel
    by_cases hil : i < l0.length
    · have j1 : (i : Int) < (l0.length : Int) := by omega
      have hdi : decide ((i : Int) < (l0.length : Int)) = true := decide_eq_true j1
      obtain ⟨x, hx⟩ : ∃ x, x = l0[i] := ⟨_, rfl⟩
      have hmem : x ∈ l0 := by rw [hx]; exact List.getElem_mem hil
      obtain ⟨ad, e0, hx0, hx1⟩ := at_T42 HR0.out (i : Int) (by omega) (by omega)
      have hrd : rd_T42 l0 (i : Int) = x := by rw [hx]; simp [rd_T42, List.getD_eq_getElem?_getD, List.getElem?_eq_getElem hil]
      rw [hrd, Int.toNat_natCast] at hx0 hx1
      cases e0
      replace hx0 := (HB.out.cell (World.block_lt_of_cell? w _ hx0)).trans hx0
      replace hx1 := (HB.out.cell (World.block_lt_of_cell? w _ hx1)).trans hx1
      have HX := Aside0.mk hx
      have hma := HMAY.out x hmem
      have hnx := HNS.out x hmem
      have hkey := keyOf_node x hnx.1 hnx.2
      have hhas := HD.out.has x hnx
      have hdt := ded_take l0 i hil
      have htk : l0.take (i + 1) = l0.take i ++ [x] := by rw [hx]; exact List.take_succ_eq_append_getElem hil
      rw [← hx] at hdt
      have HHAS := Aside0.mk hhas
      have HDT := Aside0.mk hdt
      have HTK := Aside0.mk htk
      have HMEM := Aside0.mk hmem
      obtain ⟨bm, hbm⟩ : ∃ b, b = may x := ⟨_, rfl⟩
      rw [← hbm] at hma
      have CM := fun w => node_May.calls k x.f0 x.f1 bm w hma
      have HBM := Aside0.mk hbm
      clear hx hrd hhas hdt htk hbm hmem hma
      go_wp2_with fail
      with_reducible refine (CM _).mono ?_
      rintro e w5 ⟨rfl, hb5⟩
      have hg5 := grown_of_below hb5 none
      have HM5 := Aside0.mk ((HM.out.alloc (.cells #[.string x.f0, .string x.f1] 42 (0, 0))).kept hg5 (by simp))
      have HO5 := Aside0.mk (Kd.R_below (Kd.R_alloc HO.out (.cells #[.string x.f0, .string x.f1] 42 (0, 0))) hb5)
      have HB5 := Aside0.mk (below_step (below_alloc HB.out (.cells #[.string x.f0, .string x.f1] 42 (0, 0))) hb5)
      have n0 : w5.cell? ⟨wr.heap.size, 0, none⟩ = some (.string x.f0) := (hb5.cell (p := ⟨wr.heap.size, 0, none⟩) (by simp)).trans (by simp [go_sem])
      have n1 : w5.cell? ⟨wr.heap.size, 1, none⟩ = some (.string x.f1) := (hb5.cell (p := ⟨wr.heap.size, 1, none⟩) (by simp)).trans (by simp [go_sem])
      have hz5 : wr.heap.size + 1 ≤ w5.heap.size := by have := hb5.size; simp at this; omega
      clear hg5 hb5 CM
      cases bm
      · have hfa : l0.all may = false := by
          rw [List.all_eq_false]
          exact ⟨x, HMEM.out, by rw [← HBM.out]; decide⟩
        obtain ⟨rfl, rfl⟩ := HF.out hfa
        clear hfa
        go_wp2
        go_ret2
        exact ⟨_, rfl, Kd.R_nil _ _ _ _ _, HB5.out⟩
      · obtain ⟨bh, hbh⟩ : ∃ b, b = Maps.has D (nkey x) := ⟨_, rfl⟩
        have HBH := Aside0.mk hbh
        clear hbh
        have n0' : ∀ o, (w5.alloc o).cell? ⟨wr.heap.size, 0, none⟩ = some (.string x.f0) := fun o => Lib.cell?_alloc_some _ n0
        have n1' : ∀ o, (w5.alloc o).cell? ⟨wr.heap.size, 1, none⟩ = some (.string x.f1) := fun o => Lib.cell?_alloc_some _ n1
        have hvr := Kd.R_lt HO.out
        have hva : some w.heap.size ≠ u5.ownBlock := Kd.R_away HO.out (fun j hj => hj)
        have hne : some wr.heap.size ≠ u5.ownBlock := fun e => absurd (hvr _ e.symm) (by omega)
        have HVA := Aside0.mk hva
        have HNE := Aside0.mk hne
        have hlen := ded_len l0 i hi
        have LEN := Aside0.mk hlen
        clear hvr hva hne hlen
        cases bh
        · -- a new node
          have hnew : x ∉ ded (l0.take i) := by
            have h := HHAS.out
            rw [← HBH.out] at h
            exact of_decide_eq_false h.symm
          have hdn : ded (l0.take (i + 1)) = ded (l0.take i) ++ [x] := by rw [HDT.out, if_neg hnew]
          have HDN := Aside0.mk hdn
          clear hdn hnew
          go_wp2_with (first
            | (at_lookup; refine wpList_lookup_own_unit _ rfl _ _ 64 rfl 42 65 law_node Tryz.underlying64 (zero_unit _) w.heap.size i _ rfl HM5.out _ _ rfl hkey ?_; rw [← HBH.out])
            | ((with_reducible refine gate_dst (N := 8) rfl ?_); refine box_event ?hg (N := 8) ?hd (cs := #[]) (t := 65) ?hr ?_; (case hd => rfl); (case hg => rfl); (case hr => first | (go_simp; done) | (go_simp; rfl)); intro gb hg w6 hbox hb6; have n0_6 : w6.cell? ⟨wr.heap.size, 0, none⟩ = some (.string x.f0) := (hb6.cell (p := ⟨wr.heap.size, 0, none⟩) (by simp; omega)).trans n0; have n1_6 : w6.cell? ⟨wr.heap.size, 1, none⟩ = some (.string x.f1) := (hb6.cell (p := ⟨wr.heap.size, 1, none⟩) (by simp; omega)).trans n1; have HM6 := Aside0.mk (HM5.out.kept (grown_of_below hb6 none) (by simp)); have HO6 := Aside0.mk (Kd.R_below HO5.out hb6); have HB6 := Aside0.mk (below_step HB5.out hb6); have hz6 : w5.heap.size ≤ w6.heap.size := hb6.size; clear hb6 hg hbox)
            | ((with_reducible refine gate_builtin (b := .append) (xs := #[.tmp 28, .tmp 30]) rfl ?_); at_builtin; refine Kd.R_append k42 (w0 := w) w.heap.size rfl (.tmp 28) (.tmp 30) 22 42 (.agg #[(.string ⟨#[]⟩), (.string ⟨#[]⟩)]) 32 rfl Tryz.underlying22 info42 rfl (by decide) (by omega) u5 (ded (l0.take i)) x [.string x.f0, .string x.f1] (fun j => j ≠ w.heap.size) (fun _ => False) rfl rfl ?aP (fun _ hk => hk.elim) ?aF ?aO ?aB ?aS ?aL ?_; (case aP => exact k42_mkM _ _ _ x); (case aB => exact HB6.out); (case aF => exact (fun j hj => by have := HB5.out.size; omega)); (case aO => exact HO6.out); (case aS => exact HB6.out.size); (case aL => have := LEN.out; omega); intro v7 w7 ho7 hb7 hg7 hat7; have n0_7 : w7.cell? ⟨wr.heap.size, 0, none⟩ = some (.string x.f0) := (World.cell?_of_block (hg7.block wr.heap.size (by omega) HNE.out)).trans n0_6; have n1_7 : w7.cell? ⟨wr.heap.size, 1, none⟩ = some (.string x.f1) := (World.cell?_of_block (hg7.block wr.heap.size (by omega) HNE.out)).trans n1_6; have HM7 := Aside0.mk (HM6.out.kept hg7 HVA.out); have HO7 := Aside0.mk ho7; have HB7 := Aside0.mk hb7; have hz7 := hg7.size; clear ho7 hb7 hg7 hat7)
            | (at_mapUpdate; refine wpList_mapUpdate_own _ rfl _ _ _ 64 rfl 42 65 law_node Tryz.underlying64 (unitElem (H := Unit)) w.heap.size i _ rfl HM7.out (by unfold maxLen; omega) _ _ _ rfl rfl hkey _ [] unitElem_mk ?_; intro w8 hown8 hgrow8)
            | fail)
          have HO8 := Aside0.mk (Kd.R_step HO7.out (fun j hj hlt => hgrow8.block j hlt (by simp; exact hj)))
          have HB8 := Aside0.mk (pw_below_grown HB7.out _ HB7.out.size hgrow8 (fun j hj => by cases hj; exact Nat.le_refl _))
          have hz8 := hgrow8.size
          go_roundw
          case rel => exact ⟨i + 1, by omega, by go_num, ⟨_, ⟨hown8⟩, ⟨HD.out.put x hnx _ (fun y => by rw [HDN.out, List.mem_append, List.mem_singleton]; exact Or.comm)⟩⟩, ⟨by rw [HDN.out]; exact HO8.out⟩, HB8, by omega, ⟨by rw [HTK.out, List.all_append, HA.out]; simp [← HBM.out]⟩⟩
          case measure => simp [RowKit.intOf]; omega
        · -- one that was met
          have hold : x ∈ ded (l0.take i) := by
            have h := HHAS.out
            rw [← HBH.out] at h
            exact of_decide_eq_true h.symm
          have hdn : ded (l0.take (i + 1)) = ded (l0.take i) := by rw [HDT.out, if_pos hold]
          have HDN := Aside0.mk hdn
          have HOLD := Aside0.mk hold
          clear hdn hold
          go_wp2_with (first
            | (at_lookup; refine wpList_lookup_own_unit _ rfl _ _ 64 rfl 42 65 law_node Tryz.underlying64 (zero_unit _) w.heap.size i _ rfl HM5.out _ _ rfl hkey ?_; rw [← HBH.out])
            | ((with_reducible refine gate_dst (N := 8) rfl ?_); refine box_event ?hg (N := 8) ?hd (cs := #[]) (t := 65) ?hr ?_; (case hd => rfl); (case hg => rfl); (case hr => first | (go_simp; done) | (go_simp; rfl)); intro gb hg w6 hbox hb6; have n0_6 : w6.cell? ⟨wr.heap.size, 0, none⟩ = some (.string x.f0) := (hb6.cell (p := ⟨wr.heap.size, 0, none⟩) (by simp; omega)).trans n0; have n1_6 : w6.cell? ⟨wr.heap.size, 1, none⟩ = some (.string x.f1) := (hb6.cell (p := ⟨wr.heap.size, 1, none⟩) (by simp; omega)).trans n1; have HM6 := Aside0.mk (HM5.out.kept (grown_of_below hb6 none) (by simp)); have HO6 := Aside0.mk (Kd.R_below HO5.out hb6); have HB6 := Aside0.mk (below_step HB5.out hb6); have hz6 : w5.heap.size ≤ w6.heap.size := hb6.size; clear hb6 hg hbox)
            | (at_mapUpdate; refine wpList_mapUpdate_own _ rfl _ _ _ 64 rfl 42 65 law_node Tryz.underlying64 (unitElem (H := Unit)) w.heap.size i _ rfl HM6.out (by unfold maxLen; omega) _ _ _ rfl rfl hkey _ [] unitElem_mk ?_; intro w8 hown8 hgrow8)
            | fail)
          have HO8 := Aside0.mk (Kd.R_step HO6.out (fun j hj hlt => hgrow8.block j hlt (by simp; exact hj)))
          have HB8 := Aside0.mk (pw_below_grown HB6.out _ HB6.out.size hgrow8 (fun j hj => by cases hj; exact Nat.le_refl _))
          have hz8 := hgrow8.size
          go_roundw
          case rel => exact ⟨i + 1, by omega, by go_num, ⟨_, ⟨hown8⟩, ⟨HD.out.put x hnx _ (fun y => by rw [HDN.out]; exact ⟨Or.inr, fun h => h.elim (fun e => by rw [e]; exact HOLD.out) id⟩)⟩⟩, ⟨by rw [HDN.out]; exact HO8.out⟩, HB8, by omega, ⟨by rw [HTK.out, List.all_append, HA.out]; simp [← HBM.out]⟩⟩
          case measure => simp [RowKit.intOf]; omega
    · obtain rfl : i = l0.length := by omega
      have hdi : decide ((l0.length : Int) < (l0.length : Int)) = false := decide_eq_false (by omega)
      have hall : l0.all may = true := by have := HA.out; rwa [List.take_length] at this
      obtain ⟨rfl, rfl⟩ := HT.out hall
      have ho := HO.out
      rw [List.take_length] at ho
      have CS := fun W hW hR => HSORT.out hall W u5 hW hR
      have HO9 := Aside0.mk ho
      clear ho hall
      go_wp2_with fail
      refine (CS _ HB.out HO9.out).mono ?_
      rintro e w6 ⟨rfl, ho6, hb6⟩
      have HO6 := Aside0.mk ho6
      have HB6 := Aside0.mk hb6
      clear ho6 hb6
      go_wp2
      go_ret2
      exact ⟨_, rfl, HO6.out, HB6.out⟩
end Go.Proofs.YtffcbfclpfchnaaGreatDoor.Q
end

section
namespace Go.Proofs
open Go.Shelf
def Tryz.sortNode_ren : Go.Shelf.Ren := ⟨fun | 6 => 43 | 15 => 53 | 14 => 52 | 28 => 75 | 29 => 76 | 20 => 67 | 21 => 68 | 22 => 69 | 23 => 70 | 24 => 71 | 25 => 72 | 26 => 73 | 27 => 74 | 46 => 88 | 47 => 89 | 48 => 90 | 49 => 91 | 50 => 92 | 57 => 101 | n => n, fun | 22 => 22 | 24 => 42 | 25 => 72 | 3 => 3 | 39 => 85 | 0 => 0 | 53 => 103 | 55 => 105 | 4 => 4 | 46 => 96 | 45 => 95 | 50 => 100 | 5 => 5 | 9 => 9 | 66 => 113 | 70 => 117 | 76 => 124 | 77 => 125 | n => n, fun | n => n⟩
theorem Tryz.sortNode : Go.Proofs.SlLaysF0.n6 Tryz.prog Tryz.sortNode_ren := {
  mixed := by kernel_rfl
  f6 := ⟨Tryz.f43.name, by decide, Tryz.func43.trans (congrArg some (by kernel_rfl))⟩
  f14 := ⟨Tryz.f52.name, by decide, Tryz.func52.trans (congrArg some (by kernel_rfl))⟩
  f15 := Tryz.func53.trans (congrArg some (by kernel_rfl))
  f20 := ⟨Tryz.f67.name, by decide, Tryz.func67.trans (congrArg some (by kernel_rfl))⟩
  f21 := ⟨Tryz.f68.name, by decide, Tryz.func68.trans (congrArg some (by kernel_rfl))⟩
  f22 := ⟨Tryz.f69.name, by decide, Tryz.func69.trans (congrArg some (by kernel_rfl))⟩
  f23 := ⟨Tryz.f70.name, by decide, Tryz.func70.trans (congrArg some (by kernel_rfl))⟩
  f24 := ⟨Tryz.f71.name, by decide, Tryz.func71.trans (congrArg some (by kernel_rfl))⟩
  f25 := ⟨Tryz.f72.name, by decide, Tryz.func72.trans (congrArg some (by kernel_rfl))⟩
  f26 := ⟨Tryz.f73.name, by decide, Tryz.func73.trans (congrArg some (by kernel_rfl))⟩
  f27 := ⟨Tryz.f74.name, by decide, Tryz.func74.trans (congrArg some (by kernel_rfl))⟩
  f28 := Tryz.func75.trans (congrArg some (by kernel_rfl))
  f29 := Tryz.func76.trans (congrArg some (by kernel_rfl))
  f46 := ⟨Tryz.f88.name, by decide, Tryz.func88.trans (congrArg some (by kernel_rfl))⟩
  f47 := Tryz.func89.trans (congrArg some (by kernel_rfl))
  f48 := Tryz.func90.trans (congrArg some (by kernel_rfl))
  f49 := ⟨Tryz.f91.name, by decide, Tryz.func91.trans (congrArg some (by kernel_rfl))⟩
  f50 := ⟨Tryz.f92.name, by decide, Tryz.func92.trans (congrArg some (by kernel_rfl))⟩
  f57 := ⟨Tryz.f101.name, by decide, Tryz.func101.trans (congrArg some (by kernel_rfl))⟩
  t0 := Tryz.underlying0
  a0 := Tryz.isAgg0
  z0 := Tryz.sizeOf0
  v0 := Tryz.zeroValue0
  t3 := Tryz.underlying3
  a3 := Tryz.isAgg3
  z3 := Tryz.sizeOf3
  v3 := Tryz.zeroValue3
  t4 := Tryz.underlying4
  a4 := Tryz.isAgg4
  z4 := Tryz.sizeOf4
  v4 := Tryz.zeroValue4
  t5 := Tryz.underlying5
  a5 := Tryz.isAgg5
  z5 := Tryz.sizeOf5
  v5 := Tryz.zeroValue5
  t9 := Tryz.underlying9
  a9 := Tryz.isAgg9
  z9 := Tryz.sizeOf9
  v9 := Tryz.zeroValue9
  t22 := Tryz.underlying22
  a22 := Tryz.isAgg22
  z22 := Tryz.sizeOf22
  v22 := Tryz.zeroValue22
  t25 := Tryz.underlying72
  a25 := Tryz.isAgg72
  z25 := Tryz.sizeOf72
  v25 := Tryz.zeroValue72
  t39 := Tryz.underlying85
  a39 := Tryz.isAgg85
  z39 := Tryz.sizeOf85
  v39 := Tryz.zeroValue85
  t45 := Tryz.underlying95
  a45 := Tryz.isAgg95
  z45 := Tryz.sizeOf95
  v45 := Tryz.zeroValue95
  t46 := Tryz.underlying96
  a46 := Tryz.isAgg96
  z46 := Tryz.sizeOf96
  v46 := Tryz.zeroValue96
  t50 := Tryz.underlying100
  a50 := Tryz.isAgg100
  z50 := Tryz.sizeOf100
  v50 := Tryz.zeroValue100
  t53 := Tryz.underlying103
  a53 := Tryz.isAgg103
  z53 := Tryz.sizeOf103
  v53 := Tryz.zeroValue103
  t55 := Tryz.underlying105
  a55 := Tryz.isAgg105
  z55 := Tryz.sizeOf105
  v55 := Tryz.zeroValue105
  t66 := Tryz.underlying113
  a66 := Tryz.isAgg113
  z66 := Tryz.sizeOf113
  v66 := Tryz.zeroValue113
  t70 := Tryz.underlying117
  a70 := Tryz.isAgg117
  z70 := Tryz.sizeOf117
  v70 := Tryz.zeroValue117
  t76 := Tryz.underlying124
  a76 := Tryz.isAgg124
  z76 := Tryz.sizeOf124
  v76 := Tryz.zeroValue124
  t77 := Tryz.underlying125
  a77 := Tryz.isAgg125
  z77 := Tryz.sizeOf125
  v77 := Tryz.zeroValue125 }
end Go.Proofs
end

section
namespace Go.Proofs.YtffcbfclpfchnaaGreatDoor.Q
open Go.Proofs.YtffcbfclpfchnaaGreatDoor.QB.D
open Go Go.RowKit Go.Maps Go.Lib Go.Sort Go.Proofs.YtffcbfclpfchnaaGreatDoorW.PrintWords Go.Proofs.YtffcbfclpfchnaaGreatDoorW.PrintLast Go.Proofs.YtffcbfclpfchnaaGreatDoorW.PrintMore Gw
set_option linter.unusedVariables false
set_option linter.unusedSimpArgs false
abbrev GN := { x : S42 // GoodN x }
instance : Inhabited GN := ⟨⟨⟨⟨#[]⟩, ⟨#[118, 48, 46, 48, 46, 48]⟩⟩, by unfold Tiny; decide, by unfold Tiny; decide, by decide +kernel⟩⟩
def encN (x : GN) : List Value := [.string x.1.f0, .string x.1.f1]
def cfN (x y : GN) : Int := ordN x.1 y.1
theorem ltN (x y : GN) : ltOf cfN x y = decide (cfN x y < 0) := rfl
theorem swoN : SWO (ltOf cfN) where
  irrefl x := by
    rw [ltN, decide_eq_false_iff_not]
    have := (ordN_to.eq x.1 x.1 x.2 x.2).2 rfl
    unfold cfN; omega
  trans x y z h1 h2 := by
    rw [ltN, decide_eq_true_eq] at *
    exact ordN_to.tr _ _ _ x.2 y.2 z.2 h1 h2
  ntrans x y z h1 h2 := by
    rw [ltN, decide_eq_false_iff_not] at *
    have s1 := ordN_to.sym x.1 y.1 x.2 y.2
    have s2 := ordN_to.sym y.1 z.1 y.2 z.2
    have s3 := ordN_to.sym x.1 z.1 x.2 z.2
    unfold cfN at *
    have := (ordN_to.le z.1 y.1 x.1 z.2 y.2 x.2 (by omega) (by omega)).1
    omega
theorem totN (x y : GN) (h1 : ltOf cfN x y = false) (h2 : ltOf cfN y x = false) : x = y := by
  rw [ltN, decide_eq_false_iff_not] at *
  have s1 := ordN_to.sym x.1 y.1 x.2 y.2
  unfold cfN at *
  exact Subtype.ext ((ordN_to.eq x.1 y.1 x.2 y.2).1 (by omega))
theorem orderD_val (x y : S42) (hx : GoodN x) (hy : GoodN y) : QB.D.node_order.f 9 x.f0 x.f1 y.f0 y.f1 = some (ordN x y) := by
  unfold QB.D.node_order.f
  by_cases h : (x.f0.toList == y.f0.toList && x.f1.toList == y.f1.toList) = true
  · rw [if_pos h]
    rw [str_eq, str_eq, Bool.and_eq_true, decide_eq_true_eq, decide_eq_true_eq] at h
    have e : x = y := by cases x; cases y; simp only at h; rw [h.1, h.2]
    subst e
    exact congrArg some ((ordN_to.eq x x hx hx).2 rfl).symm
  · rw [if_neg h]
    have hv : QB.D.version_Cmp.f x.f1 y.f1 = some (verC (vOf (bs x.f1)) (vOf (bs y.f1)), 0) := by
      unfold QB.D.version_Cmp.f
      rw [if_pos ⟨hx.2.1, hy.2.1⟩, vparts_of hx.2.2, vparts_of hy.2.2]
      rfl
    rw [hv, QB.D.octcmp_val]
    simp only [Option.bind_some]
    rw [QB.D.or2_val]
    rfl
theorem cmpLaysN (blk off size : Nat) (w : World) : CmpLays Tryz.prog 44 #[] encN 2 cfN blk off size w := fun _ _ _ _ x y =>
  (QB.D.node_order.calls 9 x.1.f0 x.1.f1 y.1.f0 y.1.f1 _ _ (orderD_val x.1 y.1 x.2 y.2)).mono fun e w' h => ⟨h.1, h.2.grows⟩
theorem isAggN (w : World) : (isAgg 42).run Tryz.prog w = .ok true w := by kernel_rfl
theorem sizeN (w : World) : (Go.sizeOf 42).run Tryz.prog w = .ok 2 w := by kernel_rfl
def cellsN (xs : List S42) : List Value := xs.flatMap (fun x => [Value.string x.f0, Value.string x.f1])
theorem cellsN_get : ∀ (xs : List S42) (j : Nat), (cellsN xs)[j]? = (xs[j / 2]?).map (fun x => if j % 2 = 0 then Value.string x.f0 else Value.string x.f1) := by
  intro xs
  induction xs with
  | nil => intro j; simp [cellsN]
  | cons x xs ih =>
    intro j
    match j with
    | 0 => simp [cellsN]
    | 1 => simp [cellsN]
    | j + 2 =>
      show ([Value.string x.f0, Value.string x.f1] ++ cellsN xs)[j + 2]? = _
      rw [List.getElem?_append_right (by simp)]
      simp only [List.length_cons, List.length_nil, Nat.zero_add, Nat.add_sub_cancel, Nat.reduceAdd]
      rw [ih j, show (j + 2) / 2 = j / 2 + 1 by omega, show (j + 2) % 2 = j % 2 by omega, List.getElem?_cons_succ]
theorem cellsN_len : ∀ xs, (cellsN xs).length = xs.length * 2
  | [] => rfl
  | x :: xs => by
    show ([Value.string x.f0, Value.string x.f1] ++ cellsN xs).length = _
    rw [List.length_append, cellsN_len xs]; simp; omega
theorem reps_node {w : World} {base : Nat} {ok : Nat → Prop} {xs : List S42} {inner : List Value} (h : Reps (k42.M w base ok) k42.sz xs inner) : inner = cellsN xs := by
  obtain ⟨hl, hp⟩ := h
  have hl2 : inner.length = xs.length * 2 := hl
  apply List.ext_getElem?
  intro j
  rw [cellsN_get]
  by_cases hj : j < xs.length * 2
  · have h2 : j / 2 < xs.length := by omega
    have hm := hp (j / 2) _ (List.getElem?_eq_getElem h2)
    have ho := k42_openM hm
    rw [List.getElem?_eq_getElem h2, Option.map_some]
    have h3 : inner[j]? = ((inner.drop (j / 2 * 2)).take 2)[j % 2]? := by
      rw [List.getElem?_take_of_lt (by omega), List.getElem?_drop, show j / 2 * 2 + j % 2 = j by omega]
    rw [h3]
    have ho' : (inner.drop (j / 2 * 2)).take 2 = [.string xs[j / 2].f0, .string xs[j / 2].f1] := ho
    rw [ho']
    rcases Nat.mod_two_eq_zero_or_one j with e | e <;> rw [e] <;> rfl
  · rw [List.getElem?_eq_none (by omega), List.getElem?_eq_none (by omega)]
    rfl
theorem node_reps (w : World) (base : Nat) (ok : Nat → Prop) (xs : List S42) : Reps (k42.M w base ok) k42.sz xs (cellsN xs) := by
  refine ⟨cellsN_len xs, fun j p hj => ?_⟩
  obtain ⟨hjl, rfl⟩ := List.getElem?_eq_some_iff.1 hj
  have e : ((cellsN xs).drop (j * 2)).take 2 = [.string xs[j].f0, .string xs[j].f1] := by
    apply List.ext_getElem?
    intro t
    rcases Nat.lt_or_ge t 2 with h | h
    · rw [List.getElem?_take_of_lt h, List.getElem?_drop, cellsN_get, show (j * 2 + t) / 2 = j by omega, List.getElem?_eq_getElem hjl, Option.map_some]
      match t, h with
      | 0, _ => rw [if_pos (by omega)]; rfl
      | 1, _ => rw [if_neg (by omega)]; rfl
    · rw [List.getElem?_eq_none (by rw [List.length_take]; omega), List.getElem?_eq_none (by simp; omega)]
  show k42.M w base ok xs[j] (((cellsN xs).drop (j * 2)).take 2)
  rw [e]
  exact k42_mkM _ _ _ _
theorem flat_cells (G : List GN) (j : Nat) (hj : j < G.length * 2) : some (flatK encN 2 G.toArray)[j]! = (cellsN (G.map Subtype.val))[j]? := by
  have h2 : j / 2 < G.length := by omega
  rw [get_flatK _ _ _ _ (by simpa using hj), cellsN_get, List.getElem?_map, List.getElem?_eq_getElem h2, Option.map_some, Option.map_some]
  have : G.toArray[j / 2]! = G[j / 2] := by simp [h2]
  rw [this]
  rcases Nat.mod_two_eq_zero_or_one j with e | e <;> rw [e] <;> rfl
theorem sortW_block (enc : GN → List Value) (w : World) (g m : Nat) (d : Array GN) (os : Array Obj) (cur : Array Value) (e : TypeId) (hg : w.heap[g]? = some (.cells cur e (0, 0))) :
    (sortWorldK enc 2 w g 0 m d os).heap[g]? = some (.cells (putCells id 0 (flatK enc 2 d) cur) e (0, 0)) := by
  have hlt : g < w.heap.size := by
    rcases Nat.lt_or_ge g w.heap.size with h | h
    · exact h
    · rw [Array.getElem?_eq_none h] at hg; cases hg
  unfold sortWorldK grow putRowK putRow mapBlock Sort.ahead
  simp only []
  rw [Array.getElem?_append_left (by simpa using hlt), Array.getElem?_modify, if_pos rfl, hg]
  rfl
theorem sortW_below (enc : GN → List Value) (w : World) (g m : Nat) (d : Array GN) (os : Array Obj) (b : Nat) (hb : b ≤ g) (hg : g < w.heap.size) : Below b w (sortWorldK enc 2 w g 0 m d os) := by
  unfold sortWorldK grow putRowK putRow mapBlock Sort.ahead
  refine ⟨rfl, rfl, rfl, by simp, fun k hk => ?_⟩
  simp only []
  rw [Array.getElem?_append_left (by simp; omega), Array.getElem?_modify, if_neg (by omega)]
theorem take_put (cur : Array Value) (F : Array Value) (h : F.size ≤ cur.size) : (putCells id 0 F cur).toList.take F.size = F.toList := by
  apply List.ext_getElem?
  intro j
  rcases Nat.lt_or_ge j F.size with hj | hj
  · rw [List.getElem?_take_of_lt hj, Array.getElem?_toList, Array.getElem?_toList]
    simp only [putCells, Array.getElem?_mapIdx]
    rw [Array.getElem?_eq_getElem (show j < cur.size by omega), Option.map_some, if_pos (by omega), Array.getElem?_eq_getElem hj]
    simp [hj]
  · rw [List.getElem?_eq_none (by simp; omega), List.getElem?_eq_none (by simpa using hj)]
theorem enc_len (x : GN) : (encN x).length = 2 := rfl
theorem enc_one (x : GN) : ∀ v ∈ encN x, v.oneCell' = true := fun v hv => by simp [encN] at hv; rcases hv with rfl | rfl <;> rfl
theorem sort_calls (L S : List S42) (hL : ∀ x ∈ L, GoodN x) (hn : L.length ≤ 4294967296) (hS : S.Perm L) (hS2 : S.Pairwise (fun x y => ordN x y ≤ 0)) (W : World) (base b0 : Nat) (ok ok' : Nat → Prop) (v : Value) (hR : Kd.R k42 42 W base ok v L) (hok' : ∀ k, ok k → ok' k) (hb0 : b0 ≤ base) :
    Calls Tryz.prog 43 #[v, .func (.func 44) #[] #[]] W fun e w' => e = .returned (.tuple #[]) ∧ Kd.R k42 42 w' base ok' v S ∧ Below b0 W w' := by
  obtain ⟨hok, inner, ho, hr⟩ := hR
  obtain rfl := reps_node hr
  obtain ⟨_, ⟨rfl, hz⟩ | ⟨g, cap, cur, rfl, hg, hcell, hc1, hc2, hc3, hc4⟩⟩ := ho
  · have hL0 : L = [] := List.length_eq_zero_iff.1 hz
    subst hL0
    have hS0 : S = [] := List.Perm.eq_nil hS
    subst hS0
    refine (AnyF.slices_SortFunc_none Tryz.sortNode none 0 (.func (.func 44) #[] #[]) W).mono ?_
    rintro e w' ⟨rfl, rfl⟩
    exact ⟨rfl, Kd.R_nil _ _ _ _ _, Below.refl _ _⟩
  · obtain ⟨G, rfl⟩ : ∃ G : List GN, G.map Subtype.val = L := ⟨L.attach.map (fun x => ⟨x.1, hL x.1 x.2⟩), by simp [List.map_map, Function.comp_def, List.attach_map_subtype_val]⟩
    have hgl : g < W.heap.size := by
      rcases Nat.lt_or_ge g W.heap.size with h | h
      · exact h
      · rw [Array.getElem?_eq_none h] at hcell; cases hcell
    rw [List.length_map] at *
    have hsz2 : (cellsN (G.map Subtype.val)).length = G.length * 2 := by rw [cellsN_len, List.length_map]
    have hH : HoldsK encN 2 W g 0 G.toArray := by
      intro j hj
      have hj' : j < G.length * 2 := by simpa using hj
      refine ⟨?_, blk_frozen hcell _⟩
      rw [blk_cell hcell, Nat.zero_add]
      show cur[j]? = some (flatK encN 2 G.toArray)[j]!
      rw [flat_cells G j hj', ← hc4]
      rw [show k42.sz = 2 from rfl, List.getElem?_take_of_lt hj', Array.getElem?_toList]
    have eg : ∀ args w, (callFunc 44 args).run Tryz.prog w = .ok (.enter 44 args) w := enters_of Tryz.func44 (by kernel_rfl) rfl
    have hcon := AnyQ.slices_SortFunc_total Tryz.sortNode 2 isAggN sizeN encN enc_len enc_one cfN swoN 44 #[] g 0 cap G.toArray W eg (cmpLaysN _ _ _ _) hH hgl (by simp; omega) totN
    refine Calls.mono hcon ?_
    rintro e w' ⟨rfl, n, os, rfl⟩
    refine ⟨rfl, ?_, sortW_below _ _ _ _ _ _ _ (by omega) hgl⟩
    have hM1 : (G.mergeSort fun x y => !(ltOf cfN) y x).Perm G := List.mergeSort_perm _ _
    have hM2 : (G.mergeSort fun x y => !(ltOf cfN) y x).Pairwise (fun x y => (!(ltOf cfN) y x) = true) := by
      refine List.pairwise_mergeSort (le := fun x y => !(ltOf cfN) y x) (fun a b c h1 h2 => ?_) (fun a b => ?_) G
      · simp only [Bool.not_eq_true'] at *
        exact swoN.ntrans _ _ _ h2 h1
      · simp only [ltN]
        have := ordN_to.sym a.1 b.1 a.2 b.2
        unfold cfN
        by_cases h : ordN b.1 a.1 < 0
        · rw [decide_eq_true h, decide_eq_false (by omega)]; rfl
        · rw [decide_eq_false h]; rfl
    have hSM : S = (G.mergeSort fun x y => !(ltOf cfN) y x).map Subtype.val := by
      refine List.Perm.eq_of_pairwise (le := fun x y => ordN x y ≤ 0) ?_ hS2 ?_ (hS.trans (hM1.map _).symm)
      · intro a b ha hb h1 h2
        have ga := hL a (hS.mem_iff.1 ha)
        have gb : GoodN b := by obtain ⟨y, _, rfl⟩ := List.mem_map.1 hb; exact y.2
        have := ordN_to.sym a b ga gb
        exact (ordN_to.eq a b ga gb).1 (by omega)
      · refine List.pairwise_map.2 (hM2.imp ?_)
        intro x y h
        simp only [Bool.not_eq_true', ltN, decide_eq_false_iff_not] at h
        have := ordN_to.sym x.1 y.1 x.2 y.2
        unfold cfN at h
        omega
    have hlM := hM1.length_eq
    generalize hMM : (G.mergeSort fun x y => !(ltOf cfN) y x) = M at hSM hlM
    have hfs : (flatK encN 2 M.toArray).size = G.length * 2 := by simp [hlM]
    have hSl : S.length = G.length := by rw [hSM, List.length_map, hlM]
    refine ⟨fun k hk => hok' k (hok k hk), cellsN S, ?_, ?_⟩
    · refine ⟨by rw [cellsN_len]; rfl, Or.inr ⟨g, cap, putCells id 0 (flatK encN 2 M.toArray) cur, by rw [hSl], hg, sortW_block _ _ _ _ _ _ _ _ hcell, by rw [hSl]; exact hc1, hc2, by simp [putCells]; exact hc3, ?_⟩⟩
      rw [show S.length * k42.sz = (flatK encN 2 M.toArray).size by rw [hfs, hSl]; rfl, take_put _ _ (by rw [hfs, hc3]; exact Nat.mul_le_mul_right _ hc1)]
      apply List.ext_getElem?
      intro j
      by_cases hj : j < G.length * 2
      · rw [hSM, ← flat_cells M j (by omega), Array.getElem?_toList, Array.getElem?_eq_getElem (by omega)]
        simp [hfs, hj]
      · rw [List.getElem?_eq_none (by simp; omega), List.getElem?_eq_none (by rw [cellsN_len]; omega)]
    · exact node_reps _ _ _ _
end Go.Proofs.YtffcbfclpfchnaaGreatDoor.Q
end

section
namespace Go.Proofs.YtffcbfclpfchnaaGreatDoor.Q
open Go.Proofs.YtffcbfclpfchnaaGreatDoor.QB.D
open Go Go.RowKit Go.Lib Go.Proofs.YtffcbfclpfchnaaGreatDoorW.PrintWords Go.Proofs.YtffcbfclpfchnaaGreatDoorW.PrintLast Go.Proofs.YtffcbfclpfchnaaGreatDoorW.PrintMore Gw
set_option linter.unusedVariables false
set_option linter.unusedSimpArgs false
theorem C_cells {w : World} {A : Option Addr} {xs : List S42} (h : Kd.C k42 w A xs.length xs) : ∀ b, A = some b → ∀ j u, (cellsN xs)[j]? = some u → w.cell? (b.add j) = some u := by
  intro b hb j u hu
  rw [cellsN_get] at hu
  obtain ⟨x, hx, rfl⟩ := Option.map_eq_some_iff.1 hu
  obtain ⟨hl, hxx⟩ := List.getElem?_eq_some_iff.1 hx
  obtain ⟨ad, e, hc⟩ := h.2.2 (by omega)
  rw [hb] at e
  injection e with e
  subst e
  obtain ⟨c, hcl, hk, hcell⟩ := hc (j / 2) x hx
  have ho := k42_open hk
  subst ho
  have hs : k42.sz = 2 := rfl
  rw [hs] at hcell
  rcases Nat.mod_two_eq_zero_or_one j with e | e
  · rw [if_pos e]
    have := hcell 0 _ rfl
    rwa [show j / 2 * 2 + 0 = j by omega] at this
  · rw [if_neg (by omega)]
    have := hcell 1 _ rfl
    rwa [show j / 2 * 2 + 1 = j by omega] at this
theorem R_of_cells {w : World} {base : Nat} {ok : Nat → Prop} {v : Value} {xs : List S42} (ho : w.ownsRow base 42 2 v xs.length (cellsN xs)) (hok : ∀ k, v.ownBlock = some k → ok k) : Kd.R k42 42 w base ok v xs := ⟨hok, cellsN xs, ho, node_reps _ _ _ _⟩
theorem cellsN_snoc (xs : List S42) (x : S42) : cellsN xs ++ [.string x.f0, .string x.f1] = cellsN (xs ++ [x]) := by unfold cellsN; rw [List.flatMap_append]; rfl
theorem bel_setCells {B b : Nat} {a : World} (hb : B ≤ b) : ∀ (vs : List Value) (o : Nat) (w : World), RowKit.Below B a w → RowKit.Below B a (w.setCells b o vs)
  | [], _, _, h => h
  | v :: r, o, w, h => by
    rw [World.setCells]
    exact bel_setCells hb r (o + 1) _ (h.setCell (by exact hb) v)
theorem clear_one (w : World) (ty : TypeId) (b o c : Nat) (hc : ∀ j, j < 2 → (w.cell? ⟨b, o + j, none⟩).isSome = true) (hf : ∀ j, j < 2 → w.frozen? ⟨b, o + j, none⟩ = false) :
    (Builtin.clear_ #[22] ty #[.slice (some ⟨b, o, none⟩) 1 c]).run Tryz.prog w = .ok (.tuple #[]) (w.setCells b o [.string ⟨#[]⟩, .string ⟨#[]⟩]) := by
  have hv : ∀ w, (zeroValue 42).run Tryz.prog w = .ok (.agg #[.string ⟨#[]⟩, .string ⟨#[]⟩]) w := fun w => by kernel_rfl
  have hzc : (Builtin.zeroCells (Value.agg #[.string ⟨#[]⟩, .string ⟨#[]⟩]).cells 1).toList = [.string ⟨#[]⟩, .string ⟨#[]⟩] := by kernel_rfl
  have hst := run_storeCells_cells (P := Tryz.prog) b o [.string ⟨#[]⟩, .string ⟨#[]⟩] 0 w (by simpa using hc) (by simpa using hf) (by intro v hv'; simp at hv'; subst hv'; rfl)
  simp only [Nat.add_zero] at hst
  simp [Builtin.clear_, run_underlying Tryz.underlying22, hv, hzc, hst]
set_option maxHeartbeats 4000000 in
set_option maxRecDepth 100000 in
theorem of1_calls (x : S42) (live : List S42) (hl : live.length ≤ 65536) (A : Option Addr) (c : Nat) (hc : live.length ≤ c) (B : Nat) (w : World) (h0 : w.cell? ⟨B, 0, none⟩ = some (.slice A live.length c)) (hB : B < w.heap.size) (hR : Kd.C k42 w A live.length live) :
    Calls Tryz.prog 23 #[.agg #[.string x.f0, .string x.f1], .pointer (some ⟨B, 0, none⟩)] w fun e w' => e = .returned (.bool (!decide (x ∈ live))) ∧ Below w.heap.size w w' := by
  have hu24 := Tryz.underlying42
  obtain ⟨bc, hbc⟩ : ∃ b, b = decide (x ∈ live) := ⟨_, rfl⟩
  have hcv := conN_val live x (by omega) 65540 (by omega)
  rw [← hbc] at hcv ⊢
  have CC := fun (W : World) (h : Kd.C k42 W A live.length live) => api_Node_24.calls 65540 A c live x.f0 x.f1 bc W h hc hcv
  have HR := Aside0.mk hR
  clear hbc hcv hR
  go_enter Tryz.func23, Tryz.ntmps23
  have n0 : (w.alloc (.cells #[.string x.f0, .string x.f1] 42 (0, 0))).cell? ⟨B, 0, none⟩ = some (.slice A live.length c) := ((Below.alloc (Below.refl w.heap.size w) (Nat.le_refl _) _).cell (p := ⟨B, 0, none⟩) hB).trans h0
  go_wp2_with fail
  refine (CC _ (Kd.C_alloc HR.out _)).mono ?_
  rintro e w1 ⟨rfl, hb1⟩
  have HB1 : Aside0 (Below w.heap.size w w1) := ⟨(below_alloc (Below.refl _ _) _).trans (hb1.mono (by simp))⟩
  clear hb1 CC
  go_wp2
  go_ret
  exact ⟨rfl, HB1.out⟩
set_option maxHeartbeats 4000000 in
set_option maxRecDepth 100000 in
theorem indexD_calls (A0 : Option Addr) (c0 : Nat) (l0 : List S42) (w : World) (hr0 : Kd.C k42 w A0 l0.length l0) (hl0 : l0.length ≤ 4294967296) (p : S42 → Bool) (B : Nat)
    (hp : ∀ x ∈ l0, ∀ (W : World), Below w.heap.size w W → Calls Tryz.prog 23 #[.agg #[.string x.f0, .string x.f1], .pointer (some ⟨B, 0, none⟩)] W fun e w' => e = .returned (.bool (p x)) ∧ Below W.heap.size W w') :
    Calls Tryz.prog 36 #[.slice A0 l0.length c0, .func (.func 23) #[] #[.pointer (some ⟨B, 0, none⟩)]] w fun e w' => ∃ r : Int, e = .returned (.int .i64 r) ∧ ((r = -1 ∧ ∀ x ∈ l0, p x = false) ∨ ∃ i : Nat, r = (i : Int) ∧ i < l0.length ∧ (l0.take (i + 1)).filter (fun x => !p x) = l0.take i) ∧ Below w.heap.size w w' := by
  have hu24 := Tryz.underlying42
  have HR0 := Aside0.mk hr0
  have HP := Aside0.mk hp
  have hl1 : (l0.length : Int) ≤ 4294967296 := by omega
  clear hr0 hp
  go_enter Tryz.func36, Tryz.ntmps36
  go_wp2_with fail
  go_loopw [5, 8] (fun _ v8 wr => ∃ i : Nat, i ≤ l0.length ∧ v8 = .int .i64 (i : Int) ∧ Aside0 (Below w.heap.size w wr) ∧ Aside0 (∀ x ∈ l0.take i, p x = false)) (fun _ v8 _ => l0.length - (RowKit.intOf v8).toNat)
  case atStart => exact ⟨0, Nat.zero_le _, rfl, ⟨Below.refl _ _⟩, ⟨fun x hx => by cases hx⟩⟩
  case round =>
    obtain ⟨i, hi, rfl, HB, HA⟩ := hrel
    by_cases hil : i < l0.length
    · have j1 : (i : Int) < (l0.length : Int) := by omega
      have hdi : decide ((i : Int) < (l0.length : Int)) = true := decide_eq_true j1
      obtain ⟨x, hx⟩ : ∃ x, x = l0[i] := ⟨_, rfl⟩
      have hmem : x ∈ l0 := by rw [hx]; exact List.getElem_mem hil
      obtain ⟨ad, e0, hx0, hx1⟩ := at_T42 HR0.out (i : Int) (by omega) (by omega)
      have hrd : rd_T42 l0 (i : Int) = x := by rw [hx]; simp [rd_T42, List.getD_eq_getElem?_getD, List.getElem?_eq_getElem hil]
      rw [hrd, Int.toNat_natCast] at hx0 hx1
      cases e0
      replace hx0 := (HB.out.cell (World.block_lt_of_cell? w _ hx0)).trans hx0
      replace hx1 := (HB.out.cell (World.block_lt_of_cell? w _ hx1)).trans hx1
      have hcall := HP.out x hmem wr HB.out
      have htk : l0.take (i + 1) = l0.take i ++ [x] := by rw [hx]; exact List.take_succ_eq_append_getElem hil
      have HTK := Aside0.mk htk
      clear hx hrd htk hmem
      cases hq : p x with
      | true =>
        rw [hq] at hcall
        have HQ := Aside0.mk hq
        clear hq
        go_wp2_with (go_at_call 23; with_reducible refine hcall.mono ?_; rintro e w' ⟨rfl, hb'⟩)
        have hbel := HB.out.trans (hb'.mono HB.out.size)
        go_ret
        refine ⟨_, rfl, Or.inr ⟨i, rfl, hil, ?_⟩, hbel⟩
        rw [HTK.out, List.filter_append, List.filter_cons_of_neg (by rw [HQ.out]; decide), List.filter_nil, List.append_nil]
        exact List.filter_eq_self.2 fun y hy => by rw [HA.out y hy]; rfl
      | false =>
        rw [hq] at hcall
        have HQ := Aside0.mk hq
        clear hq
        go_wp2_with (go_at_call 23; with_reducible refine hcall.mono ?_; rintro e w' ⟨rfl, hb'⟩)
        have hbel : Aside0 (Below w.heap.size w w') := ⟨HB.out.trans (hb'.mono HB.out.size)⟩
        clear hb'
        go_roundw
        case rel => exact ⟨i + 1, by omega, by go_num, hbel, ⟨by
          rw [HTK.out]
          intro y hy
          rcases List.mem_append.1 hy with h | h
          · exact HA.out y h
          · rw [List.mem_singleton] at h; subst h; exact HQ.out⟩⟩
        case measure => simp [RowKit.intOf]; omega
    · obtain rfl : i = l0.length := by omega
      have hdi : decide ((l0.length : Int) < (l0.length : Int)) = false := decide_eq_false (by omega)
      have ha := HA.out
      rw [List.take_length] at ha
      have HA2 := Aside0.mk ha
      clear ha
      go_wp2
      go_ret
      exact ⟨_, rfl, Or.inl ⟨rfl, HA2.out⟩, HB.out⟩
theorem zeros_one (m : Nat) : ∀ u ∈ (Builtin.zeroCells (Value.agg #[.string ⟨#[]⟩, .string ⟨#[]⟩]).cells m).toList, u.oneCell' = true := by
  intro u hu
  unfold Builtin.zeroCells at hu
  rw [Array.toList_map, List.mem_map] at hu
  obtain ⟨i, _, rfl⟩ := hu
  have h : (Value.agg #[.string ⟨#[]⟩, .string ⟨#[]⟩]).cells = #[.string ⟨#[]⟩, .string ⟨#[]⟩] := by kernel_rfl
  rw [h]
  rcases Nat.mod_two_eq_zero_or_one i with e | e <;> (simp [e]; rfl)
theorem clear_many (w : World) (ty : TypeId) (b o m c : Nat) (hm : 1 ≤ m) (hc : ∀ j, j < m * 2 → (w.cell? ⟨b, o + j, none⟩).isSome = true) (hf : ∀ j, j < m * 2 → w.frozen? ⟨b, o + j, none⟩ = false) :
    (Builtin.clear_ #[22] ty #[.slice (some ⟨b, o, none⟩) m c]).run Tryz.prog w = .ok (.tuple #[]) (w.setCells b o (Builtin.zeroCells (Value.agg #[.string ⟨#[]⟩, .string ⟨#[]⟩]).cells m).toList) := by
  have hv : ∀ w, (zeroValue 42).run Tryz.prog w = .ok (.agg #[.string ⟨#[]⟩, .string ⟨#[]⟩]) w := fun w => by kernel_rfl
  have hs : (Builtin.zeroCells (Value.agg #[.string ⟨#[]⟩, .string ⟨#[]⟩]).cells m).toList.length = m * 2 := by rw [Array.length_toList, size_zeroCells]; congr 1
  have hst := run_storeCells_cells (P := Tryz.prog) b o (Builtin.zeroCells (Value.agg #[.string ⟨#[]⟩, .string ⟨#[]⟩]).cells m).toList 0 w (by rw [hs]; simpa using hc) (by rw [hs]; simpa using hf) (fun u hu => zeros_one m u (by simpa using hu))
  simp only [Nat.add_zero] at hst
  obtain ⟨k, rfl⟩ : ∃ k, m = k + 1 := ⟨m - 1, by omega⟩
  simp [Builtin.clear_, run_underlying Tryz.underlying22, hv, hst]
set_option maxHeartbeats 8000000 in
set_option maxRecDepth 100000 in
theorem delF_calls (l : List S42) (hl : l.length ≤ 4294967296) (p : S42 → Bool) (B : Nat) (w : World) (base : Nat) (v : Value) (hR : Kd.R k42 42 w base (fun _ => True) v l) (hsz : base ≤ w.heap.size)
    (hp : ∀ x ∈ l, ∀ (W : World), Below base w W → Calls Tryz.prog 23 #[.agg #[.string x.f0, .string x.f1], .pointer (some ⟨B, 0, none⟩)] W fun e w' => e = .returned (.bool (p x)) ∧ Below W.heap.size W w') :
    Calls Tryz.prog 22 #[v, .func (.func 23) #[] #[.pointer (some ⟨B, 0, none⟩)]] w fun e w' => ∃ v', e = .returned v' ∧ Kd.R k42 42 w' base (fun _ => True) v' (l.filter (fun x => !p x)) ∧ Below base w w' := by
  have hu24 := Tryz.underlying42
  obtain ⟨A, c, hv⟩ := Kd.R_slice hR
  subst hv
  have CI := indexD_calls A c l w (Kd.R_reads' hR).2.2 hl p B (fun x hx W hW => hp x hx W (hW.mono hsz))
  have HR0 := Aside0.mk hR
  have HP := Aside0.mk hp
  clear hR hp
  go_enter Tryz.func22, Tryz.ntmps22
  go_wp2_with fail
  refine CI.mono ?_
  rintro e w1 ⟨r, rfl, hr, hb1⟩
  have HB1 := Aside0.mk (hb1.mono hsz)
  have HR1 := Aside0.mk (Kd.R_below HR0.out hb1)
  clear CI hb1
  rcases hr with ⟨rfl, hnone⟩ | ⟨i, rfl, hi, hpre⟩
  · have hf : l.filter (fun x => !p x) = l := List.filter_eq_self.2 fun x hx => by rw [hnone x hx]; rfl
    have HF := Aside0.mk hf
    clear hnone hf
    go_wp2
    go_ret
    exact ⟨_, rfl, by rw [HF.out]; exact HR1.out, HB1.out⟩
  · obtain ⟨g, cap, hvv, hg1, hg2, cbs, hcb⟩ := Kd.R_form HR1.out (by omega)
    injection hvv with e1 e2 e3
    subst e1
    subst e3
    have HPRE := Aside0.mk hpre
    have hwi : IntKind.i64.wrap ((i : Int) + 1) = (i : Int) + 1 := by rw [IntKind.wrap_i64]; omega
    have hne : ((i : Int) == -1) = false := beq_eq_false_iff_ne.2 (by omega)
    have hcap : c ≤ 9223372036854775807 := by
      obtain ⟨_, inner, ho, _⟩ := HR1.out
      rcases ho.2 with ⟨h0, _⟩ | ⟨_, _, _, h0, _, _, _, h1, _⟩
      · cases h0
      · injection h0 with _ _ h0; subst h0; exact h1
    clear hpre hcb e2
    go_wp2_with fail
    go_loopw [5, 6, 7] (fun v5 v6 _ wr => ∃ (a j : Nat) (cur : List S42), v5 = .int .i64 (a : Int) ∧ v6 = .int .i64 (j : Int) ∧ a < j ∧ j ≤ l.length ∧ cur.length = l.length ∧ Aside0 (cur.take a = (l.take j).filter (fun x => !p x)) ∧ Aside0 (cur.drop j = l.drop j) ∧ Aside0 (Kd.R k42 42 wr base (fun _ => True) (.slice (some ⟨g, 0, none⟩) l.length c) cur) ∧ Aside0 (Below base w wr) ∧ base ≤ wr.heap.size) (fun _ v6 _ _ => l.length - (RowKit.intOf v6).toNat)
    case atStart => exact ⟨i, i + 1, l, rfl, by go_num, by omega, by omega, rfl, ⟨HPRE.out.symm⟩, ⟨rfl⟩, HR1, HB1, Nat.le_trans hsz HB1.out.size⟩
    case round =>
      obtain ⟨a, j, cur, rfl, rfl, haj, hjl, hcl, HT, HD, HR, HB, hws⟩ := hrel
      clear hi
      by_cases hil : j < l.length
      · have j1 : (j : Int) < (l.length : Int) := by omega
        have hdi : decide ((j : Int) < (l.length : Int)) = true := decide_eq_true j1
        obtain ⟨x, hx⟩ : ∃ x, x = l[j] := ⟨_, rfl⟩
        have hmem : x ∈ l := by rw [hx]; exact List.getElem_mem hil
        have hcx : cur[j]'(by omega) = x := by
          have h9 : (cur.drop j)[0]? = (l.drop j)[0]? := by rw [HD.out]
          rw [List.getElem?_drop, List.getElem?_drop, Nat.add_zero, List.getElem?_eq_getElem (by omega), List.getElem?_eq_getElem hil] at h9
          injection h9 with h9
          rw [h9, hx]
        have hrc := rowcells HR.out j (by omega)
        rw [hcx] at hrc
        have x0 := hrc.1
        have x1 := hrc.2
        have htk : l.take (j + 1) = l.take j ++ [x] := by rw [hx]; exact List.take_succ_eq_append_getElem hil
        have HTK := Aside0.mk htk
        have hd1 : cur.drop (j + 1) = l.drop (j + 1) := by
          have h9 : (cur.drop j).drop 1 = (l.drop j).drop 1 := by rw [HD.out]
          rw [List.drop_drop, List.drop_drop] at h9
          exact h9
        have HD1 := Aside0.mk hd1
        have hcall := HP.out x hmem (wr.alloc (.cells #[.string x.f0, .string x.f1] 42 (0, 0))) (HB.out.alloc hws _)
        have HB5 := Aside0.mk (HB.out.alloc hws (.cells #[.string x.f0, .string x.f1] 42 (0, 0)))
        have HR5 := Aside0.mk (Kd.R_alloc HR.out (.cells #[.string x.f0, .string x.f1] 42 (0, 0)))
        have n0 : (wr.alloc (.cells #[.string x.f0, .string x.f1] 42 (0, 0))).cell? ⟨wr.heap.size, 0, none⟩ = some (.string x.f0) := by simp [go_sem]
        have n1 : (wr.alloc (.cells #[.string x.f0, .string x.f1] 42 (0, 0))).cell? ⟨wr.heap.size, 1, none⟩ = some (.string x.f1) := by simp [go_sem]
        have hwj : IntKind.i64.wrap ((j : Int) + 1) = (j : Int) + 1 := by rw [IntKind.wrap_i64]; omega
        have hwa : IntKind.i64.wrap ((a : Int) + 1) = (a : Int) + 1 := by rw [IntKind.wrap_i64]; omega
        clear hx hcx hrc htk hd1 hmem HB HR
        cases hq : p x with
        | true =>
          rw [hq] at hcall
          have HQ := Aside0.mk hq
          clear hq
          go_wp2_with (go_at_call 23; with_reducible refine hcall.mono ?_; rintro e w5 ⟨rfl, hb5⟩)
          have HB6 := Aside0.mk (HB5.out.trans (hb5.mono (by simp; omega)))
          have HR6 := Aside0.mk (Kd.R_below HR5.out hb5)
          have hz5 : wr.heap.size + 1 ≤ w5.heap.size := by have := hb5.size; simp at this; omega
          clear hb5 n0 n1
          go_roundw
          case rel => exact ⟨a, j + 1, cur, rfl, by go_num, by omega, by omega, hcl, ⟨by rw [HTK.out, List.filter_append, List.filter_cons_of_neg (by rw [HQ.out]; decide), List.filter_nil, List.append_nil]; exact HT.out⟩, HD1, HR6, HB6, by omega⟩
          case measure => simp [RowKit.intOf]; omega
        | false =>
          rw [hq] at hcall
          have HQ := Aside0.mk hq
          clear hq
          have i1 : (a : Int) < (l.length : Int) := by omega
          go_wp2_with (first
            | (go_at_call 23; with_reducible refine hcall.mono ?_; rintro e w5 ⟨rfl, hb5⟩; have HB6 := Aside0.mk (HB5.out.trans (hb5.mono (by simp; omega))); have HR6 := Aside0.mk (Kd.R_below HR5.out hb5); have p0 := (hb5.cell (p := ⟨wr.heap.size, 0, none⟩) (by simp)).trans n0; have p1 := (hb5.cell (p := ⟨wr.heap.size, 1, none⟩) (by simp)).trans n1; have hz5 : wr.heap.size + 1 ≤ w5.heap.size := (by have := hb5.size; simp at this; omega); obtain ⟨_, _, hvv, hg9, hg8, cbs, hcb⟩ := Kd.R_form HR6.out (by omega); injection hvv with f1 f2 f3; injection f1 with f1; injection f1 with f1; subst f1; have hrc := rowcells HR6.out a (by omega); have e0_ := hrc.1; have e1_ := hrc.2; have f0_ := blk_frozen hcb (a * 2); have f1_ := blk_frozen hcb (a * 2 + 1); clear hb5 n0 n1 hcb hrc f2 f3)
            | fail)
          have hst := store_node HR6.out a (by omega) x
          have HR7 := Aside0.mk hst.1
          have HB7 := Aside0.mk ((HB6.out.setCell (p := ⟨g, a * 2, none⟩) hg1 (.string x.f0)).setCell (p := ⟨g, a * 2 + 1, none⟩) hg1 (.string x.f1))
          have ht1 : (cur.set a x).take (a + 1) = (l.take (j + 1)).filter (fun x => !p x) := by
            rw [HTK.out, List.filter_append, List.filter_cons_of_pos (by rw [HQ.out]; rfl), List.filter_nil, ← HT.out, List.take_succ_eq_append_getElem (by rw [List.length_set]; omega), List.getElem_set_self]
            congr 1
            exact List.take_set_of_le (Nat.le_refl _)
          have ht2 : (cur.set a x).drop (j + 1) = l.drop (j + 1) := by
            rw [List.drop_set_of_lt (by omega)]
            exact HD1.out
          have HT1 := Aside0.mk ht1
          have HT2 := Aside0.mk ht2
          clear hst ht1 ht2
          go_roundw
          case rel => exact ⟨a + 1, j + 1, cur.set a x, by go_num, by go_num, by omega, by omega, by rw [List.length_set]; exact hcl, HT1, HT2, HR7, HB7, by simp; omega⟩
          case measure => simp [RowKit.intOf]; omega
      · obtain rfl : j = l.length := by omega
        have hdi : decide ((l.length : Int) < (l.length : Int)) = false := decide_eq_false (by omega)
        have hT := HT.out
        rw [List.take_length] at hT
        obtain ⟨_, inner, ho, hrep⟩ := HR.out
        have hin := reps_node hrep
        subst hin
        have hs2 : k42.sz = 2 := rfl
        rw [hs2] at ho
        rcases ho.2 with ⟨h0, _⟩ | ⟨g', cap', cs, h0, hgb, hh, hnc, hcapm, hcs, hcur⟩
        · cases h0
        injection h0 with h1 hlc h3
        clear hlc
        injection h1 with h1
        injection h1 with h1
        subst h1
        subst h3
        have hcell : ∀ j, j < cs.size → wr.cell? ⟨g, j, none⟩ = cs[j]? ∧ wr.frozen? ⟨g, j, none⟩ = false := by
          intro j hj
          simp [World.cell?, World.frozen?, hh]
        have hcc : ∀ t, t < (l.length - a) * 2 → (wr.cell? ⟨g, a * 2 + t, none⟩).isSome = true ∧ wr.frozen? ⟨g, a * 2 + t, none⟩ = false := by
          intro t ht
          have := hcell (a * 2 + t) (by omega)
          exact ⟨by rw [this.1, Array.getElem?_eq_getElem (by omega)]; rfl, this.2⟩
        obtain ⟨zs, hzs⟩ : ∃ zs, zs = (Builtin.zeroCells (Value.agg #[.string ⟨#[]⟩, .string ⟨#[]⟩]).cells (l.length - a)).toList := ⟨_, rfl⟩
        have hzl : zs.length = (l.length - a) * 2 := by rw [hzs, Array.length_toList, size_zeroCells]; congr 1
        have hclr := fun ty => clear_many wr ty g (a * 2) (l.length - a) (c - a) (by omega) (fun t ht => (hcc t ht).1) (fun t ht => (hcc t ht).2)
        rw [← hzs] at hclr
        obtain ⟨cs2, h2, h2s, h2l⟩ := setCells_row (g := g) (e := 42) zs (a * 2) wr cs hh (by omega)
        have hlen : (l.filter (fun x => !p x)).length = a := by rw [← hT, List.length_take]; omega
        have hrow : (wr.setCells g (a * 2) zs).ownsRow base 42 2 (.slice (some ⟨g, 0, none⟩) a c) a (cellsN (l.filter (fun x => !p x))) := by
          refine ⟨by rw [cellsN_len, hlen], Or.inr ⟨g, c, cs2, rfl, hgb, h2, by omega, hcapm, by omega, ?_⟩⟩
          rw [h2l, List.take_append_of_le_length (by rw [List.length_append, List.length_take, Array.length_toList]; omega), List.take_append_of_le_length (by rw [List.length_take, Array.length_toList]; omega), List.take_take, Nat.min_self]
          have h9 : cs.toList.take (a * 2) = (cellsN cur).take (a * 2) := by rw [← hcur, List.take_take, Nat.min_eq_left (by omega)]
          rw [h9, ← hT]
          rw [show cellsN cur = cellsN (cur.take a) ++ cellsN (cur.drop a) by unfold cellsN; rw [← List.flatMap_append, List.take_append_drop], List.take_append_of_le_length (by rw [cellsN_len, List.length_take]; omega), List.take_of_length_le (by rw [cellsN_len, List.length_take]; omega)]
        have HROW : Aside0 (Kd.R k42 42 (wr.setCells g (a * 2) zs) base (fun _ => True) (.slice (some ⟨g, 0, none⟩) a c) (l.filter (fun x => !p x))) := Aside0.mk (R_of_cells (ok := fun _ => True) (by rw [hlen]; exact hrow) (fun _ _ => trivial))
        have HB9 := Aside0.mk (bel_setCells hgb zs (a * 2) wr HB.out)
        have hp1 : (a : Int) ≤ (l.length : Int) := by omega
        have hp2 : (l.length : Int) ≤ (c : Int) := by omega
        have hp3 : (a : Int) ≤ (c : Int) := by omega
        have hcn : ¬ (c = a) := by omega
        have hac : a ≤ c := by omega
        have hal : a ≤ l.length := by omega
        clear hrow h2 h2s h2l hcell hcc hh hcur ho hrep hT hzs HR HT HD HB hlen
        go_wp2
        go_ret
        exact ⟨_, rfl, HROW.out, HB9.out⟩
end Go.Proofs.YtffcbfclpfchnaaGreatDoor.Q
end

section
namespace Go.Proofs.YtffcbfclpfchnaaGreatDoor.Q
open Go.Proofs.YtffcbfclpfchnaaGreatDoor.QB.D
open Go Go.RowKit Go.Maps Go.Lib Go.Proofs.YtffcbfclpfchnaaGreatDoorW.PrintWords Go.Proofs.YtffcbfclpfchnaaGreatDoorW.PrintLast Go.Proofs.YtffcbfclpfchnaaGreatDoorW.PrintMore Gw
set_option linter.unusedVariables false
set_option linter.unusedSimpArgs false
def node_Set.f (l : List S42) : Option (List S42 × Int) := if l.length ≤ 4294967296 ∧ (∀ x ∈ l, TinyN x) then some (if l.all mayN then (setN l, 0) else ([], 1)) else none
theorem node_Set.calls (A0 : Option Addr) (c0 : Nat) (l0 : List S42) (r1 : List S42) (r2 : Int) (w : World) (hr0 : Kd.C k42 w A0 l0.length l0) (hc0 : l0.length ≤ c0) (h : node_Set.f l0 = some (r1, r2)) :
    Calls Tryz.prog 31 #[.slice A0 l0.length c0] w fun e w' => ∃ v, e = .returned (.tuple #[v, .int .i64 r2]) ∧ Kd.R k42 42 w' w.heap.size (fun _ => True) v r1 ∧ Below w.heap.size w w' := by
  unfold node_Set.f at h
  by_cases hc : l0.length ≤ 4294967296 ∧ (∀ x ∈ l0, TinyN x)
  · rw [if_pos hc] at h
    obtain ⟨hl, ht⟩ := hc
    have hdm : ∀ x ∈ ded l0, x ∈ l0 := fun x hx => by
      have := (ded_mem l0 x l0.length (Nat.le_refl _)).1
      rw [List.take_length] at this
      exact this hx
    have hdl : (ded l0).length ≤ l0.length := by
      have := ded_len l0 l0.length (Nat.le_refl _)
      rwa [List.take_length] at this
    by_cases ha : l0.all mayN = true
    · rw [if_pos ha, Option.some.injEq, Prod.mk.injEq] at h
      obtain ⟨rfl, rfl⟩ := h
      have hg : ∀ x ∈ ded l0, GoodN x := fun x hx => mayN_good (ht x (hdm x hx)) (List.all_eq_true.1 ha x (hdm x hx))
      refine nset_go 8589934592 A0 c0 l0 w hr0 hl (fun x hx => ?_) mayN (fun x hx => node_May_val _ x (ht x hx) ?_) (setN l0) _ _ (fun _ => ⟨rfl, rfl⟩) (fun hf => absurd ha (by rw [hf]; decide)) (fun _ W v hW hR => ?_)
      · have := ht x hx; unfold TinyN Tiny at this; unfold NS maxLen; omega
      · have := ht x hx; unfold TinyN Tiny at this; omega
      · refine (sort_calls (ded l0) (setN l0) hg (by omega) (sortN_perm _) (sortN_sorted _ hg) W w.heap.size w.heap.size _ (fun _ => True) v hR (fun _ _ => trivial) (Nat.le_refl _)).mono ?_
        rintro e w' ⟨rfl, h1, h2⟩
        exact ⟨rfl, h1, hW.trans h2⟩
    · rw [if_neg ha, Option.some.injEq, Prod.mk.injEq] at h
      obtain ⟨rfl, rfl⟩ := h
      refine nset_go 8589934592 A0 c0 l0 w hr0 hl (fun x hx => ?_) mayN (fun x hx => node_May_val _ x (ht x hx) ?_) [] _ _ (fun hf => absurd hf ha) (fun _ => ⟨rfl, rfl⟩) (fun hf => absurd hf ha)
      · have := ht x hx; unfold TinyN Tiny at this; unfold NS maxLen; omega
      · have := ht x hx; unfold TinyN Tiny at this; omega
  · rw [if_neg hc] at h
    cases h
/-- What of a list's first i nodes is not in another one. -/
def lessN (l m : List S42) (i : Nat) : List S42 := (l.take i).filter (fun x => !decide (x ∈ m))
theorem lessN_succ (l m : List S42) (i : Nat) (hi : i < l.length) : lessN l m (i + 1) = if l[i] ∈ m then lessN l m i else lessN l m i ++ [l[i]] := by
  unfold lessN
  rw [List.take_succ_eq_append_getElem hi, List.filter_append]
  by_cases h : l[i] ∈ m
  · rw [if_pos h]; simp [h]
  · rw [if_neg h]; simp [h]
theorem lessN_len (l m : List S42) (i : Nat) : (lessN l m i).length ≤ i := Nat.le_trans (List.length_filter_le _ _) (by rw [List.length_take]; omega)
set_option maxHeartbeats 4000000 in
set_option maxRecDepth 100000 in
theorem nminus_go (A0 : Option Addr) (c0 : Nat) (l0 : List S42) (A1 : Option Addr) (c1 : Nat) (l1 : List S42) (w : World) (hr0 : Kd.C k42 w A0 l0.length l0) (hr1 : Kd.C k42 w A1 l1.length l1) (hc0 : l0.length ≤ c0) (hc1 : l1.length ≤ c1)
    (hl0 : l0.length ≤ 4294967296) (hl1 : l1.length ≤ 4294967296) (ht0 : ∀ x ∈ l0, TinyN x) (ht1 : ∀ x ∈ l1, TinyN x) (hk0 : checkN l0 = true) (hk1 : checkN l1 = true) :
    Calls Tryz.prog 21 #[.slice A0 l0.length c0, .slice A1 l1.length c1] w fun e w' => ∃ v, e = .returned (.tuple #[v, .int .i64 0]) ∧ Kd.R k42 42 w' w.heap.size (fun _ => True) v (lessN l0 l1 l0.length) ∧ Below w.heap.size w w' := by
  have hu23 := Tryz.underlying42
  have hmm := @run_makeMap Tryz.prog
  have HR0 := Aside0.mk hr0
  have HR1 := Aside0.mk hr1
  have HT0 := Aside0.mk ht0
  have HT1 := Aside0.mk ht1
  have e0 := check_val l0 hl0 ht0 8589934600 (Nat.le_refl _)
  have e1 := check_val l1 hl1 ht1 8589934600 (Nat.le_refl _)
  rw [hk0] at e0
  rw [hk1] at e1
  have q0 : (l0.length : Int) ≤ 4294967296 := by omega
  have q1 : (l1.length : Int) ≤ 4294967296 := by omega
  have CK0 := fun (W : World) (h : Kd.C k42 W A0 l0.length l0) => node_Check.calls 8589934600 A0 c0 l0 0 W h hc0 e0
  have CK1 := fun (W : World) (h : Kd.C k42 W A1 l1.length l1) => node_Check.calls 8589934600 A1 c1 l1 0 W h hc1 e1
  clear hr0 hr1 ht0 ht1 e0 e1
  go_enter Tryz.func21, Tryz.ntmps21
  go_wp2_with fail
  refine (CK0 _ HR0.out).mono ?_
  rintro e w1 ⟨rfl, hb1⟩
  go_wp2_with fail
  refine (CK1 _ (Kd.C_below HR1.out hb1)).mono ?_
  rintro e w2 ⟨rfl, hb2⟩
  have HB2 : Aside0 (Below w.heap.size w w2) := ⟨hb1.trans (hb2.mono hb1.size)⟩
  have hz2 : w.heap.size ≤ w2.heap.size := HB2.out.size
  clear hb1 hb2 CK0 CK1
  go_wp2_with fail
  go_loopw [25] (fun v25 wr => ∃ i : Nat, i ≤ l1.length ∧ v25 = .int .i64 (i : Int) ∧ (∃ D, Aside0 (wr.ownsMap Tryz.prog 42 unitElem w2.heap.size i D) ∧ Aside0 (Met D (l1.take i))) ∧ Aside0 (Below w2.heap.size w2 wr) ∧ w2.heap.size + 1 ≤ wr.heap.size) (fun v25 _ => l1.length - (RowKit.intOf v25).toNat)
  case atStart => exact ⟨0, Nat.zero_le _, rfl, ⟨_, ⟨World.ownsMap_made _ _ _ _⟩, ⟨Met.none⟩⟩, ⟨below_alloc (Below.refl _ _) _⟩, by simp⟩
  case round =>
    obtain ⟨i, hi, rfl, ⟨D, HM, HD⟩, HB, hws⟩ := hrel
    have HBw : Aside0 (Below w.heap.size w wr) := ⟨HB2.out.trans (HB.out.mono HB2.out.size)⟩
    by_cases hil : i < l1.length
    · have j1 : (i : Int) < (l1.length : Int) := by omega
      have hdi : decide ((i : Int) < (l1.length : Int)) = true := decide_eq_true j1
      obtain ⟨x, hx⟩ : ∃ x, x = l1[i] := ⟨_, rfl⟩
      have hmem : x ∈ l1 := by rw [hx]; exact List.getElem_mem hil
      obtain ⟨ad, e0, hx0, hx1⟩ := at_T42 HR1.out (i : Int) (by omega) (by omega)
      have hrd : rd_T42 l1 (i : Int) = x := by rw [hx]; simp [rd_T42, List.getD_eq_getElem?_getD, List.getElem?_eq_getElem hil]
      rw [hrd, Int.toNat_natCast] at hx0 hx1
      cases e0
      replace hx0 := (HBw.out.cell (World.block_lt_of_cell? w _ hx0)).trans hx0
      replace hx1 := (HBw.out.cell (World.block_lt_of_cell? w _ hx1)).trans hx1
      have htx := HT1.out x hmem
      have hnx : NS x := by unfold TinyN Tiny at htx; unfold NS maxLen; omega
      have hkey := keyOf_node x hnx.1 hnx.2
      have htk : l1.take (i + 1) = l1.take i ++ [x] := by rw [hx]; exact List.take_succ_eq_append_getElem hil
      have HTK := Aside0.mk htk
      clear hx hrd htk hmem htx
      go_wp2_with (first
        | (at_mapUpdate; refine wpList_mapUpdate_own _ rfl _ _ _ 64 rfl 42 65 law_node Tryz.underlying64 (unitElem (H := Unit)) w2.heap.size i _ rfl (HM.out.alloc (.cells #[.string x.f0, .string x.f1] 42 (0, 0))) (by unfold maxLen; omega) _ _ _ rfl rfl hkey _ [] unitElem_mk ?_; intro w8 hown8 hgrow8)
        | fail)
      have HB8 := Aside0.mk (pw_below_grown (below_alloc HB.out (.cells #[.string x.f0, .string x.f1] 42 (0, 0))) _ (by simp; omega) hgrow8 (fun j hj => by cases hj; exact Nat.le_refl _))
      have hz8 := hgrow8.size
      go_roundw
      case rel => exact ⟨i + 1, by omega, by go_num, ⟨_, ⟨hown8⟩, ⟨HD.out.put x hnx _ (fun y => by rw [HTK.out, List.mem_append, List.mem_singleton]; exact Or.comm)⟩⟩, HB8, by simp at hz8; omega⟩
      case measure => simp [RowKit.intOf]; omega
    · obtain rfl : i = l1.length := by omega
      have hdi : decide ((l1.length : Int) < (l1.length : Int)) = false := decide_eq_false (by omega)
      have hmet := HD.out
      rw [List.take_length] at hmet
      have HMET := Aside0.mk hmet
      clear hmet HD
      go_wp2_with fail
      have hwr := HB.out.size
      go_loopw [9, 35] (fun v9 v35 wr => ∃ i : Nat, i ≤ l0.length ∧ v35 = .int .i64 (i : Int) ∧ Aside0 (wr.ownsMap Tryz.prog 42 unitElem w2.heap.size l1.length D) ∧ Aside0 (Kd.R k42 42 wr w.heap.size (fun j => j ≠ w2.heap.size) v9 (lessN l0 l1 i)) ∧ Aside0 (Below w.heap.size w wr) ∧ w2.heap.size + 1 ≤ wr.heap.size) (fun _ v35 _ => l0.length - (RowKit.intOf v35).toNat)
      case atStart => exact ⟨0, Nat.zero_le _, rfl, HM, ⟨Kd.R_nil _ _ _ _ _⟩, HBw, hws⟩
      case round =>
        clear HM HBw HB hws hwr
        obtain ⟨i, hi, rfl, HM5, HO5, HB5, hws⟩ := hrel
        by_cases hil : i < l0.length
        · have j1 : (i : Int) < (l0.length : Int) := by omega
          have hdi : decide ((i : Int) < (l0.length : Int)) = true := decide_eq_true j1
          obtain ⟨x, hx⟩ : ∃ x, x = l0[i] := ⟨_, rfl⟩
          have hmem : x ∈ l0 := by rw [hx]; exact List.getElem_mem hil
          obtain ⟨ad, e0, hx0, hx1⟩ := at_T42 HR0.out (i : Int) (by omega) (by omega)
          have hrd : rd_T42 l0 (i : Int) = x := by rw [hx]; simp [rd_T42, List.getD_eq_getElem?_getD, List.getElem?_eq_getElem hil]
          rw [hrd, Int.toNat_natCast] at hx0 hx1
          cases e0
          replace hx0 := (HB5.out.cell (World.block_lt_of_cell? w _ hx0)).trans hx0
          replace hx1 := (HB5.out.cell (World.block_lt_of_cell? w _ hx1)).trans hx1
          have htx := HT0.out x hmem
          have hnx : NS x := by unfold TinyN Tiny at htx; unfold NS maxLen; omega
          have hkey := keyOf_node x hnx.1 hnx.2
          have hhas := HMET.out.has x hnx
          have hls := lessN_succ l0 l1 i hil
          rw [← hx] at hls
          have HLS := Aside0.mk hls
          have HHAS := Aside0.mk hhas
          have hva : some w2.heap.size ≠ u9.ownBlock := Kd.R_away HO5.out (fun j hj => hj)
          have HVA := Aside0.mk hva
          have LEN := Aside0.mk (lessN_len l0 l1 i)
          obtain ⟨bh, hbh⟩ : ∃ b, b = Maps.has D (nkey x) := ⟨_, rfl⟩
          have HBH := Aside0.mk hbh
          clear hx hrd hmem htx hhas hls hva hbh
          replace HM5 := Aside0.mk (HM5.out.alloc (.cells #[.string x.f0, .string x.f1] 42 (0, 0)))
          replace HO5 := Aside0.mk (Kd.R_alloc HO5.out (.cells #[.string x.f0, .string x.f1] 42 (0, 0)))
          replace HB5 := Aside0.mk (below_alloc HB5.out (.cells #[.string x.f0, .string x.f1] 42 (0, 0)))
          cases bh
          · have hnew : x ∉ l1 := by
              have h := HHAS.out
              rw [← HBH.out] at h
              exact of_decide_eq_false h.symm
            have HDN : Aside0 (lessN l0 l1 (i + 1) = lessN l0 l1 i ++ [x]) := ⟨by rw [HLS.out, if_neg hnew]⟩
            clear hnew
            go_wp2_with (first
              | (at_lookup; refine wpList_lookup_own_unit _ rfl _ _ 64 rfl 42 65 law_node Tryz.underlying64 (zero_unit _) w2.heap.size l1.length _ rfl HM5.out _ _ rfl hkey ?_; rw [← HBH.out])
              | ((with_reducible refine gate_dst (N := 12) rfl ?_); refine box_event ?hg (N := 12) ?hd (cs := #[]) (t := 65) ?hr ?_; (case hd => rfl); (case hg => rfl); (case hr => first | (go_simp; done) | (go_simp; rfl)); intro gb hg w6 hbox hb6; have n0_6 : w6.cell? ⟨wr.heap.size, 0, none⟩ = some (.string x.f0) := (hb6.cell (p := ⟨wr.heap.size, 0, none⟩) (by simp)).trans (by simp [go_sem]); have n1_6 : w6.cell? ⟨wr.heap.size, 1, none⟩ = some (.string x.f1) := (hb6.cell (p := ⟨wr.heap.size, 1, none⟩) (by simp)).trans (by simp [go_sem]); have HM6 := Aside0.mk (HM5.out.kept (grown_of_below hb6 none) (by simp)); have HO6 := Aside0.mk (Kd.R_below HO5.out hb6); have HB6 := Aside0.mk (below_step HB5.out hb6); have hz6 : wr.heap.size + 1 ≤ w6.heap.size := (by have := hb6.size; simp at this; omega); clear hb6 hg hbox)
              | ((with_reducible refine gate_builtin (b := .append) (xs := #[.tmp 47, .tmp 49]) rfl ?_); at_builtin; refine Kd.R_append k42 (w0 := w) w.heap.size rfl (.tmp 47) (.tmp 49) 22 42 (.agg #[(.string ⟨#[]⟩), (.string ⟨#[]⟩)]) 32 rfl Tryz.underlying22 info42 rfl (by decide) (by omega) u9 (lessN l0 l1 i) x [.string x.f0, .string x.f1] (fun j => j ≠ w2.heap.size) (fun _ => False) rfl rfl ?aP (fun _ hk => hk.elim) ?aF ?aO ?aB ?aS ?aL ?_; (case aP => exact k42_mkM _ _ _ x); (case aB => exact HB6.out); (case aF => exact (fun j hj => by omega)); (case aO => exact HO6.out); (case aS => exact HB6.out.size); (case aL => have := LEN.out; omega); intro v7 w7 ho7 hb7 hg7 hat7; have HM7 := Aside0.mk (HM6.out.kept hg7 HVA.out); have HO7 := Aside0.mk ho7; have HB7 := Aside0.mk hb7; have hz7 := hg7.size; clear ho7 hb7 hg7 hat7)
              | fail)
            go_roundw
            case rel => exact ⟨i + 1, by omega, by go_num, HM7, ⟨by rw [HDN.out]; exact HO7.out⟩, HB7, by omega⟩
            case measure => simp [RowKit.intOf]; omega
          · have hold : x ∈ l1 := by
              have h := HHAS.out
              rw [← HBH.out] at h
              exact of_decide_eq_true h.symm
            have HDN : Aside0 (lessN l0 l1 (i + 1) = lessN l0 l1 i) := ⟨by rw [HLS.out, if_pos hold]⟩
            clear hold
            go_wp2_with (first
              | (at_lookup; refine wpList_lookup_own_unit _ rfl _ _ 64 rfl 42 65 law_node Tryz.underlying64 (zero_unit _) w2.heap.size l1.length _ rfl HM5.out _ _ rfl hkey ?_; rw [← HBH.out])
              | ((with_reducible refine gate_dst (N := 12) rfl ?_); refine box_event ?hg (N := 12) ?hd (cs := #[]) (t := 65) ?hr ?_; (case hd => rfl); (case hg => rfl); (case hr => first | (go_simp; done) | (go_simp; rfl)); intro gb hg w6 hbox hb6; have n0_6 : w6.cell? ⟨wr.heap.size, 0, none⟩ = some (.string x.f0) := (hb6.cell (p := ⟨wr.heap.size, 0, none⟩) (by simp)).trans (by simp [go_sem]); have n1_6 : w6.cell? ⟨wr.heap.size, 1, none⟩ = some (.string x.f1) := (hb6.cell (p := ⟨wr.heap.size, 1, none⟩) (by simp)).trans (by simp [go_sem]); have HM6 := Aside0.mk (HM5.out.kept (grown_of_below hb6 none) (by simp)); have HO6 := Aside0.mk (Kd.R_below HO5.out hb6); have HB6 := Aside0.mk (below_step HB5.out hb6); have hz6 : wr.heap.size + 1 ≤ w6.heap.size := (by have := hb6.size; simp at this; omega); clear hb6 hg hbox)
              | fail)
            go_roundw
            case rel => exact ⟨i + 1, by omega, by go_num, HM6, ⟨by rw [HDN.out]; exact HO6.out⟩, HB6, by omega⟩
            case measure => simp [RowKit.intOf]; omega
        · obtain rfl : i = l0.length := by omega
          have hdi : decide ((l0.length : Int) < (l0.length : Int)) = false := decide_eq_false (by omega)
          go_wp2
          go_ret2
          exact ⟨_, rfl, Kd.R_mono HO5.out (fun _ _ => trivial), HB5.out⟩
def node_Minus.f (l m : List S42) : Option (List S42 × Int) := if l.length ≤ 4294967296 ∧ m.length ≤ 4294967296 ∧ (∀ x ∈ l, TinyN x) ∧ (∀ x ∈ m, TinyN x) then some (if checkN l = true ∧ checkN m = true then (l.filter (fun x => !decide (x ∈ m)), 0) else ([], 1)) else none
set_option maxHeartbeats 4000000 in
set_option maxRecDepth 100000 in
theorem nminus_err (A0 : Option Addr) (c0 : Nat) (l0 : List S42) (A1 : Option Addr) (c1 : Nat) (l1 : List S42) (w : World) (hr0 : Kd.C k42 w A0 l0.length l0) (hr1 : Kd.C k42 w A1 l1.length l1) (hc0 : l0.length ≤ c0) (hc1 : l1.length ≤ c1)
    (hl0 : l0.length ≤ 4294967296) (hl1 : l1.length ≤ 4294967296) (ht0 : ∀ x ∈ l0, TinyN x) (ht1 : ∀ x ∈ l1, TinyN x) (hk : ¬ (checkN l0 = true ∧ checkN l1 = true)) :
    Calls Tryz.prog 21 #[.slice A0 l0.length c0, .slice A1 l1.length c1] w fun e w' => e = .returned (.tuple #[.slice none 0 0, .int .i64 1]) ∧ Below w.heap.size w w' := by
  have HR1 := Aside0.mk hr1
  have e0 := check_val l0 hl0 ht0 8589934600 (Nat.le_refl _)
  have e1 := check_val l1 hl1 ht1 8589934600 (Nat.le_refl _)
  by_cases h0 : checkN l0 = true
  · have h1 : checkN l1 = false := by
      cases h : checkN l1
      · rfl
      · exact absurd ⟨h0, h⟩ hk
    rw [h0] at e0
    rw [h1] at e1
    have CK0 := fun (W : World) (h : Kd.C k42 W A0 l0.length l0) => node_Check.calls 8589934600 A0 c0 l0 0 W h hc0 e0
    have CK1 := fun (W : World) (h : Kd.C k42 W A1 l1.length l1) => node_Check.calls 8589934600 A1 c1 l1 1 W h hc1 e1
    clear e0 e1 h0 h1 hk ht0 ht1
    go_enter Tryz.func21, Tryz.ntmps21
    go_wp2_with fail
    refine (CK0 _ hr0).mono ?_
    rintro e w1 ⟨rfl, hb1⟩
    go_wp2_with fail
    refine (CK1 _ (Kd.C_below HR1.out hb1)).mono ?_
    rintro e w2 ⟨rfl, hb2⟩
    have HB2 : Aside0 (Below w.heap.size w w2) := ⟨hb1.trans (hb2.mono hb1.size)⟩
    clear hb1 hb2 CK0 CK1
    go_wp2
    go_ret2
    exact ⟨rfl, HB2.out⟩
  · rw [Bool.not_eq_true] at h0
    rw [h0] at e0
    have CK0 := fun (W : World) (h : Kd.C k42 W A0 l0.length l0) => node_Check.calls 8589934600 A0 c0 l0 1 W h hc0 e0
    clear e0 e1 h0 hk ht0 ht1
    go_enter Tryz.func21, Tryz.ntmps21
    go_wp2_with fail
    refine (CK0 _ hr0).mono ?_
    rintro e w1 ⟨rfl, hb1⟩
    have HB2 := Aside0.mk hb1
    clear hb1 CK0
    go_wp2
    go_ret2
    exact ⟨rfl, HB2.out⟩
theorem node_Minus.calls (A0 : Option Addr) (c0 : Nat) (l0 : List S42) (A1 : Option Addr) (c1 : Nat) (l1 : List S42) (r1 : List S42) (r2 : Int) (w : World) (hr0 : Kd.C k42 w A0 l0.length l0) (hc0 : l0.length ≤ c0) (hr1 : Kd.C k42 w A1 l1.length l1) (hc1 : l1.length ≤ c1) (h : node_Minus.f l0 l1 = some (r1, r2)) :
    Calls Tryz.prog 21 #[.slice A0 l0.length c0, .slice A1 l1.length c1] w fun e w' => ∃ v, e = .returned (.tuple #[v, .int .i64 r2]) ∧ Kd.R k42 42 w' w.heap.size (fun _ => True) v r1 ∧ Below w.heap.size w w' := by
  unfold node_Minus.f at h
  split at h
  case isFalse => cases h
  case isTrue hc =>
    obtain ⟨hl0, hl1, ht0, ht1⟩ := hc
    by_cases hk : checkN l0 = true ∧ checkN l1 = true
    · rw [if_pos hk, Option.some.injEq, Prod.mk.injEq] at h
      obtain ⟨rfl, rfl⟩ := h
      have := nminus_go A0 c0 l0 A1 c1 l1 w hr0 hr1 hc0 hc1 hl0 hl1 ht0 ht1 hk.1 hk.2
      unfold lessN at this
      rw [List.take_length] at this
      exact this
    · rw [if_neg hk, Option.some.injEq, Prod.mk.injEq] at h
      obtain ⟨rfl, rfl⟩ := h
      refine (nminus_err A0 c0 l0 A1 c1 l1 w hr0 hr1 hc0 hc1 hl0 hl1 ht0 ht1 hk).mono ?_
      rintro e w' ⟨rfl, hb⟩
      exact ⟨_, rfl, Kd.R_nil _ _ _ _ _, hb⟩
end Go.Proofs.YtffcbfclpfchnaaGreatDoor.Q
end

section
namespace Go.Proofs.YtffcbfclpfchnaaGreatDoor.Q
open Go.RowKit Go.Proofs.YtffcbfclpfchnaaGreatDoorW.PrintWords Go.Proofs.YtffcbfclpfchnaaGreatDoorW.PrintLast Go.Proofs.YtffcbfclpfchnaaGreatDoorW.PrintMore
attribute [local go_sem] max2_int min2_int max_two min_two max_three min_three max_four min_four   -- for this text's walks alone
set_option linter.unusedVariables false
set_option linter.unusedSimpArgs false
attribute [local go_sem high] eqA42
/-! ### lack_By: function 18 -/
mutual
def lack_By.j0 : Nat → List (S51) → Bool → ByteArray → ByteArray → Option ((List (S42)) × Bool × Int)
 | 0, _, _, _, _ => none
 | k + 1, x0, x19, x183000, x183001 => if x19 = true then (some (([] : List (S42)), false, 1)) else (lack_By.l0 k ([] : List (S42)) false x0 (x0.length : Int) 0 x183000 x183001)
def lack_By.l0 : Nat → List (S42) → Bool → List (S51) → Int → Int → ByteArray → ByteArray → Option ((List (S42)) × Bool × Int)
 | 0, _, _, _, _, _, _, _ => none
 | k + 1, x7, x8, x20, x21, x22, x183000, x183001 => if x22 < x21 then (if 0 ≤ x22 then (if x22 < (x20.length : Int) then (if (!((((rd_T51 x20 x22).f1.f0).toList) == x183000.toList) || (!((((rd_T51 x20 x22).f1.f1).toList) == x183001.toList))) = true then (lack_By.l0 k x7 x8 x20 x21 (wrap64 (x22 + 1)) x183000 x183001) else (if ((((rd_T51 x20 x22).f0.f0).toList) == ([] : List UInt8) && ((((rd_T51 x20 x22).f0.f1).toList) == ([] : List UInt8))) = true then (lack_By.l0 k x7 true x20 x21 (wrap64 (x22 + 1)) x183000 x183001) else (if x7.length < 4398046511104 then (lack_By.l0 k (x7 ++ [(⟨(rd_T51 x20 x22).f0.f0, (rd_T51 x20 x22).f0.f1⟩ : S42)]) x8 x20 x21 (wrap64 (x22 + 1)) x183000 x183001) else (none)))) else (none)) else (none)) else ((node_Set.f x7).bind fun bt185 => (some (bt185.1, x8, bt185.2)))
end
def lack_By.f (k : Nat) (l0 : List (S51)) (a1_0 : ByteArray) (a1_1 : ByteArray) : Option ((List (S42)) × Bool × Int) := (lack_Check.f l0).bind fun t183 => (if t183 = 0 then ((node_May.f k a1_0 a1_1).bind fun t184 => (lack_By.j0 k l0 (!t184) a1_0 a1_1)) else (lack_By.j0 k l0 true a1_0 a1_1))
set_option maxHeartbeats 8000000 in
set_option maxRecDepth 100000 in
theorem lack_By.calls (k : Nat) (A0 : Option Addr) (c0 : Nat) (l0 : List (S51)) (a1_0 : ByteArray) (a1_1 : ByteArray) (r1 : List (S42)) (r2 : Bool) (r3 : Int) (w : World) (hr0 : Kd.C k51 w A0 l0.length l0) (hc0 : l0.length ≤ c0) (h : lack_By.f k l0 a1_0 a1_1 = some (r1, r2, r3)) :
  Calls Tryz.prog 18 #[.slice A0 l0.length c0, .agg #[.string a1_0, .string a1_1]] w fun e w' => ∃ v0_ : Value, e = .returned (.tuple #[v0_, .bool r2, .int .i64 r3]) ∧ Kd.R k42 42 w' w.heap.size (fun _ => True) v0_ r1 ∧ Below w.heap.size w w' := by
 have hu42 := Tryz.underlying42
 have hu51 := Tryz.underlying51
 have HR0 := Aside0.mk hr0
 have HC0 := Aside0.mk hc0
 clear hr0 hc0
 have HB := Aside0.mk (Below.refl w.heap.size w)
 have H : ((lack_Check.f l0).bind fun t183 => (if t183 = 0 then ((node_May.f k a1_0 a1_1).bind fun t184 => (lack_By.j0 k l0 (!t184) a1_0 a1_1)) else (lack_By.j0 k l0 true a1_0 a1_1))) = some (r1, r2, r3) := h
 clear h
 have HC3 := Aside0.mk H
 clear H
 go_enter Tryz.func18, Tryz.ntmps18
 go_upto_region 1 with (first | ((with_reducible refine gate_dst (N := 3) rfl ?_); refine box_event ?hg (N := 3) ?hd (cs := #[.string a1_0, .string a1_1]) (t := 42) ?hr ?_; (case hd => rfl); (case hg => rfl); (case hr => first | (go_simp; done) | (go_simp; rfl)); intro gb182 hg w4 hbox hb; have n0_ := Aside0.mk (below_step (by repeat (first | (with_reducible first | exact HB.out | apply below_alloc | apply pw_below_drewN | apply below_drew1) | exact HB.out)) hb); have n1_ := Aside0.mk (hbox); have n2_ := Aside0.mk ((by rw [hg]; exact (below_size (by repeat (first | (with_reducible first | exact HB.out | apply below_alloc | apply pw_below_drewN | apply below_drew1) | exact HB.out))) : w.heap.size ≤ gb182)); have n3_ := Aside0.mk ((by rw [hg]; exact (below_size (by repeat (first | (with_reducible first | exact HB.out | apply below_alloc | apply pw_below_drewN | apply below_drew1) | exact HB.out))) : w.heap.size ≤ gb182)); clear HB; have HB := n0_; have BK182 := n1_; have GW182 := n2_; have GE182 := n3_; clear n0_ n1_ n2_ n3_; clear hb hbox hg))
 (try simp only [Act.put, List.setIfInBounds_toArray, List.set_cons_zero, List.set_cons_succ])
 go_cut [19] (fun v19 wc => ∃ (kq : Nat) (x19_2 : Bool), v19 = .bool x19_2 ∧ Aside0 (lack_By.j0 kq l0 x19_2 a1_0 a1_1 = some (r1, r2, r3)) ∧ Aside0 (kq ≤ k) ∧ Aside0 (wc.heap[gb182]? = some (.cells #[.string a1_0, .string a1_1] 42 (0, 0))) ∧ Aside0 (Below w.heap.size w wc))
 case first =>
  have H := HC3.out
  clear HC3
  replace H := Option.bind_eq_some_iff.mp H
  obtain ⟨t183, A50, H⟩ := H
  replace H : (if t183 = 0 then ((node_May.f k a1_0 a1_1).bind fun t184 => (lack_By.j0 k l0 (!t184) a1_0 a1_1)) else (lack_By.j0 k l0 true a1_0 a1_1)) = some (r1, r2, r3) := H
  have A5 := Aside0.mk A50
  clear A50
  by_cases c6 : t183 = 0
  ·rw [if_pos c6] at H
   have c6b0 : (t183 == 0) = true := beq_iff_eq.mpr c6
   have c6b1 : (t183 != 0) = false := bne_eq_false_iff_eq.mpr c6
   clear c6
   (first | rw [c6b0] | (simp only [i64_w, i32_w]; rw [c6b0]) | skip)
   replace H := Option.bind_eq_some_iff.mp H
   obtain ⟨t184, A70, H⟩ := H
   replace H : (lack_By.j0 k l0 (!t184) a1_0 a1_1) = some (r1, r2, r3) := H
   have A7 := Aside0.mk A70
   clear A70
   have H' := Aside0.mk H
   clear H
   go_wp2_with (first | ((with_reducible refine gate_callee (f := 9) rfl ?_); refine goesL_ (some 13) rfl rfl Tryz.func9 (by kernel_rfl) rfl #[.slice A0 l0.length c0] rfl (by (try simp only [List.map_toArray, List.map_cons, List.map_nil]); first | done | rfl | (simp only [List.length_drop, List.length_take]; rfl)) ?_; (with_reducible refine (lack_Check.calls _ _ l0 t183 _ ?side1 ?side2 A5.out).mono ?_); (case side1 => repeat (first | exact (Kd.C_below HR0.out HB.out) | (with_reducible refine Kd.C_alloc ?_ _) | (with_reducible refine Kd.C_drewN ?_ _) | (with_reducible refine Kd.C_drew ?_))); (case side2 => exact HC0.out); rintro e w8 ⟨rfl, hb⟩; refine ⟨_, rfl, ?_⟩; have n0_ := Aside0.mk (blk_below (g := gb182) (o := .cells #[.string a1_0, .string a1_1] 42 (0, 0)) (by (with_reducible repeat (first | refine blk_drewN ?_ _ | refine blk_drew ?_ | refine blk_alloc ?_ _)); exact BK182.out) hb); have n1_ := Aside0.mk (below_step (by repeat (first | (with_reducible first | exact HB.out | apply below_alloc | apply pw_below_drewN | apply below_drew1 | refine below_set ?_ GE182.out) | exact HB.out)) hb); clear BK182; clear HB; have BK182 := n0_; have HB := n1_; clear n0_ n1_; (try clear hb); (try clear hb2); (try clear hk); (try clear hi); have hcz9_0 : w8.cell? ⟨gb182, 0, none⟩ = some (.string a1_0) := (blk_cell BK182.out 0).trans rfl; have hcz9_1 : w8.cell? ⟨gb182, 1, none⟩ = some (.string a1_1) := (blk_cell BK182.out 1).trans rfl; have hfz9_0 := blk_frozen BK182.out 0; have hfz9_1 := blk_frozen BK182.out 1) | (go_at_call 27; (with_reducible refine (node_May.calls k a1_0 a1_1 t184 _ A7.out).mono ?_); rintro e w10 ⟨rfl, hb⟩; have n0_ := Aside0.mk (blk_below (g := gb182) (o := .cells #[.string a1_0, .string a1_1] 42 (0, 0)) (by (with_reducible repeat (first | refine blk_drewN ?_ _ | refine blk_drew ?_ | refine blk_alloc ?_ _)); exact BK182.out) hb); have n1_ := Aside0.mk (below_step (by repeat (first | (with_reducible first | exact HB.out | apply below_alloc | apply pw_below_drewN | apply below_drew1 | refine below_set ?_ GE182.out) | exact HB.out)) hb); clear BK182; clear HB; have BK182 := n0_; have HB := n1_; clear n0_ n1_; (try clear hb); (try clear hb2); (try clear hk); (try clear hi)))
   go_meet
   case rel => exact ⟨_, (!t184), (by first | rfl | (simp; done) | (simp [*]; done)), H', ⟨by first | omega | exact Nat.le_refl _⟩, ⟨by (with_reducible repeat (first | refine blk_drewN ?_ _ | refine blk_drew ?_ | refine blk_alloc ?_ _)); exact BK182.out⟩, ⟨by repeat (first | (with_reducible first | exact HB.out | apply below_alloc | apply pw_below_drewN | apply below_drew1 | refine below_set ?_ GE182.out) | exact HB.out)⟩⟩
  ·rw [if_neg c6] at H
   have c6b0 : (t183 == 0) = false := beq_eq_false_iff_ne.mpr c6
   have c6b1 : (t183 != 0) = true := bne_iff_ne.mpr c6
   (first | rw [c6b0] | (simp only [i64_w, i32_w]; rw [c6b0]) | skip)
   have H' := Aside0.mk H
   clear H
   go_wp2_with (first | ((with_reducible refine gate_callee (f := 9) rfl ?_); refine goesL_ (some 13) rfl rfl Tryz.func9 (by kernel_rfl) rfl #[.slice A0 l0.length c0] rfl (by (try simp only [List.map_toArray, List.map_cons, List.map_nil]); first | done | rfl | (simp only [List.length_drop, List.length_take]; rfl)) ?_; (with_reducible refine (lack_Check.calls _ _ l0 t183 _ ?side1 ?side2 A5.out).mono ?_); (case side1 => repeat (first | exact (Kd.C_below HR0.out HB.out) | (with_reducible refine Kd.C_alloc ?_ _) | (with_reducible refine Kd.C_drewN ?_ _) | (with_reducible refine Kd.C_drew ?_))); (case side2 => exact HC0.out); rintro e w11 ⟨rfl, hb⟩; refine ⟨_, rfl, ?_⟩; have n0_ := Aside0.mk (blk_below (g := gb182) (o := .cells #[.string a1_0, .string a1_1] 42 (0, 0)) (by (with_reducible repeat (first | refine blk_drewN ?_ _ | refine blk_drew ?_ | refine blk_alloc ?_ _)); exact BK182.out) hb); have n1_ := Aside0.mk (below_step (by repeat (first | (with_reducible first | exact HB.out | apply below_alloc | apply pw_below_drewN | apply below_drew1 | refine below_set ?_ GE182.out) | exact HB.out)) hb); clear BK182; clear HB; have BK182 := n0_; have HB := n1_; clear n0_ n1_; (try clear hb); (try clear hb2); (try clear hk); (try clear hi)))
   go_meet
   case rel => exact ⟨_, (true), (by first | rfl | (simp; done) | (simp [*]; done)), H', ⟨by first | omega | exact Nat.le_refl _⟩, ⟨by (with_reducible repeat (first | refine blk_drewN ?_ _ | refine blk_drew ?_ | refine blk_alloc ?_ _)); exact BK182.out⟩, ⟨by repeat (first | (with_reducible first | exact HB.out | apply below_alloc | apply pw_below_drewN | apply below_drew1 | refine below_set ?_ GE182.out) | exact HB.out)⟩⟩
 case rest =>
  clear HC3
  try clear c1
  try clear p2
  try clear c6
  try clear c6b0
  try clear c6b1
  try clear c9
  try clear hcz9_0
  try clear hcz9_1
  try clear hfz9_0
  try clear hfz9_1
  obtain ⟨kq, x19_2, rfl, HA, HJ2, BK182, HB⟩ := hcut
  cases kq with
  | zero => exact absurd HA.out (by simp [lack_By.j0])
  | succ kj2 =>
   have H := HA.out
   clear HA
   simp only [lack_By.j0] at H
   by_cases c12 : x19_2 = true
   ·subst c12
    have H1 : (some (([] : List (S42)), false, 1)) = some (r1, r2, r3) := by rw [if_pos rfl] at H; exact H
    clear H
    have H := H1
    clear H1
    simp only [Option.some.injEq, Prod.mk.injEq] at H
    obtain ⟨rfl, rfl, rfl⟩ := H
    go_wp2
    go_ret3
    exact ⟨_, by first | rfl | (simp [errW_none, errW_some] <;> rfl) | (simp [*, errW_none, errW_some] <;> rfl), by first | exact Kd.R_nil _ _ _ _ _ | exact Kd.N_nil _ _ _ _ _ | exact Kd.V_nil _ _ _ _ _ | exact Kd.Q_nil _ _ _ _ _ | exact Kd.S_nil _ _ _ _ _, by repeat (first | (with_reducible first | exact HB.out | apply below_alloc | apply pw_below_drewN | apply below_drew1 | refine below_set ?_ GE182.out) | exact HB.out)⟩
   ·replace c12 := Bool.eq_false_iff.mpr c12
    subst c12
    have H1 : (lack_By.l0 kj2 ([] : List (S42)) false l0 (l0.length : Int) 0 a1_0 a1_1) = some (r1, r2, r3) := by rw [if_neg (show ¬ (false = true) by decide)] at H; exact H
    clear H
    have H := H1
    clear H1
    have H' := Aside0.mk H
    clear H
    go_wp2
    go_loopg [7, 8, 22] kj2 (fun kq v7 v8 v22 w' => ∃ (x7_2 : List (S42)) (x8_2 : Bool) (x22_2 : Int), v8 = .bool x8_2 ∧ v22 = .int .i64 x22_2 ∧ Aside0 (lack_By.l0 kq x7_2 x8_2 l0 (l0.length : Int) x22_2 a1_0 a1_1 = some (r1, r2, r3)) ∧ Aside0 (kq ≤ kj2) ∧ Aside0 (Kd.R k42 42 w' w.heap.size (fun k_ => k_ ≠ gb182) v7 x7_2) ∧ Aside0 (w'.heap[gb182]? = some (.cells #[.string a1_0, .string a1_1] 42 (0, 0))) ∧ Aside0 (Below w.heap.size w w'))
    case atStart => exact ⟨(([] : List (S42))), (false), (0), (by first | rfl | (simp; done) | (simp [*]; done)), (by first | rfl | (simp; done) | (simp [*]; done)), H', ⟨Nat.le_refl _⟩, ⟨by first | exact Kd.R_nil _ _ _ _ _ | exact Kd.N_nil _ _ _ _ _ | exact Kd.V_nil _ _ _ _ _ | exact Kd.Q_nil _ _ _ _ _ | exact Kd.S_nil _ _ _ _ _⟩, ⟨by (with_reducible repeat (first | refine blk_drewN ?_ _ | refine blk_drew ?_ | refine blk_alloc ?_ _)); exact BK182.out⟩, ⟨by repeat (first | (with_reducible first | exact HB.out | apply below_alloc | apply pw_below_drewN | apply below_drew1 | refine below_set ?_ GE182.out) | exact HB.out)⟩⟩
    case round =>
     clear H'
     try clear c1
     try clear p2
     try clear c6
     try clear c6b0
     try clear c6b1
     try clear c9
     try clear c12
     try clear hcz9_0
     try clear hcz9_1
     try clear hfz9_0
     try clear hfz9_1
     try clear p2
     obtain ⟨x7_2, x8_2, x22_2, rfl, rfl, HA, HK2, HO_7, BK182, HB⟩ := hrel
     cases gk with
     | zero => exact absurd HA.out (by simp [lack_By.l0])
     | succ k2 =>
      have H := HA.out
      clear HA
      simp only [lack_By.l0] at H
      by_cases c13 : x22_2 < (l0.length : Int)
      ·rw [if_pos c13] at H
       have c13b0 : decide (x22_2 < (l0.length : Int)) = true := decide_eq_true c13
       clear c13
       by_cases c14 : 0 ≤ x22_2
       ·rw [if_pos c14] at H
        have c14b0 : decide (0 ≤ x22_2) = true := decide_eq_true c14
        clear c14
        by_cases c15 : x22_2 < (l0.length : Int)
        ·rw [if_pos c15] at H
         have c15b0 : decide (x22_2 < (l0.length : Int)) = true := decide_eq_true c15
         clear c15
         by_cases c16 : (!((((rd_T51 l0 x22_2).f1.f0).toList) == a1_0.toList) || (!((((rd_T51 l0 x22_2).f1.f1).toList) == a1_1.toList))) = true
         ·rw [if_pos c16] at H
          have c16b0 : (!((((rd_T51 l0 x22_2).f1.f0).toList) == a1_0.toList) || (!((((rd_T51 l0 x22_2).f1.f1).toList) == a1_1.toList))) = true := c16
          clear c16
          have H' := Aside0.mk H
          clear H
          have p189 : 0 ≤ (x22_2 : Int) := of_decide_eq_true (by first | (with_reducible assumption) | assumption)
          have q189 : x22_2 < (l0.length : Int) := of_decide_eq_true (by first | (with_reducible assumption) | assumption)
          obtain ⟨ad189, e189, hx189_0, hx189_1, hx189_2, hx189_3⟩ := at_T51 HR0.out x22_2 p189 q189
          cases e189
          replace hx189_0 := (HB.out.cell (World.block_lt_of_cell? w _ hx189_0)).trans hx189_0
          replace hx189_1 := (HB.out.cell (World.block_lt_of_cell? w _ hx189_1)).trans hx189_1
          replace hx189_2 := (HB.out.cell (World.block_lt_of_cell? w _ hx189_2)).trans hx189_2
          replace hx189_3 := (HB.out.cell (World.block_lt_of_cell? w _ hx189_3)).trans hx189_3
          replace p189 := eq_true p189
          replace q189 := eq_true q189
          go_wp2_with (first | ((with_reducible refine gate_dst (N := 10) rfl ?_); refine box_event ?hg (N := 10) ?hd (cs := #[.string (⟨#[]⟩ : ByteArray), .string (⟨#[]⟩ : ByteArray), .string (⟨#[]⟩ : ByteArray), .string (⟨#[]⟩ : ByteArray)]) (t := 51) ?hr ?_; (case hd => rfl); (case hg => rfl); (case hr => first | (go_simp; done) | (go_simp; rfl)); intro gb190 hg w17 hbox hb; have n0_ := Aside0.mk (Kd.R_below (by (with_reducible repeat (first | apply Kd.R_alloc | apply Kd.R_drewN | apply Kd.R_drew)); exact HO_7.out) hb); have n1_ := Aside0.mk (blk_below (g := gb182) (o := .cells #[.string a1_0, .string a1_1] 42 (0, 0)) (by (with_reducible repeat (first | refine blk_drewN ?_ _ | refine blk_drew ?_ | refine blk_alloc ?_ _)); exact BK182.out) hb); have n2_ := Aside0.mk (below_step (by repeat (first | (with_reducible first | exact HB.out | apply below_alloc | apply pw_below_drewN | apply below_drew1 | refine below_set ?_ GE182.out) | exact HB.out)) hb); have n3_ := Aside0.mk (hbox); have n4_ := Aside0.mk ((by rw [hg]; exact (below_size (by repeat (first | (with_reducible first | exact HB.out | apply below_alloc | apply pw_below_drewN | apply below_drew1 | refine below_set ?_ GE182.out) | exact HB.out))) : w.heap.size ≤ gb190)); have n5_ := Aside0.mk ((by rw [hg]; exact (below_size (by repeat (first | (with_reducible first | exact HB.out | apply below_alloc | apply pw_below_drewN | apply below_drew1 | refine below_set ?_ GE182.out) | exact HB.out))) : w.heap.size ≤ gb190)); have n6_ := Aside0.mk ((by rw [hg]; exact Nat.ne_of_lt (blk_lt (g := gb182) (o := .cells #[.string a1_0, .string a1_1] 42 (0, 0)) (by (with_reducible repeat (first | refine blk_drewN ?_ _ | refine blk_drew ?_ | refine blk_alloc ?_ _)); exact BK182.out)) : gb182 ≠ gb190)); have n7_ := Aside0.mk ((by rw [hg]; exact Nat.ne_of_gt (blk_lt (g := gb182) (o := .cells #[.string a1_0, .string a1_1] 42 (0, 0)) (by (with_reducible repeat (first | refine blk_drewN ?_ _ | refine blk_drew ?_ | refine blk_alloc ?_ _)); exact BK182.out)) : gb190 ≠ gb182)); clear HO_7; clear BK182; clear HB; have HO_7 := n0_; have BK182 := n1_; have HB := n2_; have BK190 := n3_; have GW190 := n4_; have GE190 := n5_; have NB182_190 := n6_; have NB190_182 := n7_; clear n0_ n1_ n2_ n3_ n4_ n5_ n6_ n7_; clear hb hbox hg; have hnb18 := NB190_182.out; have hnc18 := NB182_190.out; have hcz19_0 : w17.cell? ⟨gb190, 0, none⟩ = some (.string (⟨#[]⟩ : ByteArray)) := (blk_cell BK190.out 0).trans rfl; have hcz19_1 : w17.cell? ⟨gb190, 1, none⟩ = some (.string (⟨#[]⟩ : ByteArray)) := (blk_cell BK190.out 1).trans rfl; have hcz19_2 : w17.cell? ⟨gb190, 2, none⟩ = some (.string (⟨#[]⟩ : ByteArray)) := (blk_cell BK190.out 2).trans rfl; have hcz19_3 : w17.cell? ⟨gb190, 3, none⟩ = some (.string (⟨#[]⟩ : ByteArray)) := (blk_cell BK190.out 3).trans rfl; have hfz19_0 := blk_frozen BK190.out 0; have hfz19_1 := blk_frozen BK190.out 1; have hfz19_2 := blk_frozen BK190.out 2; have hfz19_3 := blk_frozen BK190.out 3; have hcz20_0 : w17.cell? ⟨gb182, 0, none⟩ = some (.string a1_0) := (blk_cell BK182.out 0).trans rfl; have hcz20_1 : w17.cell? ⟨gb182, 1, none⟩ = some (.string a1_1) := (blk_cell BK182.out 1).trans rfl; have hfz20_0 := blk_frozen BK182.out 0; have hfz20_1 := blk_frozen BK182.out 1))
          go_roundg k2
          case measure => have := HJ2.out; have := HK2.out; omega
          case rel => exact ⟨(x7_2), (x8_2), (wrap64 (x22_2 + 1)), (by first | rfl | (simp; done) | (simp [*]; done)), (by first | rfl | (simp; done) | (simp [*]; done)), H', ⟨by have := HJ2.out; have := HK2.out; omega⟩, ⟨by (with_reducible repeat (first | apply Kd.R_alloc | apply Kd.R_drewN | apply Kd.R_drew)); exact Kd.R_mono (Kd.R_far (p := ⟨gb190, 3, none⟩) (Kd.R_far (p := ⟨gb190, 2, none⟩) (Kd.R_far (p := ⟨gb190, 1, none⟩) (Kd.R_far (p := ⟨gb190, 0, none⟩) (Kd.R_types HO_7.out BK190.out (by decide)) (fun _ hk => hk.2) (.string ((rd_T51 l0 x22_2).f0.f0))) (fun _ hk => hk.2) (.string ((rd_T51 l0 x22_2).f0.f1))) (fun _ hk => hk.2) (.string ((rd_T51 l0 x22_2).f1.f0))) (fun _ hk => hk.2) (.string ((rd_T51 l0 x22_2).f1.f1))) (fun _ hk => hk.1)⟩, ⟨by (with_reducible repeat (first | refine blk_drewN ?_ _ | refine blk_drew ?_ | refine blk_alloc ?_ _)); refine blk_far ?_ NB182_190.out _; (with_reducible repeat (first | refine blk_drewN ?_ _ | refine blk_drew ?_ | refine blk_alloc ?_ _)); refine blk_far ?_ NB182_190.out _; (with_reducible repeat (first | refine blk_drewN ?_ _ | refine blk_drew ?_ | refine blk_alloc ?_ _)); refine blk_far ?_ NB182_190.out _; (with_reducible repeat (first | refine blk_drewN ?_ _ | refine blk_drew ?_ | refine blk_alloc ?_ _)); refine blk_far ?_ NB182_190.out _; (with_reducible repeat (first | refine blk_drewN ?_ _ | refine blk_drew ?_ | refine blk_alloc ?_ _)); exact BK182.out⟩, ⟨by repeat (first | (with_reducible first | exact HB.out | apply below_alloc | apply pw_below_drewN | apply below_drew1 | refine below_set ?_ GE182.out | refine below_set ?_ GE190.out) | exact HB.out)⟩⟩
         ·rw [if_neg c16] at H
          have c16b0 : (!((((rd_T51 l0 x22_2).f1.f0).toList) == a1_0.toList) || (!((((rd_T51 l0 x22_2).f1.f1).toList) == a1_1.toList))) = false := by simpa using c16
          clear c16
          by_cases c21 : ((((rd_T51 l0 x22_2).f0.f0).toList) == ([] : List UInt8) && ((((rd_T51 l0 x22_2).f0.f1).toList) == ([] : List UInt8))) = true
          ·rw [if_pos c21] at H
           have c21b0 : ((((rd_T51 l0 x22_2).f0.f0).toList) == ([] : List UInt8) && ((((rd_T51 l0 x22_2).f0.f1).toList) == ([] : List UInt8))) = true := c21
           have c21b9e : ((((rd_T51 l0 x22_2).f0.f0).toList).isEmpty && ((((rd_T51 l0 x22_2).f0.f1).toList).isEmpty)) = true := by simpa using c21b0
           (try (have c21b1 : decide ((((rd_T51 l0 x22_2).f0.f0).toList) = ([] : List UInt8) && ((((rd_T51 l0 x22_2).f0.f1).toList) == ([] : List UInt8))) = true := by simpa using c21))
           (try (have c21b2 : ((((rd_T51 l0 x22_2).f0.f0).toList) == ([] : List UInt8) && ((((rd_T51 l0 x22_2).f0.f1).toList) == ([] : List UInt8))) = true := by simpa using c21))
           clear c21
           have H' := Aside0.mk H
           clear H
           have p189 : 0 ≤ (x22_2 : Int) := of_decide_eq_true (by first | (with_reducible assumption) | assumption)
           have q189 : x22_2 < (l0.length : Int) := of_decide_eq_true (by first | (with_reducible assumption) | assumption)
           obtain ⟨ad189, e189, hx189_0, hx189_1, hx189_2, hx189_3⟩ := at_T51 HR0.out x22_2 p189 q189
           cases e189
           replace hx189_0 := (HB.out.cell (World.block_lt_of_cell? w _ hx189_0)).trans hx189_0
           replace hx189_1 := (HB.out.cell (World.block_lt_of_cell? w _ hx189_1)).trans hx189_1
           replace hx189_2 := (HB.out.cell (World.block_lt_of_cell? w _ hx189_2)).trans hx189_2
           replace hx189_3 := (HB.out.cell (World.block_lt_of_cell? w _ hx189_3)).trans hx189_3
           replace p189 := eq_true p189
           replace q189 := eq_true q189
           go_wp2_with (first | ((with_reducible refine gate_dst (N := 10) rfl ?_); refine box_event ?hg (N := 10) ?hd (cs := #[.string (⟨#[]⟩ : ByteArray), .string (⟨#[]⟩ : ByteArray), .string (⟨#[]⟩ : ByteArray), .string (⟨#[]⟩ : ByteArray)]) (t := 51) ?hr ?_; (case hd => rfl); (case hg => rfl); (case hr => first | (go_simp; done) | (go_simp; rfl)); intro gb190 hg w22 hbox hb; have n0_ := Aside0.mk (Kd.R_below (by (with_reducible repeat (first | apply Kd.R_alloc | apply Kd.R_drewN | apply Kd.R_drew)); exact HO_7.out) hb); have n1_ := Aside0.mk (blk_below (g := gb182) (o := .cells #[.string a1_0, .string a1_1] 42 (0, 0)) (by (with_reducible repeat (first | refine blk_drewN ?_ _ | refine blk_drew ?_ | refine blk_alloc ?_ _)); exact BK182.out) hb); have n2_ := Aside0.mk (below_step (by repeat (first | (with_reducible first | exact HB.out | apply below_alloc | apply pw_below_drewN | apply below_drew1 | refine below_set ?_ GE182.out) | exact HB.out)) hb); have n3_ := Aside0.mk (hbox); have n4_ := Aside0.mk ((by rw [hg]; exact (below_size (by repeat (first | (with_reducible first | exact HB.out | apply below_alloc | apply pw_below_drewN | apply below_drew1 | refine below_set ?_ GE182.out) | exact HB.out))) : w.heap.size ≤ gb190)); have n5_ := Aside0.mk ((by rw [hg]; exact (below_size (by repeat (first | (with_reducible first | exact HB.out | apply below_alloc | apply pw_below_drewN | apply below_drew1 | refine below_set ?_ GE182.out) | exact HB.out))) : w.heap.size ≤ gb190)); have n6_ := Aside0.mk ((by rw [hg]; exact Nat.ne_of_lt (blk_lt (g := gb182) (o := .cells #[.string a1_0, .string a1_1] 42 (0, 0)) (by (with_reducible repeat (first | refine blk_drewN ?_ _ | refine blk_drew ?_ | refine blk_alloc ?_ _)); exact BK182.out)) : gb182 ≠ gb190)); have n7_ := Aside0.mk ((by rw [hg]; exact Nat.ne_of_gt (blk_lt (g := gb182) (o := .cells #[.string a1_0, .string a1_1] 42 (0, 0)) (by (with_reducible repeat (first | refine blk_drewN ?_ _ | refine blk_drew ?_ | refine blk_alloc ?_ _)); exact BK182.out)) : gb190 ≠ gb182)); clear HO_7; clear BK182; clear HB; have HO_7 := n0_; have BK182 := n1_; have HB := n2_; have BK190 := n3_; have GW190 := n4_; have GE190 := n5_; have NB182_190 := n6_; have NB190_182 := n7_; clear n0_ n1_ n2_ n3_ n4_ n5_ n6_ n7_; clear hb hbox hg; have hnb23 := NB190_182.out; have hnc23 := NB182_190.out; have hcz24_0 : w22.cell? ⟨gb190, 0, none⟩ = some (.string (⟨#[]⟩ : ByteArray)) := (blk_cell BK190.out 0).trans rfl; have hcz24_1 : w22.cell? ⟨gb190, 1, none⟩ = some (.string (⟨#[]⟩ : ByteArray)) := (blk_cell BK190.out 1).trans rfl; have hcz24_2 : w22.cell? ⟨gb190, 2, none⟩ = some (.string (⟨#[]⟩ : ByteArray)) := (blk_cell BK190.out 2).trans rfl; have hcz24_3 : w22.cell? ⟨gb190, 3, none⟩ = some (.string (⟨#[]⟩ : ByteArray)) := (blk_cell BK190.out 3).trans rfl; have hfz24_0 := blk_frozen BK190.out 0; have hfz24_1 := blk_frozen BK190.out 1; have hfz24_2 := blk_frozen BK190.out 2; have hfz24_3 := blk_frozen BK190.out 3; have hcz25_0 : w22.cell? ⟨gb182, 0, none⟩ = some (.string a1_0) := (blk_cell BK182.out 0).trans rfl; have hcz25_1 : w22.cell? ⟨gb182, 1, none⟩ = some (.string a1_1) := (blk_cell BK182.out 1).trans rfl; have hfz25_0 := blk_frozen BK182.out 0; have hfz25_1 := blk_frozen BK182.out 1))
           go_roundg k2
           case measure => have := HJ2.out; have := HK2.out; omega
           case rel => exact ⟨(x7_2), (true), (wrap64 (x22_2 + 1)), (by first | rfl | (simp; done) | (simp [*]; done)), (by first | rfl | (simp; done) | (simp [*]; done)), H', ⟨by have := HJ2.out; have := HK2.out; omega⟩, ⟨by (with_reducible repeat (first | apply Kd.R_alloc | apply Kd.R_drewN | apply Kd.R_drew)); exact Kd.R_mono (Kd.R_far (p := ⟨gb190, 3, none⟩) (Kd.R_far (p := ⟨gb190, 2, none⟩) (Kd.R_far (p := ⟨gb190, 1, none⟩) (Kd.R_far (p := ⟨gb190, 0, none⟩) (Kd.R_types HO_7.out BK190.out (by decide)) (fun _ hk => hk.2) (.string ((rd_T51 l0 x22_2).f0.f0))) (fun _ hk => hk.2) (.string ((rd_T51 l0 x22_2).f0.f1))) (fun _ hk => hk.2) (.string ((rd_T51 l0 x22_2).f1.f0))) (fun _ hk => hk.2) (.string ((rd_T51 l0 x22_2).f1.f1))) (fun _ hk => hk.1)⟩, ⟨by (with_reducible repeat (first | refine blk_drewN ?_ _ | refine blk_drew ?_ | refine blk_alloc ?_ _)); refine blk_far ?_ NB182_190.out _; (with_reducible repeat (first | refine blk_drewN ?_ _ | refine blk_drew ?_ | refine blk_alloc ?_ _)); refine blk_far ?_ NB182_190.out _; (with_reducible repeat (first | refine blk_drewN ?_ _ | refine blk_drew ?_ | refine blk_alloc ?_ _)); refine blk_far ?_ NB182_190.out _; (with_reducible repeat (first | refine blk_drewN ?_ _ | refine blk_drew ?_ | refine blk_alloc ?_ _)); refine blk_far ?_ NB182_190.out _; (with_reducible repeat (first | refine blk_drewN ?_ _ | refine blk_drew ?_ | refine blk_alloc ?_ _)); exact BK182.out⟩, ⟨by repeat (first | (with_reducible first | exact HB.out | apply below_alloc | apply pw_below_drewN | apply below_drew1 | refine below_set ?_ GE182.out | refine below_set ?_ GE190.out) | exact HB.out)⟩⟩
          ·rw [if_neg c21] at H
           have c21b0 : ((((rd_T51 l0 x22_2).f0.f0).toList) == ([] : List UInt8) && ((((rd_T51 l0 x22_2).f0.f1).toList) == ([] : List UInt8))) = false := by simpa using c21
           have c21b9e : ((((rd_T51 l0 x22_2).f0.f0).toList).isEmpty && ((((rd_T51 l0 x22_2).f0.f1).toList).isEmpty)) = false := by simpa using c21b0
           (try (have c21b1 : decide ((((rd_T51 l0 x22_2).f0.f0).toList) = ([] : List UInt8) && ((((rd_T51 l0 x22_2).f0.f1).toList) == ([] : List UInt8))) = false := by simpa using c21))
           (try (have c21b2 : ((((rd_T51 l0 x22_2).f0.f0).toList) == ([] : List UInt8) && ((((rd_T51 l0 x22_2).f0.f1).toList) == ([] : List UInt8))) = false := by simpa using c21))
           (try (have c21b3 : ¬ ((((rd_T51 l0 x22_2).f0.f0).toList) = ([] : List UInt8) && ((((rd_T51 l0 x22_2).f0.f1).toList) == ([] : List UInt8))) := by simpa using c21))
           clear c21
           by_cases c26 : x7_2.length < 4398046511104
           ·rw [if_pos c26] at H
            have LMc26 := Aside0.mk c26
            clear c26
            obtain ⟨y191, hy191⟩ : ∃ y_ : List (S42), y_ = (x7_2 ++ [(⟨(rd_T51 l0 x22_2).f0.f0, (rd_T51 l0 x22_2).f0.f1⟩ : S42)]) := ⟨_, rfl⟩
            replace H : (lack_By.l0 k2 y191 x8_2 l0 (l0.length : Int) (wrap64 (x22_2 + 1)) a1_0 a1_1) = some (r1, r2, r3) := by first | (rw [hy191]; with_reducible exact H) | (have H2_ := (Option.bind_some _ _).symm.trans H; rw [hy191]; with_reducible exact H2_) | (have H2_ := (Option.bind_some _ _).symm.trans H; with_reducible exact H2_) | with_reducible exact H | (rw [hy191]; exact H) | exact H
            have Ny191 := Aside0.mk hy191
            clear hy191
            have H' := Aside0.mk H
            clear H
            have p189 : 0 ≤ (x22_2 : Int) := of_decide_eq_true (by first | (with_reducible assumption) | assumption)
            have q189 : x22_2 < (l0.length : Int) := of_decide_eq_true (by first | (with_reducible assumption) | assumption)
            obtain ⟨ad189, e189, hx189_0, hx189_1, hx189_2, hx189_3⟩ := at_T51 HR0.out x22_2 p189 q189
            cases e189
            replace hx189_0 := (HB.out.cell (World.block_lt_of_cell? w _ hx189_0)).trans hx189_0
            replace hx189_1 := (HB.out.cell (World.block_lt_of_cell? w _ hx189_1)).trans hx189_1
            replace hx189_2 := (HB.out.cell (World.block_lt_of_cell? w _ hx189_2)).trans hx189_2
            replace hx189_3 := (HB.out.cell (World.block_lt_of_cell? w _ hx189_3)).trans hx189_3
            replace p189 := eq_true p189
            replace q189 := eq_true q189
            go_wp2_with (first | ((with_reducible refine gate_dst (N := 10) rfl ?_); refine box_event ?hg (N := 10) ?hd (cs := #[.string (⟨#[]⟩ : ByteArray), .string (⟨#[]⟩ : ByteArray), .string (⟨#[]⟩ : ByteArray), .string (⟨#[]⟩ : ByteArray)]) (t := 51) ?hr ?_; (case hd => rfl); (case hg => rfl); (case hr => first | (go_simp; done) | (go_simp; rfl)); intro gb190 hg w27 hbox hb; have n0_ := Aside0.mk (Kd.R_below (by (with_reducible repeat (first | apply Kd.R_alloc | apply Kd.R_drewN | apply Kd.R_drew)); exact HO_7.out) hb); have n1_ := Aside0.mk (blk_below (g := gb182) (o := .cells #[.string a1_0, .string a1_1] 42 (0, 0)) (by (with_reducible repeat (first | refine blk_drewN ?_ _ | refine blk_drew ?_ | refine blk_alloc ?_ _)); exact BK182.out) hb); have n2_ := Aside0.mk (below_step (by repeat (first | (with_reducible first | exact HB.out | apply below_alloc | apply pw_below_drewN | apply below_drew1 | refine below_set ?_ GE182.out) | exact HB.out)) hb); have n3_ := Aside0.mk (hbox); have n4_ := Aside0.mk ((by rw [hg]; exact (below_size (by repeat (first | (with_reducible first | exact HB.out | apply below_alloc | apply pw_below_drewN | apply below_drew1 | refine below_set ?_ GE182.out) | exact HB.out))) : w.heap.size ≤ gb190)); have n5_ := Aside0.mk ((by rw [hg]; exact (below_size (by repeat (first | (with_reducible first | exact HB.out | apply below_alloc | apply pw_below_drewN | apply below_drew1 | refine below_set ?_ GE182.out) | exact HB.out))) : w.heap.size ≤ gb190)); have n6_ := Aside0.mk ((by rw [hg]; exact Nat.ne_of_lt (blk_lt (g := gb182) (o := .cells #[.string a1_0, .string a1_1] 42 (0, 0)) (by (with_reducible repeat (first | refine blk_drewN ?_ _ | refine blk_drew ?_ | refine blk_alloc ?_ _)); exact BK182.out)) : gb182 ≠ gb190)); have n7_ := Aside0.mk ((by rw [hg]; exact Nat.ne_of_gt (blk_lt (g := gb182) (o := .cells #[.string a1_0, .string a1_1] 42 (0, 0)) (by (with_reducible repeat (first | refine blk_drewN ?_ _ | refine blk_drew ?_ | refine blk_alloc ?_ _)); exact BK182.out)) : gb190 ≠ gb182)); clear HO_7; clear BK182; clear HB; have HO_7 := n0_; have BK182 := n1_; have HB := n2_; have BK190 := n3_; have GW190 := n4_; have GE190 := n5_; have NB182_190 := n6_; have NB190_182 := n7_; clear n0_ n1_ n2_ n3_ n4_ n5_ n6_ n7_; clear hb hbox hg; have hnb28 := NB190_182.out; have hnc28 := NB182_190.out; have hcz29_0 : w27.cell? ⟨gb190, 0, none⟩ = some (.string (⟨#[]⟩ : ByteArray)) := (blk_cell BK190.out 0).trans rfl; have hcz29_1 : w27.cell? ⟨gb190, 1, none⟩ = some (.string (⟨#[]⟩ : ByteArray)) := (blk_cell BK190.out 1).trans rfl; have hcz29_2 : w27.cell? ⟨gb190, 2, none⟩ = some (.string (⟨#[]⟩ : ByteArray)) := (blk_cell BK190.out 2).trans rfl; have hcz29_3 : w27.cell? ⟨gb190, 3, none⟩ = some (.string (⟨#[]⟩ : ByteArray)) := (blk_cell BK190.out 3).trans rfl; have hfz29_0 := blk_frozen BK190.out 0; have hfz29_1 := blk_frozen BK190.out 1; have hfz29_2 := blk_frozen BK190.out 2; have hfz29_3 := blk_frozen BK190.out 3; have hcz30_0 : w27.cell? ⟨gb182, 0, none⟩ = some (.string a1_0) := (blk_cell BK182.out 0).trans rfl; have hcz30_1 : w27.cell? ⟨gb182, 1, none⟩ = some (.string a1_1) := (blk_cell BK182.out 1).trans rfl; have hfz30_0 := blk_frozen BK182.out 0; have hfz30_1 := blk_frozen BK182.out 1) | ((with_reducible refine gate_builtin (b := .append) (xs := #[.tmp 26, .tmp 29]) rfl ?_); at_builtin; refine Kd.R_append k42 (w0 := w) w.heap.size rfl (.tmp 26) (.tmp 29) 22 42 (.agg #[(.string ⟨#[]⟩), (.string ⟨#[]⟩)]) 32 rfl Tryz.underlying22 info42 rfl (by decide) (by omega) u7 x7_2 (⟨(rd_T51 l0 x22_2).f0.f0, (rd_T51 l0 x22_2).f0.f1⟩ : S42) [.string ((rd_T51 l0 x22_2).f0.f0), .string ((rd_T51 l0 x22_2).f0.f1)] (fun k_ => k_ ≠ gb182) (fun _ => False) rfl (by first | (go_simp; done) | (go_simp; rfl)) ?aP (fun _ hk => hk.elim) ?aF ?aO ?aB ?aS ?aL ?_; (case aP => exact k42_mkM _ _ _ (⟨(rd_T51 l0 x22_2).f0.f0, (rd_T51 l0 x22_2).f0.f1⟩ : S42)); (case aB => exact (by repeat (first | (with_reducible first | exact HB.out | apply below_alloc | apply pw_below_drewN | apply below_drew1 | refine below_set ?_ GE182.out | refine below_set ?_ GE190.out) | exact HB.out))); (case aF => exact (fun k_ hk => Kd.freshB (g := gb182) (o := .cells #[.string a1_0, .string a1_1] 42 (0, 0)) (by (with_reducible repeat (first | refine blk_drewN ?_ _ | refine blk_drew ?_ | refine blk_alloc ?_ _)); refine blk_far ?_ NB182_190.out _; (with_reducible repeat (first | refine blk_drewN ?_ _ | refine blk_drew ?_ | refine blk_alloc ?_ _)); refine blk_far ?_ NB182_190.out _; (with_reducible repeat (first | refine blk_drewN ?_ _ | refine blk_drew ?_ | refine blk_alloc ?_ _)); refine blk_far ?_ NB182_190.out _; (with_reducible repeat (first | refine blk_drewN ?_ _ | refine blk_drew ?_ | refine blk_alloc ?_ _)); refine blk_far ?_ NB182_190.out _; (with_reducible repeat (first | refine blk_drewN ?_ _ | refine blk_drew ?_ | refine blk_alloc ?_ _)); exact BK182.out) k_ hk)); (case aO => exact (by (with_reducible repeat (first | apply Kd.R_alloc | apply Kd.R_drewN | apply Kd.R_drew)); exact Kd.R_mono (Kd.R_far (p := ⟨gb190, 3, none⟩) (Kd.R_far (p := ⟨gb190, 2, none⟩) (Kd.R_far (p := ⟨gb190, 1, none⟩) (Kd.R_far (p := ⟨gb190, 0, none⟩) (Kd.R_types HO_7.out BK190.out (by decide)) (fun _ hk => hk.2) (.string ((rd_T51 l0 x22_2).f0.f0))) (fun _ hk => hk.2) (.string ((rd_T51 l0 x22_2).f0.f1))) (fun _ hk => hk.2) (.string ((rd_T51 l0 x22_2).f1.f0))) (fun _ hk => hk.2) (.string ((rd_T51 l0 x22_2).f1.f1))) (fun _ hk => hk.1))); (case aS => exact (below_size (by repeat (first | (with_reducible first | exact HB.out | apply below_alloc | apply pw_below_drewN | apply below_drew1 | refine below_set ?_ GE182.out | refine below_set ?_ GE190.out) | exact HB.out)))); (case aL => have := LMc26.out; omega); intro v192 w31 ho hb hg hat; rw [← Ny191.out] at ho; have n0_ := Aside0.mk (blk_grown (g := gb182) (o := .cells #[.string a1_0, .string a1_1] 42 (0, 0)) (by (with_reducible repeat (first | refine blk_drewN ?_ _ | refine blk_drew ?_ | refine blk_alloc ?_ _)); refine blk_far ?_ NB182_190.out _; (with_reducible repeat (first | refine blk_drewN ?_ _ | refine blk_drew ?_ | refine blk_alloc ?_ _)); refine blk_far ?_ NB182_190.out _; (with_reducible repeat (first | refine blk_drewN ?_ _ | refine blk_drew ?_ | refine blk_alloc ?_ _)); refine blk_far ?_ NB182_190.out _; (with_reducible repeat (first | refine blk_drewN ?_ _ | refine blk_drew ?_ | refine blk_alloc ?_ _)); refine blk_far ?_ NB182_190.out _; (with_reducible repeat (first | refine blk_drewN ?_ _ | refine blk_drew ?_ | refine blk_alloc ?_ _)); exact BK182.out) hg (Kd.R_away HO_7.out (fun _ hk => hk))); have n1_ := Aside0.mk (blk_grown (g := gb190) (o := .cells #[.string ((rd_T51 l0 x22_2).f0.f0), .string ((rd_T51 l0 x22_2).f0.f1), .string ((rd_T51 l0 x22_2).f1.f0), .string ((rd_T51 l0 x22_2).f1.f1)] 51 (0, 0)) (by (with_reducible repeat (first | refine blk_drewN ?_ _ | refine blk_drew ?_ | refine blk_alloc ?_ _)); refine blk_put (cs := #[.string ((rd_T51 l0 x22_2).f0.f0), .string ((rd_T51 l0 x22_2).f0.f1), .string ((rd_T51 l0 x22_2).f1.f0), .string (⟨#[]⟩ : ByteArray)]) ?_ 3 _ rfl; (with_reducible repeat (first | refine blk_drewN ?_ _ | refine blk_drew ?_ | refine blk_alloc ?_ _)); refine blk_put (cs := #[.string ((rd_T51 l0 x22_2).f0.f0), .string ((rd_T51 l0 x22_2).f0.f1), .string (⟨#[]⟩ : ByteArray), .string (⟨#[]⟩ : ByteArray)]) ?_ 2 _ rfl; (with_reducible repeat (first | refine blk_drewN ?_ _ | refine blk_drew ?_ | refine blk_alloc ?_ _)); refine blk_put (cs := #[.string ((rd_T51 l0 x22_2).f0.f0), .string (⟨#[]⟩ : ByteArray), .string (⟨#[]⟩ : ByteArray), .string (⟨#[]⟩ : ByteArray)]) ?_ 1 _ rfl; (with_reducible repeat (first | refine blk_drewN ?_ _ | refine blk_drew ?_ | refine blk_alloc ?_ _)); refine blk_put (cs := #[.string (⟨#[]⟩ : ByteArray), .string (⟨#[]⟩ : ByteArray), .string (⟨#[]⟩ : ByteArray), .string (⟨#[]⟩ : ByteArray)]) ?_ 0 _ rfl; (with_reducible repeat (first | refine blk_drewN ?_ _ | refine blk_drew ?_ | refine blk_alloc ?_ _)); exact BK190.out) hg (Kd.R_ne HO_7.out BK190.out (by decide))); have n2_ := Aside0.mk (hb); have n3_ := Aside0.mk (ho); clear BK182; clear BK190; clear HB; clear HO_7; have BK182 := n0_; have BK190 := n1_; have HB := n2_; have HO193 := n3_; clear n0_ n1_ n2_ n3_; clear ho hb hg hat))
            go_roundg k2
            case measure => have := HJ2.out; have := HK2.out; omega
            case rel => exact ⟨(y191), (x8_2), (wrap64 (x22_2 + 1)), (by first | rfl | (simp; done) | (simp [*]; done)), (by first | rfl | (simp; done) | (simp [*]; done)), H', ⟨by have := HJ2.out; have := HK2.out; omega⟩, ⟨by (with_reducible repeat (first | apply Kd.R_alloc | apply Kd.R_drewN | apply Kd.R_drew)); exact HO193.out⟩, ⟨by (with_reducible repeat (first | refine blk_drewN ?_ _ | refine blk_drew ?_ | refine blk_alloc ?_ _)); exact BK182.out⟩, ⟨by repeat (first | (with_reducible first | exact HB.out | apply below_alloc | apply pw_below_drewN | apply below_drew1 | refine below_set ?_ GE182.out | refine below_set ?_ GE190.out) | exact HB.out)⟩⟩
           ·rw [if_neg c26] at H
            exact absurd H (by simp)
        ·rw [if_neg c15] at H
         exact absurd H (by simp)
       ·rw [if_neg c14] at H
        exact absurd H (by simp)
      ·rw [if_neg c13] at H
       have c13b0 : decide (x22_2 < (l0.length : Int)) = false := decide_eq_false c13
       clear c13
       replace H := Option.bind_eq_some_iff.mp H
       obtain ⟨⟨t185, t186⟩, A320, H⟩ := H
       replace H : (some (t185, x8_2, t186)) = some (r1, r2, r3) := H
       have A32 := Aside0.mk A320
       clear A320
       simp only [Option.some.injEq, Prod.mk.injEq] at H
       obtain ⟨rfl, rfl, rfl⟩ := H
       obtain ⟨Ao33, co33, eo33⟩ := Kd.R_slice HO_7.out
       subst eo33
       go_wp2_with (first | ((with_reducible refine gate_callee (f := 31) rfl ?_); refine goesL_ (some 44) rfl rfl Tryz.func31 (by kernel_rfl) rfl #[.slice Ao33 x7_2.length co33] rfl (by (try simp only [List.map_toArray, List.map_cons, List.map_nil]); first | done | rfl | (simp only [List.length_drop, List.length_take]; rfl)) ?_; (with_reducible refine (node_Set.calls _ _ x7_2 t185 t186 _ ?side1 ?side2 A32.out).mono ?_); (case side1 => repeat (first | exact (Kd.R_reads' HO_7.out).2.2 | (with_reducible refine Kd.C_alloc ?_ _) | (with_reducible refine Kd.C_drewN ?_ _) | (with_reducible refine Kd.C_drew ?_))); (case side2 => exact (Kd.R_reads' HO_7.out).2.1); rintro e w34 ⟨v187, rfl, ho0, hb⟩; refine ⟨_, rfl, ?_⟩; have n0_ := Aside0.mk (Kd.R_elder' (by (with_reducible repeat (first | apply Kd.R_alloc | apply Kd.R_drewN | apply Kd.R_drew)); exact HO_7.out) (Kd.R_base ho0) hb); have n1_ := Aside0.mk (Kd.R_lower (Kd.R_newB (Kd.R_new' ho0 (Kd.R_lt (by (with_reducible repeat (first | apply Kd.R_alloc | apply Kd.R_drewN | apply Kd.R_drew)); exact HO_7.out))) (g := gb182) (o := .cells #[.string a1_0, .string a1_1] 42 (0, 0)) (by (with_reducible repeat (first | refine blk_drewN ?_ _ | refine blk_drew ?_ | refine blk_alloc ?_ _)); exact BK182.out)) (below_size (by repeat (first | (with_reducible first | exact HB.out | apply below_alloc | apply pw_below_drewN | apply below_drew1 | refine below_set ?_ GE182.out) | exact HB.out)))); have n2_ := Aside0.mk (blk_below (g := gb182) (o := .cells #[.string a1_0, .string a1_1] 42 (0, 0)) (by (with_reducible repeat (first | refine blk_drewN ?_ _ | refine blk_drew ?_ | refine blk_alloc ?_ _)); exact BK182.out) hb); have n3_ := Aside0.mk (below_step (by repeat (first | (with_reducible first | exact HB.out | apply below_alloc | apply pw_below_drewN | apply below_drew1 | refine below_set ?_ GE182.out) | exact HB.out)) hb); clear HO_7; clear BK182; clear HB; have HO_7 := n0_; have HO188 := n1_; have BK182 := n2_; have HB := n3_; clear n0_ n1_ n2_ n3_; (try clear hb); (try clear hb2); (try clear hk); (try clear hi); (try clear ho0)))
       go_ret3
       exact ⟨_, by first | rfl | (simp [errW_none, errW_some] <;> rfl) | (simp [*, errW_none, errW_some] <;> rfl), by (with_reducible repeat (first | apply Kd.R_alloc | apply Kd.R_drewN | apply Kd.R_drew)); exact Kd.R_mono HO188.out (fun _ hk => trivial), by repeat (first | (with_reducible first | exact HB.out | apply below_alloc | apply pw_below_drewN | apply below_drew1 | refine below_set ?_ GE182.out) | exact HB.out)⟩
end Go.Proofs.YtffcbfclpfchnaaGreatDoor.Q
end
