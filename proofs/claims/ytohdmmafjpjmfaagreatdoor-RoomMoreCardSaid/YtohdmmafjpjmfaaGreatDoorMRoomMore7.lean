/- Part 7 of this claim: several texts one behind the other: DFpathElements, DFpathMay, DFversionMay, DFnodeMay, DVVal, DVCmp, DFnodeorder, DFnodeCmp, DFdifforder, Br. What each shows stands in its theorems; conditions: sizes of texts and lists, as the functions' definitions say. -/
import Derived.Test.YtohdmmafjpjmfaaGreatDoorMRoomMore2
import Derived.Test.YtohdmmafjpjmfaaGreatDoorMRoomMore6
import Derived.Test.YtohdmmafjpjmfaaGreatDoorMRoomMore3
import Derived.Test.YtohdmmafjpjmfaaGreatDoorMRoomMore4
import Derived.Test.YtohdmmafjpjmfaaGreatDoorMRoomMore5
import Derived.RegionTactic
import Derived.BigRegion
import Derived.ChangeKeysEq
import Derived.ChangeAlike
import Derived.Deep.QuietTactic
import Derived.BigQuiet
import Derived.Deep.RegionHeld3
section
namespace Go.Proofs.YtohdmmafjpjmfaaGreatDoor.QB.D
open Go.Proofs.YtohdmmafjpjmfaaGreatDoor.Q
open Go.RowKit Go.Proofs.YtohdmmafjpjmfaaGreatDoorW.PrintWords Go.Proofs.YtohdmmafjpjmfaaGreatDoorW.PrintLast Go.Proofs.YtohdmmafjpjmfaaGreatDoorW.PrintMore
attribute [local go_sem] max2_int min2_int max_two min_two max_three min_three max_four min_four   -- for this text's walks alone
set_option linter.unusedVariables false
set_option linter.unusedSimpArgs false
def path_Elements.l0 : Nat → List ByteArray → List ByteArray → Int → Int → Option (List ByteArray × Int)
  | 0, _, _, _, _ => none
  | k + 1, x4, x9, x10, x11 => if x11 < x10 then (if 0 ≤ x11 then (if x11 < (x9.length : Int) then ((path_element.f (rdOf ByteArray.empty x9 x11)).bind fun t157 => (if t157 = true then (path_Elements.l0 k x4 x9 x10 (wrap64 (x11 + 1))) else (some (([] : List ByteArray), 1)))) else (none)) else (none)) else (some (x4, 0))
def path_Elements.f (k : Nat) (a0 : ByteArray) : Option (List ByteArray × Int) := (octet_Parts.f a0 47).bind fun t153 => (path_Elements.l0 k t153 t153 (t153.length : Int) 0)
set_option maxHeartbeats 8000000 in
set_option maxRecDepth 100000 in
theorem path_Elements.calls (k : Nat) (a0 : ByteArray) (r1 : List ByteArray) (r2 : Int) (w : World) (h : path_Elements.f k a0 = some (r1, r2)) :
    Calls Tryz.prog 75 #[.string a0] w fun e w' => ∃ v0_ : Value, e = .returned (.tuple #[v0_, .int .i64 r2]) ∧ Kd.R Kd.string 9 w' w.heap.size (fun _ => True) v0_ r1 ∧ Below w.heap.size w w' := by
  have HB := Aside0.mk (Below.refl w.heap.size w)
  have H : ((octet_Parts.f a0 47).bind fun t153 => (path_Elements.l0 k t153 t153 (t153.length : Int) 0)) = some (r1, r2) := h
  clear h
  replace H := Option.bind_eq_some_iff.mp H
  obtain ⟨t153, A20, H⟩ := H
  replace H : (path_Elements.l0 k t153 t153 (t153.length : Int) 0) = some (r1, r2) := H
  have A2 := Aside0.mk A20
  clear A20
  have H' := Aside0.mk H
  clear H
  go_enter Tryz.func75, Tryz.ntmps75
  go_wp2_with (first | ((with_reducible refine gate_callee (f := 85) rfl ?_); refine goesL_ (some 8) rfl rfl Tryz.func85 (by kernel_rfl) rfl #[.string a0, .int .u8 47] rfl (by (try simp only [List.map_toArray, List.map_cons, List.map_nil]); first | done | rfl | (simp only [List.length_drop, List.length_take]; rfl)) ?_; (with_reducible refine (octet_Parts.calls a0 47 t153 _ A2.out).mono ?_); rintro e w3 ⟨v154, rfl, ho0, hb⟩; refine ⟨_, rfl, ?_⟩; have n0_ := Aside0.mk (Kd.R_lower ho0 (below_size (by repeat (first | (with_reducible first | exact HB.out | apply below_alloc | apply pw_below_drewN | apply below_drew1) | exact HB.out)))); have n1_ := Aside0.mk (below_step (by repeat (first | (with_reducible first | exact HB.out | apply below_alloc | apply pw_below_drewN | apply below_drew1) | exact HB.out)) hb); clear HB; have HO155 := n0_; have HB := n1_; clear n0_ n1_; (try clear hb); (try clear hb2); (try clear hk); (try clear hi); (try clear ho0); obtain ⟨Ao4, co4, eo4⟩ := Kd.R_slice HO155.out; subst eo4))
  go_loopg [11] k (fun kq v11 w' => ∃ (x11_1 : Int), v11 = .int .i64 x11_1 ∧ Aside0 (path_Elements.l0 kq t153 t153 (t153.length : Int) x11_1 = some (r1, r2)) ∧ Aside0 (kq ≤ k) ∧ Aside0 (Kd.R Kd.string 9 w' w.heap.size (fun _ => True) (.slice Ao4 t153.length co4) t153) ∧ Aside0 (Kd.R Kd.string 9 w' w.heap.size (fun _ => True) (.slice Ao4 t153.length co4) t153) ∧ Aside0 (Below w.heap.size w w'))
  case atStart => exact ⟨(0), (by first | rfl | (simp; done) | (simp [*]; done)), H', ⟨Nat.le_refl _⟩, ⟨by (with_reducible repeat (first | apply Kd.R_alloc | apply Kd.R_drewN | apply Kd.R_drew)); exact HO155.out⟩, ⟨by (with_reducible repeat (first | apply Kd.R_alloc | apply Kd.R_drewN | apply Kd.R_drew)); exact HO155.out⟩, ⟨by repeat (first | (with_reducible first | exact HB.out | apply below_alloc | apply pw_below_drewN | apply below_drew1) | exact HB.out)⟩⟩
  case round =>
    clear H'
    try clear p2
    obtain ⟨x11_1, rfl, HA, HK1, HO_4, HO_9, HB⟩ := hrel
    cases gk with
    | zero => exact absurd HA.out (by simp [path_Elements.l0])
    | succ k1 =>
      have H := HA.out
      clear HA
      simp only [path_Elements.l0] at H
      by_cases c5 : x11_1 < (t153.length : Int)
      · rw [if_pos c5] at H
        have c5b0 : decide (x11_1 < (t153.length : Int)) = true := decide_eq_true c5
        clear c5
        by_cases c6 : 0 ≤ x11_1
        · rw [if_pos c6] at H
          have c6b0 : decide (0 ≤ x11_1) = true := decide_eq_true c6
          clear c6
          by_cases c7 : x11_1 < (t153.length : Int)
          · rw [if_pos c7] at H
            have c7b0 : decide (x11_1 < (t153.length : Int)) = true := decide_eq_true c7
            clear c7
            replace H := Option.bind_eq_some_iff.mp H
            obtain ⟨t157, A80, H⟩ := H
            replace H : (if t157 = true then (path_Elements.l0 k1 t153 t153 (t153.length : Int) (wrap64 (x11_1 + 1))) else (some (([] : List ByteArray), 1))) = some (r1, r2) := H
            have A8 := Aside0.mk A80
            clear A80
            by_cases c9 : t157 = true
            · subst c9
              have H1 : (path_Elements.l0 k1 t153 t153 (t153.length : Int) (wrap64 (x11_1 + 1))) = some (r1, r2) := by rw [if_pos rfl] at H; exact H
              clear H
              have H := H1
              clear H1
              have H' := Aside0.mk H
              clear H
              have p156 : 0 ≤ (x11_1 : Int) := of_decide_eq_true (by first | (with_reducible assumption) | assumption)
              have q156 : x11_1 < (t153.length : Int) := of_decide_eq_true (by first | (with_reducible assumption) | assumption)
              obtain ⟨ad156, e156, hx156_0⟩ := Kd.at_string (Kd.R_reads' HO_9.out).2.2 x11_1 p156 q156
              cases e156
              replace p156 := eq_true p156
              replace q156 := eq_true q156
              go_wp2_with (first | ((with_reducible refine gate_callee (f := 86) rfl ?_); refine goesL_ (some 16) rfl rfl Tryz.func86 (by kernel_rfl) rfl #[.string (rdOf ByteArray.empty t153 x11_1)] rfl (by (try simp only [List.map_toArray, List.map_cons, List.map_nil]); first | done | rfl | (simp only [List.length_drop, List.length_take]; rfl)) ?_; (with_reducible refine (path_element.calls (rdOf ByteArray.empty t153 x11_1) true _ A8.out).mono ?_); rintro e w10 ⟨rfl, hb⟩; refine ⟨_, rfl, ?_⟩; have n0_ := Aside0.mk (Kd.R_below (by (with_reducible repeat (first | apply Kd.R_alloc | apply Kd.R_drewN | apply Kd.R_drew)); exact HO_4.out) hb); have n1_ := Aside0.mk (Kd.R_below (by (with_reducible repeat (first | apply Kd.R_alloc | apply Kd.R_drewN | apply Kd.R_drew)); exact HO_9.out) hb); have n2_ := Aside0.mk (below_step (by repeat (first | (with_reducible first | exact HB.out | apply below_alloc | apply pw_below_drewN | apply below_drew1) | exact HB.out)) hb); clear HO_4; clear HO_9; clear HB; have HO_4 := n0_; have HO_9 := n1_; have HB := n2_; clear n0_ n1_ n2_; (try clear hb); (try clear hb2); (try clear hk); (try clear hi)))
              go_roundg k1
              case measure => have := HK1.out; omega
              case rel => exact ⟨(wrap64 (x11_1 + 1)), (by first | rfl | (simp; done) | (simp [*]; done)), H', ⟨by have := HK1.out; omega⟩, ⟨by (with_reducible repeat (first | apply Kd.R_alloc | apply Kd.R_drewN | apply Kd.R_drew)); exact HO_4.out⟩, ⟨by (with_reducible repeat (first | apply Kd.R_alloc | apply Kd.R_drewN | apply Kd.R_drew)); exact HO_9.out⟩, ⟨by repeat (first | (with_reducible first | exact HB.out | apply below_alloc | apply pw_below_drewN | apply below_drew1) | exact HB.out)⟩⟩
            · replace c9 := Bool.eq_false_iff.mpr c9
              subst c9
              have H1 : (some (([] : List ByteArray), 1)) = some (r1, r2) := by rw [if_neg (show ¬ (false = true) by decide)] at H; exact H
              clear H
              have H := H1
              clear H1
              simp only [Option.some.injEq, Prod.mk.injEq] at H
              obtain ⟨rfl, rfl⟩ := H
              have p156 : 0 ≤ (x11_1 : Int) := of_decide_eq_true (by first | (with_reducible assumption) | assumption)
              have q156 : x11_1 < (t153.length : Int) := of_decide_eq_true (by first | (with_reducible assumption) | assumption)
              obtain ⟨ad156, e156, hx156_0⟩ := Kd.at_string (Kd.R_reads' HO_9.out).2.2 x11_1 p156 q156
              cases e156
              replace p156 := eq_true p156
              replace q156 := eq_true q156
              go_wp2_with (first | ((with_reducible refine gate_callee (f := 86) rfl ?_); refine goesL_ (some 16) rfl rfl Tryz.func86 (by kernel_rfl) rfl #[.string (rdOf ByteArray.empty t153 x11_1)] rfl (by (try simp only [List.map_toArray, List.map_cons, List.map_nil]); first | done | rfl | (simp only [List.length_drop, List.length_take]; rfl)) ?_; (with_reducible refine (path_element.calls (rdOf ByteArray.empty t153 x11_1) false _ A8.out).mono ?_); rintro e w11 ⟨rfl, hb⟩; refine ⟨_, rfl, ?_⟩; have n0_ := Aside0.mk (Kd.R_below (by (with_reducible repeat (first | apply Kd.R_alloc | apply Kd.R_drewN | apply Kd.R_drew)); exact HO_4.out) hb); have n1_ := Aside0.mk (Kd.R_below (by (with_reducible repeat (first | apply Kd.R_alloc | apply Kd.R_drewN | apply Kd.R_drew)); exact HO_9.out) hb); have n2_ := Aside0.mk (below_step (by repeat (first | (with_reducible first | exact HB.out | apply below_alloc | apply pw_below_drewN | apply below_drew1) | exact HB.out)) hb); clear HO_4; clear HO_9; clear HB; have HO_4 := n0_; have HO_9 := n1_; have HB := n2_; clear n0_ n1_ n2_; (try clear hb); (try clear hb2); (try clear hk); (try clear hi)))
              go_ret2
              exact ⟨_, by first | rfl | (simp [errW_none, errW_some] <;> rfl) | (simp [*, errW_none, errW_some] <;> rfl), by first | exact Kd.R_nil _ _ _ _ _ | exact Kd.N_nil _ _ _ _ _ | exact Kd.V_nil _ _ _ _ _ | exact Kd.Q_nil _ _ _ _ _ | exact Kd.S_nil _ _ _ _ _, by repeat (first | (with_reducible first | exact HB.out | apply below_alloc | apply pw_below_drewN | apply below_drew1) | exact HB.out)⟩
          · rw [if_neg c7] at H
            exact absurd H (by simp)
        · rw [if_neg c6] at H
          exact absurd H (by simp)
      · rw [if_neg c5] at H
        have c5b0 : decide (x11_1 < (t153.length : Int)) = false := decide_eq_false c5
        clear c5
        simp only [Option.some.injEq, Prod.mk.injEq] at H
        obtain ⟨rfl, rfl⟩ := H
        go_wp2
        go_ret2
        exact ⟨_, by first | rfl | (simp [errW_none, errW_some] <;> rfl) | (simp [*, errW_none, errW_some] <;> rfl), by (with_reducible repeat (first | apply Kd.R_alloc | apply Kd.R_drewN | apply Kd.R_drew)); exact HO_4.out, by repeat (first | (with_reducible first | exact HB.out | apply below_alloc | apply pw_below_drewN | apply below_drew1) | exact HB.out)⟩
def path_May.f (k : Nat) (a0 : ByteArray) : Option (Bool) := (path_Elements.f k a0).bind fun bt158 => (some (bt158.2 == 0))
set_option maxHeartbeats 8000000 in
set_option maxRecDepth 100000 in
theorem path_May.calls (k : Nat) (a0 : ByteArray) (r : Bool) (w : World) (h : path_May.f k a0 = some r) :
    Calls Tryz.prog 61 #[.string a0] w fun e w' => e = .returned (.bool r) ∧ Below w.heap.size w w' := by
  have HB := Aside0.mk (Below.refl w.heap.size w)
  have H : ((path_Elements.f k a0).bind fun bt158 => (some (bt158.2 == 0))) = some r := h
  clear h
  replace H := Option.bind_eq_some_iff.mp H
  obtain ⟨⟨t158, t159⟩, A20, H⟩ := H
  replace H : (some (t159 == 0)) = some r := H
  have A2 := Aside0.mk A20
  clear A20
  obtain rfl := Option.some.inj H
  go_enter Tryz.func61, Tryz.ntmps61
  go_wp2_with (first | ((with_reducible refine gate_callee (f := 75) rfl ?_); refine goesL_ (some 7) rfl rfl Tryz.func75 (by kernel_rfl) rfl #[.string a0] rfl (by (try simp only [List.map_toArray, List.map_cons, List.map_nil]); first | done | rfl | (simp only [List.length_drop, List.length_take]; rfl)) ?_; (with_reducible refine (path_Elements.calls k a0 t158 t159 _ A2.out).mono ?_); rintro e w3 ⟨v160, rfl, ho0, hb⟩; refine ⟨_, rfl, ?_⟩; have n0_ := Aside0.mk (Kd.R_lower ho0 (below_size (by repeat (first | (with_reducible first | exact HB.out | apply below_alloc | apply pw_below_drewN | apply below_drew1) | exact HB.out)))); have n1_ := Aside0.mk (below_step (by repeat (first | (with_reducible first | exact HB.out | apply below_alloc | apply pw_below_drewN | apply below_drew1) | exact HB.out)) hb); clear HB; have HO161 := n0_; have HB := n1_; clear n0_ n1_; (try clear hb); (try clear hb2); (try clear hk); (try clear hi); (try clear ho0)))
  go_ret
  exact ⟨by first | rfl | (simp [errW_none, errW_some] <;> rfl) | (simp [*, errW_none, errW_some] <;> rfl), by repeat (first | (with_reducible first | exact HB.out | apply below_alloc | apply pw_below_drewN | apply below_drew1) | exact HB.out)⟩
def version_May.f (a0 : ByteArray) : Option (Bool) := (version_Split.f a0).bind fun bt166 => (some (bt166.2.2.2.2 == 0))
set_option maxHeartbeats 8000000 in
set_option maxRecDepth 100000 in
theorem version_May.calls (a0 : ByteArray) (r : Bool) (w : World) (h : version_May.f a0 = some r) :
    Calls Tryz.prog 62 #[.string a0] w fun e w' => e = .returned (.bool r) ∧ Below w.heap.size w w' := by
  have hu81 := Tryz.underlying81
  have HB := Aside0.mk (Below.refl w.heap.size w)
  have H : ((version_Split.f a0).bind fun bt166 => (some (bt166.2.2.2.2 == 0))) = some r := h
  clear h
  replace H := Option.bind_eq_some_iff.mp H
  obtain ⟨⟨t166, t167, t168, t169, t172⟩, A20, H⟩ := H
  replace H : (some (t172 == 0)) = some r := H
  have A2 := Aside0.mk A20
  clear A20
  obtain rfl := Option.some.inj H
  go_enter Tryz.func62, Tryz.ntmps62
  go_wp2_with (first | ((with_reducible refine gate_callee (f := 76) rfl ?_); refine goesL_ (some 7) rfl rfl Tryz.func76 (by kernel_rfl) rfl #[.string a0] rfl (by (try simp only [List.map_toArray, List.map_cons, List.map_nil]); first | done | rfl | (simp only [List.length_drop, List.length_take]; rfl)) ?_; (with_reducible refine (version_Split.calls a0 t166 t167 t168 t169 t172 _ A2.out).mono ?_); rintro e w3 ⟨v170, rfl, ho0, hb⟩; refine ⟨_, rfl, ?_⟩; have n0_ := Aside0.mk (Kd.R_lower ho0 (below_size (by repeat (first | (with_reducible first | exact HB.out | apply below_alloc | apply pw_below_drewN | apply below_drew1) | exact HB.out)))); have n1_ := Aside0.mk (below_step (by repeat (first | (with_reducible first | exact HB.out | apply below_alloc | apply pw_below_drewN | apply below_drew1) | exact HB.out)) hb); clear HB; have HO171 := n0_; have HB := n1_; clear n0_ n1_; (try clear hb); (try clear hb2); (try clear hk); (try clear hi); (try clear ho0)) | ((with_reducible refine gate_dst (N := 3) rfl ?_); refine box_event ?hg (N := 3) ?hd (cs := #[.string (⟨#[]⟩ : ByteArray), .string (⟨#[]⟩ : ByteArray), .string (⟨#[]⟩ : ByteArray), .slice none 0 0]) (t := 81) ?hr ?_; (case hd => rfl); (case hg => rfl); (case hr => first | (go_simp; done) | (go_simp; rfl)); intro gb173 hg w4 hbox hb; have n0_ := Aside0.mk (Kd.R_below (by (with_reducible repeat (first | apply Kd.R_alloc | apply Kd.R_drewN | apply Kd.R_drew)); exact HO171.out) hb); have n1_ := Aside0.mk (below_step (by repeat (first | (with_reducible first | exact HB.out | apply below_alloc | apply pw_below_drewN | apply below_drew1) | exact HB.out)) hb); have n2_ := Aside0.mk (hbox); have n3_ := Aside0.mk ((by rw [hg]; exact (below_size (by repeat (first | (with_reducible first | exact HB.out | apply below_alloc | apply pw_below_drewN | apply below_drew1) | exact HB.out))) : w.heap.size ≤ gb173)); have n4_ := Aside0.mk ((by rw [hg]; exact (below_size (by repeat (first | (with_reducible first | exact HB.out | apply below_alloc | apply pw_below_drewN | apply below_drew1) | exact HB.out))) : w.heap.size ≤ gb173)); clear HO171; clear HB; have HO171 := n0_; have HB := n1_; have BK173 := n2_; have GW173 := n3_; have GE173 := n4_; clear n0_ n1_ n2_ n3_ n4_; clear hb hbox hg; have hcz5_0 : w4.cell? ⟨gb173, 0, none⟩ = some (.string (⟨#[]⟩ : ByteArray)) := (blk_cell BK173.out 0).trans rfl; have hcz5_1 : w4.cell? ⟨gb173, 1, none⟩ = some (.string (⟨#[]⟩ : ByteArray)) := (blk_cell BK173.out 1).trans rfl; have hcz5_2 : w4.cell? ⟨gb173, 2, none⟩ = some (.string (⟨#[]⟩ : ByteArray)) := (blk_cell BK173.out 2).trans rfl; have hcz5_3 : w4.cell? ⟨gb173, 3, none⟩ = some (.slice none 0 0) := (blk_cell BK173.out 3).trans rfl; have hfz5_0 := blk_frozen BK173.out 0; have hfz5_1 := blk_frozen BK173.out 1; have hfz5_2 := blk_frozen BK173.out 2; have hfz5_3 := blk_frozen BK173.out 3; obtain ⟨Ao6, co6, eo6⟩ := Kd.R_slice HO171.out; subst eo6))
  go_ret
  exact ⟨by first | rfl | (simp [errW_none, errW_some] <;> rfl) | (simp [*, errW_none, errW_some] <;> rfl), by repeat (first | (with_reducible first | exact HB.out | apply below_alloc | apply pw_below_drewN | apply below_drew1 | refine below_set ?_ GE173.out) | exact HB.out)⟩
def node_May.f (k : Nat) (a0_0 : ByteArray) (a0_1 : ByteArray) : Option (Bool) := (path_May.f k a0_0).bind fun t175 => (if t175 = true then ((version_May.f a0_1).bind fun t176 => (some t176)) else (some false))
set_option maxHeartbeats 8000000 in
set_option maxRecDepth 100000 in
theorem node_May.calls (k : Nat) (a0_0 : ByteArray) (a0_1 : ByteArray) (r : Bool) (w : World) (h : node_May.f k a0_0 a0_1 = some r) :
    Calls Tryz.prog 45 #[.agg #[.string a0_0, .string a0_1]] w fun e w' => e = .returned (.bool r) ∧ Below w.heap.size w w' := by
  have hu34 := Tryz.underlying34
  have HB := Aside0.mk (Below.refl w.heap.size w)
  have H : ((path_May.f k a0_0).bind fun t175 => (if t175 = true then ((version_May.f a0_1).bind fun t176 => (some t176)) else (some false))) = some r := h
  clear h
  replace H := Option.bind_eq_some_iff.mp H
  obtain ⟨t175, A20, H⟩ := H
  replace H : (if t175 = true then ((version_May.f a0_1).bind fun t176 => (some t176)) else (some false)) = some r := H
  have A2 := Aside0.mk A20
  clear A20
  by_cases c3 : t175 = true
  · subst c3
    have H1 : ((version_May.f a0_1).bind fun t176 => (some t176)) = some r := by rw [if_pos rfl] at H; exact H
    clear H
    have H := H1
    clear H1
    replace H := Option.bind_eq_some_iff.mp H
    obtain ⟨t176, A40, H⟩ := H
    replace H : (some t176) = some r := H
    have A4 := Aside0.mk A40
    clear A40
    obtain rfl := Option.some.inj H
    go_enter Tryz.func45, Tryz.ntmps45
    go_wp2_with (first | ((with_reducible refine gate_dst (N := 1) rfl ?_); refine box_event ?hg (N := 1) ?hd (cs := #[.string a0_0, .string a0_1]) (t := 34) ?hr ?_; (case hd => rfl); (case hg => rfl); (case hr => first | (go_simp; done) | (go_simp; rfl)); intro gb174 hg w5 hbox hb; have n0_ := Aside0.mk (below_step (by repeat (first | (with_reducible first | exact HB.out | apply below_alloc | apply pw_below_drewN | apply below_drew1) | exact HB.out)) hb); have n1_ := Aside0.mk (hbox); have n2_ := Aside0.mk ((by rw [hg]; exact (below_size (by repeat (first | (with_reducible first | exact HB.out | apply below_alloc | apply pw_below_drewN | apply below_drew1) | exact HB.out))) : w.heap.size ≤ gb174)); have n3_ := Aside0.mk ((by rw [hg]; exact (below_size (by repeat (first | (with_reducible first | exact HB.out | apply below_alloc | apply pw_below_drewN | apply below_drew1) | exact HB.out))) : w.heap.size ≤ gb174)); clear HB; have HB := n0_; have BK174 := n1_; have GW174 := n2_; have GE174 := n3_; clear n0_ n1_ n2_ n3_; clear hb hbox hg; have hcz6_0 : w5.cell? ⟨gb174, 0, none⟩ = some (.string a0_0) := (blk_cell BK174.out 0).trans rfl; have hcz6_1 : w5.cell? ⟨gb174, 1, none⟩ = some (.string a0_1) := (blk_cell BK174.out 1).trans rfl; have hfz6_0 := blk_frozen BK174.out 0; have hfz6_1 := blk_frozen BK174.out 1) | ((with_reducible refine gate_callee (f := 61) rfl ?_); refine goesL_ (some 5) rfl rfl Tryz.func61 (by kernel_rfl) rfl #[.string a0_0] rfl (by (try simp only [List.map_toArray, List.map_cons, List.map_nil]); first | done | rfl | (simp only [List.length_drop, List.length_take]; rfl)) ?_; (with_reducible refine (path_May.calls k a0_0 true _ A2.out).mono ?_); rintro e w7 ⟨rfl, hb⟩; refine ⟨_, rfl, ?_⟩; have n0_ := Aside0.mk (blk_below (g := gb174) (o := .cells #[.string a0_0, .string a0_1] 34 (0, 0)) (by (with_reducible repeat (first | refine blk_drewN ?_ _ | refine blk_drew ?_ | refine blk_alloc ?_ _)); exact BK174.out) hb); have n1_ := Aside0.mk (below_step (by repeat (first | (with_reducible first | exact HB.out | apply below_alloc | apply pw_below_drewN | apply below_drew1 | refine below_set ?_ GE174.out) | exact HB.out)) hb); clear BK174; clear HB; have BK174 := n0_; have HB := n1_; clear n0_ n1_; (try clear hb); (try clear hb2); (try clear hk); (try clear hi); have hcz8_0 : w7.cell? ⟨gb174, 0, none⟩ = some (.string a0_0) := (blk_cell BK174.out 0).trans rfl; have hcz8_1 : w7.cell? ⟨gb174, 1, none⟩ = some (.string a0_1) := (blk_cell BK174.out 1).trans rfl; have hfz8_0 := blk_frozen BK174.out 0; have hfz8_1 := blk_frozen BK174.out 1) | (go_at_call 62; (with_reducible refine (version_May.calls a0_1 t176 _ A4.out).mono ?_); rintro e w9 ⟨rfl, hb⟩; have n0_ := Aside0.mk (blk_below (g := gb174) (o := .cells #[.string a0_0, .string a0_1] 34 (0, 0)) (by (with_reducible repeat (first | refine blk_drewN ?_ _ | refine blk_drew ?_ | refine blk_alloc ?_ _)); exact BK174.out) hb); have n1_ := Aside0.mk (below_step (by repeat (first | (with_reducible first | exact HB.out | apply below_alloc | apply pw_below_drewN | apply below_drew1 | refine below_set ?_ GE174.out) | exact HB.out)) hb); clear BK174; clear HB; have BK174 := n0_; have HB := n1_; clear n0_ n1_; (try clear hb); (try clear hb2); (try clear hk); (try clear hi)))
    go_ret
    exact ⟨by first | rfl | (simp [errW_none, errW_some] <;> rfl) | (simp [*, errW_none, errW_some] <;> rfl), by repeat (first | (with_reducible first | exact HB.out | apply below_alloc | apply pw_below_drewN | apply below_drew1 | refine below_set ?_ GE174.out) | exact HB.out)⟩
  · replace c3 := Bool.eq_false_iff.mpr c3
    subst c3
    have H1 : (some false) = some r := by rw [if_neg (show ¬ (false = true) by decide)] at H; exact H
    clear H
    have H := H1
    clear H1
    obtain rfl := Option.some.inj H
    go_enter Tryz.func45, Tryz.ntmps45
    go_wp2_with (first | ((with_reducible refine gate_dst (N := 1) rfl ?_); refine box_event ?hg (N := 1) ?hd (cs := #[.string a0_0, .string a0_1]) (t := 34) ?hr ?_; (case hd => rfl); (case hg => rfl); (case hr => first | (go_simp; done) | (go_simp; rfl)); intro gb174 hg w10 hbox hb; have n0_ := Aside0.mk (below_step (by repeat (first | (with_reducible first | exact HB.out | apply below_alloc | apply pw_below_drewN | apply below_drew1) | exact HB.out)) hb); have n1_ := Aside0.mk (hbox); have n2_ := Aside0.mk ((by rw [hg]; exact (below_size (by repeat (first | (with_reducible first | exact HB.out | apply below_alloc | apply pw_below_drewN | apply below_drew1) | exact HB.out))) : w.heap.size ≤ gb174)); have n3_ := Aside0.mk ((by rw [hg]; exact (below_size (by repeat (first | (with_reducible first | exact HB.out | apply below_alloc | apply pw_below_drewN | apply below_drew1) | exact HB.out))) : w.heap.size ≤ gb174)); clear HB; have HB := n0_; have BK174 := n1_; have GW174 := n2_; have GE174 := n3_; clear n0_ n1_ n2_ n3_; clear hb hbox hg; have hcz11_0 : w10.cell? ⟨gb174, 0, none⟩ = some (.string a0_0) := (blk_cell BK174.out 0).trans rfl; have hcz11_1 : w10.cell? ⟨gb174, 1, none⟩ = some (.string a0_1) := (blk_cell BK174.out 1).trans rfl; have hfz11_0 := blk_frozen BK174.out 0; have hfz11_1 := blk_frozen BK174.out 1) | ((with_reducible refine gate_callee (f := 61) rfl ?_); refine goesL_ (some 5) rfl rfl Tryz.func61 (by kernel_rfl) rfl #[.string a0_0] rfl (by (try simp only [List.map_toArray, List.map_cons, List.map_nil]); first | done | rfl | (simp only [List.length_drop, List.length_take]; rfl)) ?_; (with_reducible refine (path_May.calls k a0_0 false _ A2.out).mono ?_); rintro e w12 ⟨rfl, hb⟩; refine ⟨_, rfl, ?_⟩; have n0_ := Aside0.mk (blk_below (g := gb174) (o := .cells #[.string a0_0, .string a0_1] 34 (0, 0)) (by (with_reducible repeat (first | refine blk_drewN ?_ _ | refine blk_drew ?_ | refine blk_alloc ?_ _)); exact BK174.out) hb); have n1_ := Aside0.mk (below_step (by repeat (first | (with_reducible first | exact HB.out | apply below_alloc | apply pw_below_drewN | apply below_drew1 | refine below_set ?_ GE174.out) | exact HB.out)) hb); clear BK174; clear HB; have BK174 := n0_; have HB := n1_; clear n0_ n1_; (try clear hb); (try clear hb2); (try clear hk); (try clear hi)))
    go_ret
    exact ⟨by first | rfl | (simp [errW_none, errW_some] <;> rfl) | (simp [*, errW_none, errW_some] <;> rfl), by repeat (first | (with_reducible first | exact HB.out | apply below_alloc | apply pw_below_drewN | apply below_drew1 | refine below_set ?_ GE174.out) | exact HB.out)⟩
end Go.Proofs.YtohdmmafjpjmfaaGreatDoor.QB.D
end
section
namespace Go.Proofs.YtohdmmafjpjmfaaGreatDoor.QB.D
open Go.Proofs.YtohdmmafjpjmfaaGreatDoor.Q
open Go Go.RowKit Go.Lib Go.Proofs.YtohdmmafjpjmfaaGreatDoorW.PrintWords Go.Proofs.YtohdmmafjpjmfaaGreatDoorW.PrintLast Go.Proofs.YtohdmmafjpjmfaaGreatDoorW.PrintMore Gw
set_option linter.unusedVariables false
set_option linter.unusedSimpArgs false
theorem or2_val (k : Nat) (x y : Int) : cmp_Or_int.f (k + 3) [x, y] = some (orI x y) := by
  by_cases hx : x = 0 <;> by_cases hy : y = 0 <;> simp [cmp_Or_int.f, cmp_Or_int.l0, orI, rd, wrap64, hx, hy]
theorem or3_val (k : Nat) (x y z : Int) : cmp_Or_int.f (k + 4) [x, y, z] = some (orI x (orI y z)) := by
  by_cases hx : x = 0 <;> by_cases hy : y = 0 <;> by_cases hz : z = 0 <;> simp [cmp_Or_int.f, cmp_Or_int.l0, orI, rd, wrap64, hx, hy, hz]
theorem cmpi_val (a b : Nat) : cmp_Compare_int.f (a : Int) (b : Int) = some (cmpN a b) := by
  simp only [cmp_Compare_int.f, cmp_isNaN_int.f, cmpN, Option.bind_some]
  by_cases h1 : a < b <;> by_cases h2 : b < a <;> simp [h1, h2]
theorem octcmp_val (a b : ByteArray) : octet_Cmp.f a b = some (lexC (bs a) (bs b)) := by
  have h1 := str_less a b
  have h2 := str_less b a
  have h3 := lexC_sym (bs a) (bs b)
  have h4 := lexC_tri (bs a) (bs b)
  simp only [octet_Cmp.f, cmp_Compare_string.f, cmp_isNaN_string.f, Option.bind_some, bne_self_eq_false, Bool.false_eq_true, if_false, h1, h2, decide_eq_true_eq]
  rcases h4 with h | h | h <;> rw [h] at h3 ⊢ <;> simp [h3]
theorem number_Cmp_val (k : Nat) (a b : ByteArray) (ha : Small a) (hb : Small b) (na : isNum (bs a) = true) (nb : isNum (bs b) = true) : number_Cmp.f (k + 4) a b = some (numC (bs a) (bs b), 0) := by
  simp only [number_Cmp.f, number_May_tot a ha, number_May_tot b hb, na, nb, Option.bind_some, if_true, number_Cmp.j0, Bool.not_true, Bool.false_eq_true, if_false, cmpi_val, octcmp_val, or2_val, numC, bs_length]
theorem numbers_val (k : Nat) (a b : ByteArray) (ha : Small a) (hb : Small b) (na : isNum (bs a) = true) (nb : isNum (bs b) = true) : version_numbers.f (k + 4) a b = some (numC (bs a) (bs b)) := by
  simp only [version_numbers.f, number_Cmp_val k a b ha hb na nb, Option.bind_some]
theorem words_val (k : Nat) (a b : ByteArray) (ha : Small a) (hb : Small b) : version_words.f (k + 5) a b = some (wordC (bs a) (bs b)) := by
  unfold version_words.f
  rw [number_May_tot a ha, number_May_tot b hb]
  cases na : isNum (bs a) <;> cases nb : isNum (bs b)
  · simp [version_words.j0, wordC, na, nb, octcmp_val]
  · simp [version_words.j0, wordC, na, nb]
  · simp [version_words.j0, wordC, na, nb]
  · simp [version_words.j0, wordC, na, nb, numbers_val k a b ha hb na nb]
end Go.Proofs.YtohdmmafjpjmfaaGreatDoor.QB.D
end
section
namespace Go.Proofs.YtohdmmafjpjmfaaGreatDoor.QB.D
open Go.Proofs.YtohdmmafjpjmfaaGreatDoor.Q
open Go.RowKit Go.Lib Go.Proofs.YtohdmmafjpjmfaaGreatDoorW.PrintWords Go.Proofs.YtohdmmafjpjmfaaGreatDoorW.PrintLast Go.Proofs.YtohdmmafjpjmfaaGreatDoorW.PrintMore Gw
set_option linter.unusedVariables false
set_option linter.unusedSimpArgs false
def FS (A : Option Addr) (xs : List ByteArray) (w : World) : Prop := ∀ i (hi : i < xs.length), ∃ g, A = some ⟨g, 0, none⟩ ∧ g < w.heap.size ∧ w.cell? ⟨g, i, none⟩ = some (.string (xs[i]))
theorem FS.below {A : Option Addr} {xs : List ByteArray} {w w' : World} {b : Nat} (h : FS A xs w) (hb : Below b w w') (hw : w.heap.size ≤ b) : FS A xs w' := fun i hi => by
  obtain ⟨g, rfl, h1, h2⟩ := h i hi
  exact ⟨g, rfl, Nat.lt_of_lt_of_le h1 hb.size, (hb.cell (p := ⟨g, i, none⟩) (by simp; omega)).trans h2⟩
theorem FS_of_R {w : World} {base : Nat} {u : Value} {xs : List ByteArray} (h : Kd.R Kd.string 9 w base (fun _ => True) u xs) : ∃ A c, u = .slice A xs.length c ∧ FS A xs w := by
  obtain ⟨A, c, rfl⟩ := Kd.R_slice h
  refine ⟨A, c, rfl, fun i hi => ?_⟩
  obtain ⟨g, c', e, h1, h2, h3⟩ := vR_cells h (by omega)
  injection e with e
  exact ⟨g, e, h2, h3 i hi⟩
theorem eqArr3 (d : Nat) (w : World) (x0 y0 x1 y1 x2 y2 : ByteArray) :
    (Op.equalIn (d + 2) 121 (.agg #[.string x0, .string x1, .string x2]) (.agg #[.string y0, .string y1, .string y2])).run Tryz.prog w = .ok (x0.toList == y0.toList && (x1.toList == y1.toList && x2.toList == y2.toList)) w := by
  obtain ⟨i, hi⟩ := Option.isSome_iff_exists.1 (show (Tryz.prog.info? 9).isSome = true by kernel_rfl)
  rw [run_equalIn_array w (d + 1) _ _ Tryz.underlying121 hi]
  rw [show List.range 3 = [0, 1, 2] from rfl, show Tryz.prog.cellsOf 9 = 1 by kernel_rfl]
  simp only [Op.eqItems]
  go_simp
  by_cases h0 : x0.toList = y0.toList <;> by_cases h1 : x1.toList = y1.toList <;> by_cases h2 : x2.toList = y2.toList <;> simp [h0, h1, h2]
set_option maxHeartbeats 4000000 in
set_option maxRecDepth 100000 in
theorem vcmp_go (a b : ByteArray) (x0 x1 x2 : ByteArray) (xp : List ByteArray) (y0 y1 y2 : ByteArray) (yp : List ByteArray)
    (hx : version_Split.f a = some (x0, x1, x2, xp, 0)) (hy : version_Split.f b = some (y0, y1, y2, yp, 0))
    (n0 n1 n2 : Int) (h0 : version_numbers.f 9 x0 y0 = some n0) (h1 : version_numbers.f 9 x1 y1 = some n1) (h2 : version_numbers.f 9 x2 y2 = some n2)
    (sx : ∀ s ∈ xp, Small s) (sy : ∀ s ∈ yp, Small s) (hlx : (xp.length : Int) ≤ 4294967290) (hly : (yp.length : Int) ≤ 4294967290)
    (r : Int) (hd : (x0.toList == y0.toList && (x1.toList == y1.toList && x2.toList == y2.toList)) = false → r = orI n0 (orI n1 n2))
    (hs : (x0.toList == y0.toList && (x1.toList == y1.toList && x2.toList == y2.toList)) = true → r = preC (xp.map bs) (yp.map bs))
    (w : World) : Calls Tryz.prog 91 #[.string a, .string b] w fun e w' => e = .returned (.tuple #[.int .i64 r, .int .i64 0]) ∧ Below w.heap.size w w' := by
  have SX := Aside0.mk sx
  have SY := Aside0.mk sy
  have HD := Aside0.mk hd
  have HS := Aside0.mk hs
  have H0 := Aside0.mk h0
  have H1 := Aside0.mk h1
  have H2 := Aside0.mk h2
  clear sx sy hd hs h0 h1 h2
  have hu49 := Tryz.underlying81
  go_enter Tryz.func91, Tryz.ntmps91
  go_wp2_with fail
  refine (version_Split.calls _ _ _ _ _ _ _ hx).mono ?_
  rintro e w1 ⟨u, rfl, hR, hb⟩
  obtain ⟨A, c, rfl, hF⟩ := FS_of_R hR
  have HB := Aside0.mk hb
  have HF := Aside0.mk hF
  clear hb hF hR hx
  go_wp2_with fail
  refine (version_Split.calls _ _ _ _ _ _ _ hy).mono ?_
  rintro e w2 ⟨u, rfl, hR, hb⟩
  obtain ⟨A2, c2, rfl, hF⟩ := FS_of_R hR
  have b12 : Below w1.heap.size w1 w2 := (by repeat (with_reducible first | exact Below.refl _ _ | refine below_set ?_ (by simp) | refine below_alloc ?_ _) : Below w1.heap.size w1 _).trans (hb.mono (by simp))
  have hz : w1.heap.size < w2.heap.size := by have := hb.size; simp at this; omega
  have q0 : w2.cell? ⟨w1.heap.size, 0, none⟩ = some (.string x0) := (hb.cell (p := ⟨w1.heap.size, 0, none⟩) (by simp)).trans (by simp [go_sem])
  have q1 : w2.cell? ⟨w1.heap.size, 1, none⟩ = some (.string x1) := (hb.cell (p := ⟨w1.heap.size, 1, none⟩) (by simp)).trans (by simp [go_sem])
  have q2 : w2.cell? ⟨w1.heap.size, 2, none⟩ = some (.string x2) := (hb.cell (p := ⟨w1.heap.size, 2, none⟩) (by simp)).trans (by simp [go_sem])
  have q3 : w2.cell? ⟨w1.heap.size, 3, none⟩ = some (.slice A xp.length c) := (hb.cell (p := ⟨w1.heap.size, 3, none⟩) (by simp)).trans (by simp [go_sem])
  clear hR hb
  have HF2 := Aside0.mk hF
  clear hF
  go_wp2_with fail
  generalize hW : w2.alloc (.cells #[.string y0, .string y1, .string y2, .slice A2 yp.length c2] 81 (0, 0)) = w3
  have g0 : w3.cell? ⟨w1.heap.size, 0, none⟩ = some (.string x0) := by rw [← hW]; exact Lib.cell?_alloc_some _ q0
  have g1 : w3.cell? ⟨w1.heap.size, 1, none⟩ = some (.string x1) := by rw [← hW]; exact Lib.cell?_alloc_some _ q1
  have g2 : w3.cell? ⟨w1.heap.size, 2, none⟩ = some (.string x2) := by rw [← hW]; exact Lib.cell?_alloc_some _ q2
  have g3 : w3.cell? ⟨w1.heap.size, 3, none⟩ = some (.slice A xp.length c) := by rw [← hW]; exact Lib.cell?_alloc_some _ q3
  have k0 : w3.cell? ⟨w2.heap.size, 0, none⟩ = some (.string y0) := by rw [← hW]; simp [go_sem]
  have k1 : w3.cell? ⟨w2.heap.size, 1, none⟩ = some (.string y1) := by rw [← hW]; simp [go_sem]
  have k2 : w3.cell? ⟨w2.heap.size, 2, none⟩ = some (.string y2) := by rw [← hW]; simp [go_sem]
  have k3 : w3.cell? ⟨w2.heap.size, 3, none⟩ = some (.slice A2 yp.length c2) := by rw [← hW]; simp [go_sem]
  have hz3 : w3.heap.size = w2.heap.size + 1 := by rw [← hW]; simp
  have hB3 : Below w1.heap.size w1 w3 := by rw [← hW]; exact below_alloc' b12 _ (by omega)
  have HF3 : Aside0 (FS A xp w3) := ⟨HF.out.below hB3 (Nat.le_refl _)⟩
  have HF4 : Aside0 (FS A2 yp w3) := ⟨HF2.out.below (b := w2.heap.size) (by rw [← hW]; exact below_alloc' (Below.refl _ _) _ (by omega)) (Nat.le_refl _)⟩
  have HB3 : Aside0 (Below w.heap.size w w3) := ⟨HB.out.trans (hB3.mono HB.out.size)⟩
  clear HF HF2 HB hB3 b12 q0 q1 q2 q3 hW
  have mixed : Tryz.prog.follows Departure.mixedOrders = true := by kernel_rfl
  go_region_held3 (fun w' => w'.cell? ⟨w1.heap.size, 0, none⟩ = some (.string x0) ∧ w'.cell? ⟨w1.heap.size, 1, none⟩ = some (.string x1) ∧ w'.cell? ⟨w1.heap.size, 2, none⟩ = some (.string x2) ∧ w'.cell? ⟨w2.heap.size, 0, none⟩ = some (.string y0) ∧ w'.cell? ⟨w2.heap.size, 1, none⟩ = some (.string y1) ∧ w'.cell? ⟨w2.heap.size, 2, none⟩ = some (.string y2)) (go_keep) (fail)
  have hW : ∃ W, W = ((w3.alloc (.cells #[.string x0, .string x1, .string x2] 121 (0, 0))).alloc (.cells #[.string y0, .string y1, .string y2] 121 (0, 0))).drew := ⟨_, rfl⟩
  obtain ⟨w4, hW⟩ := hW
  rw [← hW]
  have a0 : w4.cell? ⟨w2.heap.size + 1, 0, none⟩ = some (.string x0) := by rw [hW]; simp [go_sem, hz3]
  have a1 : w4.cell? ⟨w2.heap.size + 1, 1, none⟩ = some (.string x1) := by rw [hW]; simp [go_sem, hz3]
  have a2 : w4.cell? ⟨w2.heap.size + 1, 2, none⟩ = some (.string x2) := by rw [hW]; simp [go_sem, hz3]
  have b0 : w4.cell? ⟨w2.heap.size + 1 + 1, 0, none⟩ = some (.string y0) := by rw [hW]; simp [go_sem, hz3]
  have b1 : w4.cell? ⟨w2.heap.size + 1 + 1, 1, none⟩ = some (.string y1) := by rw [hW]; simp [go_sem, hz3]
  have b2 : w4.cell? ⟨w2.heap.size + 1 + 1, 2, none⟩ = some (.string y2) := by rw [hW]; simp [go_sem, hz3]
  have B4 : Below w3.heap.size w3 w4 := by rw [hW]; exact below_drew (below_alloc' (below_alloc' (Below.refl _ _) _) _ (by simp))
  have ha4 : w2.heap.size + 1 < w4.heap.size := by rw [hW]; simp; omega
  have hb4 : w2.heap.size + 1 + 1 < w4.heap.size := by rw [hW]; simp; omega
  clear hW
  generalize w2.heap.size + 1 + 1 = pb at b0 b1 b2 hb4 ⊢
  generalize w2.heap.size + 1 = pa at a0 a1 a2 ha4 ⊢
  rotate_left
  have hW : ∃ W, W = ((w3.alloc (.cells #[.string y0, .string y1, .string y2] 121 (0, 0))).alloc (.cells #[.string x0, .string x1, .string x2] 121 (0, 0))).drew := ⟨_, rfl⟩
  obtain ⟨w4, hW⟩ := hW
  rw [← hW]
  have a0 : w4.cell? ⟨w2.heap.size + 1 + 1, 0, none⟩ = some (.string x0) := by rw [hW]; simp [go_sem, hz3]
  have a1 : w4.cell? ⟨w2.heap.size + 1 + 1, 1, none⟩ = some (.string x1) := by rw [hW]; simp [go_sem, hz3]
  have a2 : w4.cell? ⟨w2.heap.size + 1 + 1, 2, none⟩ = some (.string x2) := by rw [hW]; simp [go_sem, hz3]
  have b0 : w4.cell? ⟨w2.heap.size + 1, 0, none⟩ = some (.string y0) := by rw [hW]; simp [go_sem, hz3]
  have b1 : w4.cell? ⟨w2.heap.size + 1, 1, none⟩ = some (.string y1) := by rw [hW]; simp [go_sem, hz3]
  have b2 : w4.cell? ⟨w2.heap.size + 1, 2, none⟩ = some (.string y2) := by rw [hW]; simp [go_sem, hz3]
  have B4 : Below w3.heap.size w3 w4 := by rw [hW]; exact below_drew (below_alloc' (below_alloc' (Below.refl _ _) _) _ (by simp))
  have ha4 : w2.heap.size + 1 + 1 < w4.heap.size := by rw [hW]; simp; omega
  have hb4 : w2.heap.size + 1 < w4.heap.size := by rw [hW]; simp; omega
  clear hW
  generalize w2.heap.size + 1 + 1 = pa at a0 a1 a2 ha4 ⊢
  generalize w2.heap.size + 1 = pb at b0 b1 b2 hb4 ⊢
  rotate_left
  all_goals
    rename_i hHeld9
    clear hHeld9
    cases hE : (x0.toList == y0.toList && (x1.toList == y1.toList && x2.toList == y2.toList))
    · have heq : ∀ w, (Op.equalIn 10000 121 (.agg #[.string x0, .string x1, .string x2]) (.agg #[.string y0, .string y1, .string y2])).run Tryz.prog w = .ok false w := fun w => by rw [eqArr3, hE]
      have hr := HD.out hE
      subst hr
      have hor := or3_val 5 n0 n1 n2
      have HOR := Aside0.mk hor
      have C0 := fun w => version_numbers.calls 9 x0 y0 n0 w H0.out
      have C1 := fun w => version_numbers.calls 9 x1 y1 n1 w H1.out
      have C2 := fun w => version_numbers.calls 9 x2 y2 n2 w H2.out
      have KS : ∀ w', Below w4.heap.size w4 w' → Below w4.heap.size w4 w' ∧ w'.cell? ⟨pa, 0, none⟩ = some (.string x0) ∧ w'.cell? ⟨pa, 1, none⟩ = some (.string x1) ∧ w'.cell? ⟨pa, 2, none⟩ = some (.string x2) ∧ w'.cell? ⟨pb, 0, none⟩ = some (.string y0) ∧ w'.cell? ⟨pb, 1, none⟩ = some (.string y1) ∧ w'.cell? ⟨pb, 2, none⟩ = some (.string y2) := fun w' h =>
        ⟨h, (h.cell (p := ⟨pa, 0, none⟩) ha4).trans a0, (h.cell (p := ⟨pa, 1, none⟩) ha4).trans a1, (h.cell (p := ⟨pa, 2, none⟩) ha4).trans a2, (h.cell (p := ⟨pb, 0, none⟩) hb4).trans b0, (h.cell (p := ⟨pb, 1, none⟩) hb4).trans b1, (h.cell (p := ⟨pb, 2, none⟩) hb4).trans b2⟩
      have HB4 : Aside0 (Below w.heap.size w w4) := ⟨HB3.out.trans (B4.mono HB3.out.size)⟩
      clear hE HD HS hor B4 HB3 HF3 HF4 g0 g1 g2 g3 k0 k1 k2 k3 hz3 hz
      go_wp2_with fail
      go_region_held3 (fun w' => Below w4.heap.size w4 w' ∧ w'.cell? ⟨pa, 0, none⟩ = some (.string x0) ∧ w'.cell? ⟨pa, 1, none⟩ = some (.string x1) ∧ w'.cell? ⟨pa, 2, none⟩ = some (.string x2) ∧ w'.cell? ⟨pb, 0, none⟩ = some (.string y0) ∧ w'.cell? ⟨pb, 1, none⟩ = some (.string y1) ∧ w'.cell? ⟨pb, 2, none⟩ = some (.string y2))
        (first
          | exact KS _ (below_drew (Below.refl _ _))
          | exact KS _ ((And.left ‹Below w4.heap.size w4 _ ∧ _›).trans (hb9.mono (And.left ‹Below w4.heap.size w4 _ ∧ _›).size))
          | exact KS _ (below_alloc' (And.left ‹Below w4.heap.size w4 _ ∧ _›) _ (And.left ‹Below w4.heap.size w4 _ ∧ _›).size)
          | exact KS _ (And.left ‹Below w4.heap.size w4 _ ∧ _›))
        (first
          | (go_at_call 104; (first | (with_reducible refine (C0 _).mono ?_) | (with_reducible refine (C1 _).mono ?_) | (with_reducible refine (C2 _).mono ?_)); rintro e w'' ⟨rfl, hb9⟩)
          | (go_at_call 92; refine (cmp_Or_int.calls 9 _ _ [n0, n1, n2] _ _ (row_ints _ [n0, n1, n2] _ (by simp)) (by simp) HOR.out).mono ?_; rintro e w'' ⟨rfl, hd9⟩; have hb9 := (drawn_below hd9)))
      have hB9 := And.left ‹Below w4.heap.size w4 _ ∧ _›
      rename_i hHeldZ
      clear hHeldZ
      go_wp2
      go_ret2
      exact ⟨rfl, HB4.out.trans (hB9.mono HB4.out.size)⟩
    · have heq : ∀ w, (Op.equalIn 10000 121 (.agg #[.string x0, .string x1, .string x2]) (.agg #[.string y0, .string y1, .string y2])).run Tryz.prog w = .ok true w := fun w => by rw [eqArr3, hE]
      have hr := HS.out hE
      subst hr
      have FX := Aside0.mk (HF3.out.below B4 (Nat.le_refl _))
      have FY := Aside0.mk (HF4.out.below B4 (Nat.le_refl _))
      have m3 : w4.cell? ⟨w1.heap.size, 3, none⟩ = some (.slice A xp.length c) := (B4.cell (p := ⟨w1.heap.size, 3, none⟩) (by simp; omega)).trans g3
      have m4 : w4.cell? ⟨w2.heap.size, 3, none⟩ = some (.slice A2 yp.length c2) := (B4.cell (p := ⟨w2.heap.size, 3, none⟩) (by simp; omega)).trans k3
      have HB4 : Aside0 (Below w.heap.size w w4) := ⟨HB3.out.trans (B4.mono HB3.out.size)⟩
      have hz14 : w1.heap.size < w4.heap.size := by have := B4.size; omega
      have hz24 : w2.heap.size < w4.heap.size := by have := B4.size; omega
      clear hE HD HS B4 HB3 HF3 HF4 g0 g1 g2 g3 k0 k1 k2 k3 hz3 hz H0 H1 H2 ha4 hb4
      cases lx : ((xp.length : Int) == 0)
      · have nx : xp.length ≠ 0 := fun h => by rw [h] at lx; exact absurd lx (by decide)
        cases ly : ((yp.length : Int) == 0)
        · have ny : yp.length ≠ 0 := fun h => by rw [h] at ly; exact absurd ly (by decide)
          have hpc : preC (xp.map bs) (yp.map bs) = wordsC (xp.map bs) (yp.map bs) := by
            unfold preC
            rw [if_neg]
            rintro (h | h)
            · rw [List.map_eq_nil_iff] at h
              subst h
              exact nx rfl
            · rw [List.map_eq_nil_iff] at h
              subst h
              exact ny rfl
          have HPC := Aside0.mk hpc
          clear hpc
          go_wp2_with fail
          go_loopw [88] (fun v88 wr => ∃ i : Nat, i ≤ xp.length ∧ i ≤ yp.length ∧ v88 = .int .i64 (i : Int) ∧ Aside0 (Below w4.heap.size w4 wr) ∧ Aside0 (wordsC (xp.map bs) (yp.map bs) = wordsC ((xp.drop i).map bs) ((yp.drop i).map bs))) (fun v88 _ => xp.length - (RowKit.intOf v88).toNat)
          case atStart => exact ⟨0, Nat.zero_le _, Nat.zero_le _, rfl, ⟨Below.refl _ _⟩, ⟨rfl⟩⟩
          case round =>
            obtain ⟨i, hi, hi2, rfl, HW, HA⟩ := hrel
            have r3 : wr.cell? ⟨w1.heap.size, 3, none⟩ = some (.slice A xp.length c) := (HW.out.cell (p := ⟨w1.heap.size, 3, none⟩) hz14).trans m3
            have r4 : wr.cell? ⟨w2.heap.size, 3, none⟩ = some (.slice A2 yp.length c2) := (HW.out.cell (p := ⟨w2.heap.size, 3, none⟩) hz24).trans m4
            by_cases hl : i < xp.length ∧ i < yp.length
            · obtain ⟨hl1, hl2⟩ := hl
              have FXr := FX.out.below HW.out (Nat.le_refl _)
              have FYr := FY.out.below HW.out (Nat.le_refl _)
              obtain ⟨g, rfl, hg1, hg2⟩ := FXr i hl1
              obtain ⟨g', rfl, hg3, hg4⟩ := FYr i hl2
              have hs1 := SX.out _ (List.getElem_mem hl1)
              have hs2 := SY.out _ (List.getElem_mem hl2)
              have hd1 : xp.drop i = xp[i] :: xp.drop (i + 1) := List.drop_eq_getElem_cons hl1
              have hd2 : yp.drop i = yp[i] :: yp.drop (i + 1) := List.drop_eq_getElem_cons hl2
              have hA2 := HA.out
              rw [hd1, hd2, List.map_cons, List.map_cons] at hA2
              have hwv := words_val 4 xp[i] yp[i] hs1 hs2
              have CW := fun w => version_words.calls 9 xp[i] yp[i] _ w hwv
              obtain ⟨cv, hcv⟩ : ∃ cv, cv = wordC (bs xp[i]) (bs yp[i]) := ⟨_, rfl⟩
              have hA3 : wordsC (xp.map bs) (yp.map bs) = orI cv (wordsC ((xp.drop (i + 1)).map bs) ((yp.drop (i + 1)).map bs)) := by rw [hA2, hcv]; rfl
              have HA3 := Aside0.mk hA3
              rw [← hcv] at CW
              generalize xp[i] = px at CW hg2
              generalize yp[i] = py at CW hg4
              have hm : min (xp.length : Int) (yp.length : Int) > (i : Int) := by omega
              have hmd : decide ((i : Int) < min (xp.length : Int) (yp.length : Int)) = true := decide_eq_true hm
              have j1 : (i : Int) < (xp.length : Int) := by omega
              have j2 : (i : Int) < (yp.length : Int) := by omega
              clear hA2 hA3 hcv hwv hs1 hs2 hd1 hd2 FXr FYr
              have KS : ∀ w', Below wr.heap.size wr w' → Below wr.heap.size wr w' ∧ w'.cell? ⟨w1.heap.size, 3, none⟩ = some (.slice (some ⟨g, 0, none⟩) xp.length c) ∧ w'.cell? ⟨w2.heap.size, 3, none⟩ = some (.slice (some ⟨g', 0, none⟩) yp.length c2) ∧ w'.cell? ⟨g, i, none⟩ = some (.string px) ∧ w'.cell? ⟨g', i, none⟩ = some (.string py) := fun w' h =>
                ⟨h, (h.cell (p := ⟨w1.heap.size, 3, none⟩) (Nat.lt_of_lt_of_le hz14 HW.out.size)).trans r3, (h.cell (p := ⟨w2.heap.size, 3, none⟩) (Nat.lt_of_lt_of_le hz24 HW.out.size)).trans r4, (h.cell (p := ⟨g, i, none⟩) hg1).trans hg2, (h.cell (p := ⟨g', i, none⟩) hg3).trans hg4⟩
              go_wp2_with fail
              go_region_held3 (fun w' => Below wr.heap.size wr w' ∧ w'.cell? ⟨w1.heap.size, 3, none⟩ = some (.slice (some ⟨g, 0, none⟩) xp.length c) ∧ w'.cell? ⟨w2.heap.size, 3, none⟩ = some (.slice (some ⟨g', 0, none⟩) yp.length c2) ∧ w'.cell? ⟨g, i, none⟩ = some (.string px) ∧ w'.cell? ⟨g', i, none⟩ = some (.string py))
                (first
                  | exact KS _ (below_drew (Below.refl _ _))
                  | exact KS _ ((And.left ‹Below wr.heap.size wr _ ∧ _›).trans (hb9.mono (And.left ‹Below wr.heap.size wr _ ∧ _›).size))
                  | exact KS _ (And.left ‹Below wr.heap.size wr _ ∧ _›))
                (first
                  | (go_at_call 106; with_reducible refine (CW _).mono ?_; rintro e w'' ⟨rfl, hb9⟩))
              have hB9 := And.left ‹Below wr.heap.size wr _ ∧ _›
              have HB9 : Aside0 (Below w4.heap.size w4 w'') := ⟨HW.out.trans (hB9.mono HW.out.size)⟩
              have HB8 : Aside0 (Below w.heap.size w w'') := ⟨HB4.out.trans (HB9.out.mono HB4.out.size)⟩
              clear hB9 hb9 KS r3 r4 hg2 hg4
              rename_i hHeldZ
              clear hHeldZ
              cases hc0 : (cv != 0)
              · have hz : cv = 0 := by simpa using hc0
                go_wp2
                go_roundw
                case rel => exact ⟨i + 1, by omega, by omega, by go_num, HB9, ⟨by rw [HA3.out, hz]; rfl⟩⟩
                case measure => simp [RowKit.intOf]; omega
              · have hz : cv ≠ 0 := by simpa using hc0
                go_wp2
                go_ret2
                exact ⟨by rw [HPC.out, HA3.out, orI, if_neg hz]; rfl, HB8.out⟩
            · have hm : ¬ ((i : Int) < min (xp.length : Int) (yp.length : Int)) := by omega
              have hmd : decide ((i : Int) < min (xp.length : Int) (yp.length : Int)) = false := decide_eq_false hm
              have hval : wordsC (xp.map bs) (yp.map bs) = cmpN xp.length yp.length := by
                rw [HA.out]
                by_cases e1 : i = xp.length
                · rw [List.drop_of_length_le (by omega)]
                  by_cases e2 : i = yp.length
                  · rw [List.drop_of_length_le (by omega), ← e1, ← e2]; simp [wordsC, cmpN]
                  · rw [List.drop_eq_getElem_cons (show i < yp.length by omega)]
                    simp only [List.map_nil, List.map_cons, wordsC, cmpN]
                    rw [if_pos (by omega)]
                · have e2 : i = yp.length := by omega
                  rw [List.drop_eq_getElem_cons (show i < xp.length by omega), List.drop_of_length_le (show yp.length ≤ i by omega)]
                  simp only [List.map_nil, List.map_cons, wordsC, cmpN]
                  rw [if_neg (by omega), if_pos (by omega)]
              have HV := Aside0.mk hval
              have CC := fun w => cmp_Compare_int.calls xp.length yp.length _ w (cmpi_val xp.length yp.length)
              clear hval
              go_wp2_with fail
              with_reducible refine (CC _).mono ?_
              rintro e w5 ⟨rfl, hd5⟩
              have HB8 : Aside0 (Below w.heap.size w w5) := ⟨HB4.out.trans ((HW.out.trans ((drawn_below hd5).mono HW.out.size)).mono HB4.out.size)⟩
              clear hd5
              go_wp2
              go_ret2
              exact ⟨by rw [HPC.out, HV.out]; rfl, HB8.out⟩
        · have ny : yp = [] := List.length_eq_zero_iff.1 (by simpa using ly)
          have HPC : Aside0 (preC (xp.map bs) (yp.map bs) = cmpN yp.length xp.length) := ⟨by unfold preC; rw [if_pos (Or.inr (by rw [ny]; rfl)), List.length_map, List.length_map]⟩
          clear ny
          have CC := fun w => cmp_Compare_int.calls yp.length xp.length _ w (cmpi_val yp.length xp.length)
          go_wp2_with fail
          with_reducible refine (CC _).mono ?_
          rintro e w5 ⟨rfl, hd5⟩
          have HB8 : Aside0 (Below w.heap.size w w5) := ⟨HB4.out.trans ((drawn_below hd5).mono HB4.out.size)⟩
          clear hd5
          go_wp2
          go_ret2
          exact ⟨by rw [HPC.out]; rfl, HB8.out⟩
      · have nx : xp = [] := List.length_eq_zero_iff.1 (by simpa using lx)
        have HPC : Aside0 (preC (xp.map bs) (yp.map bs) = cmpN yp.length xp.length) := ⟨by unfold preC; rw [if_pos (Or.inl (by rw [nx]; rfl)), List.length_map, List.length_map]⟩
        clear nx
        have CC := fun w => cmp_Compare_int.calls yp.length xp.length _ w (cmpi_val yp.length xp.length)
        go_wp2_with fail
        with_reducible refine (CC _).mono ?_
        rintro e w5 ⟨rfl, hd5⟩
        have HB8 : Aside0 (Below w.heap.size w w5) := ⟨HB4.out.trans ((drawn_below hd5).mono HB4.out.size)⟩
        clear hd5
        go_wp2
        go_ret2
        exact ⟨by rw [HPC.out]; rfl, HB8.out⟩
set_option maxHeartbeats 4000000 in
set_option maxRecDepth 100000 in
theorem vcmp_err (a b : ByteArray) (x0 x1 x2 : ByteArray) (xp : List ByteArray) (e : Int) (y0 y1 y2 : ByteArray) (yp : List ByteArray) (f : Int)
    (hx : version_Split.f a = some (x0, x1, x2, xp, e)) (hy : version_Split.f b = some (y0, y1, y2, yp, f)) (he : (e != 0) = true ∨ (e != 0) = false ∧ (f != 0) = true)
    (w : World) : Calls Tryz.prog 91 #[.string a, .string b] w fun e w' => e = .returned (.tuple #[.int .i64 0, .int .i64 1]) ∧ Below w.heap.size w w' := by
  have hu49 := Tryz.underlying81
  have HE := Aside0.mk he
  clear he
  go_enter Tryz.func91, Tryz.ntmps91
  go_wp2_with fail
  refine (version_Split.calls _ _ _ _ _ _ _ hx).mono ?_
  rintro e9 w1 ⟨u, rfl, hR, hb⟩
  obtain ⟨A, c, rfl, hF⟩ := FS_of_R hR
  have HB := Aside0.mk hb
  clear hb hF hR hx
  go_wp2_with fail
  refine (version_Split.calls _ _ _ _ _ _ _ hy).mono ?_
  rintro e9 w2 ⟨u, rfl, hR, hb⟩
  obtain ⟨A2, c2, rfl, hF⟩ := FS_of_R hR
  have b12 : Below w1.heap.size w1 w2 := (by repeat (with_reducible first | exact Below.refl _ _ | refine below_set ?_ (by simp) | refine below_alloc ?_ _) : Below w1.heap.size w1 _).trans (hb.mono (by simp))
  have HB2 : Aside0 (Below w.heap.size w w2) := ⟨HB.out.trans (b12.mono HB.out.size)⟩
  clear hR hb hF b12 hy HB
  rcases HE.out with h1 | ⟨h1, h2⟩
  all_goals
    clear HE
    go_wp2
    go_ret2
    exact ⟨rfl, by repeat (with_reducible first | exact HB2.out | refine below_set ?_ (by have := HB2.out.size; simp; omega) | refine below_alloc ?_ _)⟩
theorem vparts_facts {s : B} (ho : ∀ c ∈ s, c < 256) {p q r : B} {l : List B} (h : vparts s = some (p, q, r, l)) : (isNum p = true ∧ isNum q = true ∧ isNum r = true) ∧ (∀ t ∈ p :: q :: r :: l, (∀ c ∈ t, c < 256) ∧ t.length ≤ s.length) ∧ l.length ≤ s.length + 1 ∧ l.all isWord = true := by
  unfold vparts at h
  split at h
  · rename_i s' 
    have ho' : ∀ c ∈ s', c < 256 := fun c hc => ho c (List.mem_cons_of_mem _ hc)
    obtain ⟨k1, k2, k3⟩ := cutDash_oct ho'
    generalize (cutDash s').1 = core at h k1 k2
    generalize (cutDash s').2 = pre at h k3
    unfold vcore at h
    split at h
    · rename_i a b c hp
      split at h
      · rename_i hn
        simp only [Bool.and_eq_true] at hn
        have hq : ∀ t ∈ [a, b, c], (∀ x ∈ t, x < 256) ∧ t.length ≤ s'.length := fun t ht => by
          rw [← hp] at ht
          exact ⟨parts_oct k1 t ht, Nat.le_trans ((parts_le core).1 t ht) k2⟩
        unfold vpre at h
        split at h
        · injection h with h
          simp only [Prod.mk.injEq] at h
          obtain ⟨rfl, rfl, rfl, rfl⟩ := h
          exact ⟨⟨hn.1.1, hn.1.2, hn.2⟩, fun t ht => ⟨(hq t ht).1, by have := (hq t ht).2; simp; omega⟩, by simp, rfl⟩
        · rename_i pp
          split at h
          · rename_i hw
            injection h with h
            simp only [Prod.mk.injEq] at h
            obtain ⟨rfl, rfl, rfl, rfl⟩ := h
            obtain ⟨k4, k5⟩ := k3 _ rfl
            refine ⟨⟨hn.1.1, hn.1.2, hn.2⟩, fun t ht => ?_, by have := (parts_le (sep := 46) pp).2; simp; omega, hw⟩
            simp only [List.mem_cons] at ht
            rcases ht with rfl | rfl | rfl | ht
            · exact ⟨(hq _ (by simp)).1, by have := (hq t (by simp)).2; simp; omega⟩
            · exact ⟨(hq _ (by simp)).1, by have := (hq t (by simp)).2; simp; omega⟩
            · exact ⟨(hq _ (by simp)).1, by have := (hq t (by simp)).2; simp; omega⟩
            · exact ⟨parts_oct k4 t ht, by have := (parts_le (sep := 46) pp).1 t ht; simp; omega⟩
          · cases h
      · cases h
    · cases h
  · cases h
def vcmpO : Option VP → Option VP → Int × Int
  | some x, some y => (verC x y, 0)
  | _, _ => (0, 1)
def version_Cmp.f (a0 a1 : ByteArray) : Option (Int × Int) := if Tiny a0 ∧ Tiny a1 then some (vcmpO (vparts (bs a0)) (vparts (bs a1))) else none
theorem version_Cmp.calls (a0 a1 : ByteArray) (r1 r2 : Int) (w : World) (h : version_Cmp.f a0 a1 = some (r1, r2)) :
    Calls Tryz.prog 91 #[.string a0, .string a1] w fun e w' => e = .returned (.tuple #[.int .i64 r1, .int .i64 r2]) ∧ Below w.heap.size w w' := by
  unfold version_Cmp.f at h
  by_cases hs : Tiny a0 ∧ Tiny a1
  · rw [if_pos hs] at h
    obtain ⟨ht0, ht1⟩ := hs
    have f0 : version_Split.f a0 = some (outE (vparts (bs a0))) := by unfold version_Split.f; rw [if_pos ht0]
    have f1 : version_Split.f a1 = some (outE (vparts (bs a1))) := by unfold version_Split.f; rw [if_pos ht1]
    rcases h0 : vparts (bs a0) with _ | ⟨p, q, r, l⟩
    · rw [h0] at h f0
      simp only [vcmpO, Option.some.injEq, Prod.mk.injEq] at h
      obtain ⟨rfl, rfl⟩ := h
      exact vcmp_err a0 a1 _ _ _ _ _ _ _ _ _ _ f0 f1 (Or.inl rfl) w
    · rcases h1 : vparts (bs a1) with _ | ⟨p', q', r', l'⟩
      · rw [h0, h1] at h
        rw [h0] at f0
        rw [h1] at f1
        simp only [vcmpO, Option.some.injEq, Prod.mk.injEq] at h
        obtain ⟨rfl, rfl⟩ := h
        exact vcmp_err a0 a1 _ _ _ _ _ _ _ _ _ _ f0 f1 (Or.inr ⟨rfl, rfl⟩) w
      · rw [h0, h1] at h
        rw [h0] at f0
        rw [h1] at f1
        simp only [vcmpO, Option.some.injEq, Prod.mk.injEq] at h
        obtain ⟨rfl, rfl⟩ := h
        obtain ⟨⟨n0, n1, n2⟩, o0, l0, _⟩ := vparts_facts (bs_oct a0) h0
        obtain ⟨⟨m0, m1, m2⟩, o1, l1, _⟩ := vparts_facts (bs_oct a1) h1
        unfold Tiny at ht0 ht1
        rw [bs_length] at l0 l1 o0 o1
        have e0 : ∀ t ∈ p :: q :: r :: l, bs (ofB t) = t ∧ Small (ofB t) := fun t ht => ⟨bs_ofB (o0 t ht).1, by unfold Small; rw [ofB_oct (o0 t ht).1]; have := (o0 t ht).2; omega⟩
        have e1 : ∀ t ∈ p' :: q' :: r' :: l', bs (ofB t) = t ∧ Small (ofB t) := fun t ht => ⟨bs_ofB (o1 t ht).1, by unfold Small; rw [ofB_oct (o1 t ht).1]; have := (o1 t ht).2; omega⟩
        have b0 := e0 p (by simp)
        have b1 := e0 q (by simp)
        have b2 := e0 r (by simp)
        have c0 := e1 p' (by simp)
        have c1 := e1 q' (by simp)
        have c2 := e1 r' (by simp)
        have hl0 : (l.map ofB).map bs = l := by
          rw [List.map_map]
          exact (List.map_congr_left fun t ht => (e0 t (by simp [ht])).1).trans (List.map_id _)
        have hl1 : (l'.map ofB).map bs = l' := by
          rw [List.map_map]
          exact (List.map_congr_left fun t ht => (e1 t (by simp [ht])).1).trans (List.map_id _)
        have hb : ∀ s t : ByteArray, (s.toList == t.toList) = decide (bs s = bs t) := fun s t => by
          rw [str_eq]
          exact decide_eq_decide.2 ⟨fun h => by rw [h], bs_inj⟩
        have z0 := numC_to.eq p p' trivial trivial
        have z1 := numC_to.eq q q' trivial trivial
        have z2 := numC_to.eq r r' trivial trivial
        refine vcmp_go a0 a1 (ofB p) (ofB q) (ofB r) (l.map ofB) (ofB p') (ofB q') (ofB r') (l'.map ofB) f0 f1 (numC p p') (numC q q') (numC r r')
          (by have := numbers_val 5 (ofB p) (ofB p') b0.2 c0.2 (by rw [b0.1]; exact n0) (by rw [c0.1]; exact m0); rwa [b0.1, c0.1] at this)
          (by have := numbers_val 5 (ofB q) (ofB q') b1.2 c1.2 (by rw [b1.1]; exact n1) (by rw [c1.1]; exact m1); rwa [b1.1, c1.1] at this)
          (by have := numbers_val 5 (ofB r) (ofB r') b2.2 c2.2 (by rw [b2.1]; exact n2) (by rw [c2.1]; exact m2); rwa [b2.1, c2.1] at this)
          (fun s hs => by obtain ⟨t, ht, rfl⟩ := List.mem_map.1 hs; exact (e0 t (by simp [ht])).2)
          (fun s hs => by obtain ⟨t, ht, rfl⟩ := List.mem_map.1 hs; exact (e1 t (by simp [ht])).2)
          (by rw [List.length_map]; omega) (by rw [List.length_map]; omega)
          (verC (p, q, r, l) (p', q', r', l')) (fun hd => ?_) (fun hd => ?_) w
        · rw [hb, hb, hb, b0.1, b1.1, b2.1, c0.1, c1.1, c2.1] at hd
          unfold verC
          simp only []
          by_cases g0 : numC p p' = 0
          · by_cases g1 : numC q q' = 0
            · by_cases g2 : numC r r' = 0
              · rw [z0.1 g0, z1.1 g1, z2.1 g2] at hd
                simp at hd
              · simp only [orI, g0, g1, g2, if_true, if_false]
            · simp only [orI, g0, g1, if_true, if_false]
          · simp only [orI, g0, if_false]
        · rw [hb, hb, hb, b0.1, b1.1, b2.1, c0.1, c1.1, c2.1] at hd
          simp only [Bool.and_eq_true, decide_eq_true_eq] at hd
          obtain ⟨g0, g1, g2⟩ := hd
          rw [hl0, hl1, preC_eq]
          unfold verC
          simp only [z0.2 g0, z1.2 g1, z2.2 g2]
          rfl
  · rw [if_neg hs] at h
    cases h
end Go.Proofs.YtohdmmafjpjmfaaGreatDoor.QB.D
end
section
namespace Go.Proofs.YtohdmmafjpjmfaaGreatDoor.QB.D
open Go.Proofs.YtohdmmafjpjmfaaGreatDoor.Q
open Go.RowKit Go.Proofs.YtohdmmafjpjmfaaGreatDoorW.PrintWords Go.Proofs.YtohdmmafjpjmfaaGreatDoorW.PrintLast Go.Proofs.YtohdmmafjpjmfaaGreatDoorW.PrintMore
attribute [local go_sem] max2_int min2_int max_two min_two max_three min_three max_four min_four   -- for this text's walks alone
set_option linter.unusedVariables false
set_option linter.unusedSimpArgs false
attribute [local go_sem high] eqA34
def node_order.f (k : Nat) (a0_0 : ByteArray) (a0_1 : ByteArray) (a1_0 : ByteArray) (a1_1 : ByteArray) : Option (Int) := if (a0_0.toList == a1_0.toList && (a0_1.toList == a1_1.toList)) = true then (some 0) else ((version_Cmp.f a0_1 a1_1).bind fun bt199 => ((octet_Cmp.f a0_0 a1_0).bind fun t201 => ((cmp_Or_int.f k (([t201, bt199.1] : List Int))).bind fun t205 => (some t205))))
set_option maxHeartbeats 8000000 in
set_option maxRecDepth 100000 in
theorem node_order.calls (k : Nat) (a0_0 : ByteArray) (a0_1 : ByteArray) (a1_0 : ByteArray) (a1_1 : ByteArray) (r : Int) (w : World) (h : node_order.f k a0_0 a0_1 a1_0 a1_1 = some r) :
    Calls Tryz.prog 78 #[.agg #[.string a0_0, .string a0_1], .agg #[.string a1_0, .string a1_1]] w fun e w' => e = .returned (.int .i64 r) ∧ Below w.heap.size w w' := by
  have hu34 := Tryz.underlying34
  have HB := Aside0.mk (Below.refl w.heap.size w)
  have H : (if (a0_0.toList == a1_0.toList && (a0_1.toList == a1_1.toList)) = true then (some 0) else ((version_Cmp.f a0_1 a1_1).bind fun bt199 => ((octet_Cmp.f a0_0 a1_0).bind fun t201 => ((cmp_Or_int.f k (([t201, bt199.1] : List Int))).bind fun t205 => (some t205))))) = some r := h
  clear h
  by_cases c3 : (a0_0.toList == a1_0.toList && (a0_1.toList == a1_1.toList)) = true
  · rw [if_pos c3] at H
    have c3b0 : (a0_0.toList == a1_0.toList && (a0_1.toList == a1_1.toList)) = true := c3
    (try (have c3b1 : decide (a0_0.toList = a1_0.toList && (a0_1.toList == a1_1.toList)) = true := by simpa using c3))
    (try (have c3b2 : (a0_0.toList == a1_0.toList && (a0_1.toList == a1_1.toList)) = true := by simpa using c3))
    clear c3
    obtain rfl := Option.some.inj H
    go_enter Tryz.func78, Tryz.ntmps78
    go_wp2_with (first | ((with_reducible refine gate_dst (N := 2) rfl ?_); refine box_event ?hg (N := 2) ?hd (cs := #[.string a0_0, .string a0_1]) (t := 34) ?hr ?_; (case hd => rfl); (case hg => rfl); (case hr => first | (go_simp; done) | (go_simp; rfl)); intro gb197 hg w4 hbox hb; have n0_ := Aside0.mk (below_step (by repeat (first | (with_reducible first | exact HB.out | apply below_alloc | apply pw_below_drewN | apply below_drew1) | exact HB.out)) hb); have n1_ := Aside0.mk (hbox); have n2_ := Aside0.mk ((by rw [hg]; exact (below_size (by repeat (first | (with_reducible first | exact HB.out | apply below_alloc | apply pw_below_drewN | apply below_drew1) | exact HB.out))) : w.heap.size ≤ gb197)); have n3_ := Aside0.mk ((by rw [hg]; exact (below_size (by repeat (first | (with_reducible first | exact HB.out | apply below_alloc | apply pw_below_drewN | apply below_drew1) | exact HB.out))) : w.heap.size ≤ gb197)); clear HB; have HB := n0_; have BK197 := n1_; have GW197 := n2_; have GE197 := n3_; clear n0_ n1_ n2_ n3_; clear hb hbox hg) | ((with_reducible refine gate_dst (N := 3) rfl ?_); refine box_event ?hg (N := 3) ?hd (cs := #[.string a1_0, .string a1_1]) (t := 34) ?hr ?_; (case hd => rfl); (case hg => rfl); (case hr => first | (go_simp; done) | (go_simp; rfl)); intro gb198 hg w5 hbox hb; have n0_ := Aside0.mk (blk_below (g := gb197) (o := .cells #[.string a0_0, .string a0_1] 34 (0, 0)) (by (with_reducible repeat (first | refine blk_drewN ?_ _ | refine blk_drew ?_ | refine blk_alloc ?_ _)); exact BK197.out) hb); have n1_ := Aside0.mk (below_step (by repeat (first | (with_reducible first | exact HB.out | apply below_alloc | apply pw_below_drewN | apply below_drew1 | refine below_set ?_ GE197.out) | exact HB.out)) hb); have n2_ := Aside0.mk (hbox); have n3_ := Aside0.mk ((by rw [hg]; exact (below_size (by repeat (first | (with_reducible first | exact HB.out | apply below_alloc | apply pw_below_drewN | apply below_drew1 | refine below_set ?_ GE197.out) | exact HB.out))) : w.heap.size ≤ gb198)); have n4_ := Aside0.mk ((by rw [hg]; exact (below_size (by repeat (first | (with_reducible first | exact HB.out | apply below_alloc | apply pw_below_drewN | apply below_drew1 | refine below_set ?_ GE197.out) | exact HB.out))) : w.heap.size ≤ gb198)); have n5_ := Aside0.mk ((by rw [hg]; exact Nat.ne_of_lt (blk_lt (g := gb197) (o := .cells #[.string a0_0, .string a0_1] 34 (0, 0)) (by (with_reducible repeat (first | refine blk_drewN ?_ _ | refine blk_drew ?_ | refine blk_alloc ?_ _)); exact BK197.out)) : gb197 ≠ gb198)); have n6_ := Aside0.mk ((by rw [hg]; exact Nat.ne_of_gt (blk_lt (g := gb197) (o := .cells #[.string a0_0, .string a0_1] 34 (0, 0)) (by (with_reducible repeat (first | refine blk_drewN ?_ _ | refine blk_drew ?_ | refine blk_alloc ?_ _)); exact BK197.out)) : gb198 ≠ gb197)); clear BK197; clear HB; have BK197 := n0_; have HB := n1_; have BK198 := n2_; have GW198 := n3_; have GE198 := n4_; have NB197_198 := n5_; have NB198_197 := n6_; clear n0_ n1_ n2_ n3_ n4_ n5_ n6_; clear hb hbox hg; have hnb6 := NB197_198.out; have hnc6 := NB198_197.out; have hcz7_0 : w5.cell? ⟨gb197, 0, none⟩ = some (.string a0_0) := (blk_cell BK197.out 0).trans rfl; have hcz7_1 : w5.cell? ⟨gb197, 1, none⟩ = some (.string a0_1) := (blk_cell BK197.out 1).trans rfl; have hfz7_0 := blk_frozen BK197.out 0; have hfz7_1 := blk_frozen BK197.out 1; have hcz8_0 : w5.cell? ⟨gb198, 0, none⟩ = some (.string a1_0) := (blk_cell BK198.out 0).trans rfl; have hcz8_1 : w5.cell? ⟨gb198, 1, none⟩ = some (.string a1_1) := (blk_cell BK198.out 1).trans rfl; have hfz8_0 := blk_frozen BK198.out 0; have hfz8_1 := blk_frozen BK198.out 1))
    go_ret
    exact ⟨by first | rfl | (simp [errW_none, errW_some] <;> rfl) | (simp [*, errW_none, errW_some] <;> rfl), by repeat (first | (with_reducible first | exact HB.out | apply below_alloc | apply pw_below_drewN | apply below_drew1 | refine below_set ?_ GE197.out | refine below_set ?_ GE198.out) | exact HB.out)⟩
  · rw [if_neg c3] at H
    have c3b0 : (a0_0.toList == a1_0.toList && (a0_1.toList == a1_1.toList)) = false := by simpa using c3
    (try (have c3b1 : decide (a0_0.toList = a1_0.toList && (a0_1.toList == a1_1.toList)) = false := by simpa using c3))
    (try (have c3b2 : (a0_0.toList == a1_0.toList && (a0_1.toList == a1_1.toList)) = false := by simpa using c3))
    (try (have c3b3 : ¬ (a0_0.toList = a1_0.toList && (a0_1.toList == a1_1.toList)) := by simpa using c3))
    clear c3
    replace H := Option.bind_eq_some_iff.mp H
    obtain ⟨⟨t199, t200⟩, A90, H⟩ := H
    replace H : ((octet_Cmp.f a0_0 a1_0).bind fun t201 => ((cmp_Or_int.f k (([t201, t199] : List Int))).bind fun t205 => (some t205))) = some r := H
    have A9 := Aside0.mk A90
    clear A90
    replace H := Option.bind_eq_some_iff.mp H
    obtain ⟨t201, A100, H⟩ := H
    replace H : ((cmp_Or_int.f k (([t201, t199] : List Int))).bind fun t205 => (some t205)) = some r := H
    have A10 := Aside0.mk A100
    clear A100
    obtain ⟨y202, hy202⟩ : ∃ y_ : List Int, y_ = (([t201, t199] : List Int)) := ⟨_, rfl⟩
    replace H : ((cmp_Or_int.f k y202).bind fun t205 => (some t205)) = some r := by first | (rw [hy202]; with_reducible exact H) | (have H2_ := (Option.bind_some _ _).symm.trans H; rw [hy202]; with_reducible exact H2_) | (have H2_ := (Option.bind_some _ _).symm.trans H; with_reducible exact H2_) | with_reducible exact H | (rw [hy202]; exact H) | exact H
    have Ny202 := Aside0.mk hy202
    clear hy202
    replace H := Option.bind_eq_some_iff.mp H
    obtain ⟨t205, A110, H⟩ := H
    replace H : (some t205) = some r := H
    have A11 := Aside0.mk A110
    clear A110
    obtain rfl := Option.some.inj H
    go_enter Tryz.func78, Tryz.ntmps78
    go_wp2_with (first | ((with_reducible refine gate_dst (N := 2) rfl ?_); refine box_event ?hg (N := 2) ?hd (cs := #[.string a0_0, .string a0_1]) (t := 34) ?hr ?_; (case hd => rfl); (case hg => rfl); (case hr => first | (go_simp; done) | (go_simp; rfl)); intro gb197 hg w12 hbox hb; have n0_ := Aside0.mk (below_step (by repeat (first | (with_reducible first | exact HB.out | apply below_alloc | apply pw_below_drewN | apply below_drew1) | exact HB.out)) hb); have n1_ := Aside0.mk (hbox); have n2_ := Aside0.mk ((by rw [hg]; exact (below_size (by repeat (first | (with_reducible first | exact HB.out | apply below_alloc | apply pw_below_drewN | apply below_drew1) | exact HB.out))) : w.heap.size ≤ gb197)); have n3_ := Aside0.mk ((by rw [hg]; exact (below_size (by repeat (first | (with_reducible first | exact HB.out | apply below_alloc | apply pw_below_drewN | apply below_drew1) | exact HB.out))) : w.heap.size ≤ gb197)); clear HB; have HB := n0_; have BK197 := n1_; have GW197 := n2_; have GE197 := n3_; clear n0_ n1_ n2_ n3_; clear hb hbox hg) | ((with_reducible refine gate_dst (N := 3) rfl ?_); refine box_event ?hg (N := 3) ?hd (cs := #[.string a1_0, .string a1_1]) (t := 34) ?hr ?_; (case hd => rfl); (case hg => rfl); (case hr => first | (go_simp; done) | (go_simp; rfl)); intro gb198 hg w13 hbox hb; have n0_ := Aside0.mk (blk_below (g := gb197) (o := .cells #[.string a0_0, .string a0_1] 34 (0, 0)) (by (with_reducible repeat (first | refine blk_drewN ?_ _ | refine blk_drew ?_ | refine blk_alloc ?_ _)); exact BK197.out) hb); have n1_ := Aside0.mk (below_step (by repeat (first | (with_reducible first | exact HB.out | apply below_alloc | apply pw_below_drewN | apply below_drew1 | refine below_set ?_ GE197.out) | exact HB.out)) hb); have n2_ := Aside0.mk (hbox); have n3_ := Aside0.mk ((by rw [hg]; exact (below_size (by repeat (first | (with_reducible first | exact HB.out | apply below_alloc | apply pw_below_drewN | apply below_drew1 | refine below_set ?_ GE197.out) | exact HB.out))) : w.heap.size ≤ gb198)); have n4_ := Aside0.mk ((by rw [hg]; exact (below_size (by repeat (first | (with_reducible first | exact HB.out | apply below_alloc | apply pw_below_drewN | apply below_drew1 | refine below_set ?_ GE197.out) | exact HB.out))) : w.heap.size ≤ gb198)); have n5_ := Aside0.mk ((by rw [hg]; exact Nat.ne_of_lt (blk_lt (g := gb197) (o := .cells #[.string a0_0, .string a0_1] 34 (0, 0)) (by (with_reducible repeat (first | refine blk_drewN ?_ _ | refine blk_drew ?_ | refine blk_alloc ?_ _)); exact BK197.out)) : gb197 ≠ gb198)); have n6_ := Aside0.mk ((by rw [hg]; exact Nat.ne_of_gt (blk_lt (g := gb197) (o := .cells #[.string a0_0, .string a0_1] 34 (0, 0)) (by (with_reducible repeat (first | refine blk_drewN ?_ _ | refine blk_drew ?_ | refine blk_alloc ?_ _)); exact BK197.out)) : gb198 ≠ gb197)); clear BK197; clear HB; have BK197 := n0_; have HB := n1_; have BK198 := n2_; have GW198 := n3_; have GE198 := n4_; have NB197_198 := n5_; have NB198_197 := n6_; clear n0_ n1_ n2_ n3_ n4_ n5_ n6_; clear hb hbox hg; have hnb14 := NB197_198.out; have hnc14 := NB198_197.out; have hcz15_0 : w13.cell? ⟨gb197, 0, none⟩ = some (.string a0_0) := (blk_cell BK197.out 0).trans rfl; have hcz15_1 : w13.cell? ⟨gb197, 1, none⟩ = some (.string a0_1) := (blk_cell BK197.out 1).trans rfl; have hfz15_0 := blk_frozen BK197.out 0; have hfz15_1 := blk_frozen BK197.out 1; have hcz16_0 : w13.cell? ⟨gb198, 0, none⟩ = some (.string a1_0) := (blk_cell BK198.out 0).trans rfl; have hcz16_1 : w13.cell? ⟨gb198, 1, none⟩ = some (.string a1_1) := (blk_cell BK198.out 1).trans rfl; have hfz16_0 := blk_frozen BK198.out 0; have hfz16_1 := blk_frozen BK198.out 1) | ((with_reducible refine gate_callee (f := 91) rfl ?_); refine goesL_ (some 15) rfl rfl Tryz.func91 (by kernel_rfl) rfl #[.string a0_1, .string a1_1] rfl (by (try simp only [List.map_toArray, List.map_cons, List.map_nil]); first | done | rfl | (simp only [List.length_drop, List.length_take]; rfl)) ?_; (with_reducible refine (version_Cmp.calls a0_1 a1_1 t199 t200 _ A9.out).mono ?_); rintro e w17 ⟨rfl, hb⟩; refine ⟨_, rfl, ?_⟩; have n0_ := Aside0.mk (blk_below (g := gb197) (o := .cells #[.string a0_0, .string a0_1] 34 (0, 0)) (by (with_reducible repeat (first | refine blk_drewN ?_ _ | refine blk_drew ?_ | refine blk_alloc ?_ _)); exact BK197.out) hb); have n1_ := Aside0.mk (blk_below (g := gb198) (o := .cells #[.string a1_0, .string a1_1] 34 (0, 0)) (by (with_reducible repeat (first | refine blk_drewN ?_ _ | refine blk_drew ?_ | refine blk_alloc ?_ _)); exact BK198.out) hb); have n2_ := Aside0.mk (below_step (by repeat (first | (with_reducible first | exact HB.out | apply below_alloc | apply pw_below_drewN | apply below_drew1 | refine below_set ?_ GE197.out | refine below_set ?_ GE198.out) | exact HB.out)) hb); clear BK197; clear BK198; clear HB; have BK197 := n0_; have BK198 := n1_; have HB := n2_; clear n0_ n1_ n2_; (try clear hb); (try clear hb2); (try clear hk); (try clear hi); have hcz18_0 : w17.cell? ⟨gb197, 0, none⟩ = some (.string a0_0) := (blk_cell BK197.out 0).trans rfl; have hcz18_1 : w17.cell? ⟨gb197, 1, none⟩ = some (.string a0_1) := (blk_cell BK197.out 1).trans rfl; have hfz18_0 := blk_frozen BK197.out 0; have hfz18_1 := blk_frozen BK197.out 1; have hcz19_0 : w17.cell? ⟨gb198, 0, none⟩ = some (.string a1_0) := (blk_cell BK198.out 0).trans rfl; have hcz19_1 : w17.cell? ⟨gb198, 1, none⟩ = some (.string a1_1) := (blk_cell BK198.out 1).trans rfl; have hfz19_0 := blk_frozen BK198.out 0; have hfz19_1 := blk_frozen BK198.out 1) | ((with_reducible refine gate_callee (f := 93) rfl ?_); refine goesL_ (some 22) rfl rfl Tryz.func93 (by kernel_rfl) rfl #[.string a0_0, .string a1_0] rfl (by (try simp only [List.map_toArray, List.map_cons, List.map_nil]); first | done | rfl | (simp only [List.length_drop, List.length_take]; rfl)) ?_; (with_reducible refine (octet_Cmp.calls a0_0 a1_0 t201 _ A10.out).mono ?_); rintro e w' ⟨rfl, ⟨nd, rfl⟩⟩; refine ⟨_, rfl, ?_⟩) | ((with_reducible refine gate_dst (N := 24) rfl ?_); refine Kd.R_lit (Kd.int .i64) _ 3 ?hg (N := 24) ?hd (xs := ([t201, t199] : List Int)) (inner := [.int .i64 t201, .int .i64 t199]) (ok := fun _ => True) (okp := fun _ => True) ?hr ?hp (fun _ hk => hk) trivial (Below.refl _ _) (Nat.le_refl _) (by simp) ?_; (case hd => rfl); (case hg => rfl); (case hr => first | (go_simp; done) | (go_simp; rfl)); (case hp => exact (Reps.one (show Kd.M (Kd.int .i64) _ _ _ t201 [.int .i64 t201] from rfl) (Reps.one (show Kd.M (Kd.int .i64) _ _ _ t199 [.int .i64 t199] from rfl) (Reps.none _ _)))); intro v203 w20 ho21 hb hg_ hnew_; clear hg_ hnew_; (first | rw [← Ny202.out] at ho21 | (simp only [Int.reduceToNat] at ho21; rw [← Ny202.out] at ho21)); have n0_ := Aside0.mk (Kd.R_lower ho21 (below_size (by repeat (first | (with_reducible first | exact HB.out | apply below_alloc | apply pw_below_drewN | apply below_drew1 | refine below_set ?_ GE197.out | refine below_set ?_ GE198.out) | exact HB.out)))); have n1_ := Aside0.mk (blk_below (g := gb197) (o := .cells #[.string a0_0, .string a0_1] 34 (0, 0)) (by (with_reducible repeat (first | refine blk_drewN ?_ _ | refine blk_drew ?_ | refine blk_alloc ?_ _)); exact BK197.out) hb); have n2_ := Aside0.mk (blk_below (g := gb198) (o := .cells #[.string a1_0, .string a1_1] 34 (0, 0)) (by (with_reducible repeat (first | refine blk_drewN ?_ _ | refine blk_drew ?_ | refine blk_alloc ?_ _)); exact BK198.out) hb); have n3_ := Aside0.mk (below_step (by repeat (first | (with_reducible first | exact HB.out | apply below_alloc | apply pw_below_drewN | apply below_drew1 | refine below_set ?_ GE197.out | refine below_set ?_ GE198.out) | exact HB.out)) hb); clear BK197; clear BK198; clear HB; have HO204 := n0_; have BK197 := n1_; have BK198 := n2_; have HB := n3_; clear n0_ n1_ n2_ n3_; clear hb ho21; obtain ⟨Ao22, co22, eo22⟩ := Kd.R_slice HO204.out; subst eo22) | ((with_reducible refine gate_callee (f := 92) rfl ?_); refine goesL_ (some 25) rfl rfl Tryz.func92 (by kernel_rfl) rfl #[.slice Ao22 y202.length co22] rfl (by (try simp only [List.map_toArray, List.map_cons, List.map_nil]); first | done | rfl | (simp only [List.length_drop, List.length_take]; rfl)) ?_; (with_reducible refine (cmp_Or_int.calls k _ _ y202 t205 _ ?side1 ?side2 A11.out).mono ?_); (case side1 => repeat (first | exact (Kd.R_reads' HO204.out).2.2 | (with_reducible refine Kd.C_alloc ?_ _) | (with_reducible refine Kd.C_drewN ?_ _) | (with_reducible refine Kd.C_drew ?_))); (case side2 => exact (Kd.R_reads' HO204.out).2.1); rintro e w' ⟨rfl, ⟨nd, rfl⟩⟩; refine ⟨_, rfl, ?_⟩))
    go_ret
    exact ⟨by first | rfl | (simp [errW_none, errW_some] <;> rfl) | (simp [*, errW_none, errW_some] <;> rfl), by repeat (first | (with_reducible first | exact HB.out | apply below_alloc | apply pw_below_drewN | apply below_drew1 | refine below_set ?_ GE197.out | refine below_set ?_ GE198.out) | exact HB.out)⟩
def node_Cmp.f (k : Nat) (a0_0 : ByteArray) (a0_1 : ByteArray) (a1_0 : ByteArray) (a1_1 : ByteArray) : Option (Int × Int) := (node_May.f k a0_0 a0_1).bind fun t208 => (if t208 = true then ((node_May.f k a1_0 a1_1).bind fun t209 => (if t209 = true then ((node_order.f k a0_0 a0_1 a1_0 a1_1).bind fun t210 => (some (t210, 0))) else (some (0, 1)))) else (some (0, 1)))
set_option maxHeartbeats 8000000 in
set_option maxRecDepth 100000 in
theorem node_Cmp.calls (k : Nat) (a0_0 : ByteArray) (a0_1 : ByteArray) (a1_0 : ByteArray) (a1_1 : ByteArray) (r1 : Int) (r2 : Int) (w : World) (h : node_Cmp.f k a0_0 a0_1 a1_0 a1_1 = some (r1, r2)) :
    Calls Tryz.prog 65 #[.agg #[.string a0_0, .string a0_1], .agg #[.string a1_0, .string a1_1]] w fun e w' => e = .returned (.tuple #[.int .i64 r1, .int .i64 r2]) ∧ Below w.heap.size w w' := by
  have hu34 := Tryz.underlying34
  have HB := Aside0.mk (Below.refl w.heap.size w)
  have H : ((node_May.f k a0_0 a0_1).bind fun t208 => (if t208 = true then ((node_May.f k a1_0 a1_1).bind fun t209 => (if t209 = true then ((node_order.f k a0_0 a0_1 a1_0 a1_1).bind fun t210 => (some (t210, 0))) else (some (0, 1)))) else (some (0, 1)))) = some (r1, r2) := h
  clear h
  replace H := Option.bind_eq_some_iff.mp H
  obtain ⟨t208, A30, H⟩ := H
  replace H : (if t208 = true then ((node_May.f k a1_0 a1_1).bind fun t209 => (if t209 = true then ((node_order.f k a0_0 a0_1 a1_0 a1_1).bind fun t210 => (some (t210, 0))) else (some (0, 1)))) else (some (0, 1))) = some (r1, r2) := H
  have A3 := Aside0.mk A30
  clear A30
  by_cases c4 : t208 = true
  · subst c4
    have H1 : ((node_May.f k a1_0 a1_1).bind fun t209 => (if t209 = true then ((node_order.f k a0_0 a0_1 a1_0 a1_1).bind fun t210 => (some (t210, 0))) else (some (0, 1)))) = some (r1, r2) := by rw [if_pos rfl] at H; exact H
    clear H
    have H := H1
    clear H1
    replace H := Option.bind_eq_some_iff.mp H
    obtain ⟨t209, A50, H⟩ := H
    replace H : (if t209 = true then ((node_order.f k a0_0 a0_1 a1_0 a1_1).bind fun t210 => (some (t210, 0))) else (some (0, 1))) = some (r1, r2) := H
    have A5 := Aside0.mk A50
    clear A50
    by_cases c6 : t209 = true
    · subst c6
      have H1 : ((node_order.f k a0_0 a0_1 a1_0 a1_1).bind fun t210 => (some (t210, 0))) = some (r1, r2) := by rw [if_pos rfl] at H; exact H
      clear H
      have H := H1
      clear H1
      replace H := Option.bind_eq_some_iff.mp H
      obtain ⟨t210, A70, H⟩ := H
      replace H : (some (t210, 0)) = some (r1, r2) := H
      have A7 := Aside0.mk A70
      clear A70
      simp only [Option.some.injEq, Prod.mk.injEq] at H
      obtain ⟨rfl, rfl⟩ := H
      go_enter Tryz.func65, Tryz.ntmps65
      go_wp2_with (first | ((with_reducible refine gate_dst (N := 2) rfl ?_); refine box_event ?hg (N := 2) ?hd (cs := #[.string a0_0, .string a0_1]) (t := 34) ?hr ?_; (case hd => rfl); (case hg => rfl); (case hr => first | (go_simp; done) | (go_simp; rfl)); intro gb206 hg w8 hbox hb; have n0_ := Aside0.mk (below_step (by repeat (first | (with_reducible first | exact HB.out | apply below_alloc | apply pw_below_drewN | apply below_drew1) | exact HB.out)) hb); have n1_ := Aside0.mk (hbox); have n2_ := Aside0.mk ((by rw [hg]; exact (below_size (by repeat (first | (with_reducible first | exact HB.out | apply below_alloc | apply pw_below_drewN | apply below_drew1) | exact HB.out))) : w.heap.size ≤ gb206)); have n3_ := Aside0.mk ((by rw [hg]; exact (below_size (by repeat (first | (with_reducible first | exact HB.out | apply below_alloc | apply pw_below_drewN | apply below_drew1) | exact HB.out))) : w.heap.size ≤ gb206)); clear HB; have HB := n0_; have BK206 := n1_; have GW206 := n2_; have GE206 := n3_; clear n0_ n1_ n2_ n3_; clear hb hbox hg) | ((with_reducible refine gate_dst (N := 3) rfl ?_); refine box_event ?hg (N := 3) ?hd (cs := #[.string a1_0, .string a1_1]) (t := 34) ?hr ?_; (case hd => rfl); (case hg => rfl); (case hr => first | (go_simp; done) | (go_simp; rfl)); intro gb207 hg w9 hbox hb; have n0_ := Aside0.mk (blk_below (g := gb206) (o := .cells #[.string a0_0, .string a0_1] 34 (0, 0)) (by (with_reducible repeat (first | refine blk_drewN ?_ _ | refine blk_drew ?_ | refine blk_alloc ?_ _)); exact BK206.out) hb); have n1_ := Aside0.mk (below_step (by repeat (first | (with_reducible first | exact HB.out | apply below_alloc | apply pw_below_drewN | apply below_drew1 | refine below_set ?_ GE206.out) | exact HB.out)) hb); have n2_ := Aside0.mk (hbox); have n3_ := Aside0.mk ((by rw [hg]; exact (below_size (by repeat (first | (with_reducible first | exact HB.out | apply below_alloc | apply pw_below_drewN | apply below_drew1 | refine below_set ?_ GE206.out) | exact HB.out))) : w.heap.size ≤ gb207)); have n4_ := Aside0.mk ((by rw [hg]; exact (below_size (by repeat (first | (with_reducible first | exact HB.out | apply below_alloc | apply pw_below_drewN | apply below_drew1 | refine below_set ?_ GE206.out) | exact HB.out))) : w.heap.size ≤ gb207)); have n5_ := Aside0.mk ((by rw [hg]; exact Nat.ne_of_lt (blk_lt (g := gb206) (o := .cells #[.string a0_0, .string a0_1] 34 (0, 0)) (by (with_reducible repeat (first | refine blk_drewN ?_ _ | refine blk_drew ?_ | refine blk_alloc ?_ _)); exact BK206.out)) : gb206 ≠ gb207)); have n6_ := Aside0.mk ((by rw [hg]; exact Nat.ne_of_gt (blk_lt (g := gb206) (o := .cells #[.string a0_0, .string a0_1] 34 (0, 0)) (by (with_reducible repeat (first | refine blk_drewN ?_ _ | refine blk_drew ?_ | refine blk_alloc ?_ _)); exact BK206.out)) : gb207 ≠ gb206)); clear BK206; clear HB; have BK206 := n0_; have HB := n1_; have BK207 := n2_; have GW207 := n3_; have GE207 := n4_; have NB206_207 := n5_; have NB207_206 := n6_; clear n0_ n1_ n2_ n3_ n4_ n5_ n6_; clear hb hbox hg; have hnb10 := NB206_207.out; have hnc10 := NB207_206.out; have hcz11_0 : w9.cell? ⟨gb206, 0, none⟩ = some (.string a0_0) := (blk_cell BK206.out 0).trans rfl; have hcz11_1 : w9.cell? ⟨gb206, 1, none⟩ = some (.string a0_1) := (blk_cell BK206.out 1).trans rfl; have hfz11_0 := blk_frozen BK206.out 0; have hfz11_1 := blk_frozen BK206.out 1) | ((with_reducible refine gate_callee (f := 45) rfl ?_); refine goesL_ (some 7) rfl rfl Tryz.func45 (by kernel_rfl) rfl #[.agg #[.string a0_0, .string a0_1]] rfl (by (try simp only [List.map_toArray, List.map_cons, List.map_nil]); first | done | rfl | (simp only [List.length_drop, List.length_take]; rfl)) ?_; (with_reducible refine (node_May.calls k a0_0 a0_1 true _ A3.out).mono ?_); rintro e w12 ⟨rfl, hb⟩; refine ⟨_, rfl, ?_⟩; have n0_ := Aside0.mk (blk_below (g := gb206) (o := .cells #[.string a0_0, .string a0_1] 34 (0, 0)) (by (with_reducible repeat (first | refine blk_drewN ?_ _ | refine blk_drew ?_ | refine blk_alloc ?_ _)); exact BK206.out) hb); have n1_ := Aside0.mk (blk_below (g := gb207) (o := .cells #[.string a1_0, .string a1_1] 34 (0, 0)) (by (with_reducible repeat (first | refine blk_drewN ?_ _ | refine blk_drew ?_ | refine blk_alloc ?_ _)); exact BK207.out) hb); have n2_ := Aside0.mk (below_step (by repeat (first | (with_reducible first | exact HB.out | apply below_alloc | apply pw_below_drewN | apply below_drew1 | refine below_set ?_ GE206.out | refine below_set ?_ GE207.out) | exact HB.out)) hb); clear BK206; clear BK207; clear HB; have BK206 := n0_; have BK207 := n1_; have HB := n2_; clear n0_ n1_ n2_; (try clear hb); (try clear hb2); (try clear hk); (try clear hi); have hcz13_0 : w12.cell? ⟨gb207, 0, none⟩ = some (.string a1_0) := (blk_cell BK207.out 0).trans rfl; have hcz13_1 : w12.cell? ⟨gb207, 1, none⟩ = some (.string a1_1) := (blk_cell BK207.out 1).trans rfl; have hfz13_0 := blk_frozen BK207.out 0; have hfz13_1 := blk_frozen BK207.out 1) | (go_at_call 45; (with_reducible refine (node_May.calls k a1_0 a1_1 true _ A5.out).mono ?_); rintro e w14 ⟨rfl, hb⟩; have n0_ := Aside0.mk (blk_below (g := gb206) (o := .cells #[.string a0_0, .string a0_1] 34 (0, 0)) (by (with_reducible repeat (first | refine blk_drewN ?_ _ | refine blk_drew ?_ | refine blk_alloc ?_ _)); exact BK206.out) hb); have n1_ := Aside0.mk (blk_below (g := gb207) (o := .cells #[.string a1_0, .string a1_1] 34 (0, 0)) (by (with_reducible repeat (first | refine blk_drewN ?_ _ | refine blk_drew ?_ | refine blk_alloc ?_ _)); exact BK207.out) hb); have n2_ := Aside0.mk (below_step (by repeat (first | (with_reducible first | exact HB.out | apply below_alloc | apply pw_below_drewN | apply below_drew1 | refine below_set ?_ GE206.out | refine below_set ?_ GE207.out) | exact HB.out)) hb); clear BK206; clear BK207; clear HB; have BK206 := n0_; have BK207 := n1_; have HB := n2_; clear n0_ n1_ n2_; (try clear hb); (try clear hb2); (try clear hk); (try clear hi); have hcz15_0 : w14.cell? ⟨gb206, 0, none⟩ = some (.string a0_0) := (blk_cell BK206.out 0).trans rfl; have hcz15_1 : w14.cell? ⟨gb206, 1, none⟩ = some (.string a0_1) := (blk_cell BK206.out 1).trans rfl; have hfz15_0 := blk_frozen BK206.out 0; have hfz15_1 := blk_frozen BK206.out 1; have hcz16_0 : w14.cell? ⟨gb207, 0, none⟩ = some (.string a1_0) := (blk_cell BK207.out 0).trans rfl; have hcz16_1 : w14.cell? ⟨gb207, 1, none⟩ = some (.string a1_1) := (blk_cell BK207.out 1).trans rfl; have hfz16_0 := blk_frozen BK207.out 0; have hfz16_1 := blk_frozen BK207.out 1) | ((with_reducible refine gate_callee (f := 78) rfl ?_); refine goesL_ (some 16) rfl rfl Tryz.func78 (by kernel_rfl) rfl #[.agg #[.string a0_0, .string a0_1], .agg #[.string a1_0, .string a1_1]] rfl (by (try simp only [List.map_toArray, List.map_cons, List.map_nil]); first | done | rfl | (simp only [List.length_drop, List.length_take]; rfl)) ?_; (with_reducible refine (node_order.calls k a0_0 a0_1 a1_0 a1_1 t210 _ A7.out).mono ?_); rintro e w17 ⟨rfl, hb⟩; refine ⟨_, rfl, ?_⟩; have n0_ := Aside0.mk (blk_below (g := gb206) (o := .cells #[.string a0_0, .string a0_1] 34 (0, 0)) (by (with_reducible repeat (first | refine blk_drewN ?_ _ | refine blk_drew ?_ | refine blk_alloc ?_ _)); exact BK206.out) hb); have n1_ := Aside0.mk (blk_below (g := gb207) (o := .cells #[.string a1_0, .string a1_1] 34 (0, 0)) (by (with_reducible repeat (first | refine blk_drewN ?_ _ | refine blk_drew ?_ | refine blk_alloc ?_ _)); exact BK207.out) hb); have n2_ := Aside0.mk (below_step (by repeat (first | (with_reducible first | exact HB.out | apply below_alloc | apply pw_below_drewN | apply below_drew1 | refine below_set ?_ GE206.out | refine below_set ?_ GE207.out) | exact HB.out)) hb); clear BK206; clear BK207; clear HB; have BK206 := n0_; have BK207 := n1_; have HB := n2_; clear n0_ n1_ n2_; (try clear hb); (try clear hb2); (try clear hk); (try clear hi)))
      go_ret2
      exact ⟨by first | rfl | (simp [errW_none, errW_some] <;> rfl) | (simp [*, errW_none, errW_some] <;> rfl), by repeat (first | (with_reducible first | exact HB.out | apply below_alloc | apply pw_below_drewN | apply below_drew1 | refine below_set ?_ GE206.out | refine below_set ?_ GE207.out) | exact HB.out)⟩
    · replace c6 := Bool.eq_false_iff.mpr c6
      subst c6
      have H1 : (some (0, 1)) = some (r1, r2) := by rw [if_neg (show ¬ (false = true) by decide)] at H; exact H
      clear H
      have H := H1
      clear H1
      simp only [Option.some.injEq, Prod.mk.injEq] at H
      obtain ⟨rfl, rfl⟩ := H
      go_enter Tryz.func65, Tryz.ntmps65
      go_wp2_with (first | ((with_reducible refine gate_dst (N := 2) rfl ?_); refine box_event ?hg (N := 2) ?hd (cs := #[.string a0_0, .string a0_1]) (t := 34) ?hr ?_; (case hd => rfl); (case hg => rfl); (case hr => first | (go_simp; done) | (go_simp; rfl)); intro gb206 hg w18 hbox hb; have n0_ := Aside0.mk (below_step (by repeat (first | (with_reducible first | exact HB.out | apply below_alloc | apply pw_below_drewN | apply below_drew1) | exact HB.out)) hb); have n1_ := Aside0.mk (hbox); have n2_ := Aside0.mk ((by rw [hg]; exact (below_size (by repeat (first | (with_reducible first | exact HB.out | apply below_alloc | apply pw_below_drewN | apply below_drew1) | exact HB.out))) : w.heap.size ≤ gb206)); have n3_ := Aside0.mk ((by rw [hg]; exact (below_size (by repeat (first | (with_reducible first | exact HB.out | apply below_alloc | apply pw_below_drewN | apply below_drew1) | exact HB.out))) : w.heap.size ≤ gb206)); clear HB; have HB := n0_; have BK206 := n1_; have GW206 := n2_; have GE206 := n3_; clear n0_ n1_ n2_ n3_; clear hb hbox hg) | ((with_reducible refine gate_dst (N := 3) rfl ?_); refine box_event ?hg (N := 3) ?hd (cs := #[.string a1_0, .string a1_1]) (t := 34) ?hr ?_; (case hd => rfl); (case hg => rfl); (case hr => first | (go_simp; done) | (go_simp; rfl)); intro gb207 hg w19 hbox hb; have n0_ := Aside0.mk (blk_below (g := gb206) (o := .cells #[.string a0_0, .string a0_1] 34 (0, 0)) (by (with_reducible repeat (first | refine blk_drewN ?_ _ | refine blk_drew ?_ | refine blk_alloc ?_ _)); exact BK206.out) hb); have n1_ := Aside0.mk (below_step (by repeat (first | (with_reducible first | exact HB.out | apply below_alloc | apply pw_below_drewN | apply below_drew1 | refine below_set ?_ GE206.out) | exact HB.out)) hb); have n2_ := Aside0.mk (hbox); have n3_ := Aside0.mk ((by rw [hg]; exact (below_size (by repeat (first | (with_reducible first | exact HB.out | apply below_alloc | apply pw_below_drewN | apply below_drew1 | refine below_set ?_ GE206.out) | exact HB.out))) : w.heap.size ≤ gb207)); have n4_ := Aside0.mk ((by rw [hg]; exact (below_size (by repeat (first | (with_reducible first | exact HB.out | apply below_alloc | apply pw_below_drewN | apply below_drew1 | refine below_set ?_ GE206.out) | exact HB.out))) : w.heap.size ≤ gb207)); have n5_ := Aside0.mk ((by rw [hg]; exact Nat.ne_of_lt (blk_lt (g := gb206) (o := .cells #[.string a0_0, .string a0_1] 34 (0, 0)) (by (with_reducible repeat (first | refine blk_drewN ?_ _ | refine blk_drew ?_ | refine blk_alloc ?_ _)); exact BK206.out)) : gb206 ≠ gb207)); have n6_ := Aside0.mk ((by rw [hg]; exact Nat.ne_of_gt (blk_lt (g := gb206) (o := .cells #[.string a0_0, .string a0_1] 34 (0, 0)) (by (with_reducible repeat (first | refine blk_drewN ?_ _ | refine blk_drew ?_ | refine blk_alloc ?_ _)); exact BK206.out)) : gb207 ≠ gb206)); clear BK206; clear HB; have BK206 := n0_; have HB := n1_; have BK207 := n2_; have GW207 := n3_; have GE207 := n4_; have NB206_207 := n5_; have NB207_206 := n6_; clear n0_ n1_ n2_ n3_ n4_ n5_ n6_; clear hb hbox hg; have hnb20 := NB206_207.out; have hnc20 := NB207_206.out; have hcz21_0 : w19.cell? ⟨gb206, 0, none⟩ = some (.string a0_0) := (blk_cell BK206.out 0).trans rfl; have hcz21_1 : w19.cell? ⟨gb206, 1, none⟩ = some (.string a0_1) := (blk_cell BK206.out 1).trans rfl; have hfz21_0 := blk_frozen BK206.out 0; have hfz21_1 := blk_frozen BK206.out 1) | ((with_reducible refine gate_callee (f := 45) rfl ?_); refine goesL_ (some 7) rfl rfl Tryz.func45 (by kernel_rfl) rfl #[.agg #[.string a0_0, .string a0_1]] rfl (by (try simp only [List.map_toArray, List.map_cons, List.map_nil]); first | done | rfl | (simp only [List.length_drop, List.length_take]; rfl)) ?_; (with_reducible refine (node_May.calls k a0_0 a0_1 true _ A3.out).mono ?_); rintro e w22 ⟨rfl, hb⟩; refine ⟨_, rfl, ?_⟩; have n0_ := Aside0.mk (blk_below (g := gb206) (o := .cells #[.string a0_0, .string a0_1] 34 (0, 0)) (by (with_reducible repeat (first | refine blk_drewN ?_ _ | refine blk_drew ?_ | refine blk_alloc ?_ _)); exact BK206.out) hb); have n1_ := Aside0.mk (blk_below (g := gb207) (o := .cells #[.string a1_0, .string a1_1] 34 (0, 0)) (by (with_reducible repeat (first | refine blk_drewN ?_ _ | refine blk_drew ?_ | refine blk_alloc ?_ _)); exact BK207.out) hb); have n2_ := Aside0.mk (below_step (by repeat (first | (with_reducible first | exact HB.out | apply below_alloc | apply pw_below_drewN | apply below_drew1 | refine below_set ?_ GE206.out | refine below_set ?_ GE207.out) | exact HB.out)) hb); clear BK206; clear BK207; clear HB; have BK206 := n0_; have BK207 := n1_; have HB := n2_; clear n0_ n1_ n2_; (try clear hb); (try clear hb2); (try clear hk); (try clear hi); have hcz23_0 : w22.cell? ⟨gb207, 0, none⟩ = some (.string a1_0) := (blk_cell BK207.out 0).trans rfl; have hcz23_1 : w22.cell? ⟨gb207, 1, none⟩ = some (.string a1_1) := (blk_cell BK207.out 1).trans rfl; have hfz23_0 := blk_frozen BK207.out 0; have hfz23_1 := blk_frozen BK207.out 1) | (go_at_call 45; (with_reducible refine (node_May.calls k a1_0 a1_1 false _ A5.out).mono ?_); rintro e w24 ⟨rfl, hb⟩; have n0_ := Aside0.mk (blk_below (g := gb206) (o := .cells #[.string a0_0, .string a0_1] 34 (0, 0)) (by (with_reducible repeat (first | refine blk_drewN ?_ _ | refine blk_drew ?_ | refine blk_alloc ?_ _)); exact BK206.out) hb); have n1_ := Aside0.mk (blk_below (g := gb207) (o := .cells #[.string a1_0, .string a1_1] 34 (0, 0)) (by (with_reducible repeat (first | refine blk_drewN ?_ _ | refine blk_drew ?_ | refine blk_alloc ?_ _)); exact BK207.out) hb); have n2_ := Aside0.mk (below_step (by repeat (first | (with_reducible first | exact HB.out | apply below_alloc | apply pw_below_drewN | apply below_drew1 | refine below_set ?_ GE206.out | refine below_set ?_ GE207.out) | exact HB.out)) hb); clear BK206; clear BK207; clear HB; have BK206 := n0_; have BK207 := n1_; have HB := n2_; clear n0_ n1_ n2_; (try clear hb); (try clear hb2); (try clear hk); (try clear hi)))
      go_ret2
      exact ⟨by first | rfl | (simp [errW_none, errW_some] <;> rfl) | (simp [*, errW_none, errW_some] <;> rfl), by repeat (first | (with_reducible first | exact HB.out | apply below_alloc | apply pw_below_drewN | apply below_drew1 | refine below_set ?_ GE206.out | refine below_set ?_ GE207.out) | exact HB.out)⟩
  · replace c4 := Bool.eq_false_iff.mpr c4
    subst c4
    have H1 : (some (0, 1)) = some (r1, r2) := by rw [if_neg (show ¬ (false = true) by decide)] at H; exact H
    clear H
    have H := H1
    clear H1
    simp only [Option.some.injEq, Prod.mk.injEq] at H
    obtain ⟨rfl, rfl⟩ := H
    go_enter Tryz.func65, Tryz.ntmps65
    go_wp2_with (first | ((with_reducible refine gate_dst (N := 2) rfl ?_); refine box_event ?hg (N := 2) ?hd (cs := #[.string a0_0, .string a0_1]) (t := 34) ?hr ?_; (case hd => rfl); (case hg => rfl); (case hr => first | (go_simp; done) | (go_simp; rfl)); intro gb206 hg w25 hbox hb; have n0_ := Aside0.mk (below_step (by repeat (first | (with_reducible first | exact HB.out | apply below_alloc | apply pw_below_drewN | apply below_drew1) | exact HB.out)) hb); have n1_ := Aside0.mk (hbox); have n2_ := Aside0.mk ((by rw [hg]; exact (below_size (by repeat (first | (with_reducible first | exact HB.out | apply below_alloc | apply pw_below_drewN | apply below_drew1) | exact HB.out))) : w.heap.size ≤ gb206)); have n3_ := Aside0.mk ((by rw [hg]; exact (below_size (by repeat (first | (with_reducible first | exact HB.out | apply below_alloc | apply pw_below_drewN | apply below_drew1) | exact HB.out))) : w.heap.size ≤ gb206)); clear HB; have HB := n0_; have BK206 := n1_; have GW206 := n2_; have GE206 := n3_; clear n0_ n1_ n2_ n3_; clear hb hbox hg) | ((with_reducible refine gate_dst (N := 3) rfl ?_); refine box_event ?hg (N := 3) ?hd (cs := #[.string a1_0, .string a1_1]) (t := 34) ?hr ?_; (case hd => rfl); (case hg => rfl); (case hr => first | (go_simp; done) | (go_simp; rfl)); intro gb207 hg w26 hbox hb; have n0_ := Aside0.mk (blk_below (g := gb206) (o := .cells #[.string a0_0, .string a0_1] 34 (0, 0)) (by (with_reducible repeat (first | refine blk_drewN ?_ _ | refine blk_drew ?_ | refine blk_alloc ?_ _)); exact BK206.out) hb); have n1_ := Aside0.mk (below_step (by repeat (first | (with_reducible first | exact HB.out | apply below_alloc | apply pw_below_drewN | apply below_drew1 | refine below_set ?_ GE206.out) | exact HB.out)) hb); have n2_ := Aside0.mk (hbox); have n3_ := Aside0.mk ((by rw [hg]; exact (below_size (by repeat (first | (with_reducible first | exact HB.out | apply below_alloc | apply pw_below_drewN | apply below_drew1 | refine below_set ?_ GE206.out) | exact HB.out))) : w.heap.size ≤ gb207)); have n4_ := Aside0.mk ((by rw [hg]; exact (below_size (by repeat (first | (with_reducible first | exact HB.out | apply below_alloc | apply pw_below_drewN | apply below_drew1 | refine below_set ?_ GE206.out) | exact HB.out))) : w.heap.size ≤ gb207)); have n5_ := Aside0.mk ((by rw [hg]; exact Nat.ne_of_lt (blk_lt (g := gb206) (o := .cells #[.string a0_0, .string a0_1] 34 (0, 0)) (by (with_reducible repeat (first | refine blk_drewN ?_ _ | refine blk_drew ?_ | refine blk_alloc ?_ _)); exact BK206.out)) : gb206 ≠ gb207)); have n6_ := Aside0.mk ((by rw [hg]; exact Nat.ne_of_gt (blk_lt (g := gb206) (o := .cells #[.string a0_0, .string a0_1] 34 (0, 0)) (by (with_reducible repeat (first | refine blk_drewN ?_ _ | refine blk_drew ?_ | refine blk_alloc ?_ _)); exact BK206.out)) : gb207 ≠ gb206)); clear BK206; clear HB; have BK206 := n0_; have HB := n1_; have BK207 := n2_; have GW207 := n3_; have GE207 := n4_; have NB206_207 := n5_; have NB207_206 := n6_; clear n0_ n1_ n2_ n3_ n4_ n5_ n6_; clear hb hbox hg; have hnb27 := NB206_207.out; have hnc27 := NB207_206.out; have hcz28_0 : w26.cell? ⟨gb206, 0, none⟩ = some (.string a0_0) := (blk_cell BK206.out 0).trans rfl; have hcz28_1 : w26.cell? ⟨gb206, 1, none⟩ = some (.string a0_1) := (blk_cell BK206.out 1).trans rfl; have hfz28_0 := blk_frozen BK206.out 0; have hfz28_1 := blk_frozen BK206.out 1) | ((with_reducible refine gate_callee (f := 45) rfl ?_); refine goesL_ (some 7) rfl rfl Tryz.func45 (by kernel_rfl) rfl #[.agg #[.string a0_0, .string a0_1]] rfl (by (try simp only [List.map_toArray, List.map_cons, List.map_nil]); first | done | rfl | (simp only [List.length_drop, List.length_take]; rfl)) ?_; (with_reducible refine (node_May.calls k a0_0 a0_1 false _ A3.out).mono ?_); rintro e w29 ⟨rfl, hb⟩; refine ⟨_, rfl, ?_⟩; have n0_ := Aside0.mk (blk_below (g := gb206) (o := .cells #[.string a0_0, .string a0_1] 34 (0, 0)) (by (with_reducible repeat (first | refine blk_drewN ?_ _ | refine blk_drew ?_ | refine blk_alloc ?_ _)); exact BK206.out) hb); have n1_ := Aside0.mk (blk_below (g := gb207) (o := .cells #[.string a1_0, .string a1_1] 34 (0, 0)) (by (with_reducible repeat (first | refine blk_drewN ?_ _ | refine blk_drew ?_ | refine blk_alloc ?_ _)); exact BK207.out) hb); have n2_ := Aside0.mk (below_step (by repeat (first | (with_reducible first | exact HB.out | apply below_alloc | apply pw_below_drewN | apply below_drew1 | refine below_set ?_ GE206.out | refine below_set ?_ GE207.out) | exact HB.out)) hb); clear BK206; clear BK207; clear HB; have BK206 := n0_; have BK207 := n1_; have HB := n2_; clear n0_ n1_ n2_; (try clear hb); (try clear hb2); (try clear hk); (try clear hi)))
    go_ret2
    exact ⟨by first | rfl | (simp [errW_none, errW_some] <;> rfl) | (simp [*, errW_none, errW_some] <;> rfl), by repeat (first | (with_reducible first | exact HB.out | apply below_alloc | apply pw_below_drewN | apply below_drew1 | refine below_set ?_ GE206.out | refine below_set ?_ GE207.out) | exact HB.out)⟩
def diff_order.f (k : Nat) (a0_0 : ByteArray) (a0_1 : ByteArray) (a1_0 : ByteArray) (a1_1 : ByteArray) : Option (Int) := (node_Cmp.f k a0_0 a0_1 a1_0 a1_1).bind fun bt213 => (some bt213.1)
set_option maxHeartbeats 8000000 in
set_option maxRecDepth 100000 in
theorem diff_order.calls (k : Nat) (a0_0 : ByteArray) (a0_1 : ByteArray) (a1_0 : ByteArray) (a1_1 : ByteArray) (r : Int) (w : World) (h : diff_order.f k a0_0 a0_1 a1_0 a1_1 = some r) :
    Calls Tryz.prog 49 #[.agg #[.string a0_0, .string a0_1], .agg #[.string a1_0, .string a1_1]] w fun e w' => e = .returned (.int .i64 r) ∧ Below w.heap.size w w' := by
  have hu34 := Tryz.underlying34
  have HB := Aside0.mk (Below.refl w.heap.size w)
  have H : ((node_Cmp.f k a0_0 a0_1 a1_0 a1_1).bind fun bt213 => (some bt213.1)) = some r := h
  clear h
  replace H := Option.bind_eq_some_iff.mp H
  obtain ⟨⟨t213, t214⟩, A30, H⟩ := H
  replace H : (some t213) = some r := H
  have A3 := Aside0.mk A30
  clear A30
  obtain rfl := Option.some.inj H
  go_enter Tryz.func49, Tryz.ntmps49
  go_wp2_with (first | ((with_reducible refine gate_dst (N := 2) rfl ?_); refine box_event ?hg (N := 2) ?hd (cs := #[.string a0_0, .string a0_1]) (t := 34) ?hr ?_; (case hd => rfl); (case hg => rfl); (case hr => first | (go_simp; done) | (go_simp; rfl)); intro gb211 hg w4 hbox hb; have n0_ := Aside0.mk (below_step (by repeat (first | (with_reducible first | exact HB.out | apply below_alloc | apply pw_below_drewN | apply below_drew1) | exact HB.out)) hb); have n1_ := Aside0.mk (hbox); have n2_ := Aside0.mk ((by rw [hg]; exact (below_size (by repeat (first | (with_reducible first | exact HB.out | apply below_alloc | apply pw_below_drewN | apply below_drew1) | exact HB.out))) : w.heap.size ≤ gb211)); have n3_ := Aside0.mk ((by rw [hg]; exact (below_size (by repeat (first | (with_reducible first | exact HB.out | apply below_alloc | apply pw_below_drewN | apply below_drew1) | exact HB.out))) : w.heap.size ≤ gb211)); clear HB; have HB := n0_; have BK211 := n1_; have GW211 := n2_; have GE211 := n3_; clear n0_ n1_ n2_ n3_; clear hb hbox hg) | ((with_reducible refine gate_dst (N := 3) rfl ?_); refine box_event ?hg (N := 3) ?hd (cs := #[.string a1_0, .string a1_1]) (t := 34) ?hr ?_; (case hd => rfl); (case hg => rfl); (case hr => first | (go_simp; done) | (go_simp; rfl)); intro gb212 hg w5 hbox hb; have n0_ := Aside0.mk (blk_below (g := gb211) (o := .cells #[.string a0_0, .string a0_1] 34 (0, 0)) (by (with_reducible repeat (first | refine blk_drewN ?_ _ | refine blk_drew ?_ | refine blk_alloc ?_ _)); exact BK211.out) hb); have n1_ := Aside0.mk (below_step (by repeat (first | (with_reducible first | exact HB.out | apply below_alloc | apply pw_below_drewN | apply below_drew1 | refine below_set ?_ GE211.out) | exact HB.out)) hb); have n2_ := Aside0.mk (hbox); have n3_ := Aside0.mk ((by rw [hg]; exact (below_size (by repeat (first | (with_reducible first | exact HB.out | apply below_alloc | apply pw_below_drewN | apply below_drew1 | refine below_set ?_ GE211.out) | exact HB.out))) : w.heap.size ≤ gb212)); have n4_ := Aside0.mk ((by rw [hg]; exact (below_size (by repeat (first | (with_reducible first | exact HB.out | apply below_alloc | apply pw_below_drewN | apply below_drew1 | refine below_set ?_ GE211.out) | exact HB.out))) : w.heap.size ≤ gb212)); have n5_ := Aside0.mk ((by rw [hg]; exact Nat.ne_of_lt (blk_lt (g := gb211) (o := .cells #[.string a0_0, .string a0_1] 34 (0, 0)) (by (with_reducible repeat (first | refine blk_drewN ?_ _ | refine blk_drew ?_ | refine blk_alloc ?_ _)); exact BK211.out)) : gb211 ≠ gb212)); have n6_ := Aside0.mk ((by rw [hg]; exact Nat.ne_of_gt (blk_lt (g := gb211) (o := .cells #[.string a0_0, .string a0_1] 34 (0, 0)) (by (with_reducible repeat (first | refine blk_drewN ?_ _ | refine blk_drew ?_ | refine blk_alloc ?_ _)); exact BK211.out)) : gb212 ≠ gb211)); clear BK211; clear HB; have BK211 := n0_; have HB := n1_; have BK212 := n2_; have GW212 := n3_; have GE212 := n4_; have NB211_212 := n5_; have NB212_211 := n6_; clear n0_ n1_ n2_ n3_ n4_ n5_ n6_; clear hb hbox hg; have hnb6 := NB211_212.out; have hnc6 := NB212_211.out; have hcz7_0 : w5.cell? ⟨gb211, 0, none⟩ = some (.string a0_0) := (blk_cell BK211.out 0).trans rfl; have hcz7_1 : w5.cell? ⟨gb211, 1, none⟩ = some (.string a0_1) := (blk_cell BK211.out 1).trans rfl; have hfz7_0 := blk_frozen BK211.out 0; have hfz7_1 := blk_frozen BK211.out 1; have hcz8_0 : w5.cell? ⟨gb212, 0, none⟩ = some (.string a1_0) := (blk_cell BK212.out 0).trans rfl; have hcz8_1 : w5.cell? ⟨gb212, 1, none⟩ = some (.string a1_1) := (blk_cell BK212.out 1).trans rfl; have hfz8_0 := blk_frozen BK212.out 0; have hfz8_1 := blk_frozen BK212.out 1) | ((with_reducible refine gate_callee (f := 65) rfl ?_); refine goesL_ (some 10) rfl rfl Tryz.func65 (by kernel_rfl) rfl #[.agg #[.string a0_0, .string a0_1], .agg #[.string a1_0, .string a1_1]] rfl (by (try simp only [List.map_toArray, List.map_cons, List.map_nil]); first | done | rfl | (simp only [List.length_drop, List.length_take]; rfl)) ?_; (with_reducible refine (node_Cmp.calls k a0_0 a0_1 a1_0 a1_1 t213 t214 _ A3.out).mono ?_); rintro e w9 ⟨rfl, hb⟩; refine ⟨_, rfl, ?_⟩; have n0_ := Aside0.mk (blk_below (g := gb211) (o := .cells #[.string a0_0, .string a0_1] 34 (0, 0)) (by (with_reducible repeat (first | refine blk_drewN ?_ _ | refine blk_drew ?_ | refine blk_alloc ?_ _)); exact BK211.out) hb); have n1_ := Aside0.mk (blk_below (g := gb212) (o := .cells #[.string a1_0, .string a1_1] 34 (0, 0)) (by (with_reducible repeat (first | refine blk_drewN ?_ _ | refine blk_drew ?_ | refine blk_alloc ?_ _)); exact BK212.out) hb); have n2_ := Aside0.mk (below_step (by repeat (first | (with_reducible first | exact HB.out | apply below_alloc | apply pw_below_drewN | apply below_drew1 | refine below_set ?_ GE211.out | refine below_set ?_ GE212.out) | exact HB.out)) hb); clear BK211; clear BK212; clear HB; have BK211 := n0_; have BK212 := n1_; have HB := n2_; clear n0_ n1_ n2_; (try clear hb); (try clear hb2); (try clear hk); (try clear hi)))
  go_ret
  exact ⟨by first | rfl | (simp [errW_none, errW_some] <;> rfl) | (simp [*, errW_none, errW_some] <;> rfl), by repeat (first | (with_reducible first | exact HB.out | apply below_alloc | apply pw_below_drewN | apply below_drew1 | refine below_set ?_ GE211.out | refine below_set ?_ GE212.out) | exact HB.out)⟩
end Go.Proofs.YtohdmmafjpjmfaaGreatDoor.QB.D
end
section
namespace Go.Proofs.YtohdmmafjpjmfaaGreatDoor.Q
open Go.RowKit Go.Proofs.YtohdmmafjpjmfaaGreatDoorW.PrintWords Go.Proofs.YtohdmmafjpjmfaaGreatDoorW.PrintLast Go.Proofs.YtohdmmafjpjmfaaGreatDoorW.PrintMore Go.Proofs.YtohdmmafjpjmfaaGreatDoor.QB.D
theorem octet_Parts.calls (a0 : ByteArray) (a1 : Int) (r : List ByteArray) (w : World) (h : octet_Parts.f a0 a1 = some r) : Calls Tryz.prog 85 #[.string a0, .int .u8 a1] w fun e w' => ∃ v, e = .returned v ∧ Kd.R Kd.string 9 w' w.heap.size (fun _ => True) v r ∧ Below w.heap.size w w' :=
  (QB.D.octet_Parts.calls a0 a1 r w h).mono fun _ _ ⟨v, h1, h2, h3⟩ => ⟨v, h1, h2, h3.toBelow⟩
theorem octet_All.calls (a0 : ByteArray) (A0 : Option Addr) (c0 : Nat) (l0 : List Int) (r : Bool) (w : World) (hr0 : Kd.C (Kd.int .i64) w A0 l0.length l0) (hc0 : l0.length ≤ c0) (h : octet_All.f a0 l0 = some r) :
    Calls Tryz.prog 102 #[.string a0, .slice A0 l0.length c0] w fun e w' => e = .returned (.bool r) ∧ Below w.heap.size w w' :=
  (QB.D.octet_All.calls a0 A0 c0 l0 r w hr0 hc0 h).mono fun _ _ h => ⟨h.1, h.2.toBelow⟩
theorem path_element.calls (a0 : ByteArray) (r : Bool) (w : World) (h : path_element.f a0 = some r) : Calls Tryz.prog 86 #[.string a0] w fun e w' => e = .returned (.bool r) ∧ Below w.heap.size w w' :=
  (QB.D.path_element.calls a0 r w h).mono fun _ _ h => ⟨h.1, h.2.toBelow⟩
theorem path_Elements.calls (k : Nat) (a0 : ByteArray) (r1 : List ByteArray) (r2 : Int) (w : World) (h : path_Elements.f k a0 = some (r1, r2)) :
    Calls Tryz.prog 75 #[.string a0] w fun e w' => ∃ v0_ : Value, e = .returned (.tuple #[v0_, .int .i64 r2]) ∧ Kd.R Kd.string 9 w' w.heap.size (fun _ => True) v0_ r1 ∧ Below w.heap.size w w' :=
  (QB.D.path_Elements.calls k a0 r1 r2 w h).mono fun _ _ ⟨v, h1, h2, h3⟩ => ⟨v, h1, h2, h3.toBelow⟩
theorem path_May.calls (k : Nat) (a0 : ByteArray) (r : Bool) (w : World) (h : path_May.f k a0 = some r) :
    Calls Tryz.prog 61 #[.string a0] w fun e w' => e = .returned (.bool r) ∧ Below w.heap.size w w' :=
  (QB.D.path_May.calls k a0 r w h).mono fun _ _ h => ⟨h.1, h.2.toBelow⟩
theorem number_May.calls (a0 : ByteArray) (r : Bool) (w : World) (h : number_May.f a0 = some r) :
    Calls Tryz.prog 89 #[.string a0] w fun e w' => e = .returned (.bool r) ∧ Below w.heap.size w w' :=
  (QB.D.number_May.calls a0 r w h).mono fun _ _ h => ⟨h.1, h.2.toBelow⟩
theorem version_Split.calls (a0 : ByteArray) (r1 : ByteArray) (r2 : ByteArray) (r3 : ByteArray) (r4 : List ByteArray) (r5 : Int) (w : World) (h : version_Split.f a0 = some (r1, r2, r3, r4, r5)) :
    Calls Tryz.prog 76 #[.string a0] w fun e w' => ∃ v3_ : Value, e = .returned (.tuple #[.agg #[.string r1, .string r2, .string r3, v3_], .int .i64 r5]) ∧ Kd.R Kd.string 9 w' w.heap.size (fun _ => True) v3_ r4 ∧ Below w.heap.size w w' :=
  (QB.D.version_Split.calls a0 r1 r2 r3 r4 r5 w h).mono fun _ _ ⟨v, h1, h2, h3⟩ => ⟨v, h1, h2, h3.toBelow⟩
theorem version_May.calls (a0 : ByteArray) (r : Bool) (w : World) (h : version_May.f a0 = some r) :
    Calls Tryz.prog 62 #[.string a0] w fun e w' => e = .returned (.bool r) ∧ Below w.heap.size w w' :=
  (QB.D.version_May.calls a0 r w h).mono fun _ _ h => ⟨h.1, h.2.toBelow⟩
theorem node_May.calls (k : Nat) (a0_0 : ByteArray) (a0_1 : ByteArray) (r : Bool) (w : World) (h : node_May.f k a0_0 a0_1 = some r) :
    Calls Tryz.prog 45 #[.agg #[.string a0_0, .string a0_1]] w fun e w' => e = .returned (.bool r) ∧ Below w.heap.size w w' :=
  (QB.D.node_May.calls k a0_0 a0_1 r w h).mono fun _ _ h => ⟨h.1, h.2.toBelow⟩
theorem number_Cmp.calls (k : Nat) (a0 : ByteArray) (a1 : ByteArray) (r1 : Int) (r2 : Int) (w : World) (h : number_Cmp.f k a0 a1 = some (r1, r2)) :
    Calls Tryz.prog 116 #[.string a0, .string a1] w fun e w' => e = .returned (.tuple #[.int .i64 r1, .int .i64 r2]) ∧ Below w.heap.size w w' :=
  (QB.D.number_Cmp.calls k a0 a1 r1 r2 w h).mono fun _ _ h => ⟨h.1, h.2.toBelow⟩
theorem version_numbers.calls (k : Nat) (a0 : ByteArray) (a1 : ByteArray) (r : Int) (w : World) (h : version_numbers.f k a0 a1 = some r) :
    Calls Tryz.prog 104 #[.string a0, .string a1] w fun e w' => e = .returned (.int .i64 r) ∧ Below w.heap.size w w' :=
  (QB.D.version_numbers.calls k a0 a1 r w h).mono fun _ _ h => ⟨h.1, h.2.toBelow⟩
theorem version_words.calls (k : Nat) (a0 : ByteArray) (a1 : ByteArray) (r : Int) (w : World) (h : version_words.f k a0 a1 = some r) :
    Calls Tryz.prog 106 #[.string a0, .string a1] w fun e w' => e = .returned (.int .i64 r) ∧ Below w.heap.size w w' :=
  (QB.D.version_words.calls k a0 a1 r w h).mono fun _ _ h => ⟨h.1, h.2.toBelow⟩
theorem version_Cmp.calls (a0 a1 : ByteArray) (r1 r2 : Int) (w : World) (h : version_Cmp.f a0 a1 = some (r1, r2)) :
    Calls Tryz.prog 91 #[.string a0, .string a1] w fun e w' => e = .returned (.tuple #[.int .i64 r1, .int .i64 r2]) ∧ Below w.heap.size w w' :=
  (QB.D.version_Cmp.calls a0 a1 r1 r2 w h).mono fun _ _ h => ⟨h.1, h.2.toBelow⟩
theorem node_order.calls (k : Nat) (a0_0 : ByteArray) (a0_1 : ByteArray) (a1_0 : ByteArray) (a1_1 : ByteArray) (r : Int) (w : World) (h : node_order.f k a0_0 a0_1 a1_0 a1_1 = some r) :
    Calls Tryz.prog 78 #[.agg #[.string a0_0, .string a0_1], .agg #[.string a1_0, .string a1_1]] w fun e w' => e = .returned (.int .i64 r) ∧ Below w.heap.size w w' :=
  (QB.D.node_order.calls k a0_0 a0_1 a1_0 a1_1 r w h).mono fun _ _ h => ⟨h.1, h.2.toBelow⟩
theorem node_Cmp.calls (k : Nat) (a0_0 : ByteArray) (a0_1 : ByteArray) (a1_0 : ByteArray) (a1_1 : ByteArray) (r1 : Int) (r2 : Int) (w : World) (h : node_Cmp.f k a0_0 a0_1 a1_0 a1_1 = some (r1, r2)) :
    Calls Tryz.prog 65 #[.agg #[.string a0_0, .string a0_1], .agg #[.string a1_0, .string a1_1]] w fun e w' => e = .returned (.tuple #[.int .i64 r1, .int .i64 r2]) ∧ Below w.heap.size w w' :=
  (QB.D.node_Cmp.calls k a0_0 a0_1 a1_0 a1_1 r1 r2 w h).mono fun _ _ h => ⟨h.1, h.2.toBelow⟩
theorem diff_order.calls (k : Nat) (a0_0 : ByteArray) (a0_1 : ByteArray) (a1_0 : ByteArray) (a1_1 : ByteArray) (r : Int) (w : World) (h : diff_order.f k a0_0 a0_1 a1_0 a1_1 = some r) :
    Calls Tryz.prog 49 #[.agg #[.string a0_0, .string a0_1], .agg #[.string a1_0, .string a1_1]] w fun e w' => e = .returned (.int .i64 r) ∧ Below w.heap.size w w' :=
  (QB.D.diff_order.calls k a0_0 a0_1 a1_0 a1_1 r w h).mono fun _ _ h => ⟨h.1, h.2.toBelow⟩
end Go.Proofs.YtohdmmafjpjmfaaGreatDoor.Q
end
