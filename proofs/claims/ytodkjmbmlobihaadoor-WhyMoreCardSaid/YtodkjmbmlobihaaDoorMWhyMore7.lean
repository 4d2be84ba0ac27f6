/- Part 7 of this claim: several texts one behind the other: YMin, YDep, YChain. What each shows stands in its theorems; conditions: sizes of texts and lists, as the functions' definitions say. -/
import Derived.Test.YtodkjmbmlobihaaDoorVWhyMore
import Derived.Test.YtodkjmbmlobihaaDoorMWhyMore0
import Derived.Test.YtodkjmbmlobihaaDoorMWhyMore5
import Derived.Test.YtodkjmbmlobihaaDoorMWhyMore6
import Derived.Deep.RegionHeld3
import Derived.RegionTactic
import Derived.BigRegion
import Derived.ChangeAlike
import Derived.Deep.QuietTactic
import Derived.BigQuiet
import Derived.Lib.SliceRun
import Derived.Test.YtodkjmbmlobihaaDoorMWhyMore1
import Derived.Maps.OwnOps
import Derived.Test.YtodkjmbmlobihaaDoorMWhyMore3
section
namespace Go.Proofs.YtodkjmbmlobihaaDoor.Q
open Go.Proofs.YtodkjmbmlobihaaDoor.QB.D
open Go Go.RowKit Go.Lib Go.Proofs.YtodkjmbmlobihaaDoorW.PrintWords Go.Proofs.YtodkjmbmlobihaaDoorW.PrintLast Go.Proofs.YtodkjmbmlobihaaDoorW.PrintMore Gw
set_option linter.unusedVariables false
set_option linter.unusedSimpArgs false
def minL : List S24 → S24
  | [] => z24
  | x :: r => r.foldl (fun m y => if ordN y m < 0 then y else m) x
theorem minL_snoc (l : List S24) (h : l ≠ []) (y : S24) : minL (l ++ [y]) = if ordN y (minL l) < 0 then y else minL l := by
  cases l with
  | nil => exact absurd rfl h
  | cons x r => unfold minL; simp only [List.cons_append]; rw [List.foldl_append]; rfl
theorem minL_mem : ∀ (l : List S24), l ≠ [] → minL l ∈ l := by
  have h : ∀ (r : List S24) (x : S24), r.foldl (fun m y => if ordN y m < 0 then y else m) x ∈ x :: r := by
    intro r
    induction r with
    | nil => intro x; exact List.mem_cons_self
    | cons y r ih =>
      intro x
      rw [List.foldl_cons]
      split
      · exact List.mem_cons_of_mem _ (ih y)
      · rcases List.mem_cons.1 (ih x) with e | e
        · rw [e]; exact List.mem_cons_self
        · exact List.mem_cons_of_mem _ (List.mem_cons_of_mem _ e)
  intro l hl
  cases l with
  | nil => exact absurd rfl hl
  | cons x r => exact h r x
theorem whyorder_val (k : Nat) (x y : S24) (hx : Brief x) (hy : Brief y) (mx : mayN x = true) (my : mayN y = true) (hk : 500 ≤ k) : why_order.f k x.f0 x.f1 y.f0 y.f1 = some (ordN x y) := by
  unfold why_order.f
  rw [node_Cmp_val k x y hx hy hk]
  unfold cmpM
  rw [mx, my]
  rfl
theorem bel_on {W0 W W2 : World} {R : Prop} (h : Below W0.heap.size W0 W ∧ R) (hb : Below W.heap.size W W2) : Below W0.heap.size W0 W2 := h.1.trans (hb.mono h.1.size)
set_option maxHeartbeats 8000000 in
set_option maxRecDepth 100000 in
theorem minF_calls (A0 : Option Addr) (c0 : Nat) (l0 : List S24) (w : World) (hr0 : Kd.C k24 w A0 l0.length l0) (hl0 : l0.length ≤ 65536) (hb : ∀ x ∈ l0, Brief x ∧ mayN x = true) (hne : l0 ≠ []) :
    Calls Tryd.prog 20 #[.slice A0 l0.length c0, .func (.func 21) #[] #[]] w fun e w' => e = .returned (.agg #[.string (minL l0).f0, .string (minL l0).f1]) ∧ Below w.heap.size w w' := by
  have hu24 := Tryd.underlying24
  have HR0 := Aside0.mk hr0
  have HBB := Aside0.mk hb
  have hpos : 0 < l0.length := List.length_pos_iff.2 hne
  have hl1 : (l0.length : Int) ≤ 65536 := by omega
  have hp1 : decide (((l0.length : Nat) : Int) < 1) = false := decide_eq_false (by omega)
  have hp2 : (0 : Int) < ((l0.length : Nat) : Int) := by omega
  obtain ⟨ad, e0, hx0, hx1⟩ := at_T24 hr0 0 (by omega) (by omega)
  have hrd : rd_T24 l0 0 = l0[0] := by simp [rd_T24, List.getD_eq_getElem?_getD, List.getElem?_eq_getElem hpos]
  have ea : ad.add (Int.toNat 0 * 2) = ad := by show ad.add 0 = ad; unfold Addr.add; split <;> simp_all
  rw [hrd, ea] at hx0 hx1
  cases e0
  have y0 := fun o => Lib.cell?_alloc_some (W := w) o hx0
  have y1 := fun o => Lib.cell?_alloc_some (W := w) o hx1
  have hb0 := World.block_lt_of_cell? w _ hx0
  have hb1 := World.block_lt_of_cell? w _ hx1
  have hfirst : l0[0] = minL (l0.take 1) := by
    cases l0 with
    | nil => exact absurd rfl hne
    | cons x r => rfl
  have HF := Aside0.mk hfirst
  have HNE := Aside0.mk hne
  clear hr0 hb hrd hfirst hne hx0 hx1 ea
  go_enter Tryd.func20, Tryd.ntmps20
  go_wp2_with fail
  have HF2 := HF.out
  have HK4 : Aside0 (((w.alloc (.cells #[.string ⟨#[]⟩, .string ⟨#[]⟩] 24 (0, 0))).alloc (.cells #[.string l0[0].f0, .string l0[0].f1] 24 (0, 0))).heap[w.heap.size]? = some (.cells #[.string ⟨#[]⟩, .string ⟨#[]⟩] 24 (0, 0))) := ⟨blk_alloc (blk_new _ _) _⟩
  have HK5 : Aside0 (((w.alloc (.cells #[.string ⟨#[]⟩, .string ⟨#[]⟩] 24 (0, 0))).alloc (.cells #[.string l0[0].f0, .string l0[0].f1] 24 (0, 0))).heap[w.heap.size + 1]? = some (.cells #[.string (minL (l0.take 1)).f0, .string (minL (l0.take 1)).f1] 24 (0, 0))) := ⟨by rw [← HF2]; have h9 := blk_new (w.alloc (.cells #[.string ⟨#[]⟩, .string ⟨#[]⟩] 24 (0, 0))) (.cells #[.string l0[0].f0, .string l0[0].f1] 24 (0, 0)); simpa using h9⟩
  have HB0 : Aside0 (Below w.heap.size w ((w.alloc (.cells #[.string ⟨#[]⟩, .string ⟨#[]⟩] 24 (0, 0))).alloc (.cells #[.string l0[0].f0, .string l0[0].f1] 24 (0, 0)))) := ⟨below_alloc (below_alloc (Below.refl _ _) _) _⟩
  clear HF2 y0 y1 HF
  go_loopw [6] (fun v6 wr => ∃ i : Nat, 1 ≤ i ∧ i ≤ l0.length ∧ v6 = .int .i64 (i : Int) ∧ Aside0 (wr.heap[w.heap.size]? = some (.cells #[.string ⟨#[]⟩, .string ⟨#[]⟩] 24 (0, 0))) ∧ Aside0 (wr.heap[w.heap.size + 1]? = some (.cells #[.string (minL (l0.take i)).f0, .string (minL (l0.take i)).f1] 24 (0, 0))) ∧ Aside0 (Below w.heap.size w wr)) (fun v6 _ => l0.length - (RowKit.intOf v6).toNat)
  case atStart => exact ⟨1, by omega, by omega, rfl, HK4, HK5, HB0⟩
  case round =>
    clear HK4 HK5 HB0
    obtain ⟨i, hi1, hi, rfl, HK4, HK5, HB⟩ := hrel
    obtain ⟨m, hm⟩ : ∃ m, m = minL (l0.take i) := ⟨_, rfl⟩
    have hk5 := HK5.out
    rw [← hm] at hk5
    have HK6 := Aside0.mk hk5
    clear hk5 HK5
    have c0_ := (blk_cell HK6.out 0).trans rfl
    have c1_ := (blk_cell HK6.out 1).trans rfl
    have z0 : wr.cell? ⟨w.heap.size + 1, 0, none⟩ = some (.string m.f0) := c0_
    have z1 : wr.cell? ⟨w.heap.size + 1, 1, none⟩ = some (.string m.f1) := c1_
    have f0_ := blk_frozen HK6.out 0
    have f1_ := blk_frozen HK6.out 1
    have hlt5 := blk_lt HK6.out
    clear c0_ c1_
    by_cases hil : i < l0.length
    · have j1 : (i : Int) < (l0.length : Int) := by omega
      have hdi : decide ((i : Int) < (l0.length : Int)) = true := decide_eq_true j1
      obtain ⟨x, hx⟩ : ∃ x, x = l0[i] := ⟨_, rfl⟩
      have hmem : x ∈ l0 := by rw [hx]; exact List.getElem_mem hil
      have htne : l0.take i ≠ [] := fun h => by have := congrArg List.length h; rw [List.length_take, List.length_nil] at this; omega
      have hmm : m ∈ l0 := by rw [hm]; exact List.mem_of_mem_take (minL_mem _ htne)
      obtain ⟨ad2, e0, hx0, hx1⟩ := at_T24 HR0.out (i : Int) (by omega) (by omega)
      have hrd : rd_T24 l0 (i : Int) = x := by rw [hx]; simp [rd_T24, List.getD_eq_getElem?_getD, List.getElem?_eq_getElem hil]
      rw [hrd, Int.toNat_natCast] at hx0 hx1
      injection e0 with e0
      subst e0
      replace hx0 := (HB.out.cell (World.block_lt_of_cell? w _ hx0)).trans hx0
      replace hx1 := (HB.out.cell (World.block_lt_of_cell? w _ hx1)).trans hx1
      have hq := whyorder_val 500 x m (HBB.out x hmem).1 (HBB.out m hmm).1 (HBB.out x hmem).2 (HBB.out m hmm).2 (Nat.le_refl _)
      have hnext : minL (l0.take (i + 1)) = if ordN x m < 0 then x else m := by
        rw [List.take_succ_eq_append_getElem hil, minL_snoc _ htne, ← hm, ← hx]
      obtain ⟨cv, hcv⟩ : ∃ cv, cv = ordN x m := ⟨_, rfl⟩
      rw [← hcv] at hq hnext
      have CO := fun w => why_order.calls 500 x.f0 x.f1 m.f0 m.f1 cv w hq
      have HNX := Aside0.mk hnext
      have hb2 := World.block_lt_of_cell? wr _ hx0
      have hb3 := World.block_lt_of_cell? wr _ hx1
      have KS : ∀ w', Below wr.heap.size wr w' → (fun w' => Below wr.heap.size wr w' ∧ w'.cell? (ad.add (i * 2)) = some (.string x.f0) ∧ w'.cell? ⟨(ad.add (i * 2)).block, (ad.add (i * 2)).off + 1, none⟩ = some (.string x.f1) ∧ w'.cell? ⟨w.heap.size + 1, 0, none⟩ = some (.string m.f0) ∧ w'.cell? ⟨w.heap.size + 1, 1, none⟩ = some (.string m.f1)) w' := fun w' h =>
        ⟨h, (h.cell hb2).trans hx0, (h.cell hb3).trans hx1, (h.cell (p := ⟨w.heap.size + 1, 0, none⟩) hlt5).trans z0, (h.cell (p := ⟨w.heap.size + 1, 1, none⟩) hlt5).trans z1⟩
      have HMM := Aside0.mk hm
      clear hx hrd hq hnext hcv hmem hmm htne hx0 hx1 z0 z1 f0_ f1_ hm
      go_wp2_with fail
      go_region_held3 (fun w' => Below wr.heap.size wr w' ∧ w'.cell? (ad.add (i * 2)) = some (.string x.f0) ∧ w'.cell? ⟨(ad.add (i * 2)).block, (ad.add (i * 2)).off + 1, none⟩ = some (.string x.f1) ∧ w'.cell? ⟨w.heap.size + 1, 0, none⟩ = some (.string m.f0) ∧ w'.cell? ⟨w.heap.size + 1, 1, none⟩ = some (.string m.f1))
        (first
          | exact KS _ (below_drew (Below.refl _ _))
          | exact KS _ (bel_on (by assumption) hb9)
          | exact KS _ (And.left ‹Below wr.heap.size wr _ ∧ _›))
        (first
          | (go_at_call 21; with_reducible refine (CO _).mono ?_; rintro e w'' ⟨rfl, hb9⟩))
      have HB9 := Aside0.mk (And.left ‹Below wr.heap.size wr w'' ∧ _›)
      have hx0 := (And.left (And.right ‹Below wr.heap.size wr w'' ∧ _›))
      have hx1 := (And.left (And.right (And.right ‹Below wr.heap.size wr w'' ∧ _›)))
      have z0 := (And.left (And.right (And.right (And.right ‹Below wr.heap.size wr w'' ∧ _›))))
      have z1 := (And.right (And.right (And.right (And.right ‹Below wr.heap.size wr w'' ∧ _›))))
      rename_i hHeldZ
      clear hHeldZ hb9 KS
      have HK8 := Aside0.mk (blk_below HK6.out HB9.out)
      have HK7 := Aside0.mk (blk_below HK4.out HB9.out)
      have f0_ := blk_frozen HK8.out 0
      have f1_ := blk_frozen HK8.out 1
      have HB10 : Aside0 (Below w.heap.size w w'') := ⟨HB.out.trans (HB9.out.mono HB.out.size)⟩
      by_cases hc : cv < 0
      · have hcd : decide (cv < 0) = true := decide_eq_true hc
        have HN2 : Aside0 (minL (l0.take (i + 1)) = x) := ⟨by rw [HNX.out, if_pos hc]⟩
        go_wp2
        go_roundw
        case rel => exact ⟨i + 1, by omega, by omega, by go_num, ⟨blk_far (blk_far HK7.out (by show w.heap.size ≠ w.heap.size + 1; omega) _) (by show w.heap.size ≠ w.heap.size + 1; omega) _⟩, ⟨by rw [HN2.out]; exact blk_set (blk_set HK8.out 0 _) 1 _⟩, ⟨below_set (below_set HB10.out (by omega)) (by omega)⟩⟩
        case measure => simp [RowKit.intOf]; omega
      · have hcd : decide (cv < 0) = false := decide_eq_false hc
        have HN2 : Aside0 (minL (l0.take (i + 1)) = m) := ⟨by rw [HNX.out, if_neg hc]⟩
        go_wp2
        go_roundw
        case rel => exact ⟨i + 1, by omega, by omega, by go_num, HK7, ⟨by rw [HN2.out]; exact HK8.out⟩, HB10⟩
        case measure => simp [RowKit.intOf]; omega
    · obtain rfl : i = l0.length := by omega
      have hdi : decide ((l0.length : Int) < (l0.length : Int)) = false := decide_eq_false (by omega)
      rw [List.take_length] at hm
      subst hm
      have y0 : wr.cell? ⟨w.heap.size, 0, none⟩ = some (.string ⟨#[]⟩) := (blk_cell HK4.out 0).trans rfl
      have y1 : wr.cell? ⟨w.heap.size, 1, none⟩ = some (.string ⟨#[]⟩) := (blk_cell HK4.out 1).trans rfl
      have g0_ := blk_frozen HK4.out 0
      have g1_ := blk_frozen HK4.out 1
      go_wp2
      refine bodyPost_ret (results_cell_row rfl _ _ w.heap.size 24 #[.string (minL l0).f0, .string (minL l0).f1] (0, 0) _ rfl (blk_set (blk_set HK4.out 0 _) 1 _) Tryd.underlying24 rfl (by kernel_rfl)) rfl ?_
      exact ⟨rfl, below_set (below_set HB.out (Nat.le_refl _)) (Nat.le_refl _)⟩
end Go.Proofs.YtodkjmbmlobihaaDoor.Q
end

section
namespace Go.Proofs.YtodkjmbmlobihaaDoor.Q
open Go.Proofs.YtodkjmbmlobihaaDoor.QB.D
open Go Go.RowKit Go.Maps Go.Lib Go.Proofs.YtodkjmbmlobihaaDoorW.PrintWords Go.Proofs.YtodkjmbmlobihaaDoorW.PrintLast Go.Proofs.YtodkjmbmlobihaaDoorW.PrintMore Gw
set_option linter.unusedVariables false
set_option linter.unusedSimpArgs false
/-- How far a node is, if it is told. -/
def lookF (out : List (S24 × Nat)) (x : S24) : Option Nat := (out.find? (fun p => decide (p.1 = x))).map (·.2)
def stepF (d : Nat) (level : List S24) (st : List (S24 × Nat) × List S24) (e : S34) : List (S24 × Nat) × List S24 :=
  if (lookF st.1 e.f1).isNone ∧ e.f0 ∈ level then (st.1 ++ [(e.f1, d)], st.2 ++ [e.f1]) else st
def roundF (l : List S34) (d : Nat) (level : List S24) (out : List (S24 × Nat)) : List (S24 × Nat) × List S24 := l.foldl (stepF d level) (out, [])
def depF (l : List S34) : Nat → Nat → List S24 → List (S24 × Nat) → Option (List (S24 × Nat))
  | 0, _, _, _ => none
  | k + 1, d, level, out => if level = [] then some out else depF l k (d + 1) (roundF l d level out).2 (roundF l d level out).1
theorem lookF_snoc (out : List (S24 × Nat)) (x y : S24) (d : Nat) : lookF (out ++ [(x, d)]) y = (lookF out y).or (if y = x then some d else none) := by
  unfold lookF
  rw [List.find?_append]
  cases h : out.find? (fun p => decide (p.1 = y)) with
  | some p => rfl
  | none =>
    simp only [Option.none_or, Option.map_none, List.find?_cons, List.find?_nil]
    by_cases e : x = y
    · subst e; simp
    · rw [decide_eq_false e, if_neg (fun h => e h.symm)]; rfl
/-- The map holds what is told. -/
structure FarM (D : DataW Unit) (out : List (S24 × Nat)) : Prop where
  map : IsMap D
  has : ∀ y, NS y → Maps.has D (nkey y) = (lookF out y).isSome
  at_ : ∀ y, NS y → D.atKey (nkey y) (.lit (.int .i64 0)) = .lit (.int .i64 (((lookF out y).getD 0 : Nat) : Int))
theorem farM_none : FarM (.map []) [] := ⟨isMap_empty, fun y _ => by simp [Maps.has, lookF], fun y _ => by simp [DataW.atKey, lookF]⟩
theorem FarM.put {D : DataW Unit} {out : List (S24 × Nat)} (h : FarM D out) (x : S24) (hx : NS x) (d : Nat) (hn : lookF out x = none) : FarM (D.put (nkey x) (.lit (.int .i64 (d : Int)))) (out ++ [(x, d)]) := by
  refine ⟨h.map.put _ _, fun y hy => ?_, fun y hy => ?_⟩
  · rw [lookF_snoc]
    by_cases e : y = x
    · subst e
      rw [has_put_same h.map (nkey_lit _), if_pos rfl]
      cases lookF out y <;> rfl
    · rw [has_put_other (fun h2 => e ((nkey_inj hy hx).1 h2)), h.has y hy, if_neg e]
      cases lookF out y <;> rfl
  · rw [lookF_snoc]
    by_cases e : y = x
    · subst e
      rw [atKey_put_same h.map (nkey_lit _), if_pos rfl, hn]
      rfl
    · rw [atKey_put_other (fun h2 => e ((nkey_inj hy hx).1 h2)), h.at_ y hy, if_neg e]
      cases lookF out y <;> rfl
theorem cell_blk {w w' : World} {a : Addr} (h : w'.heap[a.block]? = w.heap[a.block]?) : w'.cell? a = w.cell? a := by unfold World.cell?; rw [h]
theorem zero_int (w : World) : (zeroValue 3).run Tryd.prog w = .ok (.int .i64 0) w := by kernel_rfl
theorem foldF_take (l : List S34) (d : Nat) (level : List S24) (st : List (S24 × Nat) × List S24) (i : Nat) (hi : i < l.length) : (l.take (i + 1)).foldl (stepF d level) st = stepF d level ((l.take i).foldl (stepF d level) st) l[i] := by
  rw [List.take_succ_eq_append_getElem hi, List.foldl_append]
  rfl
theorem foldF_len (l : List S34) (d : Nat) (level : List S24) : ∀ (st : List (S24 × Nat) × List S24), (l.foldl (stepF d level) st).2.length ≤ st.2.length + l.length ∧ (l.foldl (stepF d level) st).1.length ≤ st.1.length + l.length := by
  induction l with
  | nil => intro st; exact ⟨Nat.le_refl _, Nat.le_refl _⟩
  | cons x r ih =>
    intro st
    rw [List.foldl_cons]
    have h := ih (stepF d level st x)
    unfold stepF at h ⊢
    simp only [List.length_cons]
    split at h
    · rename_i hc
      rw [if_pos hc]
      simp only [List.length_append, List.length_cons, List.length_nil] at h
      omega
    · rename_i hc
      rw [if_neg hc]
      omega
set_option maxHeartbeats 8000000 in
set_option maxRecDepth 100000 in
theorem depths_calls (A0 : Option Addr) (c0 : Nat) (l0 : List S34) (w : World) (hr0 : Kd.C k34 w A0 l0.length l0) (hl0 : l0.length ≤ 65536) (hns : ∀ x ∈ l0, NS x.f0 ∧ NS x.f1) (K : Nat) (hK : K ≤ 65540) (out : List (S24 × Nat)) (hout : depF l0 K 1 [z24] [] = some out) :
    Calls Tryd.prog 19 #[.slice A0 l0.length c0] w fun e w' => ∃ (g n : Nat) (D : DataW Unit), e = .returned (.map (some g)) ∧ w.heap.size ≤ g ∧ w'.ownsMap Tryd.prog 24 (plainElem Tryd.prog 3) g n D ∧ FarM D out ∧ Below w.heap.size w w' := by
  have hu24 := Tryd.underlying24
  have hu34 := Tryd.underlying34
  have hmm := @run_makeMap Tryd.prog
  have HR0 := Aside0.mk hr0
  have HNS := Aside0.mk hns
  have HOUT := Aside0.mk hout
  have hl1 : (l0.length : Int) ≤ 65536 := by omega
  clear hr0 hns hout
  go_enter Tryd.func19, Tryd.ntmps19
  go_wp2_with fail
  have HL0 : Aside0 (Kd.R k24 24 ((w.alloc (.map #[] 0)).alloc (.cells #[.string ⟨#[]⟩, .string ⟨#[]⟩] 24 (0, 0))) w.heap.size (fun j => j ≠ w.heap.size) (.slice (some ⟨w.heap.size + 1, 0, none⟩) 1 1) [z24]) :=
    ⟨⟨fun k hk => by simp [Value.ownBlock] at hk; omega, [.string ⟨#[]⟩, .string ⟨#[]⟩], ⟨rfl, Or.inr ⟨w.heap.size + 1, 1, #[.string ⟨#[]⟩, .string ⟨#[]⟩], rfl, by omega, by have h9 := (MapKept.heap_alloc (w.alloc (.map #[] 0)) (.cells #[.string ⟨#[]⟩, .string ⟨#[]⟩] 24 (0, 0))).1; simpa using h9, by decide, by decide, rfl, rfl⟩⟩, Reps.c2 (k24_mkM _ _ _ z24) (Reps.none _ _)⟩⟩
  have HM0 : Aside0 (((w.alloc (.map #[] 0)).alloc (.cells #[.string ⟨#[]⟩, .string ⟨#[]⟩] 24 (0, 0))).ownsMap Tryd.prog 24 (plainElem (H := Unit) Tryd.prog 3) w.heap.size 0 (.map [])) := ⟨(World.ownsMap_made _ _ _ _).alloc _⟩
  have HB0 : Aside0 (Below w.heap.size w ((w.alloc (.map #[] 0)).alloc (.cells #[.string ⟨#[]⟩, .string ⟨#[]⟩] 24 (0, 0)))) := ⟨below_alloc (below_alloc (Below.refl _ _) _) _⟩
  go_loopg [4, 5] K (fun kq v4 v5 wr => ∃ (d : Nat) (level : List S24) (out1 : List (S24 × Nat)) (D : DataW Unit), v5 = .int .i64 (d : Int) ∧ d + kq = K + 1 ∧ 1 ≤ d ∧ Aside0 (depF l0 kq d level out1 = some out) ∧ Aside0 (wr.ownsMap Tryd.prog 24 (plainElem Tryd.prog 3) w.heap.size out1.length D) ∧ Aside0 (FarM D out1) ∧ Aside0 (Kd.R k24 24 wr w.heap.size (fun j => j ≠ w.heap.size) v4 level) ∧ Aside0 (Below w.heap.size w wr) ∧ Aside0 (out1.length ≤ (d - 1) * l0.length) ∧ level.length ≤ 65537 ∧ w.heap.size + 1 ≤ wr.heap.size)
  case atStart => exact ⟨1, [z24], [], _, rfl, by omega, by omega, HOUT, HM0, ⟨farM_none⟩, HL0, HB0, ⟨Nat.zero_le _⟩, by simp, by simp⟩
  case round =>
    obtain ⟨d, level, out1, D, rfl, hdk, hd1, HF, HM, HD, HL, HB, HLO, hll, hws⟩ := hrel
    clear HL0 HM0 HB0
    cases gk with
    | zero => exact absurd HF.out (by simp [depF])
    | succ k1 =>
      have hF := HF.out
      simp only [depF] at hF
      obtain ⟨Ao, co, eo⟩ := Kd.R_slice HL.out
      subst eo
      by_cases hlev : level = []
      · rw [if_pos hlev] at hF
        injection hF with hF
        subst hF
        subst hlev
        go_wp2
        go_ret
        exact ⟨_, _, D, rfl, Nat.le_refl _, HM.out, HD.out, HB.out⟩
      · rw [if_neg hlev] at hF
        have hpos : 0 < level.length := List.length_pos_iff.2 hlev
        have hp1 : decide (((level.length : Nat) : Int) > 0) = true := decide_eq_true (by omega)
        have hp2 : decide ((0 : Int) < ((level.length : Nat) : Int)) = true := decide_eq_true (by omega)
        have HF1 := Aside0.mk hF
        clear hF HF hlev
        go_wp2_with fail
        go_loopw [6, 21] (fun v6 v21 wr => ∃ (i : Nat) (st : List (S24 × Nat) × List S24) (D : DataW Unit), i ≤ l0.length ∧ v21 = .int .i64 (i : Int) ∧ Aside0 (st = (l0.take i).foldl (stepF d level) (out1, [])) ∧ Aside0 (wr.ownsMap Tryd.prog 24 (plainElem Tryd.prog 3) w.heap.size st.1.length D) ∧ Aside0 (FarM D st.1) ∧ Aside0 (Kd.R k24 24 wr w.heap.size (fun j => j ≠ w.heap.size ∧ some j ≠ v6.ownBlock) (.slice Ao level.length co) level) ∧ Aside0 (Kd.R k24 24 wr w.heap.size (fun j => j ≠ w.heap.size ∧ some j ≠ (Value.slice Ao level.length co).ownBlock) v6 st.2) ∧ Aside0 (Below w.heap.size w wr) ∧ w.heap.size + 1 ≤ wr.heap.size) (fun _ v21 _ => l0.length - (RowKit.intOf v21).toNat)
        case atStart => exact ⟨0, (out1, []), D, Nat.zero_le _, rfl, ⟨rfl⟩, HM, HD, ⟨Kd.R_mono HL.out (fun j hj => ⟨hj, by simp [Value.ownBlock]⟩)⟩, ⟨Kd.R_nil _ _ _ _ _⟩, HB, hws⟩
        case round =>
          clear HM HD HL HB hws
          obtain ⟨i, st, D, hi, rfl, HST, HM, HD, HL, HO, HB, hws⟩ := hrel
          by_cases hil : i < l0.length
          · have j1 : (i : Int) < (l0.length : Int) := by omega
            have hdi : decide ((i : Int) < (l0.length : Int)) = true := decide_eq_true j1
            obtain ⟨x, hx⟩ : ∃ x, x = l0[i] := ⟨_, rfl⟩
            have hmem : x ∈ l0 := by rw [hx]; exact List.getElem_mem hil
            obtain ⟨ad, e0, hx0, hx1, hx2, hx3⟩ := at_T34 HR0.out (i : Int) (by omega) (by omega)
            have hrd : rd_T34 l0 (i : Int) = x := by rw [hx]; simp [rd_T34, List.getD_eq_getElem?_getD, List.getElem?_eq_getElem hil]
            rw [hrd, Int.toNat_natCast] at hx0 hx1 hx2 hx3
            cases e0
            replace hx0 := (HB.out.cell (World.block_lt_of_cell? w _ hx0)).trans hx0
            replace hx1 := (HB.out.cell (World.block_lt_of_cell? w _ hx1)).trans hx1
            replace hx2 := (HB.out.cell (World.block_lt_of_cell? w _ hx2)).trans hx2
            replace hx3 := (HB.out.cell (World.block_lt_of_cell? w _ hx3)).trans hx3
            have hnx := HNS.out x hmem
            have hkey := keyOf_node x.f1 hnx.2.1 hnx.2.2
            have hfs := foldF_take l0 d level (out1, []) i hil
            have hlens := foldF_len (l0.take i) d level (out1, [])
            rw [← hx, ← HST.out] at hfs
            rw [← HST.out, List.length_take] at hlens
            have HFS := Aside0.mk hfs
            have HNX := Aside0.mk hnx
            have hn1 : st.1.length < maxLen := by
              have h5 := HLO.out
              have h6 : (d - 1) * l0.length ≤ 65540 * 65536 := Nat.mul_le_mul (by omega) hl0
              have h7 := hlens.2
              simp only [] at h7
              unfold maxLen
              omega
            have hn2 : st.2.length ≤ 65536 := by
              have h7 := hlens.1
              simp only [List.length_nil] at h7
              omega
            clear hx hrd hfs hmem hlens hnx
            have HM5 := Aside0.mk (HM.out.alloc (.cells #[.string x.f0.f0, .string x.f0.f1, .string x.f1.f0, .string x.f1.f1] 34 (0, 0)))
            have HB5 := Aside0.mk (below_alloc HB.out (.cells #[.string x.f0.f0, .string x.f0.f1, .string x.f1.f0, .string x.f1.f1] 34 (0, 0)))
            have HO5 := Aside0.mk (Kd.R_alloc HO.out (.cells #[.string x.f0.f0, .string x.f0.f1, .string x.f1.f0, .string x.f1.f1] 34 (0, 0)))
            have HL5 := Aside0.mk (Kd.R_alloc HL.out (.cells #[.string x.f0.f0, .string x.f0.f1, .string x.f1.f0, .string x.f1.f1] 34 (0, 0)))
            have n0 : (wr.alloc (.cells #[.string x.f0.f0, .string x.f0.f1, .string x.f1.f0, .string x.f1.f1] 34 (0, 0))).cell? ⟨wr.heap.size, 0, none⟩ = some (.string x.f0.f0) := by simp [go_sem]
            have n1 : (wr.alloc (.cells #[.string x.f0.f0, .string x.f0.f1, .string x.f1.f0, .string x.f1.f1] 34 (0, 0))).cell? ⟨wr.heap.size, 1, none⟩ = some (.string x.f0.f1) := by simp [go_sem]
            have n2 : (wr.alloc (.cells #[.string x.f0.f0, .string x.f0.f1, .string x.f1.f0, .string x.f1.f1] 34 (0, 0))).cell? ⟨wr.heap.size, 2, none⟩ = some (.string x.f1.f0) := by simp [go_sem]
            have n3 : (wr.alloc (.cells #[.string x.f0.f0, .string x.f0.f1, .string x.f1.f0, .string x.f1.f1] 34 (0, 0))).cell? ⟨wr.heap.size, 3, none⟩ = some (.string x.f1.f1) := by simp [go_sem]
            obtain ⟨bm, hbm⟩ : ∃ b, b = Maps.has D (nkey x.f1) := ⟨_, rfl⟩
            have HBM := Aside0.mk hbm
            clear hbm
            cases bm
            · -- a node that was not met
              have hnone : lookF st.1 x.f1 = none := by
                have h := HD.out.has x.f1 HNX.out.2
                rw [← HBM.out] at h
                cases h9 : lookF st.1 x.f1 with
                | none => rfl
                | some _ => rw [h9] at h; cases h
              have HNONE := Aside0.mk hnone
              clear hnone
              go_wp2_with (first
                | (at_lookup; refine wpList_lookup_own_ok_int _ rfl _ _ 46 rfl 24 3 .i64 law_node Tryd.underlying46 Tryd.underlying3 (zero_int _) w.heap.size _ D rfl HM5.out _ _ rfl hkey ?_; intro cq hat hwc; rw [← HBM.out]; clear hat hwc)
                | fail)
              obtain ⟨bc, hbc⟩ : ∃ b, b = decide (x.f0 ∈ level) := ⟨_, rfl⟩
              have hcv := conN_val level x.f0 (by omega) 65540 (by omega)
              rw [← hbc] at hcv
              have CC := fun (W : World) (h : Kd.C k24 W Ao level.length level) => api_Node_32.calls 65540 Ao co level x.f0.f0 x.f0.f1 bc W h (Kd.R_reads' HL.out).2.1 hcv
              have HBC := Aside0.mk hbc
              clear hbc hcv
              refine (CC _ (Kd.R_reads' HL5.out).2.2).mono ?_
              rintro e w5 ⟨rfl, hb5⟩
              have HM6 := Aside0.mk (HM5.out.kept (grown_of_below hb5 none) (by simp))
              have HB6 := Aside0.mk (below_step HB5.out hb5)
              have HO6 := Aside0.mk (Kd.R_below HO5.out hb5)
              have HL6 := Aside0.mk (Kd.R_below HL5.out hb5)
              have p2 := (hb5.cell (p := ⟨wr.heap.size, 2, none⟩) (by simp)).trans n2
              have p3 := (hb5.cell (p := ⟨wr.heap.size, 3, none⟩) (by simp)).trans n3
              have hz5 : wr.heap.size + 1 ≤ w5.heap.size := by have := hb5.size; simp at this; omega
              clear hb5 CC n0 n1 n2 n3
              cases bc
              · -- its parent isn't in the level
                have hst : st = (l0.take (i + 1)).foldl (stepF d level) (out1, []) := by
                  rw [HFS.out]; unfold stepF; rw [if_neg (fun h => absurd h.2 (of_decide_eq_false HBC.out.symm))]
                have HST2 := Aside0.mk hst
                clear hst
                go_wp2
                go_roundw
                case rel => exact ⟨i + 1, st, D, by omega, by go_num, HST2, HM6, HD, HL6, HO6, HB6, by omega⟩
                case measure => simp [RowKit.intOf]; omega
              · have hst : (st.1 ++ [(x.f1, d)], st.2 ++ [x.f1]) = (l0.take (i + 1)).foldl (stepF d level) (out1, []) := by
                  rw [HFS.out]; unfold stepF; rw [if_pos ⟨by rw [HNONE.out]; rfl, of_decide_eq_true HBC.out.symm⟩]
                have HST2 := Aside0.mk hst
                have hwd : (Lit.int .i64 (d : Int)).wf = true := by simp [Lit.wf, IntKind.min, IntKind.max, IntKind.signed, IntKind.bits]; omega
                clear hst
                go_wp2_with (first
                  | (at_mapUpdate; refine wpList_mapUpdate_own _ rfl _ _ _ 46 rfl 24 3 law_node Tryd.underlying46 (plainElem (H := Unit) Tryd.prog 3) w.heap.size _ D rfl HM6.out hn1 _ _ _ rfl rfl hkey _ [] (plainElem_int Tryd.underlying3 hwd) ?_; intro w8 hown8 hgrow8; have HM8 := Aside0.mk hown8; have HO8 := Aside0.mk (Kd.R_grown HO6.out hgrow8 (fun j hj => by simp; exact hj.1)); have HL8 := Aside0.mk (Kd.R_grown HL6.out hgrow8 (fun j hj => by simp; exact hj.1)); have HB8 := Aside0.mk (pw_below_grown HB6.out _ HB6.out.size hgrow8 (fun j hj => by cases hj; exact Nat.le_refl _)); have hz8 := hgrow8.size; have q2 := (cell_blk (a := ⟨wr.heap.size, 2, none⟩) (hgrow8.block wr.heap.size (by omega) (by simp; omega))).trans p2; have q3 := (cell_blk (a := ⟨wr.heap.size, 3, none⟩) (hgrow8.block wr.heap.size (by omega) (by simp; omega))).trans p3; clear hown8 hgrow8)
                  | ((with_reducible refine gate_builtin (b := .append) (xs := #[.tmp 44, .tmp 47]) rfl ?_); at_builtin; refine Kd.R_append k24 (w0 := w) w.heap.size rfl (.tmp 44) (.tmp 47) 28 24 (.agg #[(.string ⟨#[]⟩), (.string ⟨#[]⟩)]) 32 rfl Tryd.underlying28 info24 rfl (by decide) (by omega) u6 st.2 x.f1 [.string x.f1.f0, .string x.f1.f1] (fun j => j ≠ w.heap.size ∧ some j ≠ (Value.slice Ao level.length co).ownBlock) (fun _ => False) rfl rfl ?aP (fun _ hk => hk.elim) ?aF ?aO ?aB ?aS ?aL ?_; (case aP => exact k24_mkM _ _ _ x.f1); (case aB => exact HB8.out); (case aF => exact (fun j hj => ⟨by omega, fun e => absurd (Kd.R_lt HL8.out j e.symm) (by omega)⟩)); (case aO => exact HO8.out); (case aS => exact HB8.out.size); (case aL => omega); intro v9 w9 ho9 hb9 hg9 hat9)
                  | fail)
                have HO9 := Aside0.mk ho9
                have HB9 := Aside0.mk hb9
                have HM9 := Aside0.mk (HM8.out.kept hg9 (Kd.R_away HO8.out (fun j hj => hj.1)))
                have HL9 : Aside0 (Kd.R k24 24 w9 w.heap.size (fun j => j ≠ w.heap.size ∧ some j ≠ v9.ownBlock) (.slice Ao level.length co) level) := ⟨Kd.R_mono (Kd.R_grown (Kd.R_bound HL8.out) hg9 (fun j hj => hj.1.2)) (fun j hj => ⟨hj.1.1, fun e => by
                  rcases hat9 with h | ⟨b, h, h2⟩
                  · exact hj.1.2 (by rw [← h]; exact e)
                  · rw [h] at e; injection e with e; have := hj.2.2.1; omega⟩)⟩
                have hz9 := hg9.size
                clear ho9 hb9 hg9 hat9
                go_roundw
                case rel => exact ⟨i + 1, (st.1 ++ [(x.f1, d)], st.2 ++ [x.f1]), _, by omega, by go_num, HST2, ⟨by rw [show (st.1 ++ [(x.f1, d)], st.2 ++ [x.f1]).1.length = st.1.length + 1 by simp]; exact HM9.out⟩, ⟨HD.out.put x.f1 HNX.out.2 d HNONE.out⟩, HL9, HO9, HB9, by omega⟩
                case measure => simp [RowKit.intOf]; omega
            · -- one that was met
              have hst : st = (l0.take (i + 1)).foldl (stepF d level) (out1, []) := by
                have h := HD.out.has x.f1 HNX.out.2
                rw [← HBM.out] at h
                rw [HFS.out]; unfold stepF
                rw [if_neg (fun h2 => by
                  cases h9 : lookF st.1 x.f1 with
                  | none => rw [h9] at h; cases h
                  | some _ => rw [h9] at h2; cases h2.1)]
              have HST2 := Aside0.mk hst
              clear hst
              go_wp2_with (first
                | (at_lookup; refine wpList_lookup_own_ok_int _ rfl _ _ 46 rfl 24 3 .i64 law_node Tryd.underlying46 Tryd.underlying3 (zero_int _) w.heap.size _ D rfl HM5.out _ _ rfl hkey ?_; intro cq hat hwc; rw [← HBM.out]; clear hat hwc)
                | fail)
              go_roundw
              case rel => exact ⟨i + 1, st, D, by omega, by go_num, HST2, HM5, HD, HL5, HO5, HB5, by simp; omega⟩
              case measure => simp [RowKit.intOf]; omega
          · obtain rfl : i = l0.length := by omega
            have hdi : decide ((l0.length : Int) < (l0.length : Int)) = false := decide_eq_false (by omega)
            have hst := HST.out
            rw [List.take_length] at hst
            have hF := HF1.out
            rw [show roundF l0 d level out1 = st from hst.symm] at hF
            have hlens := foldF_len l0 d level (out1, [])
            rw [← hst] at hlens
            have HF2 := Aside0.mk hF
            have HLEN := Aside0.mk hlens
            have hsl : st.2.length ≤ 65537 := by have h7 := hlens.1; simp only [List.length_nil] at h7; omega
            have hso : st.1.length ≤ d * l0.length := by
              have h7 := hlens.2
              have h8 := HLO.out
              simp only [] at h7
              have h9 : d * l0.length = (d - 1) * l0.length + l0.length := by rw [← Nat.succ_mul]; congr 1; omega
              omega
            have HSO := Aside0.mk hso
            clear hst hF hlens hso
            go_wp2
            go_roundg k1
            case measure => omega
            case rel => exact ⟨d + 1, st.2, st.1, D, by go_num, by omega, by omega, HF2, HM, HD, ⟨Kd.R_mono HO.out (fun j hj => hj.1)⟩, HB, ⟨by rw [Nat.add_sub_cancel]; exact HSO.out⟩, hsl, hws⟩
abbrev BriefE (x : S34) : Prop := Brief x.f0 ∧ Brief x.f1
/-- Those that need y and are i + 1 away. -/
def isParF (out : List (S24 × Nat)) (i : Nat) (y : S24) (e : S34) : Bool := decide (e.f1 = y) && decide ((lookF out e.f0).getD 0 = i + 1)
def parF (l : List S34) (out : List (S24 × Nat)) (i : Nat) (y : S24) : List S24 := (l.filter (isParF out i y)).map (·.f0)
def chainF (l : List S34) (out : List (S24 × Nat)) : Nat → S24 → Option (List S24)
  | 0, y => some [y]
  | i + 1, y => if parF l out i y ≠ [] ∧ (parF l out i y).all mayN = true then (chainF l out i (minL (parF l out i y))).map (· ++ [y]) else none
def why_Chain.f (l : List S34) (a b : ByteArray) : Option (List S24 × Int) :=
  if l.length ≤ 65536 ∧ (∀ x ∈ l, BriefE x) ∧ Brief ⟨a, b⟩ then
    if okE l = true then
      if mayN ⟨a, b⟩ = true then
        (depF l (l.length + 2) 1 [z24] []).bind fun out => match lookF out ⟨a, b⟩ with
          | none => some ([], 11)
          | some d => if 1 ≤ d ∧ d ≤ 65540 then (chainF l out (d - 1) ⟨a, b⟩).map (fun c => (c, 0)) else none
      else some ([], 1)
    else some ([], 1)
  else none
theorem eql_node (w : World) (x y : S24) : (binOp .eql 24 (.agg #[.string x.f0, .string x.f1]) (.agg #[.string y.f0, .string y.f1])).run Tryd.prog w = .ok (.bool (decide (x = y))) w := by
  have h := eqA24 9998 w x.f0 y.f0 x.f1 y.f1
  rw [node_eqb] at h
  simp only [binOp]
  simp [Op.equal, Op.maxDepth, h]
theorem rep_set {α : Type} (n : Nat) (z y : α) (tail : List α) : (List.replicate (n + 1) z ++ tail).set n y = List.replicate n z ++ y :: tail := by
  rw [List.replicate_succ', List.append_assoc, List.set_append_right _ _ (by simp)]
  simp
theorem chainF_succ {l : List S34} {out : List (S24 × Nat)} {i : Nat} {y : S24} {tail c : List S24} (h : (chainF l out (i + 1) y).map (· ++ tail) = some c) :
    parF l out i y ≠ [] ∧ (parF l out i y).all mayN = true ∧ (chainF l out i (minL (parF l out i y))).map (· ++ (y :: tail)) = some c := by
  unfold chainF at h
  split at h
  · rename_i hc
    refine ⟨hc.1, hc.2, ?_⟩
    rw [Option.map_map] at h
    rw [← h]
    congr 1
    funext q
    simp
  · cases h
theorem parF_take (l : List S34) (out : List (S24 × Nat)) (i : Nat) (y : S24) (j : Nat) (hj : j < l.length) : ((l.take (j + 1)).filter (isParF out i y)).map (·.f0) = if isParF out i y l[j] = true then ((l.take j).filter (isParF out i y)).map (·.f0) ++ [l[j].f0] else ((l.take j).filter (isParF out i y)).map (·.f0) := by
  rw [List.take_succ_eq_append_getElem hj, List.filter_append, List.map_append]
  split
  · rename_i h; rw [List.filter_cons_of_pos h]; rfl
  · rename_i h; rw [List.filter_cons_of_neg h]; simp
set_option maxHeartbeats 8000000 in
set_option maxRecDepth 100000 in
theorem chain_bad (A0 : Option Addr) (c0 : Nat) (l0 : List S34) (a b : ByteArray) (w : World) (hr0 : Kd.C k34 w A0 l0.length l0) (hc0 : l0.length ≤ c0) (hl : l0.length ≤ 65536) (hb : ∀ x ∈ l0, BriefE x) (hk : okE l0 = false) :
    Calls Tryd.prog 8 #[.slice A0 l0.length c0, .agg #[.string a, .string b]] w fun e w' => ∃ v, e = .returned (.tuple #[v, .int .i64 1]) ∧ Kd.R k24 24 w' w.heap.size (fun _ => True) v [] ∧ Below w.heap.size w w' := by
  have hu24 := Tryd.underlying24
  have hK : lack_Check.f l0 = some 1 := by
    have h : lack_Check.f l0 = some (kI (okE l0)) := if_pos ⟨by omega, fun x hx => ⟨(hb x hx).1.tiny, (hb x hx).2.tiny⟩⟩
    rw [hk] at h; exact h
  have CK := fun (W : World) (h : Kd.C k34 W A0 l0.length l0) => lack_Check.calls A0 c0 l0 1 W h hc0 hK
  have HR0 := Aside0.mk hr0
  clear hr0 hb hK hk
  go_enter Tryd.func8, Tryd.ntmps8
  go_wp2_with fail
  refine (CK _ (Kd.C_alloc HR0.out _)).mono ?_
  rintro e w1 ⟨rfl, hb1⟩
  have HB1 : Aside0 (Below w.heap.size w w1) := ⟨(below_alloc (Below.refl _ _) _).trans (hb1.mono (by simp))⟩
  clear hb1 CK
  go_wp2
  go_ret2
  exact ⟨_, rfl, Kd.R_nil _ _ _ _ _, HB1.out⟩
set_option maxHeartbeats 8000000 in
set_option maxRecDepth 100000 in
theorem chain_not (A0 : Option Addr) (c0 : Nat) (l0 : List S34) (a b : ByteArray) (w : World) (hr0 : Kd.C k34 w A0 l0.length l0) (hc0 : l0.length ≤ c0) (hl : l0.length ≤ 65536) (hb : ∀ x ∈ l0, BriefE x) (hk : okE l0 = true) (ht : Brief ⟨a, b⟩) (hm : mayN ⟨a, b⟩ = false) :
    Calls Tryd.prog 8 #[.slice A0 l0.length c0, .agg #[.string a, .string b]] w fun e w' => ∃ v, e = .returned (.tuple #[v, .int .i64 1]) ∧ Kd.R k24 24 w' w.heap.size (fun _ => True) v [] ∧ Below w.heap.size w w' := by
  have hu24 := Tryd.underlying24
  have hK : lack_Check.f l0 = some 0 := by
    have h : lack_Check.f l0 = some (kI (okE l0)) := if_pos ⟨by omega, fun x hx => ⟨(hb x hx).1.tiny, (hb x hx).2.tiny⟩⟩
    rw [hk] at h; exact h
  have CK := fun (W : World) (h : Kd.C k34 W A0 l0.length l0) => lack_Check.calls A0 c0 l0 0 W h hc0 hK
  have m0 := node_May_val 500 ⟨a, b⟩ ht.tiny (by have := ht.1; simp only [] at *; omega)
  rw [hm] at m0
  have CM := fun w => node_May.calls 500 a b false w m0
  have HR0 := Aside0.mk hr0
  clear hr0 hb hK hk ht hm m0
  go_enter Tryd.func8, Tryd.ntmps8
  go_wp2_with fail
  refine (CK _ (Kd.C_alloc HR0.out _)).mono ?_
  rintro e w1 ⟨rfl, hb1⟩
  have HB1 : Aside0 (Below w.heap.size w w1) := ⟨(below_alloc (Below.refl _ _) _).trans (hb1.mono (by simp))⟩
  have n0 : w1.cell? ⟨w.heap.size, 0, none⟩ = some (.string a) := (hb1.cell (p := ⟨w.heap.size, 0, none⟩) (by simp)).trans (by simp [go_sem])
  have n1 : w1.cell? ⟨w.heap.size, 1, none⟩ = some (.string b) := (hb1.cell (p := ⟨w.heap.size, 1, none⟩) (by simp)).trans (by simp [go_sem])
  clear hb1 CK
  go_wp2_with fail
  refine (CM _).mono ?_
  rintro e w2 ⟨rfl, hb2⟩
  have HB2 : Aside0 (Below w.heap.size w w2) := ⟨HB1.out.trans (hb2.mono HB1.out.size)⟩
  clear hb2 CM
  go_wp2
  go_ret2
  exact ⟨_, rfl, Kd.R_nil _ _ _ _ _, HB2.out⟩
set_option maxHeartbeats 8000000 in
set_option maxRecDepth 100000 in
theorem chain_none (A0 : Option Addr) (c0 : Nat) (l0 : List S34) (a b : ByteArray) (w : World) (hr0 : Kd.C k34 w A0 l0.length l0) (hc0 : l0.length ≤ c0) (hl : l0.length ≤ 65536) (hb : ∀ x ∈ l0, BriefE x) (hk : okE l0 = true) (ht : Brief ⟨a, b⟩) (hm : mayN ⟨a, b⟩ = true)
    (out : List (S24 × Nat)) (hout : depF l0 (l0.length + 2) 1 [z24] [] = some out) (hn : lookF out ⟨a, b⟩ = none) :
    Calls Tryd.prog 8 #[.slice A0 l0.length c0, .agg #[.string a, .string b]] w fun e w' => ∃ v, e = .returned (.tuple #[v, .int .i64 11]) ∧ Kd.R k24 24 w' w.heap.size (fun _ => True) v [] ∧ Below w.heap.size w w' := by
  have hu24 := Tryd.underlying24
  have hK : lack_Check.f l0 = some 0 := by
    have h : lack_Check.f l0 = some (kI (okE l0)) := if_pos ⟨by omega, fun x hx => ⟨(hb x hx).1.tiny, (hb x hx).2.tiny⟩⟩
    rw [hk] at h; exact h
  have CK := fun (W : World) (h : Kd.C k34 W A0 l0.length l0) => lack_Check.calls A0 c0 l0 0 W h hc0 hK
  have m0 := node_May_val 500 ⟨a, b⟩ ht.tiny (by have := ht.1; simp only [] at *; omega)
  rw [hm] at m0
  have CM := fun w => node_May.calls 500 a b true w m0
  have hns : ∀ x ∈ l0, NS x.f0 ∧ NS x.f1 := fun x hx => by have := hb x hx; unfold NS maxLen; omega
  have CD := fun (W : World) (h : Kd.C k34 W A0 l0.length l0) => depths_calls A0 c0 l0 W h hl hns (l0.length + 2) (by omega) out hout
  have hnt : NS ⟨a, b⟩ := by have := ht.1; have := ht.2; unfold NS maxLen; simp only [] at *; omega
  have hkey := keyOf_node ⟨a, b⟩ hnt.1 hnt.2
  simp only [] at hkey
  have HR0 := Aside0.mk hr0
  have HN := Aside0.mk hn
  have HNT := Aside0.mk hnt
  clear hr0 hb hK hk ht hm m0 hns hout hn hnt
  go_enter Tryd.func8, Tryd.ntmps8
  go_wp2_with fail
  refine (CK _ (Kd.C_alloc HR0.out _)).mono ?_
  rintro e w1 ⟨rfl, hb1⟩
  have HB1 : Aside0 (Below w.heap.size w w1) := ⟨(below_alloc (Below.refl _ _) _).trans (hb1.mono (by simp))⟩
  have n0 : w1.cell? ⟨w.heap.size, 0, none⟩ = some (.string a) := (hb1.cell (p := ⟨w.heap.size, 0, none⟩) (by simp)).trans (by simp [go_sem])
  have n1 : w1.cell? ⟨w.heap.size, 1, none⟩ = some (.string b) := (hb1.cell (p := ⟨w.heap.size, 1, none⟩) (by simp)).trans (by simp [go_sem])
  have hz1 : w.heap.size + 1 ≤ w1.heap.size := by have := hb1.size; simp at this; omega
  clear hb1 CK
  go_wp2_with fail
  refine (CM _).mono ?_
  rintro e w2 ⟨rfl, hb2⟩
  have HB2 : Aside0 (Below w.heap.size w w2) := ⟨HB1.out.trans (hb2.mono HB1.out.size)⟩
  have p0 := (hb2.cell (p := ⟨w.heap.size, 0, none⟩) hz1).trans n0
  have p1 := (hb2.cell (p := ⟨w.heap.size, 1, none⟩) hz1).trans n1
  have hz2 : w.heap.size + 1 ≤ w2.heap.size := Nat.le_trans hz1 hb2.size
  clear hb2 CM n0 n1
  go_wp2_with fail
  refine (CD _ (Kd.C_below HR0.out HB2.out)).mono ?_
  rintro e w3 ⟨gm, nm, D, rfl, hgm, hM, hD, hb3⟩
  have HB3 : Aside0 (Below w.heap.size w w3) := ⟨HB2.out.trans (hb3.mono HB2.out.size)⟩
  have q0 := (hb3.cell (p := ⟨w.heap.size, 0, none⟩) hz2).trans p0
  have q1 := (hb3.cell (p := ⟨w.heap.size, 1, none⟩) hz2).trans p1
  have HM := Aside0.mk hM
  have HD := Aside0.mk hD
  have hhas : Maps.has D (nkey ⟨a, b⟩) = false := by rw [HD.out.has _ HNT.out, HN.out]; rfl
  have HHAS := Aside0.mk hhas
  clear hM hD hb3 CD p0 p1 hhas
  go_wp2_with (first
    | (at_lookup; refine wpList_lookup_own_ok_int _ rfl _ _ 46 rfl 24 3 .i64 law_node Tryd.underlying46 Tryd.underlying3 (zero_int _) gm nm D rfl HM.out _ _ rfl hkey ?_; intro cq hat hwc; rw [HHAS.out]; clear hat hwc)
    | fail)
  go_ret2
  exact ⟨_, rfl, Kd.R_nil _ _ _ _ _, HB3.out⟩
set_option maxHeartbeats 8000000 in
set_option maxRecDepth 100000 in
theorem chain_go (A0 : Option Addr) (c0 : Nat) (l0 : List S34) (a b : ByteArray) (w : World) (hr0 : Kd.C k34 w A0 l0.length l0) (hc0 : l0.length ≤ c0) (hl : l0.length ≤ 65536) (hb : ∀ x ∈ l0, BriefE x) (hk : okE l0 = true) (ht : Brief ⟨a, b⟩) (hm : mayN ⟨a, b⟩ = true)
    (out : List (S24 × Nat)) (hout : depF l0 (l0.length + 2) 1 [z24] [] = some out) (d : Nat) (hd2 : d ≤ 65539) (hn : lookF out ⟨a, b⟩ = some (d + 1)) (c : List S24) (hc : chainF l0 out d ⟨a, b⟩ = some c) :
    Calls Tryd.prog 8 #[.slice A0 l0.length c0, .agg #[.string a, .string b]] w fun e w' => ∃ v, e = .returned (.tuple #[v, .int .i64 0]) ∧ Kd.R k24 24 w' w.heap.size (fun _ => True) v c ∧ Below w.heap.size w w' := by
  have hu24 := Tryd.underlying24
  have hK : lack_Check.f l0 = some 0 := by
    have h : lack_Check.f l0 = some (kI (okE l0)) := if_pos ⟨by omega, fun x hx => ⟨(hb x hx).1.tiny, (hb x hx).2.tiny⟩⟩
    rw [hk] at h; exact h
  have CK := fun (W : World) (h : Kd.C k34 W A0 l0.length l0) => lack_Check.calls A0 c0 l0 0 W h hc0 hK
  have m0 := node_May_val 500 ⟨a, b⟩ ht.tiny (by have := ht.1; simp only [] at *; omega)
  rw [hm] at m0
  have CM := fun w => node_May.calls 500 a b true w m0
  have hns : ∀ x ∈ l0, NS x.f0 ∧ NS x.f1 := fun x hx => by have := hb x hx; unfold NS maxLen; omega
  have CD := fun (W : World) (h : Kd.C k34 W A0 l0.length l0) => depths_calls A0 c0 l0 W h hl hns (l0.length + 2) (by omega) out hout
  have hnt : NS ⟨a, b⟩ := by have := ht.1; have := ht.2; unfold NS maxLen; simp only [] at *; omega
  have hkey := keyOf_node ⟨a, b⟩ hnt.1 hnt.2
  simp only [] at hkey
  have HR0 := Aside0.mk hr0
  have HN := Aside0.mk hn
  have HNT := Aside0.mk hnt
  have HBE := Aside0.mk hb
  have HC := Aside0.mk hc
  clear hr0 hb hK hk ht hm m0 hns hout hn hnt hc
  go_enter Tryd.func8, Tryd.ntmps8
  go_wp2_with fail
  refine (CK _ (Kd.C_alloc HR0.out _)).mono ?_
  rintro e w1 ⟨rfl, hb1⟩
  have HB1 : Aside0 (Below w.heap.size w w1) := ⟨(below_alloc (Below.refl _ _) _).trans (hb1.mono (by simp))⟩
  have n0 : w1.cell? ⟨w.heap.size, 0, none⟩ = some (.string a) := (hb1.cell (p := ⟨w.heap.size, 0, none⟩) (by simp)).trans (by simp [go_sem])
  have n1 : w1.cell? ⟨w.heap.size, 1, none⟩ = some (.string b) := (hb1.cell (p := ⟨w.heap.size, 1, none⟩) (by simp)).trans (by simp [go_sem])
  have hz1 : w.heap.size + 1 ≤ w1.heap.size := by have := hb1.size; simp at this; omega
  clear hb1 CK
  go_wp2_with fail
  refine (CM _).mono ?_
  rintro e w2 ⟨rfl, hb2⟩
  have HB2 : Aside0 (Below w.heap.size w w2) := ⟨HB1.out.trans (hb2.mono HB1.out.size)⟩
  have p0 := (hb2.cell (p := ⟨w.heap.size, 0, none⟩) hz1).trans n0
  have p1 := (hb2.cell (p := ⟨w.heap.size, 1, none⟩) hz1).trans n1
  have hz2 : w.heap.size + 1 ≤ w2.heap.size := Nat.le_trans hz1 hb2.size
  clear hb2 CM n0 n1
  go_wp2_with fail
  refine (CD _ (Kd.C_below HR0.out HB2.out)).mono ?_
  rintro e w3 ⟨gm, nm, D, rfl, hgm, hM, hD, hb3⟩
  have HB3 : Aside0 (Below w.heap.size w w3) := ⟨HB2.out.trans (hb3.mono HB2.out.size)⟩
  have q0 := (hb3.cell (p := ⟨w.heap.size, 0, none⟩) hz2).trans p0
  have q1 := (hb3.cell (p := ⟨w.heap.size, 1, none⟩) hz2).trans p1
  have HM := Aside0.mk hM
  have HBX := Aside0.mk hb3.size
  have HD := Aside0.mk hD
  have hhas : Maps.has D (nkey ⟨a, b⟩) = true := by rw [HD.out.has _ HNT.out, HN.out]; rfl
  have HHAS := Aside0.mk hhas
  clear hM hD hb3 CD p0 p1 hhas
  have hz3 : w.heap.size + 1 ≤ w3.heap.size := Nat.le_trans hz2 HBX.out
  go_wp2_with (first
    | (at_lookup; refine wpList_lookup_own_ok_int _ rfl _ _ 46 rfl 24 3 .i64 law_node Tryd.underlying46 Tryd.underlying3 (zero_int _) gm nm D rfl HM.out _ _ rfl hkey ?_; intro cq hat hwc; obtain rfl : cq = (d : Int) + 1 := (by have h9 := hat.symm.trans (HD.out.at_ _ HNT.out); rw [HN.out] at h9; simp at h9; omega); rw [HHAS.out]; clear hat hwc)
    | ((with_reducible refine gate_dst (N := 33) rfl ?_); refine Kd.R_make k24 (w0 := w) w.heap.size 24 rfl (N := 33) rfl 28 (.tmp 32) (.tmp 32) rfl ((d : Int) + 1) rfl rfl Tryd.underlying28 (.agg #[(.string ⟨#[]⟩), (.string ⟨#[]⟩)]) 32 info24 rfl (by decide) (by omega) z24 (ok := fun j => j ≠ w.heap.size ∧ j ≠ gm) (okp := fun _ => False) ?mz (fun _ h => h.elim) ?mf ?m0 ?ml ?mB ?mS ?_; (case mz => exact k24_mkM _ _ _ z24); (case mf => exact ⟨by omega, by have := HM.out.lt; omega⟩); (case m0 => omega); (case ml => omega); (case mB => exact HB3.out); (case mS => exact HB3.out.size); intro v33 w33 ho33 hb33 hg33 hat33; rw [show ((d : Int) + 1).toNat = d + 1 by omega] at ho33; obtain ⟨gb, cb, hv33, hgb1, hgb2, cbs, hcb⟩ := Kd.R_form ho33 (by rw [List.length_replicate]; omega); rw [List.length_replicate] at hv33; subst hv33; have HO33 := Aside0.mk ho33; have HB33 := Aside0.mk hb33; have HM33 := Aside0.mk (HM.out.kept hg33 (by simp)); have hrc := rowcells ho33 d (by simp); have e0_ := hrc.1; have e1_ := hrc.2; have f0_ := blk_frozen hcb (d * 2); have f1_ := blk_frozen hcb (d * 2 + 1); have HCB := Aside0.mk hcb; have r0_ := hg33.cell q0 (by simp); have r1_ := hg33.cell q1 (by simp); clear ho33 hb33 hg33 hat33 hcb hrc)
    | fail)
  have hst := store_node HO33.out d (by simp) ⟨a, b⟩
  have hgo := HO33.out.1 gb (by simp [Value.ownBlock])
  have hset : (List.replicate (d + 1) z24).set d ⟨a, b⟩ = List.replicate d z24 ++ [⟨a, b⟩] := by have h9 := rep_set d z24 (⟨a, b⟩ : S24) []; rw [List.append_nil] at h9; exact h9
  rw [hset] at hst
  have HO34 := Aside0.mk hst.1
  have HM34 := Aside0.mk (HM33.out.kept hst.2 (by intro e; injection e with e; exact hgo.2 e.symm))
  have HB34 := Aside0.mk (below_set (below_set HB33.out hgb1 (j := d * 2) (v := .string a)) hgb1 (j := d * 2 + 1) (v := .string b))
  have hz34 : w.heap.size + 1 ≤ ((w33.setCell ⟨gb, d * 2, none⟩ (.string a)).setCell ⟨gb, d * 2 + 1, none⟩ (.string b)).heap.size := by simp; omega
  have HGO := Aside0.mk hgo
  clear hst hset HO33 HM33 HB33 hgo e0_ e1_ f0_ f1_ HCB r0_ r1_
  go_loopw [10] (fun v10 wr => ∃ (i : Nat) (y : S24) (tail : List S24), v10 = .int .i64 ((i : Int) - 1) ∧ i ≤ d ∧ tail.length = d - i ∧ Aside0 ((chainF l0 out i y).map (· ++ tail) = some c) ∧ Aside0 (Kd.R k24 24 wr w.heap.size (fun j => j ≠ w.heap.size ∧ j ≠ gm) (.slice (some ⟨gb, 0, none⟩) (d + 1) cb) (List.replicate i z24 ++ y :: tail)) ∧ Aside0 (wr.ownsMap Tryd.prog 24 (plainElem (H := Unit) Tryd.prog 3) gm nm D) ∧ Aside0 (Below w.heap.size w wr) ∧ w.heap.size + 1 ≤ wr.heap.size) (fun v10 _ => (RowKit.intOf v10 + 1).toNat)
  case atStart => exact ⟨d, ⟨a, b⟩, [], by rw [show ((d : Int) + 1 - 2) = (d : Int) - 1 by omega], Nat.le_refl _, by simp, ⟨by rw [HC.out]; simp⟩, HO34, HM34, HB34, hz34⟩
  case round =>
    clear HO34 HM34 HB34 hz34
    obtain ⟨i, y, tail, rfl, hid, htl, HCH, HO, HM, HB, hws⟩ := hrel
    cases i with
    | zero =>
      have hcc : c = y :: tail := by have h := HCH.out; simp [chainF] at h; exact h.symm
      have HCC := Aside0.mk hcc
      clear hcc
      go_wp2
      go_ret2
      exact ⟨_, rfl, by have h := HO.out; rw [List.replicate_zero, List.nil_append, ← HCC.out] at h; exact Kd.R_mono h (fun _ _ => trivial), HB.out⟩
    | succ i =>
      obtain ⟨hP, hA, hch⟩ := chainF_succ HCH.out
      have HP := Aside0.mk hP
      have HA := Aside0.mk hA
      have HCH2 := Aside0.mk hch
      clear hP hA hch HCH
      have hv10 : (((i + 1 : Nat) : Int) - 1) = (i : Int) := by omega
      rw [hv10]
      clear hv10
      have hi0 : (0 : Int) ≤ (i : Int) := by omega
      go_wp2_with fail
      go_loopw [11, 47] (fun v11 v47 wr => ∃ j : Nat, j ≤ l0.length ∧ v47 = .int .i64 (j : Int) ∧ Aside0 (Kd.R k24 24 wr w.heap.size (fun k => k ≠ w.heap.size ∧ k ≠ gm ∧ k ≠ gb) v11 (((l0.take j).filter (isParF out i y)).map (·.f0))) ∧ Aside0 (Kd.R k24 24 wr w.heap.size (fun k => k ≠ w.heap.size ∧ k ≠ gm ∧ some k ≠ v11.ownBlock) (.slice (some ⟨gb, 0, none⟩) (d + 1) cb) (List.replicate (i + 1) z24 ++ y :: tail)) ∧ Aside0 (wr.ownsMap Tryd.prog 24 (plainElem (H := Unit) Tryd.prog 3) gm nm D) ∧ Aside0 (Below w.heap.size w wr) ∧ w.heap.size + 1 ≤ wr.heap.size) (fun _ v47 _ => l0.length - (RowKit.intOf v47).toNat)
      case atStart => exact ⟨0, Nat.zero_le _, rfl, ⟨Kd.R_nil _ _ _ _ _⟩, ⟨Kd.R_mono HO.out (fun j hj => ⟨hj.1, hj.2, by simp [Value.ownBlock]⟩)⟩, HM, HB, hws⟩
      case round =>
        clear HO HM HB hws
        obtain ⟨j, hj, rfl, HO, HR, HM, HB, hws⟩ := hrel
        by_cases hil : j < l0.length
        · have j1 : (j : Int) < (l0.length : Int) := by omega
          have hdi : decide ((j : Int) < (l0.length : Int)) = true := decide_eq_true j1
          obtain ⟨x, hx⟩ : ∃ x, x = l0[j] := ⟨_, rfl⟩
          have hmem : x ∈ l0 := by rw [hx]; exact List.getElem_mem hil
          obtain ⟨ad, e0, hx0, hx1, hx2, hx3⟩ := at_T34 HR0.out (j : Int) (by omega) (by omega)
          have hrd : rd_T34 l0 (j : Int) = x := by rw [hx]; simp [rd_T34, List.getD_eq_getElem?_getD, List.getElem?_eq_getElem hil]
          rw [hrd, Int.toNat_natCast] at hx0 hx1 hx2 hx3
          cases e0
          replace hx0 := (HB.out.cell (World.block_lt_of_cell? w _ hx0)).trans hx0
          replace hx1 := (HB.out.cell (World.block_lt_of_cell? w _ hx1)).trans hx1
          replace hx2 := (HB.out.cell (World.block_lt_of_cell? w _ hx2)).trans hx2
          replace hx3 := (HB.out.cell (World.block_lt_of_cell? w _ hx3)).trans hx3
          have hbx := HBE.out x hmem
          have hns0 : NS x.f0 := by have := hbx.1; unfold NS maxLen; omega
          have hkx := keyOf_node x.f0 hns0.1 hns0.2
          have hpt := parF_take l0 out i y j hil
          rw [← hx] at hpt
          have HPT := Aside0.mk hpt
          have hlen2 : (((l0.take j).filter (isParF out i y)).map (·.f0)).length ≤ 65536 := by
            rw [List.length_map]; exact Nat.le_trans (List.length_filter_le _ _) (by rw [List.length_take]; omega)
          clear hx hrd hmem hbx hpt
          have HM5 := Aside0.mk (HM.out.alloc (.cells #[.string x.f0.f0, .string x.f0.f1, .string x.f1.f0, .string x.f1.f1] 34 (0, 0)))
          have HB5 := Aside0.mk (below_alloc HB.out (.cells #[.string x.f0.f0, .string x.f0.f1, .string x.f1.f0, .string x.f1.f1] 34 (0, 0)))
          have HO5 := Aside0.mk (Kd.R_alloc HO.out (.cells #[.string x.f0.f0, .string x.f0.f1, .string x.f1.f0, .string x.f1.f1] 34 (0, 0)))
          have HR5 := Aside0.mk (Kd.R_alloc HR.out (.cells #[.string x.f0.f0, .string x.f0.f1, .string x.f1.f0, .string x.f1.f1] 34 (0, 0)))
          have hrc := rowcells HR5.out (i + 1) (by simp)
          have hyg : (List.replicate (i + 1) z24 ++ y :: tail)[i + 1]'(by simp) = y := by rw [List.getElem_append_right (by simp)]; simp
          rw [hyg] at hrc
          have y0 := hrc.1
          have y1 := hrc.2
          have n0 : (wr.alloc (.cells #[.string x.f0.f0, .string x.f0.f1, .string x.f1.f0, .string x.f1.f1] 34 (0, 0))).cell? ⟨wr.heap.size, 0, none⟩ = some (.string x.f0.f0) := by simp [go_sem]
          have n1 : (wr.alloc (.cells #[.string x.f0.f0, .string x.f0.f1, .string x.f1.f0, .string x.f1.f1] 34 (0, 0))).cell? ⟨wr.heap.size, 1, none⟩ = some (.string x.f0.f1) := by simp [go_sem]
          have n2 : (wr.alloc (.cells #[.string x.f0.f0, .string x.f0.f1, .string x.f1.f0, .string x.f1.f1] 34 (0, 0))).cell? ⟨wr.heap.size, 2, none⟩ = some (.string x.f1.f0) := by simp [go_sem]
          have n3 : (wr.alloc (.cells #[.string x.f0.f0, .string x.f0.f1, .string x.f1.f0, .string x.f1.f1] 34 (0, 0))).cell? ⟨wr.heap.size, 3, none⟩ = some (.string x.f1.f1) := by simp [go_sem]
          have i1 : (i : Int) + 1 < (d : Int) + 1 := by omega
          have i2 : (0 : Int) ≤ (i : Int) + 1 := by omega
          have i3 : ((i : Int) + 1).toNat = i + 1 := by omega
          have hw1 : IntKind.i64.wrap ((i : Int) + 1) = (i : Int) + 1 := by rw [IntKind.wrap_i64]; omega
          have i4 : i < d := by omega
          have i5 : (i : Int) < (d : Int) := by omega
          have hEQ := fun w => eql_node w x.f1 y
          clear hrc hyg
          have mixed : Tryd.prog.follows Departure.mixedOrders = true := by kernel_rfl
          by_cases he : x.f1 = y
          · have hq1 : decide (x.f1 = y) = true := decide_eq_true he
            simp only [hq1] at hEQ
            obtain ⟨q, hq⟩ : ∃ q, q = (lookF out x.f0).getD 0 := ⟨_, rfl⟩
            have hlk : ∀ m, (Instr.lookup 46 (.map (some gm)) (.agg #[.string x.f0.f0, .string x.f0.f1]) false).run Tryd.prog ((wr.alloc (.cells #[.string x.f0.f0, .string x.f0.f1, .string x.f1.f0, .string x.f1.f1] 34 (0, 0))).drewN m) = .ok (.int .i64 (q : Int)) ((wr.alloc (.cells #[.string x.f0.f0, .string x.f0.f1, .string x.f1.f0, .string x.f1.f1] 34 (0, 0))).drewN m) := by
              intro m
              obtain ⟨c9, hrun, hat, _⟩ := (show ((wr.alloc (.cells #[.string x.f0.f0, .string x.f0.f1, .string x.f1.f0, .string x.f1.f1] 34 (0, 0))).drewN m).ownsMap Tryd.prog 24 (plainElem (H := Unit) Tryd.prog 3) gm nm D from HM5.out).lookup_int law_node Tryd.underlying46 Tryd.underlying3 (zero_int _) hkx
              have h9 := hat.symm.trans (HD.out.at_ _ hns0)
              rw [← hq] at h9
              obtain rfl : c9 = (q : Int) := by simpa using h9
              exact hrun
            by_cases hqi : q = i + 1
            · have hpf : isParF out i y x = true := by unfold isParF; rw [hq1, ← hq, decide_eq_true hqi]; rfl
              have HPF := Aside0.mk hpf
              have hqc : ((q : Int) == (i : Int) + 1) = true := by rw [beq_iff_eq]; omega
              clear hpf he hqi hq
              go_wp2_with fail
              go_quiet (fail)
              have m0 : ((wr.alloc (.cells #[.string x.f0.f0, .string x.f0.f1, .string x.f1.f0, .string x.f1.f1] 34 (0, 0))).drewN nq).cell? ⟨wr.heap.size, 0, none⟩ = some (.string x.f0.f0) := n0
              have m1 : ((wr.alloc (.cells #[.string x.f0.f0, .string x.f0.f1, .string x.f1.f0, .string x.f1.f1] 34 (0, 0))).drewN nq).cell? ⟨wr.heap.size, 1, none⟩ = some (.string x.f0.f1) := n1
              have HM6 : Aside0 (((wr.alloc (.cells #[.string x.f0.f0, .string x.f0.f1, .string x.f1.f0, .string x.f1.f1] 34 (0, 0))).drewN nq).ownsMap Tryd.prog 24 (plainElem (H := Unit) Tryd.prog 3) gm nm D) := ⟨HM5.out⟩
              have HO6 := Aside0.mk (Kd.R_drewN HO5.out nq)
              have HR6 := Aside0.mk (Kd.R_drewN HR5.out nq)
              have HB6 := Aside0.mk (pw_below_drewN HB5.out nq)
              have hz6 : wr.heap.size + 1 ≤ ((wr.alloc (.cells #[.string x.f0.f0, .string x.f0.f1, .string x.f1.f0, .string x.f1.f1] 34 (0, 0))).drewN nq).heap.size := by simp
              clear HM5 HO5 HR5 HB5 n0 n1 n2 n3 y0 y1 hlk
              generalize (wr.alloc (.cells #[.string x.f0.f0, .string x.f0.f1, .string x.f1.f0, .string x.f1.f1] 34 (0, 0))).drewN nq = W5 at *
              have hgm5 := HM6.out.lt
              have hgb5 := Kd.R_lt HR6.out gb (by simp [Value.ownBlock])
              go_wp2_with (first
                | ((with_reducible refine gate_builtin (b := .append) (xs := #[.tmp 68, .tmp 71]) rfl ?_); at_builtin; refine Kd.R_append k24 (w0 := w) w.heap.size rfl (.tmp 68) (.tmp 71) 28 24 (.agg #[(.string ⟨#[]⟩), (.string ⟨#[]⟩)]) 32 rfl Tryd.underlying28 info24 rfl (by decide) (by omega) u11 (((l0.take j).filter (isParF out i y)).map (·.f0)) x.f0 [.string x.f0.f0, .string x.f0.f1] (fun k => k ≠ w.heap.size ∧ k ≠ gm ∧ k ≠ gb) (fun _ => False) rfl rfl ?aP (fun _ hk => hk.elim) ?aF ?aO ?aB ?aS ?aL ?_; (case aP => exact k24_mkM _ _ _ x.f0); (case aB => exact HB6.out); (case aF => exact (fun k hk => ⟨by omega, by omega, by omega⟩)); (case aO => exact HO6.out); (case aS => exact HB6.out.size); (case aL => omega); intro v9 w9 ho9 hb9 hg9 hat9)
                | fail)
              have HO9 := Aside0.mk ho9
              have HB9 := Aside0.mk hb9
              have HM9 := Aside0.mk (HM6.out.kept hg9 (Kd.R_away HO6.out (fun k hk => hk.2.1)))
              have HR9 : Aside0 (Kd.R k24 24 w9 w.heap.size (fun k => k ≠ w.heap.size ∧ k ≠ gm ∧ some k ≠ v9.ownBlock) (.slice (some ⟨gb, 0, none⟩) (d + 1) cb) (List.replicate (i + 1) z24 ++ y :: tail)) := ⟨Kd.R_mono (Kd.R_grown (Kd.R_bound HR6.out) hg9 (fun k hk => hk.1.2.2)) (fun k hk => ⟨hk.1.1, hk.1.2.1, fun e => by
                rcases hat9 with h | ⟨b9, h, h2⟩
                · exact hk.1.2.2 (by rw [← h]; exact e)
                · rw [h] at e; injection e with e; have := hk.2.2.1; omega⟩)⟩
              have hz9 := hg9.size
              clear ho9 hb9 hg9 hat9
              go_roundw
              case rel => exact ⟨j + 1, by omega, by go_num, ⟨by rw [HPT.out, HPF.out]; exact HO9.out⟩, HR9, HM9, HB9, by omega⟩
              case measure => simp [RowKit.intOf]; omega
            · have hpf : isParF out i y x = false := by unfold isParF; rw [← hq, decide_eq_false hqi]; simp
              have HPF := Aside0.mk hpf
              have hqc : ((q : Int) == (i : Int) + 1) = false := by rw [beq_eq_false_iff_ne]; omega
              clear hpf he hqi hq
              go_wp2_with fail
              go_quiet (fail)
              go_wp2
              go_roundw
              case rel => exact ⟨j + 1, by omega, by go_num, ⟨by rw [HPT.out, HPF.out]; exact Kd.R_drewN HO5.out _⟩, ⟨Kd.R_drewN HR5.out _⟩, ⟨HM5.out⟩, ⟨pw_below_drewN HB5.out _⟩, by simp; omega⟩
              case measure => simp [RowKit.intOf]; omega
          · have hq0 : decide (x.f1 = y) = false := decide_eq_false he
            simp only [hq0] at hEQ
            have hpf : isParF out i y x = false := by unfold isParF; rw [decide_eq_false he]; rfl
            have HPF := Aside0.mk hpf
            clear hpf he
            go_wp2_with fail
            go_quiet (fail)
            go_wp2
            go_roundw
            case rel => exact ⟨j + 1, by omega, by go_num, ⟨by rw [HPT.out, HPF.out]; exact Kd.R_drewN HO5.out _⟩, ⟨Kd.R_drewN HR5.out _⟩, ⟨HM5.out⟩, ⟨pw_below_drewN HB5.out _⟩, by simp; omega⟩
            case measure => simp [RowKit.intOf]; omega
        · obtain rfl : j = l0.length := by omega
          have hdi : decide ((l0.length : Int) < (l0.length : Int)) = false := decide_eq_false (by omega)
          have ho := HO.out
          rw [List.take_length] at ho
          have HO2 : Aside0 (Kd.R k24 24 wr w.heap.size (fun k => k ≠ w.heap.size ∧ k ≠ gm ∧ k ≠ gb) u11 (parF l0 out i y)) := ⟨ho⟩
          clear ho HO
          obtain ⟨Al, cl, el⟩ := Kd.R_slice HO2.out
          subst el
          have hpb : ∀ x ∈ parF l0 out i y, Brief x ∧ mayN x = true := fun x hx => ⟨by
            obtain ⟨e, he, rfl⟩ := List.mem_map.1 hx
            exact (HBE.out e (List.mem_filter.1 he).1).1, List.all_eq_true.1 HA.out x hx⟩
          have hpl : (parF l0 out i y).length ≤ 65536 := by
            unfold parF; rw [List.length_map]; exact Nat.le_trans (List.length_filter_le _ _) hl
          have CMN := fun (W : World) (h : Kd.C k24 W Al (parF l0 out i y).length (parF l0 out i y)) => minF_calls Al cl (parF l0 out i y) W h hpl hpb HP.out
          obtain ⟨m, hm⟩ : ∃ m, m = minL (parF l0 out i y) := ⟨_, rfl⟩
          rw [← hm] at CMN
          have hch := HCH2.out
          rw [← hm] at hch
          have HCH3 := Aside0.mk hch
          clear hpb hpl hm hch
          go_wp2_with fail
          refine (CMN _ (Kd.R_reads' HO2.out).2.2).mono ?_
          rintro e w9 ⟨rfl, hb9⟩
          have HB9 : Aside0 (Below w.heap.size w w9) := ⟨below_step HB.out hb9⟩
          have HR9 := Aside0.mk (Kd.R_below HR.out hb9)
          have HM9 := Aside0.mk (HM.out.kept (grown_of_below hb9 none) (by simp))
          have hz9 := hb9.size
          have hrc := rowcells HR9.out i (by simp; omega)
          have c0_ := hrc.1
          have c1_ := hrc.2
          obtain ⟨g9, cap9, hv9, _, _, cells9, hc9⟩ := Kd.R_form HR9.out (by simp; omega)
          obtain rfl : gb = g9 := by injection hv9 with h1; injection h1 with h1; injection h1
          have f0_ := blk_frozen hc9 (i * 2)
          have f1_ := blk_frozen hc9 (i * 2 + 1)
          have i4 : i < d + 1 := by omega
          have i5 : (i : Int) < (d : Int) + 1 := by omega
          have HGB := Aside0.mk (Kd.R_base HR9.out gb (by simp [Value.ownBlock]))
          clear hrc hb9 CMN hc9 hv9
          go_wp2
          have hst := store_node HR9.out i (by simp; omega) m
          have hrs := rep_set i z24 m (y :: tail)
          rw [hrs] at hst
          go_roundw
          case rel => exact ⟨i, m, y :: tail, by first | rfl | go_num, by omega, by rw [List.length_cons]; omega, HCH3, ⟨Kd.R_mono hst.1 (fun k hk => ⟨hk.1, hk.2.1⟩)⟩, ⟨HM9.out.kept hst.2 (by intro e; injection e with e; exact HGO.out.2 e.symm)⟩, ⟨below_set (below_set HB9.out HGB.out (j := i * 2) (v := .string m.f0)) HGB.out (j := i * 2 + 1) (v := .string m.f1)⟩, by simp; omega⟩
          case measure => simp [RowKit.intOf] <;> omega
theorem why_Chain.calls (A0 : Option Addr) (c0 : Nat) (l0 : List S34) (a1_0 a1_1 : ByteArray) (r1 : List S24) (r2 : Int) (w : World) (hr0 : Kd.C k34 w A0 l0.length l0) (hc0 : l0.length ≤ c0) (h : why_Chain.f l0 a1_0 a1_1 = some (r1, r2)) :
    Calls Tryd.prog 8 #[.slice A0 l0.length c0, .agg #[.string a1_0, .string a1_1]] w fun e w' => ∃ v, e = .returned (.tuple #[v, .int .i64 r2]) ∧ Kd.R k24 24 w' w.heap.size (fun _ => True) v r1 ∧ Below w.heap.size w w' := by
  unfold why_Chain.f at h
  split at h
  case isFalse => cases h
  case isTrue hc =>
    obtain ⟨hl, hb, ht⟩ := hc
    by_cases hk : okE l0 = true
    · rw [if_pos hk] at h
      by_cases hm : mayN ⟨a1_0, a1_1⟩ = true
      · rw [if_pos hm] at h
        obtain ⟨out, ho, h⟩ := Option.bind_eq_some_iff.1 h
        cases hd : lookF out ⟨a1_0, a1_1⟩ with
        | none =>
          rw [hd] at h
          simp only [Option.some.injEq, Prod.mk.injEq] at h
          obtain ⟨rfl, rfl⟩ := h
          exact chain_none A0 c0 l0 a1_0 a1_1 w hr0 hc0 hl hb hk ht hm out ho hd
        | some d =>
          rw [hd] at h
          simp only [] at h
          split at h
          case isFalse => cases h
          case isTrue hdd =>
            obtain ⟨d, rfl⟩ : ∃ d', d = d' + 1 := ⟨d - 1, by omega⟩
            obtain ⟨c, hc, h⟩ := Option.map_eq_some_iff.1 h
            simp only [Prod.mk.injEq] at h
            obtain ⟨rfl, rfl⟩ := h
            rw [Nat.add_sub_cancel] at hc
            exact chain_go A0 c0 l0 a1_0 a1_1 w hr0 hc0 hl hb hk ht hm out ho d (by omega) hd c hc
      · rw [if_neg hm] at h
        simp only [Option.some.injEq, Prod.mk.injEq] at h
        obtain ⟨rfl, rfl⟩ := h
        exact chain_not A0 c0 l0 a1_0 a1_1 w hr0 hc0 hl hb hk ht (by simpa using hm)
    · rw [if_neg hk] at h
      simp only [Option.some.injEq, Prod.mk.injEq] at h
      obtain ⟨rfl, rfl⟩ := h
      exact chain_bad A0 c0 l0 a1_0 a1_1 w hr0 hc0 hl hb (by simpa using hk)
end Go.Proofs.YtodkjmbmlobihaaDoor.Q
end
