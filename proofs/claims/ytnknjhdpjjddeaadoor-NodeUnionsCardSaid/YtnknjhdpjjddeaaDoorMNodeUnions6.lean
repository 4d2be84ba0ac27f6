/- Part 6 of this claim: several texts one behind the other: NWith, NSetsW, Fgraftwoodlaw05awake, NCmp, Aw05, NMinus. What each shows stands in its theorems; conditions: sizes of texts and lists, as the functions' definitions say. -/
import Derived.Test.YtnknjhdpjjddeaaDoorMNodeUnions0
import Derived.Test.YtnknjhdpjjddeaaDoorMNodeUnions5
import Derived.Lib.LazyBuf
import Derived.ArgAppend
import Derived.Deep.RegionLawGrows
import Derived.Deep.Onto
import Derived.Test.YtnknjhdpjjddeaaDoorMNodeUnions4
import Derived.Test.YtnknjhdpjjddeaaDoorMNodeUnions3
section
namespace Go.Proofs.YtnknjhdpjjddeaaDoor.Q
open Go.Proofs.YtnknjhdpjjddeaaDoor.QB.D
open Go Go.RowKit Go.Lib Go.Proofs.YtnknjhdpjjddeaaDoorW.PrintWords Go.Proofs.YtnknjhdpjjddeaaDoorW.PrintLast Go.Proofs.YtnknjhdpjjddeaaDoorW.PrintMore Gw
set_option linter.unusedVariables false
set_option linter.unusedSimpArgs false
set_option maxRecDepth 100000 in
theorem step_with {ops : Array Oper} {o : Oper} {ac : Act} {w W : World} {K : Act → World → Prop} {Q : Exit → Act → World → Prop} {E : Prop} (hg : o.guard = none) (s x : Operand) (hop : o.op = Op.call { callee := Callee.builtin Builtin.append, args := #[s, x], argTypes := #[37, 37] })
    {A0 : Option Addr} {l0 : List S23} {i : Nat} {B : Nat} {a b : ByteArray} (hr : Kd.C k23 w A0 l0.length l0) (hB : Below w.heap.size w W) (h0 : W.cell? ⟨B, 0, none⟩ = some (.string a)) (h1 : W.cell? ⟨B, 1, none⟩ = some (.string b))
    (hs : ac.eval s = .slice A0 i i) (hx : ac.eval x = .slice (some ⟨B, 0, none⟩) 1 1) (hi : i ≤ l0.length) (hl0 : l0.length ≤ 4294967296)
    (hK : ∀ v' w', Kd.R k23 23 w' w.heap.size (fun _ => True) v' (l0.take i ++ [⟨a, b⟩]) → Below w.heap.size w w' → K (ac.put o.dst v') w') :
    if Region.wanted o (yielded ops ac.tmps) = true then Oper.wp Tryd.prog o ac W K Q else E := by
  obtain ⟨i0, hi0, hzz⟩ := Option.map_eq_some_iff.1 info23
  simp only [Prod.mk.injEq] at hzz
  obtain ⟨hz0, hz1, hz2⟩ := hzz
  have ht := C_cells (Kd.C_take (Kd.C_below hr hB) hi)
  have hlt : (l0.take i).length = i := by rw [List.length_take]; omega
  refine step_append_grows hg s x 37 hop 23 i0 (.agg #[(.string ⟨#[]⟩), (.string ⟨#[]⟩)]) 2 32 Tryd.underlying37 hi0 hz0 hz1 hz2 rfl (by decide) A0 i i (cellsN (l0.take i)) hs ?_ (by rw [cellsN_len, hlt]) ht ⟨B, 0, none⟩ 1 1 [.string a, .string b] hx rfl ?_ ?_ (by omega) (by simp only [maxLen]; omega) (by omega) ?_
  · intro e
    have : ¬ 0 < i := fun hp => by obtain ⟨ad, e2, _⟩ := hr.2.2 (by omega); rw [e] at e2; cases e2
    omega
  · intro j u hu
    have hadd : (⟨B, 0, none⟩ : Addr).add j = ⟨B, j, none⟩ := by unfold Addr.add; split <;> simp_all
    rw [hadd]
    rcases j with _ | _ | j
    · injection hu with hu; subst hu; exact h0
    · injection hu with hu; subst hu; exact h1
    · simp at hu
  · intro u hu
    simp only [List.mem_cons, List.not_mem_nil, or_false] at hu
    rcases hu with rfl | rfl <;> rfl
  · intro v' w' hown hgrow
    refine hK v' w' (R_of_cells ?_ (fun _ _ => trivial)) (hB.grown hgrow hB.size (fun k hk => by cases hk))
    have h9 := hown.mono hB.size
    rw [show [Value.string a, Value.string b] = [.string (⟨a, b⟩ : S23).f0, .string (⟨a, b⟩ : S23).f1] from rfl, cellsN_snoc] at h9
    rw [List.length_append, hlt]
    exact h9
set_option maxRecDepth 100000 in
theorem step_rest {ops : Array Oper} {o : Oper} {ac : Act} {w W : World} {K : Act → World → Prop} {Q : Exit → Act → World → Prop} (hg : o.guard = none) (s x : Operand) (hop : o.op = Op.call { callee := Callee.builtin Builtin.append, args := #[s, x], argTypes := #[37, 37] })
    {A0 : Option Addr} {l0 xs : List S23} {i c0 : Nat} {v : Value} (hr : Kd.C k23 w A0 l0.length l0) (hc0 : l0.length ≤ c0) (hB : Below w.heap.size w W) (HO : Kd.R k23 23 W w.heap.size (fun _ => True) v xs)
    (hs : ac.eval s = v) (hx : ac.eval x = .slice (if c0 = i then A0 else A0.map (fun x => x.add (i * 2))) (l0.length - i) (c0 - i)) (hi : i ≤ l0.length) (hl0 : l0.length ≤ 4294967296) (hxs : xs.length ≤ 4294967297)
    (hK : ∀ v' w', Kd.R k23 23 w' w.heap.size (fun _ => True) v' (xs ++ l0.drop i) → Below w.heap.size w w' → K (ac.put o.dst v') w') :
    if Region.wanted o (yielded ops ac.tmps) = true then Oper.wp Tryd.prog o ac W K Q else K (ac.put o.dst undef) W := by
  have hw : Region.wanted o (yielded ops ac.tmps) = true := by simp [Region.wanted, hg]
  have hd := Kd.C_drop (c := c0) (Kd.C_below hr hB) hi hc0
  rw [List.length_drop] at hd
  exact Kd.R_append_rows_step k23 (w0 := w) w.heap.size hw s x 37 23 (.agg #[(.string ⟨#[]⟩), (.string ⟨#[]⟩)]) 32 hop Tryd.underlying37 info23 rfl (by decide) (by omega) v xs (l0.drop i) _ _ _ (fun _ => True) (fun _ => False) hs hx HO hd (fun _ _ h => h) (fun _ h => h.elim) (fun _ _ => trivial) hB hB.size (by omega) (fun v1 w1 h1 h2 _ _ => hK v1 w1 h1 h2)
set_option maxHeartbeats 4000000 in
set_option maxRecDepth 100000 in
theorem with_go (A0 : Option Addr) (c0 : Nat) (l0 : List S23) (a b : ByteArray) (r1 : Int) (r2 : Bool) (r3 : Int) (w : World) (hr0 : Kd.C k23 w A0 l0.length l0) (hc0 : l0.length ≤ c0) (hl0 : l0.length ≤ 4294967296)
    (hf : node_find.f l0 a b = some (r1, r2, r3)) (i : Nat) (hi : i ≤ l0.length) (h1 : r1 = (i : Int)) (h2 : r2 = false) (h3 : r3 = 0) :
    Calls Tryd.prog 21 #[.slice A0 l0.length c0, .agg #[.string a, .string b]] w fun e w' => ∃ v, e = .returned (.tuple #[v, .int .i64 0]) ∧ Kd.R k23 23 w' w.heap.size (fun _ => True) v (l0.take i ++ [⟨a, b⟩] ++ l0.drop i) ∧ Below w.heap.size w w' := by
  subst h1 h2 h3
  have HR0 := Aside0.mk hr0
  have hu23 := Tryd.underlying23
  have CF := fun (W : World) (h : Kd.C k23 W A0 l0.length l0) => node_find.calls A0 c0 l0 a b _ _ _ W h hc0 hf
  clear hr0 hf
  go_enter Tryd.func21, Tryd.ntmps21
  go_wp2_with fail
  refine (CF _ (Kd.C_alloc HR0.out _)).mono ?_
  rintro e w1 ⟨rfl, hb1⟩
  have HB1 : Aside0 (Below w.heap.size w w1) := ⟨(below_alloc (Below.refl _ _) _).trans (hb1.mono (by simp))⟩
  have n0 : w1.cell? ⟨w.heap.size, 0, none⟩ = some (.string a) := (hb1.cell (p := ⟨w.heap.size, 0, none⟩) (by simp)).trans (by simp [go_sem])
  have n1 : w1.cell? ⟨w.heap.size, 1, none⟩ = some (.string b) := (hb1.cell (p := ⟨w.heap.size, 1, none⟩) (by simp)).trans (by simp [go_sem])
  have hz1 : w.heap.size < w1.heap.size := by have := hb1.size; simp at this; omega
  have i1 : (i : Int) ≤ (l0.length : Int) := by omega
  have i2 : (i : Int) ≤ (c0 : Int) := by omega
  clear hb1 CF
  have mixed : Tryd.prog.follows Departure.mixedOrders = true := by kernel_rfl
  have hi0 : i ≤ l0.length := hi
  go_wp2_with fail
  go_region_law (first
    | (refine step_with rfl (.tmp 25) (.tmp 27) rfl (i := i) (B := w1.heap.size) (a := a) (b := b) HR0.out ?b1 ?b2 ?b3 (by simp [Act.eval, Act.put]) (by simp [Act.eval, Act.put]) hi0 hl0 ?bk; (case b1 => exact below_drew (below_alloc HB1.out _)); (case b2 => simp [go_sem]); (case b3 => simp [go_sem]); intro v28 w28 ho28 hb28; have HO28 := Aside0.mk ho28; have HB28 := Aside0.mk hb28; clear ho28 hb28)
    | (refine step_rest rfl (.tmp 28) (.tmp 31) rfl (A0 := A0) (i := i) (c0 := c0) (v := v28) (l0 := l0) (w := w) (xs := l0.take i ++ [⟨a, b⟩]) ?b6 ?b7 ?b8 ?b9 ?b10 ?b4 ?b11 ?b12 ?b5 ?bz; (case b6 => exact HR0.out); (case b7 => exact hc0); (case b8 => exact HB28.out); (case b9 => exact HO28.out); (case b10 => simp [Act.eval, Act.put]); (case b4 => simp [Act.eval, Act.put]); (case b11 => exact hi0); (case b12 => exact hl0); (case b5 => rw [List.length_append, List.length_take]; show _ + 1 ≤ _; omega); intro v32 w32 ho32 hb32; have HO32 := Aside0.mk ho32; have HB32 := Aside0.mk hb32; clear ho32 hb32))
  go_wp2
  all_goals
    go_ret2
    exact ⟨v32, rfl, by have h9 := HO32.out; rw [List.append_assoc] at h9; exact h9, HB32.out⟩
set_option maxHeartbeats 4000000 in
set_option maxRecDepth 100000 in
theorem with_is (A0 : Option Addr) (c0 : Nat) (l0 : List S23) (a b : ByteArray) (r1 : Int) (r2 : Bool) (r3 : Int) (w : World) (hr0 : Kd.C k23 w A0 l0.length l0) (hc0 : l0.length ≤ c0) (hl0 : l0.length ≤ 4294967296)
    (hf : node_find.f l0 a b = some (r1, r2, r3)) (h2 : r2 = true) (h3 : r3 = 0) :
    Calls Tryd.prog 21 #[.slice A0 l0.length c0, .agg #[.string a, .string b]] w fun e w' => ∃ v, e = .returned (.tuple #[v, .int .i64 0]) ∧ Kd.R k23 23 w' w.heap.size (fun _ => True) v l0 ∧ Below w.heap.size w w' := by
  subst h2 h3
  have HR0 := Aside0.mk hr0
  have hu23 := Tryd.underlying23
  have CF := fun (W : World) (h : Kd.C k23 W A0 l0.length l0) => node_find.calls A0 c0 l0 a b _ _ _ W h hc0 hf
  have CL := fun (W : World) (h : Kd.C k23 W A0 l0.length l0) => clone_calls A0 c0 l0 W h hl0
  clear hr0 hf
  go_enter Tryd.func21, Tryd.ntmps21
  go_wp2_with fail
  refine (CF _ (Kd.C_alloc HR0.out _)).mono ?_
  rintro e w1 ⟨rfl, hb1⟩
  have HB1 : Aside0 (Below w.heap.size w w1) := ⟨(below_alloc (Below.refl _ _) _).trans (hb1.mono (by simp))⟩
  clear hb1 CF
  go_wp2_with fail
  refine (CL _ (Kd.C_below HR0.out HB1.out)).mono ?_
  rintro e w2 ⟨v2, rfl, ho2, hb2⟩
  have HO2 : Aside0 (Kd.R k23 23 w2 w.heap.size (fun _ => True) v2 l0) := ⟨Kd.R_lower ho2 HB1.out.size⟩
  have HB2 : Aside0 (Below w.heap.size w w2) := ⟨HB1.out.trans (hb2.mono HB1.out.size)⟩
  clear ho2 hb2 CL
  go_wp2
  go_ret2
  exact ⟨v2, rfl, HO2.out, HB2.out⟩
set_option maxHeartbeats 4000000 in
set_option maxRecDepth 100000 in
theorem with_err (A0 : Option Addr) (c0 : Nat) (l0 : List S23) (a b : ByteArray) (r1 : Int) (r2 : Bool) (r3 : Int) (w : World) (hr0 : Kd.C k23 w A0 l0.length l0) (hc0 : l0.length ≤ c0)
    (hf : node_find.f l0 a b = some (r1, r2, r3)) (h3 : r3 = 1) :
    Calls Tryd.prog 21 #[.slice A0 l0.length c0, .agg #[.string a, .string b]] w fun e w' => ∃ v, e = .returned (.tuple #[v, .int .i64 1]) ∧ Kd.R k23 23 w' w.heap.size (fun _ => True) v [] ∧ Below w.heap.size w w' := by
  subst h3
  have HR0 := Aside0.mk hr0
  have hu23 := Tryd.underlying23
  have CF := fun (W : World) (h : Kd.C k23 W A0 l0.length l0) => node_find.calls A0 c0 l0 a b _ _ _ W h hc0 hf
  clear hr0 hf
  go_enter Tryd.func21, Tryd.ntmps21
  go_wp2_with fail
  refine (CF _ (Kd.C_alloc HR0.out _)).mono ?_
  rintro e w1 ⟨rfl, hb1⟩
  have HB1 : Aside0 (Below w.heap.size w w1) := ⟨(below_alloc (Below.refl _ _) _).trans (hb1.mono (by simp))⟩
  clear hb1 CF
  go_wp2
  go_ret2
  exact ⟨_, rfl, Kd.R_nil _ _ _ _ _, HB1.out⟩
/-- A set with a node. -/
def withN (l : List S23) (t : S23) : List S23 := if t ∈ l then l else l.take (ahead l t) ++ [t] ++ l.drop (ahead l t)
theorem ahead_le (l : List S23) (t : S23) : ahead l t ≤ l.length := List.length_filter_le _ _
def node_With.f (l : List S23) (a b : ByteArray) : Option (List S23 × Int) := if l.length ≤ 4294967296 ∧ (∀ x ∈ l, TinyN x) ∧ TinyN ⟨a, b⟩ then some (if checkN l = true ∧ mayN ⟨a, b⟩ = true then (withN l ⟨a, b⟩, 0) else ([], 1)) else none
theorem node_With.calls (A0 : Option Addr) (c0 : Nat) (l0 : List S23) (a1_0 a1_1 : ByteArray) (r1 : List S23) (r2 : Int) (w : World) (hr0 : Kd.C k23 w A0 l0.length l0) (hc0 : l0.length ≤ c0) (h : node_With.f l0 a1_0 a1_1 = some (r1, r2)) :
    Calls Tryd.prog 21 #[.slice A0 l0.length c0, .agg #[.string a1_0, .string a1_1]] w fun e w' => ∃ v, e = .returned (.tuple #[v, .int .i64 r2]) ∧ Kd.R k23 23 w' w.heap.size (fun _ => True) v r1 ∧ Below w.heap.size w w' := by
  unfold node_With.f at h
  split at h
  case isFalse => cases h
  case isTrue hc =>
    have hf := show node_find.f l0 a1_0 a1_1 = some (if checkN l0 = true ∧ mayN ⟨a1_0, a1_1⟩ = true then (((ahead l0 ⟨a1_0, a1_1⟩ : Nat) : Int), decide ((⟨a1_0, a1_1⟩ : S23) ∈ l0), (0 : Int)) else (0, false, 1)) from if_pos hc
    by_cases hk : checkN l0 = true ∧ mayN ⟨a1_0, a1_1⟩ = true
    · rw [if_pos hk] at hf h
      simp only [Option.some.injEq, Prod.mk.injEq] at h
      obtain ⟨rfl, rfl⟩ := h
      unfold withN
      by_cases hm : (⟨a1_0, a1_1⟩ : S23) ∈ l0
      · rw [if_pos hm]
        exact with_is A0 c0 l0 a1_0 a1_1 _ _ _ w hr0 hc0 hc.1 hf (decide_eq_true hm) rfl
      · rw [if_neg hm]
        exact with_go A0 c0 l0 a1_0 a1_1 _ _ _ w hr0 hc0 hc.1 hf _ (ahead_le _ _) rfl (decide_eq_false hm) rfl
    · rw [if_neg hk] at hf h
      simp only [Option.some.injEq, Prod.mk.injEq] at h
      obtain ⟨rfl, rfl⟩ := h
      exact with_err A0 c0 l0 a1_0 a1_1 _ _ _ w hr0 hc0 hf rfl
theorem withN_ref {l : List S23} {t : S23} (h : IsSet l) (gt : GoodN t) (mt : mayN t = true) : withN l t = rwithN l t := by
  unfold withN
  split
  · rename_i hm
    exact h.ext (rwithN_set h gt mt) (fun x => by
      rw [mem_rwithN h.good gt]
      exact ⟨Or.inl, fun e => e.elim id (fun e => by rw [e]; exact hm)⟩)
  · rename_i hm
    have hs := split_ahead t gt l h.good h.lt
    rw [hs.1, hs.2]
    unfold rwithN
    congr 1
    refine List.filter_congr fun x hx => ?_
    have h1 := ordN_to.sym x t (h.good x hx) gt
    have h2 := ordN_to.eq x t (h.good x hx) gt
    have h3 : x ≠ t := fun e => hm (by rw [← e]; exact hx)
    rcases ordN_to.tri x t with e | e | e
    · rw [decide_eq_true (by omega : ordN x t < 0), decide_eq_false (by omega : ¬ ordN t x < 0)]; rfl
    · exact absurd (h2.1 e) h3
    · rw [decide_eq_false (by omega : ¬ ordN x t < 0), decide_eq_true (by omega : ordN t x < 0)]; rfl
theorem withN_set {l : List S23} {t : S23} (h : IsSet l) (gt : GoodN t) (mt : mayN t = true) : IsSet (withN l t) := by
  rw [withN_ref h gt mt]; exact rwithN_set h gt mt
theorem mem_withN {l : List S23} {t : S23} (h : IsSet l) (gt : GoodN t) (mt : mayN t = true) (x : S23) : x ∈ withN l t ↔ x ∈ l ∨ x = t := by
  rw [withN_ref h gt mt]; exact mem_rwithN h.good gt x
end Go.Proofs.YtnknjhdpjjddeaaDoor.Q
end

section
namespace Go.Proofs.YtnknjhdpjjddeaaDoor.Q
open Go.RowKit Go.Proofs.YtnknjhdpjjddeaaDoorW.PrintWords Go.Proofs.YtnknjhdpjjddeaaDoorW.PrintLast Go.Proofs.YtnknjhdpjjddeaaDoorW.PrintMore
attribute [local go_sem] max2_int min2_int max_two min_two max_three min_three max_four min_four   -- for this text's walks alone
set_option linter.unusedVariables false
set_option linter.unusedSimpArgs false
/-! ### graftwoodlaw05_awake: function 11 -/
def graftwoodlaw05_awake.f (k : Nat)  : Option (Bool) := (node_Cmp.f k (⟨#[97]⟩ : ByteArray) (⟨#[118, 49, 46, 57, 46, 48]⟩ : ByteArray) (⟨#[97]⟩ : ByteArray) (⟨#[118, 49, 46, 49, 48, 46, 48]⟩ : ByteArray)).bind fun bt169 => ((node_Cmp.f k (⟨#[97]⟩ : ByteArray) (⟨#[118, 49, 46, 49, 48, 46, 48]⟩ : ByteArray) (⟨#[97, 47, 98]⟩ : ByteArray) (⟨#[118, 48, 46, 48, 46, 49]⟩ : ByteArray)).bind fun bt171 => ((node_Set.f (([(⟨(⟨#[97]⟩ : ByteArray), (⟨#[118, 49, 46, 57, 46, 48]⟩ : ByteArray)⟩ : S23), (⟨(⟨#[97]⟩ : ByteArray), (⟨#[118, 49, 46, 57, 46, 48]⟩ : ByteArray)⟩ : S23)] : List (S23)))).bind fun bt176 => ((node_Read.f k (⟨#[97, 64]⟩ : ByteArray)).bind fun bt180 => (if bt169.1 = (-1) then (if bt169.2 = 0 then (if bt171.1 = (-1) then (if bt171.2 = 0 then (if (bt176.1.length : Int) = 1 then (if bt176.2 = 0 then (some (bt180.2.2 == 1)) else (some false)) else (some false)) else (some false)) else (some false)) else (some false)) else (some false)))))
theorem graftwoodlaw05_awake.mono : ∀ k, LeO (graftwoodlaw05_awake.f k ) (graftwoodlaw05_awake.f (k + 1) ) := by
  intro  k
  unfold graftwoodlaw05_awake.f
  repeat' first
      | (with_reducible exact node_Cmp.mono _ _ _ _ _)
      | (with_reducible exact node_Read.mono _ _)
      | (with_reducible exact LeO.refl _)
      | (with_reducible exact LeO.none _)
      | (with_reducible refine LeO.ite ?_ ?_)
      | (with_reducible refine LeO.bind ?_ (fun _ => ?_))
      | exact node_Cmp.mono _ _ _ _ _
      | exact node_Read.mono _ _
      | exact LeO.none _
      | refine LeO.ite ?_ ?_
      | refine LeO.bind ?_ (fun _ => ?_)
set_option maxHeartbeats 8000000 in
set_option maxRecDepth 100000 in
theorem graftwoodlaw05_awake.calls (k : Nat)  (r : Bool) (w : World) (h : graftwoodlaw05_awake.f k  = some r) :
    Calls Tryd.prog 11 #[] w fun e w' => e = .returned (.bool r) ∧ Below w.heap.size w w' := by
  have hu23 := Tryd.underlying23
  have HB := Aside0.mk (Below.refl w.heap.size w)
  have H : ((node_Cmp.f k (⟨#[97]⟩ : ByteArray) (⟨#[118, 49, 46, 57, 46, 48]⟩ : ByteArray) (⟨#[97]⟩ : ByteArray) (⟨#[118, 49, 46, 49, 48, 46, 48]⟩ : ByteArray)).bind fun bt169 => ((node_Cmp.f k (⟨#[97]⟩ : ByteArray) (⟨#[118, 49, 46, 49, 48, 46, 48]⟩ : ByteArray) (⟨#[97, 47, 98]⟩ : ByteArray) (⟨#[118, 48, 46, 48, 46, 49]⟩ : ByteArray)).bind fun bt171 => ((node_Set.f (([(⟨(⟨#[97]⟩ : ByteArray), (⟨#[118, 49, 46, 57, 46, 48]⟩ : ByteArray)⟩ : S23), (⟨(⟨#[97]⟩ : ByteArray), (⟨#[118, 49, 46, 57, 46, 48]⟩ : ByteArray)⟩ : S23)] : List (S23)))).bind fun bt176 => ((node_Read.f k (⟨#[97, 64]⟩ : ByteArray)).bind fun bt180 => (if bt169.1 = (-1) then (if bt169.2 = 0 then (if bt171.1 = (-1) then (if bt171.2 = 0 then (if (bt176.1.length : Int) = 1 then (if bt176.2 = 0 then (some (bt180.2.2 == 1)) else (some false)) else (some false)) else (some false)) else (some false)) else (some false)) else (some false)))))) = some r := h
  clear h
  replace H := Option.bind_eq_some_iff.mp H
  obtain ⟨⟨t169, t170⟩, A10, H⟩ := H
  replace H : ((node_Cmp.f k (⟨#[97]⟩ : ByteArray) (⟨#[118, 49, 46, 49, 48, 46, 48]⟩ : ByteArray) (⟨#[97, 47, 98]⟩ : ByteArray) (⟨#[118, 48, 46, 48, 46, 49]⟩ : ByteArray)).bind fun bt171 => ((node_Set.f (([(⟨(⟨#[97]⟩ : ByteArray), (⟨#[118, 49, 46, 57, 46, 48]⟩ : ByteArray)⟩ : S23), (⟨(⟨#[97]⟩ : ByteArray), (⟨#[118, 49, 46, 57, 46, 48]⟩ : ByteArray)⟩ : S23)] : List (S23)))).bind fun bt176 => ((node_Read.f k (⟨#[97, 64]⟩ : ByteArray)).bind fun bt180 => (if t169 = (-1) then (if t170 = 0 then (if bt171.1 = (-1) then (if bt171.2 = 0 then (if (bt176.1.length : Int) = 1 then (if bt176.2 = 0 then (some (bt180.2.2 == 1)) else (some false)) else (some false)) else (some false)) else (some false)) else (some false)) else (some false))))) = some r := H
  have A1 := Aside0.mk A10
  clear A10
  replace H := Option.bind_eq_some_iff.mp H
  obtain ⟨⟨t171, t172⟩, A20, H⟩ := H
  replace H : ((node_Set.f (([(⟨(⟨#[97]⟩ : ByteArray), (⟨#[118, 49, 46, 57, 46, 48]⟩ : ByteArray)⟩ : S23), (⟨(⟨#[97]⟩ : ByteArray), (⟨#[118, 49, 46, 57, 46, 48]⟩ : ByteArray)⟩ : S23)] : List (S23)))).bind fun bt176 => ((node_Read.f k (⟨#[97, 64]⟩ : ByteArray)).bind fun bt180 => (if t169 = (-1) then (if t170 = 0 then (if t171 = (-1) then (if t172 = 0 then (if (bt176.1.length : Int) = 1 then (if bt176.2 = 0 then (some (bt180.2.2 == 1)) else (some false)) else (some false)) else (some false)) else (some false)) else (some false)) else (some false)))) = some r := H
  have A2 := Aside0.mk A20
  clear A20
  obtain ⟨y173, hy173⟩ : ∃ y_ : List (S23), y_ = (([(⟨(⟨#[97]⟩ : ByteArray), (⟨#[118, 49, 46, 57, 46, 48]⟩ : ByteArray)⟩ : S23), (⟨(⟨#[97]⟩ : ByteArray), (⟨#[118, 49, 46, 57, 46, 48]⟩ : ByteArray)⟩ : S23)] : List (S23))) := ⟨_, rfl⟩
  replace H : ((node_Set.f y173).bind fun bt176 => ((node_Read.f k (⟨#[97, 64]⟩ : ByteArray)).bind fun bt180 => (if t169 = (-1) then (if t170 = 0 then (if t171 = (-1) then (if t172 = 0 then (if (bt176.1.length : Int) = 1 then (if bt176.2 = 0 then (some (bt180.2.2 == 1)) else (some false)) else (some false)) else (some false)) else (some false)) else (some false)) else (some false)))) = some r := by first | (rw [hy173]; with_reducible exact H) | (have H2_ := (Option.bind_some _ _).symm.trans H; rw [hy173]; with_reducible exact H2_) | (have H2_ := (Option.bind_some _ _).symm.trans H; with_reducible exact H2_) | with_reducible exact H | (rw [hy173]; exact H) | exact H
  have Ny173 := Aside0.mk hy173
  clear hy173
  replace H := Option.bind_eq_some_iff.mp H
  obtain ⟨⟨t176, t177⟩, A30, H⟩ := H
  replace H : ((node_Read.f k (⟨#[97, 64]⟩ : ByteArray)).bind fun bt180 => (if t169 = (-1) then (if t170 = 0 then (if t171 = (-1) then (if t172 = 0 then (if (t176.length : Int) = 1 then (if t177 = 0 then (some (bt180.2.2 == 1)) else (some false)) else (some false)) else (some false)) else (some false)) else (some false)) else (some false))) = some r := H
  have A3 := Aside0.mk A30
  clear A30
  replace H := Option.bind_eq_some_iff.mp H
  obtain ⟨⟨t180, t181, t182⟩, A40, H⟩ := H
  replace H : (if t169 = (-1) then (if t170 = 0 then (if t171 = (-1) then (if t172 = 0 then (if (t176.length : Int) = 1 then (if t177 = 0 then (some (t182 == 1)) else (some false)) else (some false)) else (some false)) else (some false)) else (some false)) else (some false)) = some r := H
  have A4 := Aside0.mk A40
  clear A40
  by_cases c5 : t169 = (-1)
  · rw [if_pos c5] at H
    have c5b0 : (t169 == (-1)) = true := beq_iff_eq.mpr c5
    have c5b1 : (t169 != (-1)) = false := bne_eq_false_iff_eq.mpr c5
    clear c5
    by_cases c6 : t170 = 0
    · rw [if_pos c6] at H
      have c6b0 : (t170 == 0) = true := beq_iff_eq.mpr c6
      have c6b1 : (t170 != 0) = false := bne_eq_false_iff_eq.mpr c6
      clear c6
      by_cases c7 : t171 = (-1)
      · rw [if_pos c7] at H
        have c7b0 : (t171 == (-1)) = true := beq_iff_eq.mpr c7
        have c7b1 : (t171 != (-1)) = false := bne_eq_false_iff_eq.mpr c7
        clear c7
        by_cases c8 : t172 = 0
        · rw [if_pos c8] at H
          have c8b0 : (t172 == 0) = true := beq_iff_eq.mpr c8
          have c8b1 : (t172 != 0) = false := bne_eq_false_iff_eq.mpr c8
          clear c8
          by_cases c9 : (t176.length : Int) = 1
          · rw [if_pos c9] at H
            have c9b0 : ((t176.length : Int) == 1) = true := beq_iff_eq.mpr c9
            have c9b1 : ((t176.length : Int) != 1) = false := bne_eq_false_iff_eq.mpr c9
            clear c9
            by_cases c10 : t177 = 0
            · rw [if_pos c10] at H
              have c10b0 : (t177 == 0) = true := beq_iff_eq.mpr c10
              have c10b1 : (t177 != 0) = false := bne_eq_false_iff_eq.mpr c10
              clear c10
              obtain rfl := Option.some.inj H
              go_enter Tryd.func11, Tryd.ntmps11
              go_wp2_with (first | ((with_reducible refine gate_callee (f := 9) rfl ?_); refine goesL_ (some 12) rfl rfl Tryd.func9 (by kernel_rfl) rfl #[.agg #[.string (⟨#[97]⟩ : ByteArray), .string (⟨#[118, 49, 46, 57, 46, 48]⟩ : ByteArray)], .agg #[.string (⟨#[97]⟩ : ByteArray), .string (⟨#[118, 49, 46, 49, 48, 46, 48]⟩ : ByteArray)]] rfl (by (try simp only [List.map_toArray, List.map_cons, List.map_nil]); first | done | rfl | (simp only [List.length_drop, List.length_take]; rfl)) ?_; (with_reducible refine (node_Cmp.calls k (⟨#[97]⟩ : ByteArray) (⟨#[118, 49, 46, 57, 46, 48]⟩ : ByteArray) (⟨#[97]⟩ : ByteArray) (⟨#[118, 49, 46, 49, 48, 46, 48]⟩ : ByteArray) t169 t170 _ A1.out).mono ?_); rintro e w11 ⟨rfl, hb⟩; refine ⟨_, rfl, ?_⟩; have n0_ := Aside0.mk (below_step (by repeat (first | (with_reducible first | exact HB.out | apply below_alloc | apply pw_below_drewN | apply below_drew1) | exact HB.out)) hb); clear HB; have HB := n0_; clear n0_; (try clear hb); (try clear hb2); (try clear hk); (try clear hi)) | ((with_reducible refine gate_callee (f := 9) rfl ?_); refine goesL_ (some 18) rfl rfl Tryd.func9 (by kernel_rfl) rfl #[.agg #[.string (⟨#[97]⟩ : ByteArray), .string (⟨#[118, 49, 46, 49, 48, 46, 48]⟩ : ByteArray)], .agg #[.string (⟨#[97, 47, 98]⟩ : ByteArray), .string (⟨#[118, 48, 46, 48, 46, 49]⟩ : ByteArray)]] rfl (by (try simp only [List.map_toArray, List.map_cons, List.map_nil]); first | done | rfl | (simp only [List.length_drop, List.length_take]; rfl)) ?_; (with_reducible refine (node_Cmp.calls k (⟨#[97]⟩ : ByteArray) (⟨#[118, 49, 46, 49, 48, 46, 48]⟩ : ByteArray) (⟨#[97, 47, 98]⟩ : ByteArray) (⟨#[118, 48, 46, 48, 46, 49]⟩ : ByteArray) t171 t172 _ A2.out).mono ?_); rintro e w12 ⟨rfl, hb⟩; refine ⟨_, rfl, ?_⟩; have n0_ := Aside0.mk (below_step (by repeat (first | (with_reducible first | exact HB.out | apply below_alloc | apply pw_below_drewN | apply below_drew1) | exact HB.out)) hb); clear HB; have HB := n0_; clear n0_; (try clear hb); (try clear hb2); (try clear hk); (try clear hi)) | ((with_reducible refine gate_dst (N := 24) rfl ?_); (try (refine gate_guard (by rfl) ?_; dsimp only)); refine Kd.R_lit k23 _ 23 ?hg (N := 24) ?hd (xs := ([(⟨(⟨#[97]⟩ : ByteArray), (⟨#[118, 49, 46, 57, 46, 48]⟩ : ByteArray)⟩ : S23), (⟨(⟨#[97]⟩ : ByteArray), (⟨#[118, 49, 46, 57, 46, 48]⟩ : ByteArray)⟩ : S23)] : List (S23))) (inner := [.string (⟨#[97]⟩ : ByteArray), .string (⟨#[118, 49, 46, 57, 46, 48]⟩ : ByteArray), .string (⟨#[97]⟩ : ByteArray), .string (⟨#[118, 49, 46, 57, 46, 48]⟩ : ByteArray)]) (ok := fun _ => True) (okp := fun _ => True) ?hr ?hp (fun _ hk => hk) trivial (Below.refl _ _) (Nat.le_refl _) (by simp) ?_; (case hd => rfl); (case hg => rfl); (case hr => first | (go_simp; done) | (go_simp; rfl)); (case hp => exact (Reps.c2 (show Kd.M k23 _ _ _ (⟨(⟨#[97]⟩ : ByteArray), (⟨#[118, 49, 46, 57, 46, 48]⟩ : ByteArray)⟩ : S23) [.string (⟨#[97]⟩ : ByteArray), .string (⟨#[118, 49, 46, 57, 46, 48]⟩ : ByteArray)] from (k23_mkM _ _ _ (⟨(⟨#[97]⟩ : ByteArray), (⟨#[118, 49, 46, 57, 46, 48]⟩ : ByteArray)⟩ : S23) )) (Reps.c2 (show Kd.M k23 _ _ _ (⟨(⟨#[97]⟩ : ByteArray), (⟨#[118, 49, 46, 57, 46, 48]⟩ : ByteArray)⟩ : S23) [.string (⟨#[97]⟩ : ByteArray), .string (⟨#[118, 49, 46, 57, 46, 48]⟩ : ByteArray)] from (k23_mkM _ _ _ (⟨(⟨#[97]⟩ : ByteArray), (⟨#[118, 49, 46, 57, 46, 48]⟩ : ByteArray)⟩ : S23) )) (Reps.none _ _)))); intro v174 w13 ho14 hb hg_ hnew_; clear hg_ hnew_; (first | rw [← Ny173.out] at ho14 | (simp only [Int.reduceToNat] at ho14; rw [← Ny173.out] at ho14)); have n0_ := Aside0.mk (Kd.R_lower ho14 (below_size (by repeat (first | (with_reducible first | exact HB.out | apply below_alloc | apply pw_below_drewN | apply below_drew1) | exact HB.out)))); have n1_ := Aside0.mk (below_step (by repeat (first | (with_reducible first | exact HB.out | apply below_alloc | apply pw_below_drewN | apply below_drew1) | exact HB.out)) hb); clear HB; have HO175 := n0_; have HB := n1_; clear n0_ n1_; clear hb ho14; obtain ⟨Ao15, co15, eo15⟩ := Kd.R_slice HO175.out; subst eo15) | ((with_reducible refine gate_callee (f := 22) rfl ?_); refine goesL_ (some 25) rfl rfl Tryd.func22 (by kernel_rfl) rfl #[.slice Ao15 y173.length co15] rfl (by (try simp only [List.map_toArray, List.map_cons, List.map_nil]); first | done | rfl | (simp only [List.length_drop, List.length_take]; rfl)) ?_; (with_reducible refine (node_Set.calls _ _ y173 t176 t177 _ ?side1 ?side2 A3.out).mono ?_); (case side1 => repeat (first | exact (Kd.R_reads' HO175.out).2.2 | (with_reducible refine Kd.C_alloc ?_ _) | (with_reducible refine Kd.C_drewN ?_ _) | (with_reducible refine Kd.C_drew ?_))); (case side2 => exact (Kd.R_reads' HO175.out).2.1); rintro e w16 ⟨v178, rfl, ho0, hb⟩; refine ⟨_, rfl, ?_⟩; have n0_ := Aside0.mk (Kd.R_elder' (by (with_reducible repeat (first | apply Kd.R_alloc | apply Kd.R_drewN | apply Kd.R_drew)); exact HO175.out) (Kd.R_base ho0) hb); have n1_ := Aside0.mk (Kd.R_lower (Kd.R_new' ho0 (Kd.R_lt (by (with_reducible repeat (first | apply Kd.R_alloc | apply Kd.R_drewN | apply Kd.R_drew)); exact HO175.out))) (below_size (by repeat (first | (with_reducible first | exact HB.out | apply below_alloc | apply pw_below_drewN | apply below_drew1) | exact HB.out)))); have n2_ := Aside0.mk (below_step (by repeat (first | (with_reducible first | exact HB.out | apply below_alloc | apply pw_below_drewN | apply below_drew1) | exact HB.out)) hb); clear HO175; clear HB; have HO175 := n0_; have HO179 := n1_; have HB := n2_; clear n0_ n1_ n2_; (try clear hb); (try clear hb2); (try clear hk); (try clear hi); (try clear ho0)) | ((with_reducible refine gate_callee (f := 15) rfl ?_); refine goesL_ (some 29) rfl rfl Tryd.func15 (by kernel_rfl) rfl #[.string (⟨#[97, 64]⟩ : ByteArray)] rfl (by (try simp only [List.map_toArray, List.map_cons, List.map_nil]); first | done | rfl | (simp only [List.length_drop, List.length_take]; rfl)) ?_; (with_reducible refine (node_Read.calls k (⟨#[97, 64]⟩ : ByteArray) t180 t181 t182 _ A4.out).mono ?_); rintro e w17 ⟨rfl, hb⟩; refine ⟨_, rfl, ?_⟩; have n0_ := Aside0.mk (Kd.R_below (by (with_reducible repeat (first | apply Kd.R_alloc | apply Kd.R_drewN | apply Kd.R_drew)); exact HO175.out) hb); have n1_ := Aside0.mk (Kd.R_below (by (with_reducible repeat (first | apply Kd.R_alloc | apply Kd.R_drewN | apply Kd.R_drew)); exact HO179.out) hb); have n2_ := Aside0.mk (below_step (by repeat (first | (with_reducible first | exact HB.out | apply below_alloc | apply pw_below_drewN | apply below_drew1) | exact HB.out)) hb); clear HO175; clear HO179; clear HB; have HO175 := n0_; have HO179 := n1_; have HB := n2_; clear n0_ n1_ n2_; (try clear hb); (try clear hb2); (try clear hk); (try clear hi)) | ((with_reducible refine gate_dst (N := 7) rfl ?_); (try (refine gate_guard (by rfl) ?_; dsimp only)); refine box_event ?hg (N := 7) ?hd (cs := #[.string (⟨#[]⟩ : ByteArray), .string (⟨#[]⟩ : ByteArray)]) (t := 23) ?hr ?_; (case hd => rfl); (case hg => rfl); (case hr => first | (go_simp; done) | (go_simp; rfl)); intro gb183 hg w18 hbox hb; have n0_ := Aside0.mk (Kd.R_below (Kd.R_elderB (by (with_reducible repeat (first | apply Kd.R_alloc | apply Kd.R_drewN | apply Kd.R_drew)); exact HO175.out) gb183 (Nat.le_of_eq hg.symm)) hb); have n1_ := Aside0.mk (Kd.R_below (Kd.R_elderB (by (with_reducible repeat (first | apply Kd.R_alloc | apply Kd.R_drewN | apply Kd.R_drew)); exact HO179.out) gb183 (Nat.le_of_eq hg.symm)) hb); have n2_ := Aside0.mk (below_step (by repeat (first | (with_reducible first | exact HB.out | apply below_alloc | apply pw_below_drewN | apply below_drew1) | exact HB.out)) hb); have n3_ := Aside0.mk (hbox); have n4_ := Aside0.mk ((by rw [hg]; exact (below_size (by repeat (first | (with_reducible first | exact HB.out | apply below_alloc | apply pw_below_drewN | apply below_drew1) | exact HB.out))) : w.heap.size ≤ gb183)); have n5_ := Aside0.mk ((by rw [hg]; exact (below_size (by repeat (first | (with_reducible first | exact HB.out | apply below_alloc | apply pw_below_drewN | apply below_drew1) | exact HB.out))) : w.heap.size ≤ gb183)); clear HO175; clear HO179; clear HB; have HO175 := n0_; have HO179 := n1_; have HB := n2_; have BK183 := n3_; have GW183 := n4_; have GE183 := n5_; clear n0_ n1_ n2_ n3_ n4_ n5_; clear hb hbox hg; have hcz19_0 : w18.cell? ⟨gb183, 0, none⟩ = some (.string (⟨#[]⟩ : ByteArray)) := (blk_cell BK183.out 0).trans rfl; have hcz19_1 : w18.cell? ⟨gb183, 1, none⟩ = some (.string (⟨#[]⟩ : ByteArray)) := (blk_cell BK183.out 1).trans rfl; have hfz19_0 := blk_frozen BK183.out 0; have hfz19_1 := blk_frozen BK183.out 1; obtain ⟨Ao20, co20, eo20⟩ := Kd.R_slice HO179.out; subst eo20))
              go_ret
              exact ⟨by first | rfl | (simp [errW_none, errW_some] <;> rfl) | (simp [*, errW_none, errW_some] <;> rfl), by repeat (first | (with_reducible first | exact HB.out | apply below_alloc | apply pw_below_drewN | apply below_drew1 | refine below_set ?_ GE183.out) | exact HB.out)⟩
            · rw [if_neg c10] at H
              have c10b0 : (t177 == 0) = false := beq_eq_false_iff_ne.mpr c10
              have c10b1 : (t177 != 0) = true := bne_iff_ne.mpr c10
              obtain rfl := Option.some.inj H
              go_enter Tryd.func11, Tryd.ntmps11
              go_wp2_with (first | ((with_reducible refine gate_callee (f := 9) rfl ?_); refine goesL_ (some 12) rfl rfl Tryd.func9 (by kernel_rfl) rfl #[.agg #[.string (⟨#[97]⟩ : ByteArray), .string (⟨#[118, 49, 46, 57, 46, 48]⟩ : ByteArray)], .agg #[.string (⟨#[97]⟩ : ByteArray), .string (⟨#[118, 49, 46, 49, 48, 46, 48]⟩ : ByteArray)]] rfl (by (try simp only [List.map_toArray, List.map_cons, List.map_nil]); first | done | rfl | (simp only [List.length_drop, List.length_take]; rfl)) ?_; (with_reducible refine (node_Cmp.calls k (⟨#[97]⟩ : ByteArray) (⟨#[118, 49, 46, 57, 46, 48]⟩ : ByteArray) (⟨#[97]⟩ : ByteArray) (⟨#[118, 49, 46, 49, 48, 46, 48]⟩ : ByteArray) t169 t170 _ A1.out).mono ?_); rintro e w21 ⟨rfl, hb⟩; refine ⟨_, rfl, ?_⟩; have n0_ := Aside0.mk (below_step (by repeat (first | (with_reducible first | exact HB.out | apply below_alloc | apply pw_below_drewN | apply below_drew1) | exact HB.out)) hb); clear HB; have HB := n0_; clear n0_; (try clear hb); (try clear hb2); (try clear hk); (try clear hi)) | ((with_reducible refine gate_callee (f := 9) rfl ?_); refine goesL_ (some 18) rfl rfl Tryd.func9 (by kernel_rfl) rfl #[.agg #[.string (⟨#[97]⟩ : ByteArray), .string (⟨#[118, 49, 46, 49, 48, 46, 48]⟩ : ByteArray)], .agg #[.string (⟨#[97, 47, 98]⟩ : ByteArray), .string (⟨#[118, 48, 46, 48, 46, 49]⟩ : ByteArray)]] rfl (by (try simp only [List.map_toArray, List.map_cons, List.map_nil]); first | done | rfl | (simp only [List.length_drop, List.length_take]; rfl)) ?_; (with_reducible refine (node_Cmp.calls k (⟨#[97]⟩ : ByteArray) (⟨#[118, 49, 46, 49, 48, 46, 48]⟩ : ByteArray) (⟨#[97, 47, 98]⟩ : ByteArray) (⟨#[118, 48, 46, 48, 46, 49]⟩ : ByteArray) t171 t172 _ A2.out).mono ?_); rintro e w22 ⟨rfl, hb⟩; refine ⟨_, rfl, ?_⟩; have n0_ := Aside0.mk (below_step (by repeat (first | (with_reducible first | exact HB.out | apply below_alloc | apply pw_below_drewN | apply below_drew1) | exact HB.out)) hb); clear HB; have HB := n0_; clear n0_; (try clear hb); (try clear hb2); (try clear hk); (try clear hi)) | ((with_reducible refine gate_dst (N := 24) rfl ?_); (try (refine gate_guard (by rfl) ?_; dsimp only)); refine Kd.R_lit k23 _ 23 ?hg (N := 24) ?hd (xs := ([(⟨(⟨#[97]⟩ : ByteArray), (⟨#[118, 49, 46, 57, 46, 48]⟩ : ByteArray)⟩ : S23), (⟨(⟨#[97]⟩ : ByteArray), (⟨#[118, 49, 46, 57, 46, 48]⟩ : ByteArray)⟩ : S23)] : List (S23))) (inner := [.string (⟨#[97]⟩ : ByteArray), .string (⟨#[118, 49, 46, 57, 46, 48]⟩ : ByteArray), .string (⟨#[97]⟩ : ByteArray), .string (⟨#[118, 49, 46, 57, 46, 48]⟩ : ByteArray)]) (ok := fun _ => True) (okp := fun _ => True) ?hr ?hp (fun _ hk => hk) trivial (Below.refl _ _) (Nat.le_refl _) (by simp) ?_; (case hd => rfl); (case hg => rfl); (case hr => first | (go_simp; done) | (go_simp; rfl)); (case hp => exact (Reps.c2 (show Kd.M k23 _ _ _ (⟨(⟨#[97]⟩ : ByteArray), (⟨#[118, 49, 46, 57, 46, 48]⟩ : ByteArray)⟩ : S23) [.string (⟨#[97]⟩ : ByteArray), .string (⟨#[118, 49, 46, 57, 46, 48]⟩ : ByteArray)] from (k23_mkM _ _ _ (⟨(⟨#[97]⟩ : ByteArray), (⟨#[118, 49, 46, 57, 46, 48]⟩ : ByteArray)⟩ : S23) )) (Reps.c2 (show Kd.M k23 _ _ _ (⟨(⟨#[97]⟩ : ByteArray), (⟨#[118, 49, 46, 57, 46, 48]⟩ : ByteArray)⟩ : S23) [.string (⟨#[97]⟩ : ByteArray), .string (⟨#[118, 49, 46, 57, 46, 48]⟩ : ByteArray)] from (k23_mkM _ _ _ (⟨(⟨#[97]⟩ : ByteArray), (⟨#[118, 49, 46, 57, 46, 48]⟩ : ByteArray)⟩ : S23) )) (Reps.none _ _)))); intro v174 w23 ho24 hb hg_ hnew_; clear hg_ hnew_; (first | rw [← Ny173.out] at ho24 | (simp only [Int.reduceToNat] at ho24; rw [← Ny173.out] at ho24)); have n0_ := Aside0.mk (Kd.R_lower ho24 (below_size (by repeat (first | (with_reducible first | exact HB.out | apply below_alloc | apply pw_below_drewN | apply below_drew1) | exact HB.out)))); have n1_ := Aside0.mk (below_step (by repeat (first | (with_reducible first | exact HB.out | apply below_alloc | apply pw_below_drewN | apply below_drew1) | exact HB.out)) hb); clear HB; have HO175 := n0_; have HB := n1_; clear n0_ n1_; clear hb ho24; obtain ⟨Ao25, co25, eo25⟩ := Kd.R_slice HO175.out; subst eo25) | ((with_reducible refine gate_callee (f := 22) rfl ?_); refine goesL_ (some 25) rfl rfl Tryd.func22 (by kernel_rfl) rfl #[.slice Ao25 y173.length co25] rfl (by (try simp only [List.map_toArray, List.map_cons, List.map_nil]); first | done | rfl | (simp only [List.length_drop, List.length_take]; rfl)) ?_; (with_reducible refine (node_Set.calls _ _ y173 t176 t177 _ ?side1 ?side2 A3.out).mono ?_); (case side1 => repeat (first | exact (Kd.R_reads' HO175.out).2.2 | (with_reducible refine Kd.C_alloc ?_ _) | (with_reducible refine Kd.C_drewN ?_ _) | (with_reducible refine Kd.C_drew ?_))); (case side2 => exact (Kd.R_reads' HO175.out).2.1); rintro e w26 ⟨v178, rfl, ho0, hb⟩; refine ⟨_, rfl, ?_⟩; have n0_ := Aside0.mk (Kd.R_elder' (by (with_reducible repeat (first | apply Kd.R_alloc | apply Kd.R_drewN | apply Kd.R_drew)); exact HO175.out) (Kd.R_base ho0) hb); have n1_ := Aside0.mk (Kd.R_lower (Kd.R_new' ho0 (Kd.R_lt (by (with_reducible repeat (first | apply Kd.R_alloc | apply Kd.R_drewN | apply Kd.R_drew)); exact HO175.out))) (below_size (by repeat (first | (with_reducible first | exact HB.out | apply below_alloc | apply pw_below_drewN | apply below_drew1) | exact HB.out)))); have n2_ := Aside0.mk (below_step (by repeat (first | (with_reducible first | exact HB.out | apply below_alloc | apply pw_below_drewN | apply below_drew1) | exact HB.out)) hb); clear HO175; clear HB; have HO175 := n0_; have HO179 := n1_; have HB := n2_; clear n0_ n1_ n2_; (try clear hb); (try clear hb2); (try clear hk); (try clear hi); (try clear ho0)) | ((with_reducible refine gate_callee (f := 15) rfl ?_); refine goesL_ (some 29) rfl rfl Tryd.func15 (by kernel_rfl) rfl #[.string (⟨#[97, 64]⟩ : ByteArray)] rfl (by (try simp only [List.map_toArray, List.map_cons, List.map_nil]); first | done | rfl | (simp only [List.length_drop, List.length_take]; rfl)) ?_; (with_reducible refine (node_Read.calls k (⟨#[97, 64]⟩ : ByteArray) t180 t181 t182 _ A4.out).mono ?_); rintro e w27 ⟨rfl, hb⟩; refine ⟨_, rfl, ?_⟩; have n0_ := Aside0.mk (Kd.R_below (by (with_reducible repeat (first | apply Kd.R_alloc | apply Kd.R_drewN | apply Kd.R_drew)); exact HO175.out) hb); have n1_ := Aside0.mk (Kd.R_below (by (with_reducible repeat (first | apply Kd.R_alloc | apply Kd.R_drewN | apply Kd.R_drew)); exact HO179.out) hb); have n2_ := Aside0.mk (below_step (by repeat (first | (with_reducible first | exact HB.out | apply below_alloc | apply pw_below_drewN | apply below_drew1) | exact HB.out)) hb); clear HO175; clear HO179; clear HB; have HO175 := n0_; have HO179 := n1_; have HB := n2_; clear n0_ n1_ n2_; (try clear hb); (try clear hb2); (try clear hk); (try clear hi)) | ((with_reducible refine gate_dst (N := 7) rfl ?_); (try (refine gate_guard (by rfl) ?_; dsimp only)); refine box_event ?hg (N := 7) ?hd (cs := #[.string (⟨#[]⟩ : ByteArray), .string (⟨#[]⟩ : ByteArray)]) (t := 23) ?hr ?_; (case hd => rfl); (case hg => rfl); (case hr => first | (go_simp; done) | (go_simp; rfl)); intro gb183 hg w28 hbox hb; have n0_ := Aside0.mk (Kd.R_below (Kd.R_elderB (by (with_reducible repeat (first | apply Kd.R_alloc | apply Kd.R_drewN | apply Kd.R_drew)); exact HO175.out) gb183 (Nat.le_of_eq hg.symm)) hb); have n1_ := Aside0.mk (Kd.R_below (Kd.R_elderB (by (with_reducible repeat (first | apply Kd.R_alloc | apply Kd.R_drewN | apply Kd.R_drew)); exact HO179.out) gb183 (Nat.le_of_eq hg.symm)) hb); have n2_ := Aside0.mk (below_step (by repeat (first | (with_reducible first | exact HB.out | apply below_alloc | apply pw_below_drewN | apply below_drew1) | exact HB.out)) hb); have n3_ := Aside0.mk (hbox); have n4_ := Aside0.mk ((by rw [hg]; exact (below_size (by repeat (first | (with_reducible first | exact HB.out | apply below_alloc | apply pw_below_drewN | apply below_drew1) | exact HB.out))) : w.heap.size ≤ gb183)); have n5_ := Aside0.mk ((by rw [hg]; exact (below_size (by repeat (first | (with_reducible first | exact HB.out | apply below_alloc | apply pw_below_drewN | apply below_drew1) | exact HB.out))) : w.heap.size ≤ gb183)); clear HO175; clear HO179; clear HB; have HO175 := n0_; have HO179 := n1_; have HB := n2_; have BK183 := n3_; have GW183 := n4_; have GE183 := n5_; clear n0_ n1_ n2_ n3_ n4_ n5_; clear hb hbox hg; have hcz29_0 : w28.cell? ⟨gb183, 0, none⟩ = some (.string (⟨#[]⟩ : ByteArray)) := (blk_cell BK183.out 0).trans rfl; have hcz29_1 : w28.cell? ⟨gb183, 1, none⟩ = some (.string (⟨#[]⟩ : ByteArray)) := (blk_cell BK183.out 1).trans rfl; have hfz29_0 := blk_frozen BK183.out 0; have hfz29_1 := blk_frozen BK183.out 1; obtain ⟨Ao30, co30, eo30⟩ := Kd.R_slice HO179.out; subst eo30))
              go_ret
              exact ⟨by first | rfl | (simp [errW_none, errW_some] <;> rfl) | (simp [*, errW_none, errW_some] <;> rfl), by repeat (first | (with_reducible first | exact HB.out | apply below_alloc | apply pw_below_drewN | apply below_drew1 | refine below_set ?_ GE183.out) | exact HB.out)⟩
          · rw [if_neg c9] at H
            have c9b0 : ((t176.length : Int) == 1) = false := beq_eq_false_iff_ne.mpr c9
            have c9b1 : ((t176.length : Int) != 1) = true := bne_iff_ne.mpr c9
            obtain rfl := Option.some.inj H
            go_enter Tryd.func11, Tryd.ntmps11
            go_wp2_with (first | ((with_reducible refine gate_callee (f := 9) rfl ?_); refine goesL_ (some 12) rfl rfl Tryd.func9 (by kernel_rfl) rfl #[.agg #[.string (⟨#[97]⟩ : ByteArray), .string (⟨#[118, 49, 46, 57, 46, 48]⟩ : ByteArray)], .agg #[.string (⟨#[97]⟩ : ByteArray), .string (⟨#[118, 49, 46, 49, 48, 46, 48]⟩ : ByteArray)]] rfl (by (try simp only [List.map_toArray, List.map_cons, List.map_nil]); first | done | rfl | (simp only [List.length_drop, List.length_take]; rfl)) ?_; (with_reducible refine (node_Cmp.calls k (⟨#[97]⟩ : ByteArray) (⟨#[118, 49, 46, 57, 46, 48]⟩ : ByteArray) (⟨#[97]⟩ : ByteArray) (⟨#[118, 49, 46, 49, 48, 46, 48]⟩ : ByteArray) t169 t170 _ A1.out).mono ?_); rintro e w31 ⟨rfl, hb⟩; refine ⟨_, rfl, ?_⟩; have n0_ := Aside0.mk (below_step (by repeat (first | (with_reducible first | exact HB.out | apply below_alloc | apply pw_below_drewN | apply below_drew1) | exact HB.out)) hb); clear HB; have HB := n0_; clear n0_; (try clear hb); (try clear hb2); (try clear hk); (try clear hi)) | ((with_reducible refine gate_callee (f := 9) rfl ?_); refine goesL_ (some 18) rfl rfl Tryd.func9 (by kernel_rfl) rfl #[.agg #[.string (⟨#[97]⟩ : ByteArray), .string (⟨#[118, 49, 46, 49, 48, 46, 48]⟩ : ByteArray)], .agg #[.string (⟨#[97, 47, 98]⟩ : ByteArray), .string (⟨#[118, 48, 46, 48, 46, 49]⟩ : ByteArray)]] rfl (by (try simp only [List.map_toArray, List.map_cons, List.map_nil]); first | done | rfl | (simp only [List.length_drop, List.length_take]; rfl)) ?_; (with_reducible refine (node_Cmp.calls k (⟨#[97]⟩ : ByteArray) (⟨#[118, 49, 46, 49, 48, 46, 48]⟩ : ByteArray) (⟨#[97, 47, 98]⟩ : ByteArray) (⟨#[118, 48, 46, 48, 46, 49]⟩ : ByteArray) t171 t172 _ A2.out).mono ?_); rintro e w32 ⟨rfl, hb⟩; refine ⟨_, rfl, ?_⟩; have n0_ := Aside0.mk (below_step (by repeat (first | (with_reducible first | exact HB.out | apply below_alloc | apply pw_below_drewN | apply below_drew1) | exact HB.out)) hb); clear HB; have HB := n0_; clear n0_; (try clear hb); (try clear hb2); (try clear hk); (try clear hi)) | ((with_reducible refine gate_dst (N := 24) rfl ?_); (try (refine gate_guard (by rfl) ?_; dsimp only)); refine Kd.R_lit k23 _ 23 ?hg (N := 24) ?hd (xs := ([(⟨(⟨#[97]⟩ : ByteArray), (⟨#[118, 49, 46, 57, 46, 48]⟩ : ByteArray)⟩ : S23), (⟨(⟨#[97]⟩ : ByteArray), (⟨#[118, 49, 46, 57, 46, 48]⟩ : ByteArray)⟩ : S23)] : List (S23))) (inner := [.string (⟨#[97]⟩ : ByteArray), .string (⟨#[118, 49, 46, 57, 46, 48]⟩ : ByteArray), .string (⟨#[97]⟩ : ByteArray), .string (⟨#[118, 49, 46, 57, 46, 48]⟩ : ByteArray)]) (ok := fun _ => True) (okp := fun _ => True) ?hr ?hp (fun _ hk => hk) trivial (Below.refl _ _) (Nat.le_refl _) (by simp) ?_; (case hd => rfl); (case hg => rfl); (case hr => first | (go_simp; done) | (go_simp; rfl)); (case hp => exact (Reps.c2 (show Kd.M k23 _ _ _ (⟨(⟨#[97]⟩ : ByteArray), (⟨#[118, 49, 46, 57, 46, 48]⟩ : ByteArray)⟩ : S23) [.string (⟨#[97]⟩ : ByteArray), .string (⟨#[118, 49, 46, 57, 46, 48]⟩ : ByteArray)] from (k23_mkM _ _ _ (⟨(⟨#[97]⟩ : ByteArray), (⟨#[118, 49, 46, 57, 46, 48]⟩ : ByteArray)⟩ : S23) )) (Reps.c2 (show Kd.M k23 _ _ _ (⟨(⟨#[97]⟩ : ByteArray), (⟨#[118, 49, 46, 57, 46, 48]⟩ : ByteArray)⟩ : S23) [.string (⟨#[97]⟩ : ByteArray), .string (⟨#[118, 49, 46, 57, 46, 48]⟩ : ByteArray)] from (k23_mkM _ _ _ (⟨(⟨#[97]⟩ : ByteArray), (⟨#[118, 49, 46, 57, 46, 48]⟩ : ByteArray)⟩ : S23) )) (Reps.none _ _)))); intro v174 w33 ho34 hb hg_ hnew_; clear hg_ hnew_; (first | rw [← Ny173.out] at ho34 | (simp only [Int.reduceToNat] at ho34; rw [← Ny173.out] at ho34)); have n0_ := Aside0.mk (Kd.R_lower ho34 (below_size (by repeat (first | (with_reducible first | exact HB.out | apply below_alloc | apply pw_below_drewN | apply below_drew1) | exact HB.out)))); have n1_ := Aside0.mk (below_step (by repeat (first | (with_reducible first | exact HB.out | apply below_alloc | apply pw_below_drewN | apply below_drew1) | exact HB.out)) hb); clear HB; have HO175 := n0_; have HB := n1_; clear n0_ n1_; clear hb ho34; obtain ⟨Ao35, co35, eo35⟩ := Kd.R_slice HO175.out; subst eo35) | ((with_reducible refine gate_callee (f := 22) rfl ?_); refine goesL_ (some 25) rfl rfl Tryd.func22 (by kernel_rfl) rfl #[.slice Ao35 y173.length co35] rfl (by (try simp only [List.map_toArray, List.map_cons, List.map_nil]); first | done | rfl | (simp only [List.length_drop, List.length_take]; rfl)) ?_; (with_reducible refine (node_Set.calls _ _ y173 t176 t177 _ ?side1 ?side2 A3.out).mono ?_); (case side1 => repeat (first | exact (Kd.R_reads' HO175.out).2.2 | (with_reducible refine Kd.C_alloc ?_ _) | (with_reducible refine Kd.C_drewN ?_ _) | (with_reducible refine Kd.C_drew ?_))); (case side2 => exact (Kd.R_reads' HO175.out).2.1); rintro e w36 ⟨v178, rfl, ho0, hb⟩; refine ⟨_, rfl, ?_⟩; have n0_ := Aside0.mk (Kd.R_elder' (by (with_reducible repeat (first | apply Kd.R_alloc | apply Kd.R_drewN | apply Kd.R_drew)); exact HO175.out) (Kd.R_base ho0) hb); have n1_ := Aside0.mk (Kd.R_lower (Kd.R_new' ho0 (Kd.R_lt (by (with_reducible repeat (first | apply Kd.R_alloc | apply Kd.R_drewN | apply Kd.R_drew)); exact HO175.out))) (below_size (by repeat (first | (with_reducible first | exact HB.out | apply below_alloc | apply pw_below_drewN | apply below_drew1) | exact HB.out)))); have n2_ := Aside0.mk (below_step (by repeat (first | (with_reducible first | exact HB.out | apply below_alloc | apply pw_below_drewN | apply below_drew1) | exact HB.out)) hb); clear HO175; clear HB; have HO175 := n0_; have HO179 := n1_; have HB := n2_; clear n0_ n1_ n2_; (try clear hb); (try clear hb2); (try clear hk); (try clear hi); (try clear ho0)) | ((with_reducible refine gate_callee (f := 15) rfl ?_); refine goesL_ (some 29) rfl rfl Tryd.func15 (by kernel_rfl) rfl #[.string (⟨#[97, 64]⟩ : ByteArray)] rfl (by (try simp only [List.map_toArray, List.map_cons, List.map_nil]); first | done | rfl | (simp only [List.length_drop, List.length_take]; rfl)) ?_; (with_reducible refine (node_Read.calls k (⟨#[97, 64]⟩ : ByteArray) t180 t181 t182 _ A4.out).mono ?_); rintro e w37 ⟨rfl, hb⟩; refine ⟨_, rfl, ?_⟩; have n0_ := Aside0.mk (Kd.R_below (by (with_reducible repeat (first | apply Kd.R_alloc | apply Kd.R_drewN | apply Kd.R_drew)); exact HO175.out) hb); have n1_ := Aside0.mk (Kd.R_below (by (with_reducible repeat (first | apply Kd.R_alloc | apply Kd.R_drewN | apply Kd.R_drew)); exact HO179.out) hb); have n2_ := Aside0.mk (below_step (by repeat (first | (with_reducible first | exact HB.out | apply below_alloc | apply pw_below_drewN | apply below_drew1) | exact HB.out)) hb); clear HO175; clear HO179; clear HB; have HO175 := n0_; have HO179 := n1_; have HB := n2_; clear n0_ n1_ n2_; (try clear hb); (try clear hb2); (try clear hk); (try clear hi)) | ((with_reducible refine gate_dst (N := 7) rfl ?_); (try (refine gate_guard (by rfl) ?_; dsimp only)); refine box_event ?hg (N := 7) ?hd (cs := #[.string (⟨#[]⟩ : ByteArray), .string (⟨#[]⟩ : ByteArray)]) (t := 23) ?hr ?_; (case hd => rfl); (case hg => rfl); (case hr => first | (go_simp; done) | (go_simp; rfl)); intro gb183 hg w38 hbox hb; have n0_ := Aside0.mk (Kd.R_below (Kd.R_elderB (by (with_reducible repeat (first | apply Kd.R_alloc | apply Kd.R_drewN | apply Kd.R_drew)); exact HO175.out) gb183 (Nat.le_of_eq hg.symm)) hb); have n1_ := Aside0.mk (Kd.R_below (Kd.R_elderB (by (with_reducible repeat (first | apply Kd.R_alloc | apply Kd.R_drewN | apply Kd.R_drew)); exact HO179.out) gb183 (Nat.le_of_eq hg.symm)) hb); have n2_ := Aside0.mk (below_step (by repeat (first | (with_reducible first | exact HB.out | apply below_alloc | apply pw_below_drewN | apply below_drew1) | exact HB.out)) hb); have n3_ := Aside0.mk (hbox); have n4_ := Aside0.mk ((by rw [hg]; exact (below_size (by repeat (first | (with_reducible first | exact HB.out | apply below_alloc | apply pw_below_drewN | apply below_drew1) | exact HB.out))) : w.heap.size ≤ gb183)); have n5_ := Aside0.mk ((by rw [hg]; exact (below_size (by repeat (first | (with_reducible first | exact HB.out | apply below_alloc | apply pw_below_drewN | apply below_drew1) | exact HB.out))) : w.heap.size ≤ gb183)); clear HO175; clear HO179; clear HB; have HO175 := n0_; have HO179 := n1_; have HB := n2_; have BK183 := n3_; have GW183 := n4_; have GE183 := n5_; clear n0_ n1_ n2_ n3_ n4_ n5_; clear hb hbox hg; have hcz39_0 : w38.cell? ⟨gb183, 0, none⟩ = some (.string (⟨#[]⟩ : ByteArray)) := (blk_cell BK183.out 0).trans rfl; have hcz39_1 : w38.cell? ⟨gb183, 1, none⟩ = some (.string (⟨#[]⟩ : ByteArray)) := (blk_cell BK183.out 1).trans rfl; have hfz39_0 := blk_frozen BK183.out 0; have hfz39_1 := blk_frozen BK183.out 1; obtain ⟨Ao40, co40, eo40⟩ := Kd.R_slice HO179.out; subst eo40))
            go_ret
            exact ⟨by first | rfl | (simp [errW_none, errW_some] <;> rfl) | (simp [*, errW_none, errW_some] <;> rfl), by repeat (first | (with_reducible first | exact HB.out | apply below_alloc | apply pw_below_drewN | apply below_drew1 | refine below_set ?_ GE183.out) | exact HB.out)⟩
        · rw [if_neg c8] at H
          have c8b0 : (t172 == 0) = false := beq_eq_false_iff_ne.mpr c8
          have c8b1 : (t172 != 0) = true := bne_iff_ne.mpr c8
          obtain rfl := Option.some.inj H
          go_enter Tryd.func11, Tryd.ntmps11
          go_wp2_with (first | ((with_reducible refine gate_callee (f := 9) rfl ?_); refine goesL_ (some 12) rfl rfl Tryd.func9 (by kernel_rfl) rfl #[.agg #[.string (⟨#[97]⟩ : ByteArray), .string (⟨#[118, 49, 46, 57, 46, 48]⟩ : ByteArray)], .agg #[.string (⟨#[97]⟩ : ByteArray), .string (⟨#[118, 49, 46, 49, 48, 46, 48]⟩ : ByteArray)]] rfl (by (try simp only [List.map_toArray, List.map_cons, List.map_nil]); first | done | rfl | (simp only [List.length_drop, List.length_take]; rfl)) ?_; (with_reducible refine (node_Cmp.calls k (⟨#[97]⟩ : ByteArray) (⟨#[118, 49, 46, 57, 46, 48]⟩ : ByteArray) (⟨#[97]⟩ : ByteArray) (⟨#[118, 49, 46, 49, 48, 46, 48]⟩ : ByteArray) t169 t170 _ A1.out).mono ?_); rintro e w41 ⟨rfl, hb⟩; refine ⟨_, rfl, ?_⟩; have n0_ := Aside0.mk (below_step (by repeat (first | (with_reducible first | exact HB.out | apply below_alloc | apply pw_below_drewN | apply below_drew1) | exact HB.out)) hb); clear HB; have HB := n0_; clear n0_; (try clear hb); (try clear hb2); (try clear hk); (try clear hi)) | ((with_reducible refine gate_callee (f := 9) rfl ?_); refine goesL_ (some 18) rfl rfl Tryd.func9 (by kernel_rfl) rfl #[.agg #[.string (⟨#[97]⟩ : ByteArray), .string (⟨#[118, 49, 46, 49, 48, 46, 48]⟩ : ByteArray)], .agg #[.string (⟨#[97, 47, 98]⟩ : ByteArray), .string (⟨#[118, 48, 46, 48, 46, 49]⟩ : ByteArray)]] rfl (by (try simp only [List.map_toArray, List.map_cons, List.map_nil]); first | done | rfl | (simp only [List.length_drop, List.length_take]; rfl)) ?_; (with_reducible refine (node_Cmp.calls k (⟨#[97]⟩ : ByteArray) (⟨#[118, 49, 46, 49, 48, 46, 48]⟩ : ByteArray) (⟨#[97, 47, 98]⟩ : ByteArray) (⟨#[118, 48, 46, 48, 46, 49]⟩ : ByteArray) t171 t172 _ A2.out).mono ?_); rintro e w42 ⟨rfl, hb⟩; refine ⟨_, rfl, ?_⟩; have n0_ := Aside0.mk (below_step (by repeat (first | (with_reducible first | exact HB.out | apply below_alloc | apply pw_below_drewN | apply below_drew1) | exact HB.out)) hb); clear HB; have HB := n0_; clear n0_; (try clear hb); (try clear hb2); (try clear hk); (try clear hi)) | ((with_reducible refine gate_dst (N := 24) rfl ?_); (try (refine gate_guard (by rfl) ?_; dsimp only)); refine Kd.R_lit k23 _ 23 ?hg (N := 24) ?hd (xs := ([(⟨(⟨#[97]⟩ : ByteArray), (⟨#[118, 49, 46, 57, 46, 48]⟩ : ByteArray)⟩ : S23), (⟨(⟨#[97]⟩ : ByteArray), (⟨#[118, 49, 46, 57, 46, 48]⟩ : ByteArray)⟩ : S23)] : List (S23))) (inner := [.string (⟨#[97]⟩ : ByteArray), .string (⟨#[118, 49, 46, 57, 46, 48]⟩ : ByteArray), .string (⟨#[97]⟩ : ByteArray), .string (⟨#[118, 49, 46, 57, 46, 48]⟩ : ByteArray)]) (ok := fun _ => True) (okp := fun _ => True) ?hr ?hp (fun _ hk => hk) trivial (Below.refl _ _) (Nat.le_refl _) (by simp) ?_; (case hd => rfl); (case hg => rfl); (case hr => first | (go_simp; done) | (go_simp; rfl)); (case hp => exact (Reps.c2 (show Kd.M k23 _ _ _ (⟨(⟨#[97]⟩ : ByteArray), (⟨#[118, 49, 46, 57, 46, 48]⟩ : ByteArray)⟩ : S23) [.string (⟨#[97]⟩ : ByteArray), .string (⟨#[118, 49, 46, 57, 46, 48]⟩ : ByteArray)] from (k23_mkM _ _ _ (⟨(⟨#[97]⟩ : ByteArray), (⟨#[118, 49, 46, 57, 46, 48]⟩ : ByteArray)⟩ : S23) )) (Reps.c2 (show Kd.M k23 _ _ _ (⟨(⟨#[97]⟩ : ByteArray), (⟨#[118, 49, 46, 57, 46, 48]⟩ : ByteArray)⟩ : S23) [.string (⟨#[97]⟩ : ByteArray), .string (⟨#[118, 49, 46, 57, 46, 48]⟩ : ByteArray)] from (k23_mkM _ _ _ (⟨(⟨#[97]⟩ : ByteArray), (⟨#[118, 49, 46, 57, 46, 48]⟩ : ByteArray)⟩ : S23) )) (Reps.none _ _)))); intro v174 w43 ho44 hb hg_ hnew_; clear hg_ hnew_; (first | rw [← Ny173.out] at ho44 | (simp only [Int.reduceToNat] at ho44; rw [← Ny173.out] at ho44)); have n0_ := Aside0.mk (Kd.R_lower ho44 (below_size (by repeat (first | (with_reducible first | exact HB.out | apply below_alloc | apply pw_below_drewN | apply below_drew1) | exact HB.out)))); have n1_ := Aside0.mk (below_step (by repeat (first | (with_reducible first | exact HB.out | apply below_alloc | apply pw_below_drewN | apply below_drew1) | exact HB.out)) hb); clear HB; have HO175 := n0_; have HB := n1_; clear n0_ n1_; clear hb ho44; obtain ⟨Ao45, co45, eo45⟩ := Kd.R_slice HO175.out; subst eo45) | ((with_reducible refine gate_callee (f := 22) rfl ?_); refine goesL_ (some 25) rfl rfl Tryd.func22 (by kernel_rfl) rfl #[.slice Ao45 y173.length co45] rfl (by (try simp only [List.map_toArray, List.map_cons, List.map_nil]); first | done | rfl | (simp only [List.length_drop, List.length_take]; rfl)) ?_; (with_reducible refine (node_Set.calls _ _ y173 t176 t177 _ ?side1 ?side2 A3.out).mono ?_); (case side1 => repeat (first | exact (Kd.R_reads' HO175.out).2.2 | (with_reducible refine Kd.C_alloc ?_ _) | (with_reducible refine Kd.C_drewN ?_ _) | (with_reducible refine Kd.C_drew ?_))); (case side2 => exact (Kd.R_reads' HO175.out).2.1); rintro e w46 ⟨v178, rfl, ho0, hb⟩; refine ⟨_, rfl, ?_⟩; have n0_ := Aside0.mk (Kd.R_elder' (by (with_reducible repeat (first | apply Kd.R_alloc | apply Kd.R_drewN | apply Kd.R_drew)); exact HO175.out) (Kd.R_base ho0) hb); have n1_ := Aside0.mk (Kd.R_lower (Kd.R_new' ho0 (Kd.R_lt (by (with_reducible repeat (first | apply Kd.R_alloc | apply Kd.R_drewN | apply Kd.R_drew)); exact HO175.out))) (below_size (by repeat (first | (with_reducible first | exact HB.out | apply below_alloc | apply pw_below_drewN | apply below_drew1) | exact HB.out)))); have n2_ := Aside0.mk (below_step (by repeat (first | (with_reducible first | exact HB.out | apply below_alloc | apply pw_below_drewN | apply below_drew1) | exact HB.out)) hb); clear HO175; clear HB; have HO175 := n0_; have HO179 := n1_; have HB := n2_; clear n0_ n1_ n2_; (try clear hb); (try clear hb2); (try clear hk); (try clear hi); (try clear ho0)) | ((with_reducible refine gate_callee (f := 15) rfl ?_); refine goesL_ (some 29) rfl rfl Tryd.func15 (by kernel_rfl) rfl #[.string (⟨#[97, 64]⟩ : ByteArray)] rfl (by (try simp only [List.map_toArray, List.map_cons, List.map_nil]); first | done | rfl | (simp only [List.length_drop, List.length_take]; rfl)) ?_; (with_reducible refine (node_Read.calls k (⟨#[97, 64]⟩ : ByteArray) t180 t181 t182 _ A4.out).mono ?_); rintro e w47 ⟨rfl, hb⟩; refine ⟨_, rfl, ?_⟩; have n0_ := Aside0.mk (Kd.R_below (by (with_reducible repeat (first | apply Kd.R_alloc | apply Kd.R_drewN | apply Kd.R_drew)); exact HO175.out) hb); have n1_ := Aside0.mk (Kd.R_below (by (with_reducible repeat (first | apply Kd.R_alloc | apply Kd.R_drewN | apply Kd.R_drew)); exact HO179.out) hb); have n2_ := Aside0.mk (below_step (by repeat (first | (with_reducible first | exact HB.out | apply below_alloc | apply pw_below_drewN | apply below_drew1) | exact HB.out)) hb); clear HO175; clear HO179; clear HB; have HO175 := n0_; have HO179 := n1_; have HB := n2_; clear n0_ n1_ n2_; (try clear hb); (try clear hb2); (try clear hk); (try clear hi)) | ((with_reducible refine gate_dst (N := 7) rfl ?_); (try (refine gate_guard (by rfl) ?_; dsimp only)); refine box_event ?hg (N := 7) ?hd (cs := #[.string (⟨#[]⟩ : ByteArray), .string (⟨#[]⟩ : ByteArray)]) (t := 23) ?hr ?_; (case hd => rfl); (case hg => rfl); (case hr => first | (go_simp; done) | (go_simp; rfl)); intro gb183 hg w48 hbox hb; have n0_ := Aside0.mk (Kd.R_below (Kd.R_elderB (by (with_reducible repeat (first | apply Kd.R_alloc | apply Kd.R_drewN | apply Kd.R_drew)); exact HO175.out) gb183 (Nat.le_of_eq hg.symm)) hb); have n1_ := Aside0.mk (Kd.R_below (Kd.R_elderB (by (with_reducible repeat (first | apply Kd.R_alloc | apply Kd.R_drewN | apply Kd.R_drew)); exact HO179.out) gb183 (Nat.le_of_eq hg.symm)) hb); have n2_ := Aside0.mk (below_step (by repeat (first | (with_reducible first | exact HB.out | apply below_alloc | apply pw_below_drewN | apply below_drew1) | exact HB.out)) hb); have n3_ := Aside0.mk (hbox); have n4_ := Aside0.mk ((by rw [hg]; exact (below_size (by repeat (first | (with_reducible first | exact HB.out | apply below_alloc | apply pw_below_drewN | apply below_drew1) | exact HB.out))) : w.heap.size ≤ gb183)); have n5_ := Aside0.mk ((by rw [hg]; exact (below_size (by repeat (first | (with_reducible first | exact HB.out | apply below_alloc | apply pw_below_drewN | apply below_drew1) | exact HB.out))) : w.heap.size ≤ gb183)); clear HO175; clear HO179; clear HB; have HO175 := n0_; have HO179 := n1_; have HB := n2_; have BK183 := n3_; have GW183 := n4_; have GE183 := n5_; clear n0_ n1_ n2_ n3_ n4_ n5_; clear hb hbox hg; have hcz49_0 : w48.cell? ⟨gb183, 0, none⟩ = some (.string (⟨#[]⟩ : ByteArray)) := (blk_cell BK183.out 0).trans rfl; have hcz49_1 : w48.cell? ⟨gb183, 1, none⟩ = some (.string (⟨#[]⟩ : ByteArray)) := (blk_cell BK183.out 1).trans rfl; have hfz49_0 := blk_frozen BK183.out 0; have hfz49_1 := blk_frozen BK183.out 1))
          go_ret
          exact ⟨by first | rfl | (simp [errW_none, errW_some] <;> rfl) | (simp [*, errW_none, errW_some] <;> rfl), by repeat (first | (with_reducible first | exact HB.out | apply below_alloc | apply pw_below_drewN | apply below_drew1 | refine below_set ?_ GE183.out) | exact HB.out)⟩
      · rw [if_neg c7] at H
        have c7b0 : (t171 == (-1)) = false := beq_eq_false_iff_ne.mpr c7
        have c7b1 : (t171 != (-1)) = true := bne_iff_ne.mpr c7
        obtain rfl := Option.some.inj H
        go_enter Tryd.func11, Tryd.ntmps11
        go_wp2_with (first | ((with_reducible refine gate_callee (f := 9) rfl ?_); refine goesL_ (some 12) rfl rfl Tryd.func9 (by kernel_rfl) rfl #[.agg #[.string (⟨#[97]⟩ : ByteArray), .string (⟨#[118, 49, 46, 57, 46, 48]⟩ : ByteArray)], .agg #[.string (⟨#[97]⟩ : ByteArray), .string (⟨#[118, 49, 46, 49, 48, 46, 48]⟩ : ByteArray)]] rfl (by (try simp only [List.map_toArray, List.map_cons, List.map_nil]); first | done | rfl | (simp only [List.length_drop, List.length_take]; rfl)) ?_; (with_reducible refine (node_Cmp.calls k (⟨#[97]⟩ : ByteArray) (⟨#[118, 49, 46, 57, 46, 48]⟩ : ByteArray) (⟨#[97]⟩ : ByteArray) (⟨#[118, 49, 46, 49, 48, 46, 48]⟩ : ByteArray) t169 t170 _ A1.out).mono ?_); rintro e w50 ⟨rfl, hb⟩; refine ⟨_, rfl, ?_⟩; have n0_ := Aside0.mk (below_step (by repeat (first | (with_reducible first | exact HB.out | apply below_alloc | apply pw_below_drewN | apply below_drew1) | exact HB.out)) hb); clear HB; have HB := n0_; clear n0_; (try clear hb); (try clear hb2); (try clear hk); (try clear hi)) | ((with_reducible refine gate_callee (f := 9) rfl ?_); refine goesL_ (some 18) rfl rfl Tryd.func9 (by kernel_rfl) rfl #[.agg #[.string (⟨#[97]⟩ : ByteArray), .string (⟨#[118, 49, 46, 49, 48, 46, 48]⟩ : ByteArray)], .agg #[.string (⟨#[97, 47, 98]⟩ : ByteArray), .string (⟨#[118, 48, 46, 48, 46, 49]⟩ : ByteArray)]] rfl (by (try simp only [List.map_toArray, List.map_cons, List.map_nil]); first | done | rfl | (simp only [List.length_drop, List.length_take]; rfl)) ?_; (with_reducible refine (node_Cmp.calls k (⟨#[97]⟩ : ByteArray) (⟨#[118, 49, 46, 49, 48, 46, 48]⟩ : ByteArray) (⟨#[97, 47, 98]⟩ : ByteArray) (⟨#[118, 48, 46, 48, 46, 49]⟩ : ByteArray) t171 t172 _ A2.out).mono ?_); rintro e w51 ⟨rfl, hb⟩; refine ⟨_, rfl, ?_⟩; have n0_ := Aside0.mk (below_step (by repeat (first | (with_reducible first | exact HB.out | apply below_alloc | apply pw_below_drewN | apply below_drew1) | exact HB.out)) hb); clear HB; have HB := n0_; clear n0_; (try clear hb); (try clear hb2); (try clear hk); (try clear hi)) | ((with_reducible refine gate_dst (N := 24) rfl ?_); (try (refine gate_guard (by rfl) ?_; dsimp only)); refine Kd.R_lit k23 _ 23 ?hg (N := 24) ?hd (xs := ([(⟨(⟨#[97]⟩ : ByteArray), (⟨#[118, 49, 46, 57, 46, 48]⟩ : ByteArray)⟩ : S23), (⟨(⟨#[97]⟩ : ByteArray), (⟨#[118, 49, 46, 57, 46, 48]⟩ : ByteArray)⟩ : S23)] : List (S23))) (inner := [.string (⟨#[97]⟩ : ByteArray), .string (⟨#[118, 49, 46, 57, 46, 48]⟩ : ByteArray), .string (⟨#[97]⟩ : ByteArray), .string (⟨#[118, 49, 46, 57, 46, 48]⟩ : ByteArray)]) (ok := fun _ => True) (okp := fun _ => True) ?hr ?hp (fun _ hk => hk) trivial (Below.refl _ _) (Nat.le_refl _) (by simp) ?_; (case hd => rfl); (case hg => rfl); (case hr => first | (go_simp; done) | (go_simp; rfl)); (case hp => exact (Reps.c2 (show Kd.M k23 _ _ _ (⟨(⟨#[97]⟩ : ByteArray), (⟨#[118, 49, 46, 57, 46, 48]⟩ : ByteArray)⟩ : S23) [.string (⟨#[97]⟩ : ByteArray), .string (⟨#[118, 49, 46, 57, 46, 48]⟩ : ByteArray)] from (k23_mkM _ _ _ (⟨(⟨#[97]⟩ : ByteArray), (⟨#[118, 49, 46, 57, 46, 48]⟩ : ByteArray)⟩ : S23) )) (Reps.c2 (show Kd.M k23 _ _ _ (⟨(⟨#[97]⟩ : ByteArray), (⟨#[118, 49, 46, 57, 46, 48]⟩ : ByteArray)⟩ : S23) [.string (⟨#[97]⟩ : ByteArray), .string (⟨#[118, 49, 46, 57, 46, 48]⟩ : ByteArray)] from (k23_mkM _ _ _ (⟨(⟨#[97]⟩ : ByteArray), (⟨#[118, 49, 46, 57, 46, 48]⟩ : ByteArray)⟩ : S23) )) (Reps.none _ _)))); intro v174 w52 ho53 hb hg_ hnew_; clear hg_ hnew_; (first | rw [← Ny173.out] at ho53 | (simp only [Int.reduceToNat] at ho53; rw [← Ny173.out] at ho53)); have n0_ := Aside0.mk (Kd.R_lower ho53 (below_size (by repeat (first | (with_reducible first | exact HB.out | apply below_alloc | apply pw_below_drewN | apply below_drew1) | exact HB.out)))); have n1_ := Aside0.mk (below_step (by repeat (first | (with_reducible first | exact HB.out | apply below_alloc | apply pw_below_drewN | apply below_drew1) | exact HB.out)) hb); clear HB; have HO175 := n0_; have HB := n1_; clear n0_ n1_; clear hb ho53; obtain ⟨Ao54, co54, eo54⟩ := Kd.R_slice HO175.out; subst eo54) | ((with_reducible refine gate_callee (f := 22) rfl ?_); refine goesL_ (some 25) rfl rfl Tryd.func22 (by kernel_rfl) rfl #[.slice Ao54 y173.length co54] rfl (by (try simp only [List.map_toArray, List.map_cons, List.map_nil]); first | done | rfl | (simp only [List.length_drop, List.length_take]; rfl)) ?_; (with_reducible refine (node_Set.calls _ _ y173 t176 t177 _ ?side1 ?side2 A3.out).mono ?_); (case side1 => repeat (first | exact (Kd.R_reads' HO175.out).2.2 | (with_reducible refine Kd.C_alloc ?_ _) | (with_reducible refine Kd.C_drewN ?_ _) | (with_reducible refine Kd.C_drew ?_))); (case side2 => exact (Kd.R_reads' HO175.out).2.1); rintro e w55 ⟨v178, rfl, ho0, hb⟩; refine ⟨_, rfl, ?_⟩; have n0_ := Aside0.mk (Kd.R_elder' (by (with_reducible repeat (first | apply Kd.R_alloc | apply Kd.R_drewN | apply Kd.R_drew)); exact HO175.out) (Kd.R_base ho0) hb); have n1_ := Aside0.mk (Kd.R_lower (Kd.R_new' ho0 (Kd.R_lt (by (with_reducible repeat (first | apply Kd.R_alloc | apply Kd.R_drewN | apply Kd.R_drew)); exact HO175.out))) (below_size (by repeat (first | (with_reducible first | exact HB.out | apply below_alloc | apply pw_below_drewN | apply below_drew1) | exact HB.out)))); have n2_ := Aside0.mk (below_step (by repeat (first | (with_reducible first | exact HB.out | apply below_alloc | apply pw_below_drewN | apply below_drew1) | exact HB.out)) hb); clear HO175; clear HB; have HO175 := n0_; have HO179 := n1_; have HB := n2_; clear n0_ n1_ n2_; (try clear hb); (try clear hb2); (try clear hk); (try clear hi); (try clear ho0)) | ((with_reducible refine gate_callee (f := 15) rfl ?_); refine goesL_ (some 29) rfl rfl Tryd.func15 (by kernel_rfl) rfl #[.string (⟨#[97, 64]⟩ : ByteArray)] rfl (by (try simp only [List.map_toArray, List.map_cons, List.map_nil]); first | done | rfl | (simp only [List.length_drop, List.length_take]; rfl)) ?_; (with_reducible refine (node_Read.calls k (⟨#[97, 64]⟩ : ByteArray) t180 t181 t182 _ A4.out).mono ?_); rintro e w56 ⟨rfl, hb⟩; refine ⟨_, rfl, ?_⟩; have n0_ := Aside0.mk (Kd.R_below (by (with_reducible repeat (first | apply Kd.R_alloc | apply Kd.R_drewN | apply Kd.R_drew)); exact HO175.out) hb); have n1_ := Aside0.mk (Kd.R_below (by (with_reducible repeat (first | apply Kd.R_alloc | apply Kd.R_drewN | apply Kd.R_drew)); exact HO179.out) hb); have n2_ := Aside0.mk (below_step (by repeat (first | (with_reducible first | exact HB.out | apply below_alloc | apply pw_below_drewN | apply below_drew1) | exact HB.out)) hb); clear HO175; clear HO179; clear HB; have HO175 := n0_; have HO179 := n1_; have HB := n2_; clear n0_ n1_ n2_; (try clear hb); (try clear hb2); (try clear hk); (try clear hi)) | ((with_reducible refine gate_dst (N := 7) rfl ?_); (try (refine gate_guard (by rfl) ?_; dsimp only)); refine box_event ?hg (N := 7) ?hd (cs := #[.string (⟨#[]⟩ : ByteArray), .string (⟨#[]⟩ : ByteArray)]) (t := 23) ?hr ?_; (case hd => rfl); (case hg => rfl); (case hr => first | (go_simp; done) | (go_simp; rfl)); intro gb183 hg w57 hbox hb; have n0_ := Aside0.mk (Kd.R_below (Kd.R_elderB (by (with_reducible repeat (first | apply Kd.R_alloc | apply Kd.R_drewN | apply Kd.R_drew)); exact HO175.out) gb183 (Nat.le_of_eq hg.symm)) hb); have n1_ := Aside0.mk (Kd.R_below (Kd.R_elderB (by (with_reducible repeat (first | apply Kd.R_alloc | apply Kd.R_drewN | apply Kd.R_drew)); exact HO179.out) gb183 (Nat.le_of_eq hg.symm)) hb); have n2_ := Aside0.mk (below_step (by repeat (first | (with_reducible first | exact HB.out | apply below_alloc | apply pw_below_drewN | apply below_drew1) | exact HB.out)) hb); have n3_ := Aside0.mk (hbox); have n4_ := Aside0.mk ((by rw [hg]; exact (below_size (by repeat (first | (with_reducible first | exact HB.out | apply below_alloc | apply pw_below_drewN | apply below_drew1) | exact HB.out))) : w.heap.size ≤ gb183)); have n5_ := Aside0.mk ((by rw [hg]; exact (below_size (by repeat (first | (with_reducible first | exact HB.out | apply below_alloc | apply pw_below_drewN | apply below_drew1) | exact HB.out))) : w.heap.size ≤ gb183)); clear HO175; clear HO179; clear HB; have HO175 := n0_; have HO179 := n1_; have HB := n2_; have BK183 := n3_; have GW183 := n4_; have GE183 := n5_; clear n0_ n1_ n2_ n3_ n4_ n5_; clear hb hbox hg; have hcz58_0 : w57.cell? ⟨gb183, 0, none⟩ = some (.string (⟨#[]⟩ : ByteArray)) := (blk_cell BK183.out 0).trans rfl; have hcz58_1 : w57.cell? ⟨gb183, 1, none⟩ = some (.string (⟨#[]⟩ : ByteArray)) := (blk_cell BK183.out 1).trans rfl; have hfz58_0 := blk_frozen BK183.out 0; have hfz58_1 := blk_frozen BK183.out 1))
        go_ret
        exact ⟨by first | rfl | (simp [errW_none, errW_some] <;> rfl) | (simp [*, errW_none, errW_some] <;> rfl), by repeat (first | (with_reducible first | exact HB.out | apply below_alloc | apply pw_below_drewN | apply below_drew1 | refine below_set ?_ GE183.out) | exact HB.out)⟩
    · rw [if_neg c6] at H
      have c6b0 : (t170 == 0) = false := beq_eq_false_iff_ne.mpr c6
      have c6b1 : (t170 != 0) = true := bne_iff_ne.mpr c6
      obtain rfl := Option.some.inj H
      go_enter Tryd.func11, Tryd.ntmps11
      go_wp2_with (first | ((with_reducible refine gate_callee (f := 9) rfl ?_); refine goesL_ (some 12) rfl rfl Tryd.func9 (by kernel_rfl) rfl #[.agg #[.string (⟨#[97]⟩ : ByteArray), .string (⟨#[118, 49, 46, 57, 46, 48]⟩ : ByteArray)], .agg #[.string (⟨#[97]⟩ : ByteArray), .string (⟨#[118, 49, 46, 49, 48, 46, 48]⟩ : ByteArray)]] rfl (by (try simp only [List.map_toArray, List.map_cons, List.map_nil]); first | done | rfl | (simp only [List.length_drop, List.length_take]; rfl)) ?_; (with_reducible refine (node_Cmp.calls k (⟨#[97]⟩ : ByteArray) (⟨#[118, 49, 46, 57, 46, 48]⟩ : ByteArray) (⟨#[97]⟩ : ByteArray) (⟨#[118, 49, 46, 49, 48, 46, 48]⟩ : ByteArray) t169 t170 _ A1.out).mono ?_); rintro e w59 ⟨rfl, hb⟩; refine ⟨_, rfl, ?_⟩; have n0_ := Aside0.mk (below_step (by repeat (first | (with_reducible first | exact HB.out | apply below_alloc | apply pw_below_drewN | apply below_drew1) | exact HB.out)) hb); clear HB; have HB := n0_; clear n0_; (try clear hb); (try clear hb2); (try clear hk); (try clear hi)) | ((with_reducible refine gate_callee (f := 9) rfl ?_); refine goesL_ (some 18) rfl rfl Tryd.func9 (by kernel_rfl) rfl #[.agg #[.string (⟨#[97]⟩ : ByteArray), .string (⟨#[118, 49, 46, 49, 48, 46, 48]⟩ : ByteArray)], .agg #[.string (⟨#[97, 47, 98]⟩ : ByteArray), .string (⟨#[118, 48, 46, 48, 46, 49]⟩ : ByteArray)]] rfl (by (try simp only [List.map_toArray, List.map_cons, List.map_nil]); first | done | rfl | (simp only [List.length_drop, List.length_take]; rfl)) ?_; (with_reducible refine (node_Cmp.calls k (⟨#[97]⟩ : ByteArray) (⟨#[118, 49, 46, 49, 48, 46, 48]⟩ : ByteArray) (⟨#[97, 47, 98]⟩ : ByteArray) (⟨#[118, 48, 46, 48, 46, 49]⟩ : ByteArray) t171 t172 _ A2.out).mono ?_); rintro e w60 ⟨rfl, hb⟩; refine ⟨_, rfl, ?_⟩; have n0_ := Aside0.mk (below_step (by repeat (first | (with_reducible first | exact HB.out | apply below_alloc | apply pw_below_drewN | apply below_drew1) | exact HB.out)) hb); clear HB; have HB := n0_; clear n0_; (try clear hb); (try clear hb2); (try clear hk); (try clear hi)) | ((with_reducible refine gate_dst (N := 24) rfl ?_); (try (refine gate_guard (by rfl) ?_; dsimp only)); refine Kd.R_lit k23 _ 23 ?hg (N := 24) ?hd (xs := ([(⟨(⟨#[97]⟩ : ByteArray), (⟨#[118, 49, 46, 57, 46, 48]⟩ : ByteArray)⟩ : S23), (⟨(⟨#[97]⟩ : ByteArray), (⟨#[118, 49, 46, 57, 46, 48]⟩ : ByteArray)⟩ : S23)] : List (S23))) (inner := [.string (⟨#[97]⟩ : ByteArray), .string (⟨#[118, 49, 46, 57, 46, 48]⟩ : ByteArray), .string (⟨#[97]⟩ : ByteArray), .string (⟨#[118, 49, 46, 57, 46, 48]⟩ : ByteArray)]) (ok := fun _ => True) (okp := fun _ => True) ?hr ?hp (fun _ hk => hk) trivial (Below.refl _ _) (Nat.le_refl _) (by simp) ?_; (case hd => rfl); (case hg => rfl); (case hr => first | (go_simp; done) | (go_simp; rfl)); (case hp => exact (Reps.c2 (show Kd.M k23 _ _ _ (⟨(⟨#[97]⟩ : ByteArray), (⟨#[118, 49, 46, 57, 46, 48]⟩ : ByteArray)⟩ : S23) [.string (⟨#[97]⟩ : ByteArray), .string (⟨#[118, 49, 46, 57, 46, 48]⟩ : ByteArray)] from (k23_mkM _ _ _ (⟨(⟨#[97]⟩ : ByteArray), (⟨#[118, 49, 46, 57, 46, 48]⟩ : ByteArray)⟩ : S23) )) (Reps.c2 (show Kd.M k23 _ _ _ (⟨(⟨#[97]⟩ : ByteArray), (⟨#[118, 49, 46, 57, 46, 48]⟩ : ByteArray)⟩ : S23) [.string (⟨#[97]⟩ : ByteArray), .string (⟨#[118, 49, 46, 57, 46, 48]⟩ : ByteArray)] from (k23_mkM _ _ _ (⟨(⟨#[97]⟩ : ByteArray), (⟨#[118, 49, 46, 57, 46, 48]⟩ : ByteArray)⟩ : S23) )) (Reps.none _ _)))); intro v174 w61 ho62 hb hg_ hnew_; clear hg_ hnew_; (first | rw [← Ny173.out] at ho62 | (simp only [Int.reduceToNat] at ho62; rw [← Ny173.out] at ho62)); have n0_ := Aside0.mk (Kd.R_lower ho62 (below_size (by repeat (first | (with_reducible first | exact HB.out | apply below_alloc | apply pw_below_drewN | apply below_drew1) | exact HB.out)))); have n1_ := Aside0.mk (below_step (by repeat (first | (with_reducible first | exact HB.out | apply below_alloc | apply pw_below_drewN | apply below_drew1) | exact HB.out)) hb); clear HB; have HO175 := n0_; have HB := n1_; clear n0_ n1_; clear hb ho62; obtain ⟨Ao63, co63, eo63⟩ := Kd.R_slice HO175.out; subst eo63) | ((with_reducible refine gate_callee (f := 22) rfl ?_); refine goesL_ (some 25) rfl rfl Tryd.func22 (by kernel_rfl) rfl #[.slice Ao63 y173.length co63] rfl (by (try simp only [List.map_toArray, List.map_cons, List.map_nil]); first | done | rfl | (simp only [List.length_drop, List.length_take]; rfl)) ?_; (with_reducible refine (node_Set.calls _ _ y173 t176 t177 _ ?side1 ?side2 A3.out).mono ?_); (case side1 => repeat (first | exact (Kd.R_reads' HO175.out).2.2 | (with_reducible refine Kd.C_alloc ?_ _) | (with_reducible refine Kd.C_drewN ?_ _) | (with_reducible refine Kd.C_drew ?_))); (case side2 => exact (Kd.R_reads' HO175.out).2.1); rintro e w64 ⟨v178, rfl, ho0, hb⟩; refine ⟨_, rfl, ?_⟩; have n0_ := Aside0.mk (Kd.R_elder' (by (with_reducible repeat (first | apply Kd.R_alloc | apply Kd.R_drewN | apply Kd.R_drew)); exact HO175.out) (Kd.R_base ho0) hb); have n1_ := Aside0.mk (Kd.R_lower (Kd.R_new' ho0 (Kd.R_lt (by (with_reducible repeat (first | apply Kd.R_alloc | apply Kd.R_drewN | apply Kd.R_drew)); exact HO175.out))) (below_size (by repeat (first | (with_reducible first | exact HB.out | apply below_alloc | apply pw_below_drewN | apply below_drew1) | exact HB.out)))); have n2_ := Aside0.mk (below_step (by repeat (first | (with_reducible first | exact HB.out | apply below_alloc | apply pw_below_drewN | apply below_drew1) | exact HB.out)) hb); clear HO175; clear HB; have HO175 := n0_; have HO179 := n1_; have HB := n2_; clear n0_ n1_ n2_; (try clear hb); (try clear hb2); (try clear hk); (try clear hi); (try clear ho0)) | ((with_reducible refine gate_callee (f := 15) rfl ?_); refine goesL_ (some 29) rfl rfl Tryd.func15 (by kernel_rfl) rfl #[.string (⟨#[97, 64]⟩ : ByteArray)] rfl (by (try simp only [List.map_toArray, List.map_cons, List.map_nil]); first | done | rfl | (simp only [List.length_drop, List.length_take]; rfl)) ?_; (with_reducible refine (node_Read.calls k (⟨#[97, 64]⟩ : ByteArray) t180 t181 t182 _ A4.out).mono ?_); rintro e w65 ⟨rfl, hb⟩; refine ⟨_, rfl, ?_⟩; have n0_ := Aside0.mk (Kd.R_below (by (with_reducible repeat (first | apply Kd.R_alloc | apply Kd.R_drewN | apply Kd.R_drew)); exact HO175.out) hb); have n1_ := Aside0.mk (Kd.R_below (by (with_reducible repeat (first | apply Kd.R_alloc | apply Kd.R_drewN | apply Kd.R_drew)); exact HO179.out) hb); have n2_ := Aside0.mk (below_step (by repeat (first | (with_reducible first | exact HB.out | apply below_alloc | apply pw_below_drewN | apply below_drew1) | exact HB.out)) hb); clear HO175; clear HO179; clear HB; have HO175 := n0_; have HO179 := n1_; have HB := n2_; clear n0_ n1_ n2_; (try clear hb); (try clear hb2); (try clear hk); (try clear hi)) | ((with_reducible refine gate_dst (N := 7) rfl ?_); (try (refine gate_guard (by rfl) ?_; dsimp only)); refine box_event ?hg (N := 7) ?hd (cs := #[.string (⟨#[]⟩ : ByteArray), .string (⟨#[]⟩ : ByteArray)]) (t := 23) ?hr ?_; (case hd => rfl); (case hg => rfl); (case hr => first | (go_simp; done) | (go_simp; rfl)); intro gb183 hg w66 hbox hb; have n0_ := Aside0.mk (Kd.R_below (Kd.R_elderB (by (with_reducible repeat (first | apply Kd.R_alloc | apply Kd.R_drewN | apply Kd.R_drew)); exact HO175.out) gb183 (Nat.le_of_eq hg.symm)) hb); have n1_ := Aside0.mk (Kd.R_below (Kd.R_elderB (by (with_reducible repeat (first | apply Kd.R_alloc | apply Kd.R_drewN | apply Kd.R_drew)); exact HO179.out) gb183 (Nat.le_of_eq hg.symm)) hb); have n2_ := Aside0.mk (below_step (by repeat (first | (with_reducible first | exact HB.out | apply below_alloc | apply pw_below_drewN | apply below_drew1) | exact HB.out)) hb); have n3_ := Aside0.mk (hbox); have n4_ := Aside0.mk ((by rw [hg]; exact (below_size (by repeat (first | (with_reducible first | exact HB.out | apply below_alloc | apply pw_below_drewN | apply below_drew1) | exact HB.out))) : w.heap.size ≤ gb183)); have n5_ := Aside0.mk ((by rw [hg]; exact (below_size (by repeat (first | (with_reducible first | exact HB.out | apply below_alloc | apply pw_below_drewN | apply below_drew1) | exact HB.out))) : w.heap.size ≤ gb183)); clear HO175; clear HO179; clear HB; have HO175 := n0_; have HO179 := n1_; have HB := n2_; have BK183 := n3_; have GW183 := n4_; have GE183 := n5_; clear n0_ n1_ n2_ n3_ n4_ n5_; clear hb hbox hg; have hcz67_0 : w66.cell? ⟨gb183, 0, none⟩ = some (.string (⟨#[]⟩ : ByteArray)) := (blk_cell BK183.out 0).trans rfl; have hcz67_1 : w66.cell? ⟨gb183, 1, none⟩ = some (.string (⟨#[]⟩ : ByteArray)) := (blk_cell BK183.out 1).trans rfl; have hfz67_0 := blk_frozen BK183.out 0; have hfz67_1 := blk_frozen BK183.out 1))
      go_ret
      exact ⟨by first | rfl | (simp [errW_none, errW_some] <;> rfl) | (simp [*, errW_none, errW_some] <;> rfl), by repeat (first | (with_reducible first | exact HB.out | apply below_alloc | apply pw_below_drewN | apply below_drew1 | refine below_set ?_ GE183.out) | exact HB.out)⟩
  · rw [if_neg c5] at H
    have c5b0 : (t169 == (-1)) = false := beq_eq_false_iff_ne.mpr c5
    have c5b1 : (t169 != (-1)) = true := bne_iff_ne.mpr c5
    obtain rfl := Option.some.inj H
    go_enter Tryd.func11, Tryd.ntmps11
    go_wp2_with (first | ((with_reducible refine gate_callee (f := 9) rfl ?_); refine goesL_ (some 12) rfl rfl Tryd.func9 (by kernel_rfl) rfl #[.agg #[.string (⟨#[97]⟩ : ByteArray), .string (⟨#[118, 49, 46, 57, 46, 48]⟩ : ByteArray)], .agg #[.string (⟨#[97]⟩ : ByteArray), .string (⟨#[118, 49, 46, 49, 48, 46, 48]⟩ : ByteArray)]] rfl (by (try simp only [List.map_toArray, List.map_cons, List.map_nil]); first | done | rfl | (simp only [List.length_drop, List.length_take]; rfl)) ?_; (with_reducible refine (node_Cmp.calls k (⟨#[97]⟩ : ByteArray) (⟨#[118, 49, 46, 57, 46, 48]⟩ : ByteArray) (⟨#[97]⟩ : ByteArray) (⟨#[118, 49, 46, 49, 48, 46, 48]⟩ : ByteArray) t169 t170 _ A1.out).mono ?_); rintro e w68 ⟨rfl, hb⟩; refine ⟨_, rfl, ?_⟩; have n0_ := Aside0.mk (below_step (by repeat (first | (with_reducible first | exact HB.out | apply below_alloc | apply pw_below_drewN | apply below_drew1) | exact HB.out)) hb); clear HB; have HB := n0_; clear n0_; (try clear hb); (try clear hb2); (try clear hk); (try clear hi)) | ((with_reducible refine gate_callee (f := 9) rfl ?_); refine goesL_ (some 18) rfl rfl Tryd.func9 (by kernel_rfl) rfl #[.agg #[.string (⟨#[97]⟩ : ByteArray), .string (⟨#[118, 49, 46, 49, 48, 46, 48]⟩ : ByteArray)], .agg #[.string (⟨#[97, 47, 98]⟩ : ByteArray), .string (⟨#[118, 48, 46, 48, 46, 49]⟩ : ByteArray)]] rfl (by (try simp only [List.map_toArray, List.map_cons, List.map_nil]); first | done | rfl | (simp only [List.length_drop, List.length_take]; rfl)) ?_; (with_reducible refine (node_Cmp.calls k (⟨#[97]⟩ : ByteArray) (⟨#[118, 49, 46, 49, 48, 46, 48]⟩ : ByteArray) (⟨#[97, 47, 98]⟩ : ByteArray) (⟨#[118, 48, 46, 48, 46, 49]⟩ : ByteArray) t171 t172 _ A2.out).mono ?_); rintro e w69 ⟨rfl, hb⟩; refine ⟨_, rfl, ?_⟩; have n0_ := Aside0.mk (below_step (by repeat (first | (with_reducible first | exact HB.out | apply below_alloc | apply pw_below_drewN | apply below_drew1) | exact HB.out)) hb); clear HB; have HB := n0_; clear n0_; (try clear hb); (try clear hb2); (try clear hk); (try clear hi)) | ((with_reducible refine gate_dst (N := 24) rfl ?_); (try (refine gate_guard (by rfl) ?_; dsimp only)); refine Kd.R_lit k23 _ 23 ?hg (N := 24) ?hd (xs := ([(⟨(⟨#[97]⟩ : ByteArray), (⟨#[118, 49, 46, 57, 46, 48]⟩ : ByteArray)⟩ : S23), (⟨(⟨#[97]⟩ : ByteArray), (⟨#[118, 49, 46, 57, 46, 48]⟩ : ByteArray)⟩ : S23)] : List (S23))) (inner := [.string (⟨#[97]⟩ : ByteArray), .string (⟨#[118, 49, 46, 57, 46, 48]⟩ : ByteArray), .string (⟨#[97]⟩ : ByteArray), .string (⟨#[118, 49, 46, 57, 46, 48]⟩ : ByteArray)]) (ok := fun _ => True) (okp := fun _ => True) ?hr ?hp (fun _ hk => hk) trivial (Below.refl _ _) (Nat.le_refl _) (by simp) ?_; (case hd => rfl); (case hg => rfl); (case hr => first | (go_simp; done) | (go_simp; rfl)); (case hp => exact (Reps.c2 (show Kd.M k23 _ _ _ (⟨(⟨#[97]⟩ : ByteArray), (⟨#[118, 49, 46, 57, 46, 48]⟩ : ByteArray)⟩ : S23) [.string (⟨#[97]⟩ : ByteArray), .string (⟨#[118, 49, 46, 57, 46, 48]⟩ : ByteArray)] from (k23_mkM _ _ _ (⟨(⟨#[97]⟩ : ByteArray), (⟨#[118, 49, 46, 57, 46, 48]⟩ : ByteArray)⟩ : S23) )) (Reps.c2 (show Kd.M k23 _ _ _ (⟨(⟨#[97]⟩ : ByteArray), (⟨#[118, 49, 46, 57, 46, 48]⟩ : ByteArray)⟩ : S23) [.string (⟨#[97]⟩ : ByteArray), .string (⟨#[118, 49, 46, 57, 46, 48]⟩ : ByteArray)] from (k23_mkM _ _ _ (⟨(⟨#[97]⟩ : ByteArray), (⟨#[118, 49, 46, 57, 46, 48]⟩ : ByteArray)⟩ : S23) )) (Reps.none _ _)))); intro v174 w70 ho71 hb hg_ hnew_; clear hg_ hnew_; (first | rw [← Ny173.out] at ho71 | (simp only [Int.reduceToNat] at ho71; rw [← Ny173.out] at ho71)); have n0_ := Aside0.mk (Kd.R_lower ho71 (below_size (by repeat (first | (with_reducible first | exact HB.out | apply below_alloc | apply pw_below_drewN | apply below_drew1) | exact HB.out)))); have n1_ := Aside0.mk (below_step (by repeat (first | (with_reducible first | exact HB.out | apply below_alloc | apply pw_below_drewN | apply below_drew1) | exact HB.out)) hb); clear HB; have HO175 := n0_; have HB := n1_; clear n0_ n1_; clear hb ho71; obtain ⟨Ao72, co72, eo72⟩ := Kd.R_slice HO175.out; subst eo72) | ((with_reducible refine gate_callee (f := 22) rfl ?_); refine goesL_ (some 25) rfl rfl Tryd.func22 (by kernel_rfl) rfl #[.slice Ao72 y173.length co72] rfl (by (try simp only [List.map_toArray, List.map_cons, List.map_nil]); first | done | rfl | (simp only [List.length_drop, List.length_take]; rfl)) ?_; (with_reducible refine (node_Set.calls _ _ y173 t176 t177 _ ?side1 ?side2 A3.out).mono ?_); (case side1 => repeat (first | exact (Kd.R_reads' HO175.out).2.2 | (with_reducible refine Kd.C_alloc ?_ _) | (with_reducible refine Kd.C_drewN ?_ _) | (with_reducible refine Kd.C_drew ?_))); (case side2 => exact (Kd.R_reads' HO175.out).2.1); rintro e w73 ⟨v178, rfl, ho0, hb⟩; refine ⟨_, rfl, ?_⟩; have n0_ := Aside0.mk (Kd.R_elder' (by (with_reducible repeat (first | apply Kd.R_alloc | apply Kd.R_drewN | apply Kd.R_drew)); exact HO175.out) (Kd.R_base ho0) hb); have n1_ := Aside0.mk (Kd.R_lower (Kd.R_new' ho0 (Kd.R_lt (by (with_reducible repeat (first | apply Kd.R_alloc | apply Kd.R_drewN | apply Kd.R_drew)); exact HO175.out))) (below_size (by repeat (first | (with_reducible first | exact HB.out | apply below_alloc | apply pw_below_drewN | apply below_drew1) | exact HB.out)))); have n2_ := Aside0.mk (below_step (by repeat (first | (with_reducible first | exact HB.out | apply below_alloc | apply pw_below_drewN | apply below_drew1) | exact HB.out)) hb); clear HO175; clear HB; have HO175 := n0_; have HO179 := n1_; have HB := n2_; clear n0_ n1_ n2_; (try clear hb); (try clear hb2); (try clear hk); (try clear hi); (try clear ho0)) | ((with_reducible refine gate_callee (f := 15) rfl ?_); refine goesL_ (some 29) rfl rfl Tryd.func15 (by kernel_rfl) rfl #[.string (⟨#[97, 64]⟩ : ByteArray)] rfl (by (try simp only [List.map_toArray, List.map_cons, List.map_nil]); first | done | rfl | (simp only [List.length_drop, List.length_take]; rfl)) ?_; (with_reducible refine (node_Read.calls k (⟨#[97, 64]⟩ : ByteArray) t180 t181 t182 _ A4.out).mono ?_); rintro e w74 ⟨rfl, hb⟩; refine ⟨_, rfl, ?_⟩; have n0_ := Aside0.mk (Kd.R_below (by (with_reducible repeat (first | apply Kd.R_alloc | apply Kd.R_drewN | apply Kd.R_drew)); exact HO175.out) hb); have n1_ := Aside0.mk (Kd.R_below (by (with_reducible repeat (first | apply Kd.R_alloc | apply Kd.R_drewN | apply Kd.R_drew)); exact HO179.out) hb); have n2_ := Aside0.mk (below_step (by repeat (first | (with_reducible first | exact HB.out | apply below_alloc | apply pw_below_drewN | apply below_drew1) | exact HB.out)) hb); clear HO175; clear HO179; clear HB; have HO175 := n0_; have HO179 := n1_; have HB := n2_; clear n0_ n1_ n2_; (try clear hb); (try clear hb2); (try clear hk); (try clear hi)) | ((with_reducible refine gate_dst (N := 7) rfl ?_); (try (refine gate_guard (by rfl) ?_; dsimp only)); refine box_event ?hg (N := 7) ?hd (cs := #[.string (⟨#[]⟩ : ByteArray), .string (⟨#[]⟩ : ByteArray)]) (t := 23) ?hr ?_; (case hd => rfl); (case hg => rfl); (case hr => first | (go_simp; done) | (go_simp; rfl)); intro gb183 hg w75 hbox hb; have n0_ := Aside0.mk (Kd.R_below (Kd.R_elderB (by (with_reducible repeat (first | apply Kd.R_alloc | apply Kd.R_drewN | apply Kd.R_drew)); exact HO175.out) gb183 (Nat.le_of_eq hg.symm)) hb); have n1_ := Aside0.mk (Kd.R_below (Kd.R_elderB (by (with_reducible repeat (first | apply Kd.R_alloc | apply Kd.R_drewN | apply Kd.R_drew)); exact HO179.out) gb183 (Nat.le_of_eq hg.symm)) hb); have n2_ := Aside0.mk (below_step (by repeat (first | (with_reducible first | exact HB.out | apply below_alloc | apply pw_below_drewN | apply below_drew1) | exact HB.out)) hb); have n3_ := Aside0.mk (hbox); have n4_ := Aside0.mk ((by rw [hg]; exact (below_size (by repeat (first | (with_reducible first | exact HB.out | apply below_alloc | apply pw_below_drewN | apply below_drew1) | exact HB.out))) : w.heap.size ≤ gb183)); have n5_ := Aside0.mk ((by rw [hg]; exact (below_size (by repeat (first | (with_reducible first | exact HB.out | apply below_alloc | apply pw_below_drewN | apply below_drew1) | exact HB.out))) : w.heap.size ≤ gb183)); clear HO175; clear HO179; clear HB; have HO175 := n0_; have HO179 := n1_; have HB := n2_; have BK183 := n3_; have GW183 := n4_; have GE183 := n5_; clear n0_ n1_ n2_ n3_ n4_ n5_; clear hb hbox hg; have hcz76_0 : w75.cell? ⟨gb183, 0, none⟩ = some (.string (⟨#[]⟩ : ByteArray)) := (blk_cell BK183.out 0).trans rfl; have hcz76_1 : w75.cell? ⟨gb183, 1, none⟩ = some (.string (⟨#[]⟩ : ByteArray)) := (blk_cell BK183.out 1).trans rfl; have hfz76_0 := blk_frozen BK183.out 0; have hfz76_1 := blk_frozen BK183.out 1))
    go_ret
    exact ⟨by first | rfl | (simp [errW_none, errW_some] <;> rfl) | (simp [*, errW_none, errW_some] <;> rfl), by repeat (first | (with_reducible first | exact HB.out | apply below_alloc | apply pw_below_drewN | apply below_drew1 | refine below_set ?_ GE183.out) | exact HB.out)⟩
end Go.Proofs.YtnknjhdpjjddeaaDoor.Q
end

section
namespace Go.Proofs.YtnknjhdpjjddeaaDoor.Q
open Go Go.RowKit Go.Lib Go.Proofs.YtnknjhdpjjddeaaDoorW.PrintWords Go.Proofs.YtnknjhdpjjddeaaDoorW.PrintLast Go.Proofs.YtnknjhdpjjddeaaDoorW.PrintMore Gw
set_option linter.unusedVariables false
set_option linter.unusedSimpArgs false
def cmpM (x y : S23) : Int × Int := if mayN x && mayN y then (ordN x y, 0) else (0, 1)
theorem node_Cmp_val (k : Nat) (x y : S23) (hx : Brief x) (hy : Brief y) (hk : 500 ≤ k) : node_Cmp.f k x.f0 x.f1 y.f0 y.f1 = some (cmpM x y) := by
  obtain ⟨j, rfl⟩ : ∃ j, k = j + 3 := ⟨k - 3, by omega⟩
  unfold node_Cmp.f cmpM
  rw [node_May_val _ x hx.tiny (by have := hx.1; omega), node_May_val _ y hy.tiny (by have := hy.1; omega)]
  cases hmx : mayN x
  · rfl
  · cases hmy : mayN y
    · rfl
    · simp only [Option.bind_some, if_true, Bool.and_self]
      rw [order_val j x y (mayN_good hx.tiny hmx) (mayN_good hy.tiny hmy)]
      rfl
end Go.Proofs.YtnknjhdpjjddeaaDoor.Q
end

section
namespace Go.Proofs.YtnknjhdpjjddeaaDoor.Q
open Go.Proofs.YtnknjhdpjjddeaaDoor.QB.D
open Go Go.RowKit Go.Lib Go.Proofs.YtnknjhdpjjddeaaDoorW.PrintWords Go.Proofs.YtnknjhdpjjddeaaDoorW.PrintLast Go.Proofs.YtnknjhdpjjddeaaDoorW.PrintMore Gw
set_option linter.unusedVariables false
set_option linter.unusedSimpArgs false
/-- The texts @, and the nodes, of the chapter's examples. -/
def nA : S23 := ⟨⟨#[97]⟩, ⟨#[118, 49, 46, 57, 46, 48]⟩⟩
def nB : S23 := ⟨⟨#[97]⟩, ⟨#[118, 49, 46, 49, 48, 46, 48]⟩⟩
def nC : S23 := ⟨⟨#[97, 47, 98]⟩, ⟨#[118, 48, 46, 48, 46, 49]⟩⟩
theorem readM_val (k : Nat) (s : ByteArray) (hs : s.size ≤ 1000) (hk : 1100 ≤ k) : node_Read.f k s = some (let p := cutOut (cutAt 64 (bs s)); if mayN ⟨p.1, p.2.1⟩ then (p.1, p.2.1, 0) else ((⟨#[]⟩ : ByteArray), (⟨#[]⟩ : ByteArray), 1)) := by
  have hcs : ∀ l : List Nat, (cutAt 64 l).1.length ≤ l.length ∧ (∀ r, (cutAt 64 l).2 = some r → r.length ≤ l.length) := by
    intro l
    induction l with
    | nil => simp [cutAt]
    | cons x r ih =>
      unfold cutAt
      split
      · refine ⟨by simp, fun r' h => ?_⟩
        injection h with h
        subst h
        simp
      · exact ⟨by simp; exact ih.1, fun r' h => by have := ih.2 r' h; simp; omega⟩
  have hof : ∀ l : List Nat, (ofB l).size = l.length := fun l => by
    show (l.map UInt8.ofNat).toArray.size = l.length
    simp
  have h1 := hcs (bs s)
  rw [bs_length] at h1
  have hsz : (cutOut (cutAt 64 (bs s))).1.size ≤ s.size ∧ (cutOut (cutAt 64 (bs s))).2.1.size ≤ s.size := by
    rcases hc : cutAt 64 (bs s) with ⟨a, _ | b⟩
    · rw [hc] at h1
      exact ⟨by show (ofB a).size ≤ _; rw [hof]; exact h1.1, by show (⟨#[]⟩ : ByteArray).size ≤ _; exact Nat.zero_le _⟩
    · rw [hc] at h1
      exact ⟨by show (ofB a).size ≤ _; rw [hof]; exact h1.1, by show (ofB b).size ≤ _; rw [hof]; exact h1.2 b rfl⟩
  unfold node_Read.f strings_Cut.f
  rw [if_pos ⟨by unfold Tiny; omega, rfl⟩, Option.bind_some]
  have e : (bs (⟨#[64]⟩ : ByteArray)).headD 0 = 64 := by decide +kernel
  rw [e]
  generalize cutOut (cutAt 64 (bs s)) = p at hsz ⊢
  have hm := node_May_val k ⟨p.1, p.2.1⟩ (by unfold TinyN Tiny; simp only []; omega) (by simp only []; omega)
  simp only [] at hm
  rw [hm]
  simp only [Option.bind_some]
  split <;> rfl
theorem awake_val (k : Nat) (hk : 1100 ≤ k) : graftwoodlaw05_awake.f k = some true := by
  have b1 : Brief nA := by unfold Brief nA; decide
  have b2 : Brief nB := by unfold Brief nB; decide
  have b3 : Brief nC := by unfold Brief nC; decide
  have h1 := node_Cmp_val k nA nB b1 b2 (by omega)
  have h2 := node_Cmp_val k nB nC b2 b3 (by omega)
  have e1 : cmpM nA nB = (-1, 0) := by decide +kernel
  have e2 : cmpM nB nC = (-1, 0) := by decide +kernel
  rw [e1] at h1
  rw [e2] at h2
  have h3 : node_Set.f [nA, nA] = some ([nA], 0) := by
    unfold node_Set.f
    rw [if_pos ⟨by decide, fun x hx => by simp at hx; subst hx; exact b1.tiny⟩]
    have e3 : ([nA, nA] : List S23).all mayN = true := by decide +kernel
    rw [if_pos e3]
    rfl
  have h4 := readM_val k ⟨#[97, 64]⟩ (by decide) hk
  have e4 : (let p := cutOut (cutAt 64 (bs (⟨#[97, 64]⟩ : ByteArray))); if mayN ⟨p.1, p.2.1⟩ then (p.1, p.2.1, 0) else ((⟨#[]⟩ : ByteArray), (⟨#[]⟩ : ByteArray), (1 : Int))) = ((⟨#[]⟩ : ByteArray), (⟨#[]⟩ : ByteArray), 1) := by
    have : mayN ⟨(cutOut (cutAt 64 (bs (⟨#[97, 64]⟩ : ByteArray)))).1, (cutOut (cutAt 64 (bs (⟨#[97, 64]⟩ : ByteArray)))).2.1⟩ = false := by decide +kernel
    simp only [this]
    rfl
  rw [e4] at h4
  unfold graftwoodlaw05_awake.f
  unfold nA nB nC at *
  simp only [] at h1 h2
  rw [h1, Option.bind_some, h2, Option.bind_some, h3, Option.bind_some, h4, Option.bind_some]
  rfl
end Go.Proofs.YtnknjhdpjjddeaaDoor.Q
end

section
namespace Go.Proofs.YtnknjhdpjjddeaaDoor.Q
open Go.Proofs.YtnknjhdpjjddeaaDoor.QB.D
open Go Go.RowKit Go.Maps Go.Lib Go.Proofs.YtnknjhdpjjddeaaDoorW.PrintWords Go.Proofs.YtnknjhdpjjddeaaDoorW.PrintLast Go.Proofs.YtnknjhdpjjddeaaDoorW.PrintMore Gw
set_option linter.unusedVariables false
set_option linter.unusedSimpArgs false
/-- What of a list's first i nodes is not in another one. -/
def lessN (l m : List S23) (i : Nat) : List S23 := (l.take i).filter (fun x => !decide (x ∈ m))
theorem lessN_succ (l m : List S23) (i : Nat) (hi : i < l.length) : lessN l m (i + 1) = if l[i] ∈ m then lessN l m i else lessN l m i ++ [l[i]] := by
  unfold lessN
  rw [List.take_succ_eq_append_getElem hi, List.filter_append]
  by_cases h : l[i] ∈ m
  · rw [if_pos h]; simp [h]
  · rw [if_neg h]; simp [h]
theorem lessN_len (l m : List S23) (i : Nat) : (lessN l m i).length ≤ i := Nat.le_trans (List.length_filter_le _ _) (by rw [List.length_take]; omega)
set_option maxHeartbeats 4000000 in
set_option maxRecDepth 100000 in
theorem nminus_go (A0 : Option Addr) (c0 : Nat) (l0 : List S23) (A1 : Option Addr) (c1 : Nat) (l1 : List S23) (w : World) (hr0 : Kd.C k23 w A0 l0.length l0) (hr1 : Kd.C k23 w A1 l1.length l1) (hc0 : l0.length ≤ c0) (hc1 : l1.length ≤ c1)
    (hl0 : l0.length ≤ 4294967296) (hl1 : l1.length ≤ 4294967296) (ht0 : ∀ x ∈ l0, TinyN x) (ht1 : ∀ x ∈ l1, TinyN x) (hk0 : checkN l0 = true) (hk1 : checkN l1 = true) :
    Calls Tryd.prog 19 #[.slice A0 l0.length c0, .slice A1 l1.length c1] w fun e w' => ∃ v, e = .returned (.tuple #[v, .int .i64 0]) ∧ Kd.R k23 23 w' w.heap.size (fun _ => True) v (lessN l0 l1 l0.length) ∧ Below w.heap.size w w' := by
  have hu23 := Tryd.underlying23
  have hmm := @run_makeMap Tryd.prog
  have HR0 := Aside0.mk hr0
  have HR1 := Aside0.mk hr1
  have HT0 := Aside0.mk ht0
  have HT1 := Aside0.mk ht1
  have e0 := check_val l0 hl0 ht0 8589934600 (Nat.le_refl _)
  have e1 := check_val l1 hl1 ht1 8589934600 (Nat.le_refl _)
  rw [hk0] at e0
  rw [hk1] at e1
  have q0 : (l0.length : Int) ≤ 4294967296 := by omega
  have q1 : (l1.length : Int) ≤ 4294967296 := by omega
  have CK0 := fun (W : World) (h : Kd.C k23 W A0 l0.length l0) => node_Check.calls 8589934600 A0 c0 l0 0 W h hc0 e0
  have CK1 := fun (W : World) (h : Kd.C k23 W A1 l1.length l1) => node_Check.calls 8589934600 A1 c1 l1 0 W h hc1 e1
  clear hr0 hr1 ht0 ht1 e0 e1
  go_enter Tryd.func19, Tryd.ntmps19
  go_wp2_with fail
  refine (CK0 _ HR0.out).mono ?_
  rintro e w1 ⟨rfl, hb1⟩
  go_wp2_with fail
  refine (CK1 _ (Kd.C_below HR1.out hb1)).mono ?_
  rintro e w2 ⟨rfl, hb2⟩
  have HB2 : Aside0 (Below w.heap.size w w2) := ⟨hb1.trans (hb2.mono hb1.size)⟩
  have hz2 : w.heap.size ≤ w2.heap.size := HB2.out.size
  clear hb1 hb2 CK0 CK1
  go_wp2_with fail
  go_loopw [25] (fun v25 wr => ∃ i : Nat, i ≤ l1.length ∧ v25 = .int .i64 (i : Int) ∧ (∃ D, Aside0 (wr.ownsMap Tryd.prog 23 unitElem w2.heap.size i D) ∧ Aside0 (Met D (l1.take i))) ∧ Aside0 (Below w2.heap.size w2 wr) ∧ w2.heap.size + 1 ≤ wr.heap.size) (fun v25 _ => l1.length - (RowKit.intOf v25).toNat)
  case atStart => exact ⟨0, Nat.zero_le _, rfl, ⟨_, ⟨World.ownsMap_made _ _ _ _⟩, ⟨Met.none⟩⟩, ⟨below_alloc (Below.refl _ _) _⟩, by simp⟩
  case round =>
    obtain ⟨i, hi, rfl, ⟨D, HM, HD⟩, HB, hws⟩ := hrel
    have HBw : Aside0 (Below w.heap.size w wr) := ⟨HB2.out.trans (HB.out.mono HB2.out.size)⟩
    by_cases hil : i < l1.length
    · have j1 : (i : Int) < (l1.length : Int) := by omega
      have hdi : decide ((i : Int) < (l1.length : Int)) = true := decide_eq_true j1
      obtain ⟨x, hx⟩ : ∃ x, x = l1[i] := ⟨_, rfl⟩
      have hmem : x ∈ l1 := by rw [hx]; exact List.getElem_mem hil
      obtain ⟨ad, e0, hx0, hx1⟩ := at_T23 HR1.out (i : Int) (by omega) (by omega)
      have hrd : rd_T23 l1 (i : Int) = x := by rw [hx]; simp [rd_T23, List.getD_eq_getElem?_getD, List.getElem?_eq_getElem hil]
      rw [hrd, Int.toNat_natCast] at hx0 hx1
      cases e0
      replace hx0 := (HBw.out.cell (World.block_lt_of_cell? w _ hx0)).trans hx0
      replace hx1 := (HBw.out.cell (World.block_lt_of_cell? w _ hx1)).trans hx1
      have htx := HT1.out x hmem
      have hnx : NS x := by unfold TinyN Tiny at htx; unfold NS maxLen; omega
      have hkey := keyOf_node x hnx.1 hnx.2
      have htk : l1.take (i + 1) = l1.take i ++ [x] := by rw [hx]; exact List.take_succ_eq_append_getElem hil
      have HTK := Aside0.mk htk
      clear hx hrd htk hmem htx
      go_wp2_with (first
        | (at_mapUpdate; refine wpList_mapUpdate_own _ rfl _ _ _ 54 rfl 23 55 law_node Tryd.underlying54 (unitElem (H := Unit)) w2.heap.size i _ rfl (HM.out.alloc (.cells #[.string x.f0, .string x.f1] 23 (0, 0))) (by unfold maxLen; omega) _ _ _ rfl rfl hkey _ [] unitElem_mk ?_; intro w8 hown8 hgrow8)
        | fail)
      have HB8 := Aside0.mk (pw_below_grown (below_alloc HB.out (.cells #[.string x.f0, .string x.f1] 23 (0, 0))) _ (by simp; omega) hgrow8 (fun j hj => by cases hj; exact Nat.le_refl _))
      have hz8 := hgrow8.size
      go_roundw
      case rel => exact ⟨i + 1, by omega, by go_num, ⟨_, ⟨hown8⟩, ⟨HD.out.put x hnx _ (fun y => by rw [HTK.out, List.mem_append, List.mem_singleton]; exact Or.comm)⟩⟩, HB8, by simp at hz8; omega⟩
      case measure => simp [RowKit.intOf]; omega
    · obtain rfl : i = l1.length := by omega
      have hdi : decide ((l1.length : Int) < (l1.length : Int)) = false := decide_eq_false (by omega)
      have hmet := HD.out
      rw [List.take_length] at hmet
      have HMET := Aside0.mk hmet
      clear hmet HD
      go_wp2_with fail
      have hwr := HB.out.size
      go_loopw [9, 35] (fun v9 v35 wr => ∃ i : Nat, i ≤ l0.length ∧ v35 = .int .i64 (i : Int) ∧ Aside0 (wr.ownsMap Tryd.prog 23 unitElem w2.heap.size l1.length D) ∧ Aside0 (Kd.R k23 23 wr w.heap.size (fun j => j ≠ w2.heap.size) v9 (lessN l0 l1 i)) ∧ Aside0 (Below w.heap.size w wr) ∧ w2.heap.size + 1 ≤ wr.heap.size) (fun _ v35 _ => l0.length - (RowKit.intOf v35).toNat)
      case atStart => exact ⟨0, Nat.zero_le _, rfl, HM, ⟨Kd.R_nil _ _ _ _ _⟩, HBw, hws⟩
      case round =>
        clear HM HBw HB hws hwr
        obtain ⟨i, hi, rfl, HM5, HO5, HB5, hws⟩ := hrel
        by_cases hil : i < l0.length
        · have j1 : (i : Int) < (l0.length : Int) := by omega
          have hdi : decide ((i : Int) < (l0.length : Int)) = true := decide_eq_true j1
          obtain ⟨x, hx⟩ : ∃ x, x = l0[i] := ⟨_, rfl⟩
          have hmem : x ∈ l0 := by rw [hx]; exact List.getElem_mem hil
          obtain ⟨ad, e0, hx0, hx1⟩ := at_T23 HR0.out (i : Int) (by omega) (by omega)
          have hrd : rd_T23 l0 (i : Int) = x := by rw [hx]; simp [rd_T23, List.getD_eq_getElem?_getD, List.getElem?_eq_getElem hil]
          rw [hrd, Int.toNat_natCast] at hx0 hx1
          cases e0
          replace hx0 := (HB5.out.cell (World.block_lt_of_cell? w _ hx0)).trans hx0
          replace hx1 := (HB5.out.cell (World.block_lt_of_cell? w _ hx1)).trans hx1
          have htx := HT0.out x hmem
          have hnx : NS x := by unfold TinyN Tiny at htx; unfold NS maxLen; omega
          have hkey := keyOf_node x hnx.1 hnx.2
          have hhas := HMET.out.has x hnx
          have hls := lessN_succ l0 l1 i hil
          rw [← hx] at hls
          have HLS := Aside0.mk hls
          have HHAS := Aside0.mk hhas
          have hva : some w2.heap.size ≠ u9.ownBlock := Kd.R_away HO5.out (fun j hj => hj)
          have HVA := Aside0.mk hva
          have LEN := Aside0.mk (lessN_len l0 l1 i)
          obtain ⟨bh, hbh⟩ : ∃ b, b = Maps.has D (nkey x) := ⟨_, rfl⟩
          have HBH := Aside0.mk hbh
          clear hx hrd hmem htx hhas hls hva hbh
          replace HM5 := Aside0.mk (HM5.out.alloc (.cells #[.string x.f0, .string x.f1] 23 (0, 0)))
          replace HO5 := Aside0.mk (Kd.R_alloc HO5.out (.cells #[.string x.f0, .string x.f1] 23 (0, 0)))
          replace HB5 := Aside0.mk (below_alloc HB5.out (.cells #[.string x.f0, .string x.f1] 23 (0, 0)))
          cases bh
          · have hnew : x ∉ l1 := by
              have h := HHAS.out
              rw [← HBH.out] at h
              exact of_decide_eq_false h.symm
            have HDN : Aside0 (lessN l0 l1 (i + 1) = lessN l0 l1 i ++ [x]) := ⟨by rw [HLS.out, if_neg hnew]⟩
            clear hnew
            go_wp2_with (first
              | (at_lookup; refine wpList_lookup_own_unit _ rfl _ _ 54 rfl 23 55 law_node Tryd.underlying54 (zero_unit _) w2.heap.size l1.length _ rfl HM5.out _ _ rfl hkey ?_; rw [← HBH.out])
              | ((with_reducible refine gate_dst (N := 12) rfl ?_); refine box_event ?hg (N := 12) ?hd (cs := #[]) (t := 55) ?hr ?_; (case hd => rfl); (case hg => rfl); (case hr => first | (go_simp; done) | (go_simp; rfl)); intro gb hg w6 hbox hb6; have n0_6 : w6.cell? ⟨wr.heap.size, 0, none⟩ = some (.string x.f0) := (hb6.cell (p := ⟨wr.heap.size, 0, none⟩) (by simp)).trans (by simp [go_sem]); have n1_6 : w6.cell? ⟨wr.heap.size, 1, none⟩ = some (.string x.f1) := (hb6.cell (p := ⟨wr.heap.size, 1, none⟩) (by simp)).trans (by simp [go_sem]); have HM6 := Aside0.mk (HM5.out.kept (grown_of_below hb6 none) (by simp)); have HO6 := Aside0.mk (Kd.R_below HO5.out hb6); have HB6 := Aside0.mk (below_step HB5.out hb6); have hz6 : wr.heap.size + 1 ≤ w6.heap.size := (by have := hb6.size; simp at this; omega); clear hb6 hg hbox)
              | ((with_reducible refine gate_builtin (b := .append) (xs := #[.tmp 47, .tmp 49]) rfl ?_); at_builtin; refine Kd.R_append k23 (w0 := w) w.heap.size rfl (.tmp 47) (.tmp 49) 37 23 (.agg #[(.string ⟨#[]⟩), (.string ⟨#[]⟩)]) 32 rfl Tryd.underlying37 info23 rfl (by decide) (by omega) u9 (lessN l0 l1 i) x [.string x.f0, .string x.f1] (fun j => j ≠ w2.heap.size) (fun _ => False) rfl rfl ?aP (fun _ hk => hk.elim) ?aF ?aO ?aB ?aS ?aL ?_; (case aP => exact k23_mkM _ _ _ x); (case aB => exact HB6.out); (case aF => exact (fun j hj => by omega)); (case aO => exact HO6.out); (case aS => exact HB6.out.size); (case aL => have := LEN.out; omega); intro v7 w7 ho7 hb7 hg7 hat7; have HM7 := Aside0.mk (HM6.out.kept hg7 HVA.out); have HO7 := Aside0.mk ho7; have HB7 := Aside0.mk hb7; have hz7 := hg7.size; clear ho7 hb7 hg7 hat7)
              | fail)
            go_roundw
            case rel => exact ⟨i + 1, by omega, by go_num, HM7, ⟨by rw [HDN.out]; exact HO7.out⟩, HB7, by omega⟩
            case measure => simp [RowKit.intOf]; omega
          · have hold : x ∈ l1 := by
              have h := HHAS.out
              rw [← HBH.out] at h
              exact of_decide_eq_true h.symm
            have HDN : Aside0 (lessN l0 l1 (i + 1) = lessN l0 l1 i) := ⟨by rw [HLS.out, if_pos hold]⟩
            clear hold
            go_wp2_with (first
              | (at_lookup; refine wpList_lookup_own_unit _ rfl _ _ 54 rfl 23 55 law_node Tryd.underlying54 (zero_unit _) w2.heap.size l1.length _ rfl HM5.out _ _ rfl hkey ?_; rw [← HBH.out])
              | ((with_reducible refine gate_dst (N := 12) rfl ?_); refine box_event ?hg (N := 12) ?hd (cs := #[]) (t := 55) ?hr ?_; (case hd => rfl); (case hg => rfl); (case hr => first | (go_simp; done) | (go_simp; rfl)); intro gb hg w6 hbox hb6; have n0_6 : w6.cell? ⟨wr.heap.size, 0, none⟩ = some (.string x.f0) := (hb6.cell (p := ⟨wr.heap.size, 0, none⟩) (by simp)).trans (by simp [go_sem]); have n1_6 : w6.cell? ⟨wr.heap.size, 1, none⟩ = some (.string x.f1) := (hb6.cell (p := ⟨wr.heap.size, 1, none⟩) (by simp)).trans (by simp [go_sem]); have HM6 := Aside0.mk (HM5.out.kept (grown_of_below hb6 none) (by simp)); have HO6 := Aside0.mk (Kd.R_below HO5.out hb6); have HB6 := Aside0.mk (below_step HB5.out hb6); have hz6 : wr.heap.size + 1 ≤ w6.heap.size := (by have := hb6.size; simp at this; omega); clear hb6 hg hbox)
              | fail)
            go_roundw
            case rel => exact ⟨i + 1, by omega, by go_num, HM6, ⟨by rw [HDN.out]; exact HO6.out⟩, HB6, by omega⟩
            case measure => simp [RowKit.intOf]; omega
        · obtain rfl : i = l0.length := by omega
          have hdi : decide ((l0.length : Int) < (l0.length : Int)) = false := decide_eq_false (by omega)
          go_wp2
          go_ret2
          exact ⟨_, rfl, Kd.R_mono HO5.out (fun _ _ => trivial), HB5.out⟩
def node_Minus.f (l m : List S23) : Option (List S23 × Int) := if l.length ≤ 4294967296 ∧ m.length ≤ 4294967296 ∧ (∀ x ∈ l, TinyN x) ∧ (∀ x ∈ m, TinyN x) then some (if checkN l = true ∧ checkN m = true then (l.filter (fun x => !decide (x ∈ m)), 0) else ([], 1)) else none
set_option maxHeartbeats 4000000 in
set_option maxRecDepth 100000 in
theorem nminus_err (A0 : Option Addr) (c0 : Nat) (l0 : List S23) (A1 : Option Addr) (c1 : Nat) (l1 : List S23) (w : World) (hr0 : Kd.C k23 w A0 l0.length l0) (hr1 : Kd.C k23 w A1 l1.length l1) (hc0 : l0.length ≤ c0) (hc1 : l1.length ≤ c1)
    (hl0 : l0.length ≤ 4294967296) (hl1 : l1.length ≤ 4294967296) (ht0 : ∀ x ∈ l0, TinyN x) (ht1 : ∀ x ∈ l1, TinyN x) (hk : ¬ (checkN l0 = true ∧ checkN l1 = true)) :
    Calls Tryd.prog 19 #[.slice A0 l0.length c0, .slice A1 l1.length c1] w fun e w' => e = .returned (.tuple #[.slice none 0 0, .int .i64 1]) ∧ Below w.heap.size w w' := by
  have HR1 := Aside0.mk hr1
  have e0 := check_val l0 hl0 ht0 8589934600 (Nat.le_refl _)
  have e1 := check_val l1 hl1 ht1 8589934600 (Nat.le_refl _)
  by_cases h0 : checkN l0 = true
  · have h1 : checkN l1 = false := by
      cases h : checkN l1
      · rfl
      · exact absurd ⟨h0, h⟩ hk
    rw [h0] at e0
    rw [h1] at e1
    have CK0 := fun (W : World) (h : Kd.C k23 W A0 l0.length l0) => node_Check.calls 8589934600 A0 c0 l0 0 W h hc0 e0
    have CK1 := fun (W : World) (h : Kd.C k23 W A1 l1.length l1) => node_Check.calls 8589934600 A1 c1 l1 1 W h hc1 e1
    clear e0 e1 h0 h1 hk ht0 ht1
    go_enter Tryd.func19, Tryd.ntmps19
    go_wp2_with fail
    refine (CK0 _ hr0).mono ?_
    rintro e w1 ⟨rfl, hb1⟩
    go_wp2_with fail
    refine (CK1 _ (Kd.C_below HR1.out hb1)).mono ?_
    rintro e w2 ⟨rfl, hb2⟩
    have HB2 : Aside0 (Below w.heap.size w w2) := ⟨hb1.trans (hb2.mono hb1.size)⟩
    clear hb1 hb2 CK0 CK1
    go_wp2
    go_ret2
    exact ⟨rfl, HB2.out⟩
  · rw [Bool.not_eq_true] at h0
    rw [h0] at e0
    have CK0 := fun (W : World) (h : Kd.C k23 W A0 l0.length l0) => node_Check.calls 8589934600 A0 c0 l0 1 W h hc0 e0
    clear e0 e1 h0 hk ht0 ht1
    go_enter Tryd.func19, Tryd.ntmps19
    go_wp2_with fail
    refine (CK0 _ hr0).mono ?_
    rintro e w1 ⟨rfl, hb1⟩
    have HB2 := Aside0.mk hb1
    clear hb1 CK0
    go_wp2
    go_ret2
    exact ⟨rfl, HB2.out⟩
theorem node_Minus.calls (A0 : Option Addr) (c0 : Nat) (l0 : List S23) (A1 : Option Addr) (c1 : Nat) (l1 : List S23) (r1 : List S23) (r2 : Int) (w : World) (hr0 : Kd.C k23 w A0 l0.length l0) (hc0 : l0.length ≤ c0) (hr1 : Kd.C k23 w A1 l1.length l1) (hc1 : l1.length ≤ c1) (h : node_Minus.f l0 l1 = some (r1, r2)) :
    Calls Tryd.prog 19 #[.slice A0 l0.length c0, .slice A1 l1.length c1] w fun e w' => ∃ v, e = .returned (.tuple #[v, .int .i64 r2]) ∧ Kd.R k23 23 w' w.heap.size (fun _ => True) v r1 ∧ Below w.heap.size w w' := by
  unfold node_Minus.f at h
  split at h
  case isFalse => cases h
  case isTrue hc =>
    obtain ⟨hl0, hl1, ht0, ht1⟩ := hc
    by_cases hk : checkN l0 = true ∧ checkN l1 = true
    · rw [if_pos hk, Option.some.injEq, Prod.mk.injEq] at h
      obtain ⟨rfl, rfl⟩ := h
      have := nminus_go A0 c0 l0 A1 c1 l1 w hr0 hr1 hc0 hc1 hl0 hl1 ht0 ht1 hk.1 hk.2
      unfold lessN at this
      rw [List.take_length] at this
      exact this
    · rw [if_neg hk, Option.some.injEq, Prod.mk.injEq] at h
      obtain ⟨rfl, rfl⟩ := h
      refine (nminus_err A0 c0 l0 A1 c1 l1 w hr0 hr1 hc0 hc1 hl0 hl1 ht0 ht1 hk).mono ?_
      rintro e w' ⟨rfl, hb⟩
      exact ⟨_, rfl, Kd.R_nil _ _ _ _ _, hb⟩
end Go.Proofs.YtnknjhdpjjddeaaDoor.Q
end
