/- Word: the contracts that my print takes as given: strings.IndexByte, word.states (the tables of the three kinds), under the numbers of this seat's translation. No conditions. -/
import Derived.Test.YtbkcjgjcnnggbaaQ0
import Derived.Test.YtbkcjgjcnnggbaaShelf
namespace Go.Proofs.Ytbkcjgjcnnggbaa.Q
open Go.RowKit Go.Proofs.YtbkcjgjcnnggbaaW.PrintWords Go.Proofs.YtbkcjgjcnnggbaaW.PrintLast Go.Proofs.YtbkcjgjcnnggbaaW.PrintMore
set_option linter.unusedVariables false
set_option linter.unusedSimpArgs false

def strings_IndexByte.f (a0 : ByteArray) (a1 : Int) : Option Int := some (Lib.indexByte a0.data.toList a1.toNat.toUInt8)
theorem strings_IndexByte.calls (a0 : ByteArray) (a1 : Int) (r : Int) (w : World) (h : strings_IndexByte.f a0 a1 = some r) :
    Calls Try.prog 32 #[.string a0, .int .u8 a1] w fun e w' => e = .returned (.int .i64 r) ∧ Drawn0 w w' := by
  obtain rfl := Option.some.inj h
  exact (Try.strings_IndexByte a0 a1 w).mono fun e w' ⟨h1, h2⟩ => ⟨h1, by subst h2; exact Drawn0.refl _⟩

/-! The tables. -/
def mvs : List (ByteArray × Int) → List S54 := List.map fun x => ⟨x.1, x.2⟩
def mvCells : List S54 → List Value
  | [] => []
  | m :: r => .string m.f0 :: .int .i64 m.f1 :: mvCells r
def layCells : Nat → List S38 → List Value
  | _, [] => []
  | b, s :: r => match s.f0 with
    | [] => .slice none 0 0 :: .bool s.f1 :: .string s.f2 :: layCells b r
    | m :: ms => .slice (some ⟨b, 0, none⟩) (m :: ms).length (m :: ms).length :: .bool s.f1 :: .string s.f2 :: layCells (b + 1) r
def layWorld : World → List S38 → World
  | w, [] => w
  | w, s :: r => match s.f0 with
    | [] => layWorld w r
    | m :: ms => layWorld (w.alloc (.cells (mvCells (m :: ms)).toArray 54)) r
theorem mvCells_reps (w : World) (base : Nat) (ok : Nat → Prop) : ∀ l : List S54, Reps (k54.M w base ok) 2 l (mvCells l)
  | [] => Reps.none _ _
  | m :: r => Reps.c2 (k54_mkM _ _ _ m) (mvCells_reps w base ok r)
theorem layWorld_below : ∀ (t : List S38) (w : World), Below w.heap.size w (layWorld w t)
  | [], w => Below.refl _ _
  | ⟨[], _, _⟩ :: r, w => layWorld_below r w
  | ⟨m :: ms, _, _⟩ :: r, w => (below_alloc (Below.refl _ _) (.cells (mvCells (m :: ms)).toArray 54)).trans ((layWorld_below r _).mono (by simp))
theorem mv_row (w W : World) (l : List S54) (hl : l.length ≤ 100) (hb : Below (w.heap.size + 1) (w.alloc (.cells (mvCells l).toArray 54)) W) (base : Nat) (hbase : base ≤ w.heap.size) (ok : Nat → Prop) (hok : ok w.heap.size) :
    k54.R 54 W base ok (.slice (some ⟨w.heap.size, 0, none⟩) l.length l.length) l := by
  have hn : (mvCells l).length = l.length * 2 := (mvCells_reps w base ok l).1
  refine ⟨fun k hk => ?_, mvCells l, ⟨hn, .inr ⟨w.heap.size, l.length, (mvCells l).toArray, rfl, hbase, ?_, ?_⟩⟩, mvCells_reps _ _ _ _⟩
  · simp [Value.ownBlock] at hk; exact hk ▸ hok
  · rw [hb.block _ (by omega)]; exact heap_alloc_new _ _
  · exact ⟨Nat.le_refl _, by unfold maxLen; omega, hn, List.take_of_length_le (Nat.le_of_eq hn)⟩
theorem lay_reps : ∀ (t : List S38) (w W : World) (base : Nat) (_ : ∀ s ∈ t, s.f0.length ≤ 100) (_ : base ≤ w.heap.size) (_ : Below (layWorld w t).heap.size (layWorld w t) W),
    Reps (k38.M W base (fun k => base ≤ k ∧ k < (layWorld w t).heap.size)) 3 t (layCells w.heap.size t)
  | [], _, _, _, _, _, _ => Reps.none _ _
  | ⟨[], b, s⟩ :: r, w, W, base, h1, h2, h3 => Reps.c3 (k38_mkM _ _ _ ⟨[], b, s⟩ (Kd.R_nil _ _ _ _ _)) (lay_reps r w W base (fun x hx => h1 x (List.mem_cons_of_mem _ hx)) h2 h3)
  | ⟨m :: ms, b, s⟩ :: r, w, W, base, h1, h2, h3 => by
    have hsz : (w.alloc (.cells (mvCells (m :: ms)).toArray 54)).heap.size = w.heap.size + 1 := by simp
    have hlt : w.heap.size + 1 ≤ (layWorld (w.alloc (.cells (mvCells (m :: ms)).toArray 54)) r).heap.size := by have := (layWorld_below r (w.alloc (.cells (mvCells (m :: ms)).toArray 54))).size; omega
    have ih := lay_reps r (w.alloc (.cells (mvCells (m :: ms)).toArray 54)) W base (fun x hx => h1 x (List.mem_cons_of_mem _ hx)) (by omega) h3
    rw [hsz] at ih
    refine Reps.c3 (k38_mkM _ _ _ ⟨m :: ms, b, s⟩ (mv_row w W (m :: ms) (h1 ⟨m :: ms, b, s⟩ List.mem_cons_self) ?_ base h2 _ ⟨h2, hlt⟩)) ih
    refine Below.mono ?_ (B := w.heap.size + 1) (Nat.le_refl _)
    have hb := layWorld_below r (w.alloc (.cells (mvCells (m :: ms)).toArray 54))
    rw [hsz] at hb
    exact hb.trans (h3.mono hlt)
theorem lay_row (t : List S38) (w : World) (hne : 0 < t.length) (h100 : t.length ≤ 100) (h1 : ∀ s ∈ t, s.f0.length ≤ 100) :
    Kd.N k38 38 ((layWorld w t).alloc (.cells (layCells w.heap.size t).toArray 38)) w.heap.size (fun k => w.heap.size ≤ k) (.slice (some ⟨(layWorld w t).heap.size, 0, none⟩) t.length t.length) t ∧ Below w.heap.size w ((layWorld w t).alloc (.cells (layCells w.heap.size t).toArray 38)) := by
  have hb := layWorld_below t w
  have hr := lay_reps t w ((layWorld w t).alloc (.cells (layCells w.heap.size t).toArray 38)) w.heap.size h1 (Nat.le_refl _) (below_alloc (Below.refl _ _) _)
  have hn : (layCells w.heap.size t).length = t.length * 3 := hr.1
  refine ⟨Kd.R_N ⟨fun k hk => ?_, layCells w.heap.size t, ⟨hn, .inr ⟨(layWorld w t).heap.size, t.length, (layCells w.heap.size t).toArray, rfl, hb.size, heap_alloc_new _ _, Nat.le_refl _, by unfold maxLen; omega, hn, List.take_of_length_le (Nat.le_of_eq hn)⟩⟩, hr.imp_ fun x c hM => k38.M_mono (fun k hk => ⟨hk.1, fun e => ?_⟩) hM⟩, below_alloc hb _⟩
  · simp [Value.ownBlock] at hk; exact hk ▸ hb.size
  · simp [Value.ownBlock] at e; omega
abbrev Ainner : ByteArray := ⟨#[48, 49, 50, 51, 52, 53, 54, 55, 56, 57, 97, 98, 99, 100, 101, 102, 103, 104, 105, 106, 107, 108, 109, 110, 111, 112, 113, 114, 115, 116, 117, 118, 119, 120, 121, 122, 65, 66, 67, 68, 69, 70, 71, 72, 73, 74, 75, 76, 77, 78, 79, 80, 81, 82, 83, 84, 85, 86, 87, 88, 89, 90, 45, 95, 126]⟩
abbrev Adigits : ByteArray := ⟨#[48, 49, 50, 51, 52, 53, 54, 55, 56, 57]⟩
abbrev Atail : ByteArray := ⟨#[97, 98, 99, 100, 101, 102, 103, 104, 105, 106, 107, 108, 109, 110, 111, 112, 113, 114, 115, 116, 117, 118, 119, 120, 121, 122, 65, 66, 67, 68, 69, 70, 71, 72, 73, 74, 75, 76, 77, 78, 79, 80, 81, 82, 83, 84, 85, 86, 87, 88, 89, 90, 45]⟩
abbrev Aword : ByteArray := ⟨#[48, 49, 50, 51, 52, 53, 54, 55, 56, 57, 97, 98, 99, 100, 101, 102, 103, 104, 105, 106, 107, 108, 109, 110, 111, 112, 113, 114, 115, 116, 117, 118, 119, 120, 121, 122, 65, 66, 67, 68, 69, 70, 71, 72, 73, 74, 75, 76, 77, 78, 79, 80, 81, 82, 83, 84, 85, 86, 87, 88, 89, 90, 45]⟩
abbrev Asome : ByteArray := ⟨#[49, 50, 51, 52, 53, 54, 55, 56, 57]⟩
def pathsT : List S38 := [⟨[⟨Ainner, 1⟩], false, ⟨#[97]⟩⟩,
  ⟨[⟨Ainner, 1⟩, ⟨⟨#[46]⟩, 2⟩, ⟨⟨#[47]⟩, 0⟩], true, ⟨#[]⟩⟩,
  ⟨[⟨Ainner, 1⟩, ⟨⟨#[46]⟩, 2⟩], false, ⟨#[97]⟩⟩]
def versionsT : List S38 := [⟨[⟨⟨#[118]⟩, 1⟩], false, ⟨#[118, 48, 46, 48, 46, 48]⟩⟩,
  ⟨[⟨⟨#[48]⟩, 2⟩, ⟨Asome, 3⟩], false, ⟨#[48, 46, 48, 46, 48]⟩⟩,
  ⟨[⟨⟨#[46]⟩, 4⟩], false, ⟨#[46, 48, 46, 48]⟩⟩,
  ⟨[⟨Adigits, 3⟩, ⟨⟨#[46]⟩, 4⟩], false, ⟨#[46, 48, 46, 48]⟩⟩,
  ⟨[⟨⟨#[48]⟩, 5⟩, ⟨Asome, 6⟩], false, ⟨#[48, 46, 48]⟩⟩,
  ⟨[⟨⟨#[46]⟩, 7⟩], false, ⟨#[46, 48]⟩⟩,
  ⟨[⟨Adigits, 6⟩, ⟨⟨#[46]⟩, 7⟩], false, ⟨#[46, 48]⟩⟩,
  ⟨[⟨⟨#[48]⟩, 8⟩, ⟨Asome, 9⟩], false, ⟨#[48]⟩⟩,
  ⟨[⟨⟨#[45]⟩, 10⟩], true, ⟨#[]⟩⟩,
  ⟨[⟨Adigits, 9⟩, ⟨⟨#[45]⟩, 10⟩], true, ⟨#[]⟩⟩,
  ⟨[⟨⟨#[48]⟩, 11⟩, ⟨Asome, 12⟩, ⟨Atail, 13⟩], false, ⟨#[48]⟩⟩,
  ⟨[⟨Adigits, 14⟩, ⟨Atail, 13⟩, ⟨⟨#[46]⟩, 10⟩], true, ⟨#[]⟩⟩,
  ⟨[⟨Adigits, 12⟩, ⟨Atail, 13⟩, ⟨⟨#[46]⟩, 10⟩], true, ⟨#[]⟩⟩,
  ⟨[⟨Aword, 13⟩, ⟨⟨#[46]⟩, 10⟩], true, ⟨#[]⟩⟩,
  ⟨[⟨Adigits, 14⟩, ⟨Atail, 13⟩], false, ⟨#[97]⟩⟩]
def numbersT : List S38 := [⟨[⟨⟨#[48]⟩, 1⟩, ⟨Asome, 2⟩], false, ⟨#[48, 46, 48]⟩⟩,
  ⟨[⟨⟨#[46]⟩, 3⟩], false, ⟨#[46, 48]⟩⟩,
  ⟨[⟨Adigits, 2⟩, ⟨⟨#[46]⟩, 3⟩], false, ⟨#[46, 48]⟩⟩,
  ⟨[⟨⟨#[48]⟩, 4⟩, ⟨Asome, 5⟩], false, ⟨#[48]⟩⟩,
  ⟨[⟨⟨#[46]⟩, 6⟩], true, ⟨#[]⟩⟩,
  ⟨[⟨Adigits, 5⟩, ⟨⟨#[46]⟩, 6⟩], true, ⟨#[]⟩⟩,
  ⟨[⟨⟨#[48]⟩, 7⟩, ⟨Asome, 8⟩], false, ⟨#[48]⟩⟩,
  ⟨[], true, ⟨#[]⟩⟩,
  ⟨[⟨Adigits, 8⟩], true, ⟨#[]⟩⟩]
set_option maxHeartbeats 1000000 in
set_option maxRecDepth 100000 in
theorem pathsT_calls (w : World) : Calls Try.prog 33 #[] w fun e w' => ∃ v0_ : Value, e = .returned v0_ ∧ Kd.N k38 38 w' w.heap.size (fun k_ => w.heap.size ≤ k_) v0_ pathsT ∧ Below w.heap.size w w' := by
  go_enter Try.func33, Try.ntmps33
  go_wp2
  go_ret
  have h := lay_row pathsT w (by decide) (by decide) (by decide)
  rw [show (layWorld w pathsT).heap.size = w.heap.size + 1 + 1 + 1 from by simp [pathsT, layWorld]] at h
  exact ⟨_, rfl, h⟩
set_option maxHeartbeats 1000000 in
set_option maxRecDepth 100000 in
theorem versionsT_calls (w : World) : Calls Try.prog 34 #[] w fun e w' => ∃ v0_ : Value, e = .returned v0_ ∧ Kd.N k38 38 w' w.heap.size (fun k_ => w.heap.size ≤ k_) v0_ versionsT ∧ Below w.heap.size w w' := by
  go_enter Try.func34, Try.ntmps34
  go_wp2
  go_ret
  have h := lay_row versionsT w (by decide) (by decide) (by decide)
  rw [show (layWorld w versionsT).heap.size = w.heap.size + 1 + 1 + 1 + 1 + 1 + 1 + 1 + 1 + 1 + 1 + 1 + 1 + 1 + 1 + 1 from by simp [versionsT, layWorld]] at h
  exact ⟨_, rfl, h⟩
set_option maxHeartbeats 1000000 in
set_option maxRecDepth 100000 in
theorem numbersT_calls (w : World) : Calls Try.prog 35 #[] w fun e w' => ∃ v0_ : Value, e = .returned v0_ ∧ Kd.N k38 38 w' w.heap.size (fun k_ => w.heap.size ≤ k_) v0_ numbersT ∧ Below w.heap.size w w' := by
  go_enter Try.func35, Try.ntmps35
  go_wp2
  go_ret
  have h := lay_row numbersT w (by decide) (by decide) (by decide)
  rw [show (layWorld w numbersT).heap.size = w.heap.size + 1 + 1 + 1 + 1 + 1 + 1 + 1 + 1 from by simp [numbersT, layWorld]] at h
  exact ⟨_, rfl, h⟩

/-! states, read. -/
def statesT (k : Int) : List S38 := if k = 0 then pathsT else if k = 1 then versionsT else if k = 2 then numbersT else []
def word_states.f (a0 : Int) : Option (List S38) := some (statesT a0)
set_option maxHeartbeats 1000000 in
set_option maxRecDepth 100000 in
theorem states_0 (w : World) : Calls Try.prog 28 #[.int .i64 0] w fun e w' => ∃ v0_ : Value, e = .returned v0_ ∧ Kd.N k38 38 w' w.heap.size (fun k_ => w.heap.size ≤ k_) v0_ pathsT ∧ Below w.heap.size w w' := by
  have i0 : ∀ w, (Instr.index 57 (.agg #[.func (.func 33) #[] #[], .func (.func 34) #[] #[], .func (.func 35) #[] #[]]) (.int .i64 0)).run Try.prog w = .ok (.func (.func 33) #[] #[]) w := fun _ => by kernel_rfl
  go_enter Try.func28, Try.ntmps28
  go_wp2_with (go_at_call 33; refine (pathsT_calls _).mono ?_; rintro e w' ⟨v, rfl, hN, hb⟩)
  go_ret
  exact ⟨v, rfl, hN, hb⟩
set_option maxHeartbeats 1000000 in
set_option maxRecDepth 100000 in
theorem states_1 (w : World) : Calls Try.prog 28 #[.int .i64 1] w fun e w' => ∃ v0_ : Value, e = .returned v0_ ∧ Kd.N k38 38 w' w.heap.size (fun k_ => w.heap.size ≤ k_) v0_ versionsT ∧ Below w.heap.size w w' := by
  have i0 : ∀ w, (Instr.index 57 (.agg #[.func (.func 33) #[] #[], .func (.func 34) #[] #[], .func (.func 35) #[] #[]]) (.int .i64 1)).run Try.prog w = .ok (.func (.func 34) #[] #[]) w := fun _ => by kernel_rfl
  go_enter Try.func28, Try.ntmps28
  go_wp2_with (go_at_call 34; refine (versionsT_calls _).mono ?_; rintro e w' ⟨v, rfl, hN, hb⟩)
  go_ret
  exact ⟨v, rfl, hN, hb⟩
set_option maxHeartbeats 1000000 in
set_option maxRecDepth 100000 in
theorem states_2 (w : World) : Calls Try.prog 28 #[.int .i64 2] w fun e w' => ∃ v0_ : Value, e = .returned v0_ ∧ Kd.N k38 38 w' w.heap.size (fun k_ => w.heap.size ≤ k_) v0_ numbersT ∧ Below w.heap.size w w' := by
  have i0 : ∀ w, (Instr.index 57 (.agg #[.func (.func 33) #[] #[], .func (.func 34) #[] #[], .func (.func 35) #[] #[]]) (.int .i64 2)).run Try.prog w = .ok (.func (.func 35) #[] #[]) w := fun _ => by kernel_rfl
  go_enter Try.func28, Try.ntmps28
  go_wp2_with (go_at_call 35; refine (numbersT_calls _).mono ?_; rintro e w' ⟨v, rfl, hN, hb⟩)
  go_ret
  exact ⟨v, rfl, hN, hb⟩
theorem states_no (k : Int) (hk : k < 0 ∨ 2 < k) (w : World) : Calls Try.prog 28 #[.int .i64 k] w fun e w' => e = .returned (.slice none 0 0) ∧ w' = w := by
  rcases hk with hk | hk
  · go_enter Try.func28, Try.ntmps28
    go_wp2
    go_ret
    exact ⟨rfl, rfl⟩
  · have h0 : ¬ k < 0 := by omega
    go_enter Try.func28, Try.ntmps28
    go_wp2
    go_ret
    exact ⟨rfl, rfl⟩

theorem word_states.calls (a0 : Int) (r : List S38) (w : World) (h : word_states.f a0 = some r) :
    Calls Try.prog 28 #[.int .i64 a0] w fun e w' => ∃ v0_ : Value, e = .returned v0_ ∧ Kd.N k38 38 w' w.heap.size (fun k_ => w.heap.size ≤ k_) v0_ r ∧ Below w.heap.size w w' := by
  obtain rfl := Option.some.inj h
  by_cases h0 : a0 = 0
  · subst h0; exact states_0 w
  by_cases h1 : a0 = 1
  · subst h1; exact states_1 w
  by_cases h2 : a0 = 2
  · subst h2; exact states_2 w
  refine (states_no a0 (by omega) w).mono fun e w' ⟨he, hw⟩ => ?_
  subst hw
  exact ⟨_, he, by simp only [statesT, if_neg h0, if_neg h1, if_neg h2]; exact Kd.N_nil _ _ _ _ _, Below.refl _ _⟩
end Go.Proofs.Ytbkcjgjcnnggbaa.Q
