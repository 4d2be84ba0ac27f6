/- Part 13 of this claim: several texts one behind the other: EvRMore. What each shows stands in its theorems; conditions: sizes of texts and lists, as the functions' definitions say. -/
import Derived.Test.YtohdmmafjpjmfaaGreatDoorMRoomMore12
section
namespace Go.Proofs.YtohdmmafjpjmfaaGreatDoor.Q
open Go.Proofs.YtohdmmafjpjmfaaGreatDoor.QB.D
open Go Go.RowKit Go.Lib Go.Proofs.YtohdmmafjpjmfaaGreatDoorW.PrintWords Go.Ev
set_option linter.unusedVariables false
set_option maxRecDepth 100000
theorem changeU_ok {u v : UV} {dm de nn : Int} {S : List S34} (hn : nn ≠ 0) (h : changeU u dm de nn S = (v, 0)) : okU u = true ∧ S.all mayN = true ∧ v = addU u dm de (if nn = 2 then (diffV [] S).map turnE else diffV [] S) ∧ okU v = true := by
  unfold changeU at h
  split at h
  · rename_i hg
    generalize (if nn = 2 then (diffV [] S).map turnE else diffV [] S) = D at h ⊢
    simp only at h
    split at h
    · rename_i hk
      injection h with h1 _
      subst h1
      exact ⟨hg.1, hg.2, rfl, hk⟩
    · injection h with _ h2
      exact absurd h2 hn
  · injection h with _ h2
    cases h2
def hasE (k : S34) (l : List S48) : Bool := l.any (fun x => eqN x.f0 k)
theorem hasE_iff {k : S34} {l : List S48} : hasE k l = true ↔ k ∈ l.map (·.f0) := by
  unfold hasE
  rw [List.any_eq_true, List.mem_map]
  constructor
  · rintro ⟨x, hx, e⟩; exact ⟨x, hx, eqN_iff.1 e⟩
  · rintro ⟨x, hx, e⟩; exact ⟨x, hx, eqN_iff.2 e⟩
theorem ok_oke {u : UV} (hu : okU u = true) (hl : u.s.length ≤ 32768) (ht : ∀ x ∈ u.s, TinyN x.f0) : Oke u.s := by
  have hck := ((okU_iff u).1 hu).2.1
  have cu := check_can ht hck
  exact ⟨cu.1, cu.2, (fun x hx => ⟨ht x hx, cu.1.set.may x.f0 (List.mem_map_of_mem hx)⟩), hl⟩
theorem more_len {u : UV} {k : S34} {S : List S34} (hu : okU u = true) (hl : u.s.length ≤ 20000) (ht : ∀ x ∈ u.s, TinyN x.f0) (hk : TinyN k) (hm : S.all mayN = true) (hS : ∀ x ∈ S, x = k) (h0 : S ≠ []) (h9 : S.length ≤ 100) :
    (bothV u.s (diffV [] S)).length = u.s.length + (if hasE k u.s = true then 0 else 1) := by
  have gS : GoodL S := ⟨by omega, fun x hx => ⟨by rw [hS x hx]; exact hk, List.all_eq_true.1 hm x hx⟩⟩
  have p := goodL_nil.oke gS (by simp; omega)
  have q := ok_oke hu (by omega) ht
  have cb := bothV_can u.s (diffV [] S) q.len p.1.len q.tiny p.1.tiny
  have hby := bothV_by u.s (diffV [] S) q.len p.1.len q.tiny p.1.tiny
  have hpos := byE_pos ((okU_iff u).1 hu).2.2
  have hcnt : ∀ x, 0 ≤ cntN S x := fun x => (cntN_range S x).1
  have hck : 0 < cntN S k := by
    match S, h0, hS with
    | y :: r, _, hS =>
      rw [cntN_cons, if_pos (hS y (.head _))]
      have := (cntN_range r k).1
      omega
  have hcn : ∀ x, x ≠ k → cntN S x = 0 := fun x hx => cntN_none (fun h => hx (hS x h))
  have hkeys : ∀ x, x ∈ (bothV u.s (diffV [] S)).map (·.f0) ↔ x ∈ u.s.map (·.f0) ∨ x = k := fun x => by
    rw [cb.mem_iff, q.can.mem_iff, hby, p.2, cntN_nil]
    have h1 := hpos x
    have h2 := hcnt x
    constructor
    · intro h
      by_cases hx : x = k
      · exact Or.inr hx
      · left; intro h3; exact h (by rw [h3, hcn x hx]; rfl)
    · rintro (h | rfl) h3
      · omega
      · omega
  have n1 := cb.set.nodup
  have n2 := q.can.set.nodup
  have el : ∀ l : List S48, l.length = (l.map (·.f0)).length := fun l => (List.length_map ..).symm
  rw [el (bothV u.s (diffV [] S)), el u.s]
  by_cases hh : hasE k u.s = true
  · rw [if_pos hh]
    have hk' := hasE_iff.1 hh
    exact ((List.perm_ext_iff_of_nodup n1 n2).2 (fun x => by
      rw [hkeys x]
      exact ⟨fun h => h.elim id (fun e => e ▸ hk'), Or.inl⟩)).length_eq
  · rw [if_neg hh]
    have hk' : k ∉ u.s.map (·.f0) := fun h => hh (hasE_iff.2 h)
    have := ((List.perm_ext_iff_of_nodup n1 (List.nodup_cons.2 ⟨hk', n2⟩)).2 (fun x => by
      rw [hkeys x, List.mem_cons]
      exact Or.comm)).length_eq
    rw [this, List.length_cons]
theorem fits_less {lm ln le : Int} {u v : UV} (h1 : u.m ≤ v.m) (h2 : (u.s.length : Int) ≤ v.s.length) (h3 : u.e ≤ v.e) (h : fitsU lm ln le v = 0) : fitsU lm ln le u = 0 := by
  unfold fitsU at *
  split at h
  · cases h
  · split at h
    · cases h
    · split at h
      · cases h
      · rw [if_neg (by omega), if_neg (by omega), if_neg (by omega)]
theorem beqF {a b : Int} (e : a = b) (h : (a == b) = false) : False := by rw [e] at h; simp at h
theorem roomMore_pc (u : UV) (key : S34) (lt lm ln le : Int) :
    PC 5 [evU u, evN key, evL lt lm ln le] (.s (.bool true)) := by
  have fl := fewU_len u
  have ft := fewU_tiny u
  have kt := (oneN_brief key).tiny
  generalize hF : fewU u = F at fl ft
  generalize hk : oneN key = k at kt
  obtain ⟨va, ra, hva⟩ : ∃ v r, changeU F 1 2 4 [k, k, k] = (v, r) := ⟨_, _, rfl⟩
  obtain ⟨vb, rb, hvb⟩ : ∃ v r, changeU F 0 1 4 [k] = (v, r) := ⟨_, _, rfl⟩
  have wT := take_pc F k [k, k] ft (by show _ + 2 ≤ _; omega) (fun x hx => by simp only [List.mem_cons, List.not_mem_nil, or_false] at hx; rcases hx with rfl | rfl <;> exact kt) kt va ra hva
  have wR := root_pc F k true ft (by omega) kt vb rb hvb
  have w1 := hF ▸ few14_pc u
  have w2 := hk ▸ one5_pc key
  refine pc_of tt_ok tt_follows Tryz.func5 rfl (by kernel_rfl) (by kernel_rfl) (Nat.le_of_ble_eq_true rfl) rfl ?_
  conv => whnf
  refine ⟨_, w1, ?_⟩
  conv => whnf
  refine ⟨_, w2, ?_⟩
  conv => whnf
  refine ⟨by kernel_rfl, ?_⟩
  conv => whnf
  refine ⟨_, wT, ?_⟩
  conv => whnf
  refine ⟨_, wR, ?_⟩
  conv => whnf
  constructor
  · intro h
    conv => whnf
    refine ⟨_, awake14_pc, ?_⟩
    (conv => whnf) <;> try rfl
  · intro h
    obtain rfl : ra = 0 := by simpa using h
    conv => whnf
    constructor
    · intro h
      conv => whnf
      refine ⟨_, awake14_pc, ?_⟩
      (conv => whnf) <;> try rfl
    · intro h
      obtain rfl : rb = 0 := by simpa using h
      conv => whnf
      obtain ⟨uo, um, ea, ao⟩ := changeU_ok (by decide) hva
      obtain ⟨_, um', eb, bo⟩ := changeU_ok (by decide) hvb
      rw [if_neg (by decide)] at ea eb
      have la := more_len (S := [k, k, k]) uo (by omega) ft kt um (fun x hx => by simp only [List.mem_cons, List.not_mem_nil, or_false] at hx; rcases hx with rfl | rfl | rfl <;> rfl) (by simp) (by simp)
      have lb := more_len (S := [k]) uo (by omega) ft kt um' (fun x hx => by simpa using hx) (by simp) (by simp)
      have p := goodL_nil.oke (G := [k, k, k]) ⟨by simp, fun x hx => ⟨by simp only [List.mem_cons, List.not_mem_nil, or_false] at hx; rcases hx with rfl | rfl | rfl <;> exact kt, List.all_eq_true.1 um x hx⟩⟩ (by simp)
      have p' := goodL_nil.oke (G := [k]) ⟨by simp, fun x hx => ⟨by simp only [List.mem_cons, List.not_mem_nil, or_false] at hx; rcases hx with rfl; exact kt, List.all_eq_true.1 um' x hx⟩⟩ (by simp)
      have q := ok_oke uo (by omega) ft
      have ta : ∀ x ∈ va.s, TinyN x.f0 := by rw [ea]; exact fun x hx => (bothV_tinyE F.s _ q.tiny p.1.tiny x hx).1
      have tb : ∀ x ∈ vb.s, TinyN x.f0 := by rw [eb]; exact fun x hx => (bothV_tinyE F.s _ q.tiny p'.1.tiny x hx).1
      have ma : va.m = F.m + 1 := by rw [ea]; rfl
      have ga : va.e = F.e + 2 := by rw [ea]; rfl
      have gb : vb.e = F.e + 1 := by rw [eb]; rfl
      have mb : vb.m = F.m := by rw [eb]; show F.m + 0 = _; omega
      have la : va.s.length = F.s.length + (if hasE k F.s = true then 0 else 1) := by rw [ea]; exact la
      have lb : vb.s.length = F.s.length + (if hasE k F.s = true then 0 else 1) := by rw [eb]; exact lb
      clear ea eb hva hvb wT wR p p'
      obtain ⟨⟨b1, b2, b3, b4⟩, _⟩ := (okU_iff F).1 uo
      have hmr : (if hasE k F.s = true then (0 : Nat) else 1) ≤ 1 := by split <;> decide
      have hmz : (if hasE k F.s = true then (0 : Int) else 1) = ((if hasE k F.s = true then (0 : Nat) else 1 : Nat) : Int) := by split <;> rfl
      have wF := fits_pc F lt lm ln le (by omega) ft
      have wA := fits_pc va lt lm ln le (by omega) ta
      have wB := fits_pc vb lt lm ln le (by omega) tb
      simp only [uo, ao, bo, if_true] at wF wA wB
      have e1 : va.m = IntKind.wrap .i64 (F.m + 1) := by rw [wrapI (by omega)]; exact ma
      have e2 : va.e = IntKind.wrap .i64 (F.e + 2) := by rw [wrapI (by omega)]; exact ga
      have e4 : vb.e = IntKind.wrap .i64 (F.e + 1) := by rw [wrapI (by omega)]; exact gb
      have e3 : (((va.s.map evE).length : Nat) : Int) = IntKind.wrap .i64 ((((F.s.map evE).length : Nat) : Int) + (if hasE k F.s = true then 0 else 1)) := by
        rw [List.length_map, List.length_map, hmz, wrapI (by omega), la]; omega
      have e5 : (((vb.s.map evE).length : Nat) : Int) = IntKind.wrap .i64 ((((F.s.map evE).length : Nat) : Int) + (if hasE k F.s = true then 0 else 1)) := by
        rw [List.length_map, List.length_map, hmz, wrapI (by omega), lb]; omega
      refine ⟨_, wF, ?_⟩
      conv => whnf
      constructor
      · intro hw
        have hw : fitsU lm ln le F ≠ 0 := by simpa using hw
        conv => whnf
        refine ⟨_, wA, ?_⟩
        conv => whnf
        refine ⟨fun h => absurd (fits_less (u := F) (v := va) (by omega) (by omega) (by omega) (by simpa using h)) hw, fun _ => ?_⟩
        conv => whnf
        refine ⟨_, wB, ?_⟩
        conv => whnf
        refine ⟨fun h => absurd (fits_less (u := F) (v := vb) (by omega) (by omega) (by omega) (by simpa using h)) hw, fun _ => ?_⟩
        conv => whnf
        refine ⟨Nat, fun i => i ≤ F.s.length, fun i => [(36, .s (.int .i64 (if hasE k (F.s.take i) = true then 0 else 1))), (39, .s (.int .i64 i))], [9, 10, 12, 13, 18, 21, 22, 27, 28], fun i => F.s.length - i, 0, Nat.zero_le _, ?_, fun i hi => ?_⟩
        · repeat' (first | exact trivial | exact rfl | refine ⟨?_, ?_⟩)
        · conv => whnf
          constructor
          · intro h
            have hil := ltm h
            conv => whnf
            refine ⟨_, idx_map evE F.s i hil, ?_⟩
            conv => whnf
            refine ⟨eqtN, ?_⟩
            conv => whnf
            refine ⟨by kernel_rfl, ?_⟩
            conv => whnf
            have hst : hasE k (F.s.take (i + 1)) = (hasE k (F.s.take i) || eqN F.s[i].f0 k) := by
              unfold hasE
              rw [List.take_succ_eq_append_getElem hil, List.any_append]
              simp
            constructor
            · intro hq
              have hq : eqN F.s[i].f0 k = true := hq
              rw [hq, Bool.or_true] at hst
              conv => whnf
              refine ⟨i + 1, hil, less1 hil, ⟨⟨?_, trivial, incI hil (by omega), trivial, trivial⟩, ?_⟩⟩
              · show PV.s _ = _
                rw [if_pos hst] <;> rfl
              · repeat' (first | exact trivial | exact rfl | refine ⟨?_, ?_⟩)
            · intro hq
              have hq : eqN F.s[i].f0 k = false := hq
              rw [hq, Bool.or_false] at hst
              conv => whnf
              refine ⟨i + 1, hil, less1 hil, ⟨⟨?_, trivial, incI hil (by omega), trivial, trivial⟩, ?_⟩⟩
              · exact congrArg (fun b : Bool => PV.s (.int .i64 (if b = true then (0 : Int) else 1))) hst.symm
              · repeat' (first | exact trivial | exact rfl | refine ⟨?_, ?_⟩)
          · intro h
            have hil := gem h hi
            have e3' := e3
            have e5' := e5
            rw [show hasE k F.s = hasE k (F.s.take i) by rw [hil, List.take_length]] at e3' e5'
            conv => whnf
            refine ⟨fun _ => ?_, fun h => (beqF e1 h).elim⟩
            conv => whnf
            refine ⟨fun _ => ?_, fun h => (beqF e2 h).elim⟩
            conv => whnf
            refine ⟨fun _ => ?_, fun h => (beqF e3' h).elim⟩
            conv => whnf
            refine ⟨fun _ => ?_, fun h => (beqF e4 h).elim⟩
            conv => whnf
            refine ⟨fun _ => ?_, fun h => (beqF e5' h).elim⟩
            conv => whnf
            refine ⟨_, awake14_pc, ?_⟩
            (conv => whnf) <;> try rfl
      · intro hw
        conv => whnf
        refine ⟨Nat, fun i => i ≤ F.s.length, fun i => [(36, .s (.int .i64 (if hasE k (F.s.take i) = true then 0 else 1))), (39, .s (.int .i64 i))], [9, 10, 12, 13, 18, 21, 22, 27, 28], fun i => F.s.length - i, 0, Nat.zero_le _, ?_, fun i hi => ?_⟩
        · repeat' (first | exact trivial | exact rfl | refine ⟨?_, ?_⟩)
        · conv => whnf
          constructor
          · intro h
            have hil := ltm h
            conv => whnf
            refine ⟨_, idx_map evE F.s i hil, ?_⟩
            conv => whnf
            refine ⟨eqtN, ?_⟩
            conv => whnf
            refine ⟨by kernel_rfl, ?_⟩
            conv => whnf
            have hst : hasE k (F.s.take (i + 1)) = (hasE k (F.s.take i) || eqN F.s[i].f0 k) := by
              unfold hasE
              rw [List.take_succ_eq_append_getElem hil, List.any_append]
              simp
            constructor
            · intro hq
              have hq : eqN F.s[i].f0 k = true := hq
              rw [hq, Bool.or_true] at hst
              conv => whnf
              refine ⟨i + 1, hil, less1 hil, ⟨⟨?_, trivial, incI hil (by omega), trivial, trivial⟩, ?_⟩⟩
              · show PV.s _ = _
                rw [if_pos hst] <;> rfl
              · repeat' (first | exact trivial | exact rfl | refine ⟨?_, ?_⟩)
            · intro hq
              have hq : eqN F.s[i].f0 k = false := hq
              rw [hq, Bool.or_false] at hst
              conv => whnf
              refine ⟨i + 1, hil, less1 hil, ⟨⟨?_, trivial, incI hil (by omega), trivial, trivial⟩, ?_⟩⟩
              · exact congrArg (fun b : Bool => PV.s (.int .i64 (if b = true then (0 : Int) else 1))) hst.symm
              · repeat' (first | exact trivial | exact rfl | refine ⟨?_, ?_⟩)
          · intro h
            have hil := gem h hi
            have e3' := e3
            have e5' := e5
            rw [show hasE k F.s = hasE k (F.s.take i) by rw [hil, List.take_length]] at e3' e5'
            conv => whnf
            refine ⟨fun _ => ?_, fun h => (beqF e1 h).elim⟩
            conv => whnf
            refine ⟨fun _ => ?_, fun h => (beqF e2 h).elim⟩
            conv => whnf
            refine ⟨fun _ => ?_, fun h => (beqF e3' h).elim⟩
            conv => whnf
            refine ⟨fun _ => ?_, fun h => (beqF e4 h).elim⟩
            conv => whnf
            refine ⟨fun _ => ?_, fun h => (beqF e5' h).elim⟩
            conv => whnf
            refine ⟨_, awake14_pc, ?_⟩
            (conv => whnf) <;> try rfl
end Go.Proofs.YtohdmmafjpjmfaaGreatDoor.Q
end
