/- Part 7 of this claim: several texts one behind the other: Fgraftwoodlaw05Few, Fgraftwoodref01Class, Fgraftwoodref01Cmp, Fgraftwoodref01Parts, Fgraftwoodref02digit, Fgraftwoodref02May, Fgraftwoodref02at, Fgraftwoodref02Cmp, Fgraftwoodref03Word. What each shows stands in its theorems; conditions: sizes of texts and lists, as the functions' definitions say. -/
import Derived.Test.YtffjkbbmnfnbaaaGreatDoorMTallyOrder6
section
namespace Go.Proofs.YtffjkbbmnfnbaaaGreatDoor.Q
open Go.RowKit Go.Proofs.YtffjkbbmnfnbaaaGreatDoorW.PrintWords Go.Proofs.YtffjkbbmnfnbaaaGreatDoorW.PrintLast Go.Proofs.YtffjkbbmnfnbaaaGreatDoorW.PrintMore
attribute [local go_sem] max2_int min2_int max_two min_two max_three min_three max_four min_four   -- for this text's walks alone
set_option linter.unusedVariables false
set_option linter.unusedSimpArgs false
mutual
def graftwoodref01_Class.j0 : Nat → Int → Bool → Option (Int)
 | 0, _, _ => none
 | k + 1, x3, x11 => if x11 = true then (some 1) else (if x3 ≥ 65 then (if x3 ≤ 90 then (graftwoodref01_Class.j1 k x3 true) else (if x3 ≥ 97 then (graftwoodref01_Class.j1 k x3 (decide (x3 ≤ 122))) else (graftwoodref01_Class.j1 k x3 false))) else (if x3 ≥ 97 then (graftwoodref01_Class.j1 k x3 (decide (x3 ≤ 122))) else (graftwoodref01_Class.j1 k x3 false)))
def graftwoodref01_Class.j1 : Nat → Int → Bool → Option (Int)
 | 0, _, _ => none
 | k + 1, x3, x25 => if x25 = true then (some 2) else (if x3 = 45 then (graftwoodref01_Class.j2 k x3 true) else (if x3 = 46 then (graftwoodref01_Class.j2 k x3 true) else (if x3 = 95 then (graftwoodref01_Class.j2 k x3 true) else (graftwoodref01_Class.j2 k x3 (x3 == 126)))))
def graftwoodref01_Class.j2 : Nat → Int → Bool → Option (Int)
 | 0, _, _ => none
 | k + 1, x3, x39 => if x39 = true then (some 3) else (if x3 = 47 then (some 4) else (if x3 = 32 then (graftwoodref01_Class.j3 k x3 (x3 == 32)) else (graftwoodref01_Class.j3 k x3 (x3 == 9))))
def graftwoodref01_Class.j3 : Nat → Int → Bool → Option (Int)
 | 0, _, _ => none
 | k + 1, x40, x43 => if x43 = true then (some 5) else (if x40 = 10 then (some 6) else (if x40 = 34 then (some 7) else (if x40 = 40 then (some 8) else (if x40 = 41 then (some 9) else (some 0)))))
end
def graftwoodref01_Class.f (k : Nat) (a0 : Int) : Option (Int) := if (wrap64 (a0)) ≥ 48 then (graftwoodref01_Class.j0 k (wrap64 (a0)) (decide ((wrap64 (a0)) ≤ 57))) else (graftwoodref01_Class.j0 k (wrap64 (a0)) false)
mutual
def graftwoodref01_Cmp.l0 : Nat → ByteArray → ByteArray → Int → Option (Int)
 | 0, _, _, _ => none
 | k + 1, x0, x1, x5 => if x5 < (x0.size : Int) then (graftwoodref01_Cmp.j1 k x0 x1 x5 (decide (x5 < (x1.size : Int)))) else (graftwoodref01_Cmp.j1 k x0 x1 x5 false)
def graftwoodref01_Cmp.j1 : Nat → ByteArray → ByteArray → Int → Bool → Option (Int)
 | 0, _, _, _, _ => none
 | k + 1, x0, x1, x5, x15 => if x15 = true then (if 0 ≤ x5 then (if x5 < (x0.size : Int) then (if x5 < (x1.size : Int) then (if (bt x0 x5) < (bt x1 x5) then (some (-1)) else (if (bt x0 x5) > (bt x1 x5) then (some 1) else (graftwoodref01_Cmp.l0 k x0 x1 (wrap64 (x5 + 1))))) else (none)) else (none)) else (none)) else (if (x0.size : Int) < (x1.size : Int) then (some (-1)) else (if (x0.size : Int) > (x1.size : Int) then (some 1) else (some 0)))
end
def graftwoodref01_Cmp.f (k : Nat) (a0 : ByteArray) (a1 : ByteArray) : Option (Int) := graftwoodref01_Cmp.l0 k a0 a1 0
end Go.Proofs.YtffjkbbmnfnbaaaGreatDoor.Q
end
