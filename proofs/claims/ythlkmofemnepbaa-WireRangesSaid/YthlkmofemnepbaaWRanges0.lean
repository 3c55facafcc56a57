/-
  Numbers of packets and their ranges: when a packet with one number is right.
-/
import Derived.Test.YthlkmofemnepbaaRows
import Derived.Test.YthlkmofemnepbaaWSmall
import Derived.Test.YthlkmofemnepbaaWireLaw
import Derived.Test.YthlkmofemnepbaaPkArg
namespace Go.Proofs.Ythlkmofemnepbaa
open Go.ChangeShapes Go.WideShapes Go.ChangeAt Go.RowKit

set_option linter.unusedSimpArgs false in
theorem range_0 (n : Int) : RightN ⟨[1, 0, 0, 0, 0, 0, 0, 0, 0, 0, n, 0], List.replicate 16 0, List.replicate 8 0⟩ ↔ 0 ≤ n ∧ n ≤ 1073741824 := by
  simp [RightN, InR, Bare, Void, bareNs, bareSec, bareTag, Pk.kind, slotsN, sId, sOrder, sOnce, sTime, sCode, sWho, setS, sealedN, taggedN]
  try omega

set_option linter.unusedSimpArgs false in
theorem range_1 (n : Int) : RightN ⟨[5, n, 1, 0, 0, 0, 0, 0, 0, 0, 0, 0], List.replicate 16 0, List.replicate 8 0⟩ ↔ 1 ≤ n ∧ n ≤ 1073741824 := by
  simp [RightN, InR, Bare, Void, bareNs, bareSec, bareTag, Pk.kind, slotsN, sId, sOrder, sOnce, sTime, sCode, sWho, setS, sealedN, taggedN]
  try omega

set_option linter.unusedSimpArgs false in
theorem range_2 (n : Int) : RightN ⟨[5, 1, n, 0, 0, 0, 0, 0, 0, 0, 0, 0], List.replicate 16 0, List.replicate 8 0⟩ ↔ 1 ≤ n ∧ n ≤ 1073741824 := by
  simp [RightN, InR, Bare, Void, bareNs, bareSec, bareTag, Pk.kind, slotsN, sId, sOrder, sOnce, sTime, sCode, sWho, setS, sealedN, taggedN]
  try omega

set_option linter.unusedSimpArgs false in
theorem range_3 (n : Int) : RightN ⟨[6, 1, 1, 0, 0, n, 0, 0, 0, 0, 0, 0], List.replicate 16 0, List.replicate 8 0⟩ ↔ 1 ≤ n ∧ n ≤ 3 := by
  simp [RightN, InR, Bare, Void, bareNs, bareSec, bareTag, Pk.kind, slotsN, sId, sOrder, sOnce, sTime, sCode, sWho, setS, sealedN, taggedN]
  try omega

set_option linter.unusedSimpArgs false in
theorem range_4 (n : Int) : RightN ⟨[7, 1, 1, 1, n, 0, 0, 0, 0, 0, 0, 0], List.replicate 16 0, List.replicate 8 0⟩ ↔ 1 ≤ n ∧ n ≤ 7 := by
  simp [RightN, InR, Bare, Void, bareNs, bareSec, bareTag, Pk.kind, slotsN, sId, sOrder, sOnce, sTime, sCode, sWho, setS, sealedN, taggedN]
  try omega

set_option linter.unusedSimpArgs false in
theorem range_5 (n : Int) : RightN ⟨[7, 1, 1, n, 1, 0, 0, 0, 0, 0, 0, 0], List.replicate 16 0, List.replicate 8 0⟩ ↔ 1 ≤ n ∧ n ≤ 16 := by
  simp [RightN, InR, Bare, Void, bareNs, bareSec, bareTag, Pk.kind, slotsN, sId, sOrder, sOnce, sTime, sCode, sWho, setS, sealedN, taggedN]
  try omega

set_option linter.unusedSimpArgs false in
theorem range_6 (n : Int) : RightN ⟨[8, 1, 1, n, 0, 0, 0, 0, 0, 0, 0, 0], List.replicate 16 0, List.replicate 8 0⟩ ↔ 0 ≤ n ∧ n ≤ 16 := by
  simp [RightN, InR, Bare, Void, bareNs, bareSec, bareTag, Pk.kind, slotsN, sId, sOrder, sOnce, sTime, sCode, sWho, setS, sealedN, taggedN]
  try omega

set_option linter.unusedSimpArgs false in
theorem range_7 (n : Int) : RightN ⟨[8, 1, 1, 1, 0, 0, n, 0, 0, 0, 0, 0], List.replicate 16 0, List.replicate 8 0⟩ ↔ 0 ≤ n ∧ n ≤ 4 := by
  simp [RightN, InR, Bare, Void, bareNs, bareSec, bareTag, Pk.kind, slotsN, sId, sOrder, sOnce, sTime, sCode, sWho, setS, sealedN, taggedN]
  try omega

set_option linter.unusedSimpArgs false in
theorem range_8 (n : Int) : RightN ⟨[9, 1, 0, 0, 0, 0, 0, 0, 0, n, 0, 0], List.replicate 16 0, List.replicate 8 0⟩ ↔ 0 ≤ n ∧ n ≤ 255 := by
  simp [RightN, InR, Bare, Void, bareNs, bareSec, bareTag, Pk.kind, slotsN, sId, sOrder, sOnce, sTime, sCode, sWho, setS, sealedN, taggedN]
  try omega

set_option linter.unusedSimpArgs false in
theorem range_9 (n : Int) : RightN ⟨[12, 0, 0, 0, n, 0, 0, 0, 0, 0, 0, 0], List.replicate 16 0, List.replicate 8 0⟩ ↔ 0 ≤ n ∧ n ≤ 15 := by
  simp [RightN, InR, Bare, Void, bareNs, bareSec, bareTag, Pk.kind, slotsN, sId, sOrder, sOnce, sTime, sCode, sWho, setS, sealedN, taggedN]
  try omega

set_option linter.unusedSimpArgs false in
theorem range_10 (n : Int) : RightN ⟨[1, 0, 0, 0, 0, 0, 0, 0, n, 0, 0, 0], List.replicate 16 0, List.replicate 8 0⟩ ↔ n = 0 := by
  simp [RightN, InR, Bare, Void, bareNs, bareSec, bareTag, Pk.kind, slotsN, sId, sOrder, sOnce, sTime, sCode, sWho, setS, sealedN, taggedN]
  try omega

end Go.Proofs.Ythlkmofemnepbaa
