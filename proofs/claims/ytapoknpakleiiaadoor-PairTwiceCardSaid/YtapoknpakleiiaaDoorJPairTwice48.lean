import Derived.Test.YtapoknpakleiiaaDoorJPairTwice47
/- The document's last example for layer 13, in plain lists. -/
set_option linter.unusedVariables false
set_option linter.unusedSimpArgs false
namespace Go.Proofs.YtapoknpakleiiaaDoor
open Go.RowKit Go.Tm
set_option maxHeartbeats 400000
set_option maxRecDepth 100000

def twA : List UInt8 := stampV (oneL 2 1) 2 35
def twB : List UInt8 := stampV (oneL 1 72057602014512705) 1 361
def twC : List UInt8 := stampV (oneL 4 72057594037927936) 0 105
def tw0 : DSt := blankS 3 1 1024
def tw1 : DSt := (pairW tw0 2 twA).2
def tw2 : DSt := stopS tw1 2
def tw3 : DSt := (pairW tw2 1 twB).2
def tw4 : DSt := crashS tw3 0 [50]
def tw5 : DSt := (pairR tw4).2.2
def tw6 : DSt := actS tw5
def tw7 : DSt := stopS tw6 2
def tw8 : DSt := (pairW tw7 0 twC).2
def tw9 : DSt := crashS tw8 0 [41]
def tw10 : DSt := (pairR tw9).2.2
theorem tw_a : stampE (oneL 2 1) 2 35 = 0 ∧ twA.length = 40 := by decide +kernel
theorem tw_b : stampE (oneL 1 72057602014512705) 1 361 = 0 ∧ twB.length = 40 := by decide +kernel
theorem tw_c : stampE (oneL 4 72057594037927936) 0 105 = 0 ∧ twC.length = 40 := by decide +kernel
theorem tw_x : (pairW tw0 2 twA).1 = 0 ∧ (pairW tw2 1 twB).1 = 1 ∧ (pairR tw4).1 = -1 ∧ (pairR tw4).2.1 = 0 := by decide +kernel
theorem tw_y : readE tw5 (tw5.P : Nat) = 0 ∧ readV tw5 (tw5.P : Nat) = zeroL 56 ∧ (pairW tw7 0 twC).1 = 1 ∧ (pairR tw9).1 = -1 ∧ (pairR tw9).2.1 = 0 := by decide +kernel
theorem tw_z : pageI tw10.P 0 = 0 ∧ readE tw10 0 = 0 ∧ readV tw10 0 = zeroL 40 := by decide +kernel
theorem tw_l : (tw0.acts ≤ 99 ∧ tw0.loose.length ≤ 99) ∧ (tw1.acts ≤ 99 ∧ tw1.loose.length ≤ 99) ∧ (tw2.acts ≤ 99 ∧ tw2.loose.length ≤ 99) ∧ (tw3.acts ≤ 99 ∧ tw3.loose.length ≤ 99) ∧ (tw4.acts ≤ 99 ∧ tw4.loose.length ≤ 99) ∧ (tw5.acts ≤ 99 ∧ tw5.loose.length ≤ 99) := by decide +kernel
theorem tw_m : (tw6.acts ≤ 99 ∧ tw6.loose.length ≤ 99) ∧ (tw7.acts ≤ 99 ∧ tw7.loose.length ≤ 99) ∧ (tw8.acts ≤ 99 ∧ tw8.loose.length ≤ 99) ∧ (tw9.acts ≤ 99 ∧ tw9.loose.length ≤ 99) ∧ (tw10.acts ≤ 99 ∧ tw10.loose.length ≤ 99) := by decide +kernel
theorem tw_s : shapeB 3 1 1024 = true := by decide +kernel
end Go.Proofs.YtapoknpakleiiaaDoor
