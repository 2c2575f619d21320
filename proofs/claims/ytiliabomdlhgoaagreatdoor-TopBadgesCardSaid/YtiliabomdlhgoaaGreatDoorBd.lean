/- What is reckoned for TopBadges. -/
import Derived.Test.YtiliabomdlhgoaaGreatDoorTab
import Derived.Test.YtiliabomdlhgoaaGreatDoorOp
set_option linter.unusedSectionVars false
set_option linter.unusedVariables false
namespace Go.Ev
noncomputable section
set_option maxRecDepth 100000
def sR : Nat → Nat
  | 1 => 143
  | 2 => 147
  | _ => 0
def wR2 : Nat → Nat
  | 1 => 145
  | 2 => 153
  | _ => 0
def wR0 : Nat → Nat
  | 1 => 146
  | 2 => 154
  | _ => 0
def cR : Nat → List Nat
  | 1 => [1144]
  | 2 => [1152, 1149]
  | _ => []
def wQ4 : Nat → Nat
  | 1 => 86
  | 2 => 94
  | 3 => 106
  | 4 => 122
  | 5 => 142
  | _ => 0
def uQ4 (k : Nat) : V := bc (Nat.beq k 0) (u32 20971520) (.sym (wQ4 k) .u32)
def txtM (a k : Nat) : List Nat := app [109, 111, 118, 105, 32, 114, 48, 44, 32, 50, 10, 109, 111, 118, 105, 32, 114, 49, 44, 32, 53, 49, 10, 109, 111, 118, 105, 32, 114, 50, 44, 32] (app (cR a) (app [10, 109, 111, 118, 105, 32, 114, 51, 44, 32, 49, 49, 10, 109, 111, 118, 105, 32, 114, 52, 44, 32] (app (cQ k) [10, 109, 111, 118, 105, 32, 114, 54, 44, 32, 49, 10, 115, 118, 99, 32, 49, 10])))
def litB : List Nat := [109, 111, 118, 105, 32, 114, 48, 44, 32, 49, 10, 115, 118, 99, 32, 52, 10, 101, 110, 100, 58, 32, 106, 109, 112, 32, 101, 110, 100]
def txtS (a : Nat) : List Nat := app [109, 111, 118, 105, 32, 114, 48, 44, 32] (app (cR a) [10, 109, 111, 118, 105, 32, 114, 49, 44, 32, 52, 57, 10, 109, 111, 118, 105, 32, 114, 50, 44, 32, 57, 10, 115, 118, 99, 32, 50, 10])
def litS : List Nat := [101, 110, 100, 58, 32, 106, 109, 112, 32, 101, 110, 100]
def argM : List V := [i64 1, .slice 0 0 7 7]
def argS : List V := [i64 2, .slice 5 0 3 3]
def blkM (x y : V) : List V := [i64 2, i64 51, x, i64 11, y, .int .i64 (.negSucc 0), i64 1]
def blkS (x : V) : List V := [x, i64 49, i64 9]
def cellsM (x y : V) : List V := [u32 16777218, u32 17825843, x, u32 19922955, y, u32 23068673, u32 301989889, u32 16777217, u32 301989892, u32 234881060]
def cellsS (x : V) : List V := [x, u32 17825841, u32 18874377, u32 301989890, u32 234881040]
def hmB (args : List V) (b : Nat) (cells : List V) (v : V) : Hm := ⟨args, [(b, .cells (wr .leaf 0 cells))], Nat.succ b, v⟩
def smallT (t : List Nat) (cells : List V) : Bool := bc (okX t) (bc (Nat.ble (lenN t) 1000) (eqTr (wr .leaf 0 cells) (wr .leaf 0 cells)) false) false
def fM (a k : Nat) : Bool := bc (smallT (txtM a k) (blkM (.sym (sR a) .i64) (vQ k))) (bc (hmFact tab (plainC tab 3000) 3000 7 (hmB argM 0 (blkM (.sym (sR a) .i64) (vQ k)) (.str (txtM a k)))) (nwFact spC tab 3000 10 [.str (app (txtM a k) litB)] (cellsM (.sym (wR2 a) .u32) (uQ4 k))) false) false
def fS (a : Nat) : Bool := bc (smallT (txtS a) (blkS (.sym (sR a) .i64))) (bc (hmFact tab (plainC tab 3000) 3000 7 (hmB argS 5 (blkS (.sym (sR a) .i64)) (.str (txtS a)))) (nwFact spC tab 3000 10 [.str (app (txtS a) litS)] (cellsS (.sym (wR0 a) .u32))) false) false
def minL (x : V) : List V := [.agg [i64 4, i64 11, i64 11, i64 0, i64 0, i64 0, i64 0, .bool false], i64 11, x, i64 0, i64 0]
def minV (x : V) : V := .tuple [.agg [i64 4, i64 11, i64 11, x, i64 0, i64 0, i64 0, .bool false], i64 0]
def vW : V := .sym 7 .i64
def vWp : V := .sym 8 .i64
def vE4 : V := .sym 23 .u32
def tabPB (n : Nat) : List (List V × V) := [([.sym 0 .i64, i64 65536], vW), ([.sym 1 .i64, i64 14], i64 n)]
def tabsB (n : Nat) : List (Nat × List (List V × V)) := (6, tabPB n) :: (5, [([], .bool true)]) :: (423, [(minL vW, minV vW)]) :: tabs5
def slotN (n : Nat) : V := i64 (Nat.add n 2)
def hmsB (n : Nat) : List Hm := [hmB argM 0 (blkM (slotN n) vW) (.ssym 1 []), hmB argS 5 (blkS (slotN n)) (.ssym 2 [])]
def nwsB (n : Nat) : List Nw := [⟨10, [.ssym 1 litB], cellsM (u32 (Nat.add 18874368 (Nat.add n 2))) vE4⟩, ⟨10, [.ssym 2 litS], cellsS (u32 (Nat.add 16777216 (Nat.add n 2)))⟩]
def spB (n : Nat) : Nat → List V → S → Option OR := nwSp (mkSp2 (mkSpS (mkSp tab 3000 58 132 80 (memoOf (tabsB n)))) 7 (hmsB n)) (nwsB n)
def rowB : List (List V × V) := [([.sym 0 .i64, .sym 1 .i64], .bool true)]
def fB (n : Nat) : Bool := memoAll (spB n) tab 3000 4 rowB
end
end Go.Ev
