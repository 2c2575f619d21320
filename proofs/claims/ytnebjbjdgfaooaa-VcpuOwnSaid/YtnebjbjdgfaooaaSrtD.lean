/- symMerge's contract over slices of list-register records. Conditions: the ranges lie in the slice; both runs are sorted, the left one's records have the lesser numbers. -/
import Derived.Test.YtnebjbjdgfaooaaSrtC1
import Derived.Test.YtnebjbjdgfaooaaSrtC2
namespace Go.Proofs.Ytnebjbjdgfaooaa
open Go.RowKit
theorem sm_any (q M n cap : Nat) (hn : n < 4611686018427387904) (d : Nat) : SmOK q M n cap d := by
  induction d with
  | zero => intro a m b f w h1 _ h2 h3; omega
  | succ d ih =>
    intro a m b f w hd h ham hmb hbn h1 h2 hid
    by_cases e1 : m = a + 1
    · exact sm_left q M n cap a m b f w h hn e1 hmb hbn h2 hid
    · by_cases e2 : b = m + 1
      · exact sm_right q M n cap a m b f w h hn e2 ham e1 hbn h1 hid
      · by_cases e3 : (a + b) / 2 < m
        · exact sm_gen1 q M n cap hn d ih a m b f w hd h ham hmb hbn h1 h2 hid e2 e3
        · exact sm_gen2 q M n cap hn d ih a m b f w hd h ham hmb hbn h1 h2 hid e1 e2 e3
end Go.Proofs.Ytnebjbjdgfaooaa
