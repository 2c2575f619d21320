/- What is reckoned by the kernel: acknowledgements on known blocks. -/
import Derived.Test.YtiilignphmflfaaGreatDoorFa
set_option linter.unusedSectionVars false
set_option linter.unusedVariables false
namespace Go.Ev
theorem ack_0 : allH 86 (ackL 0) = true := by kernel_rfl
theorem ack_1 : allH 86 (ackL 1) = true := by kernel_rfl
theorem ack_2 : allH 86 (ackL 2) = true := by kernel_rfl
theorem ack_3 : allH 86 (ackL 3) = true := by kernel_rfl
theorem ack_4 : allH 86 (ackL 4) = true := by kernel_rfl
theorem ack_5 : allH 86 (ackL 5) = true := by kernel_rfl
theorem ack_6 : allH 86 (ackL 6) = true := by kernel_rfl
theorem ack_7 : allH 86 (ackL 7) = true := by kernel_rfl
theorem ack_8 : allH 86 (ackL 8) = true := by kernel_rfl
theorem ack_9 : allH 86 (ackL 9) = true := by kernel_rfl
theorem ack_10 : allH 86 (ackL 10) = true := by kernel_rfl
theorem ack_11 : allH 86 (ackL 11) = true := by kernel_rfl
theorem ack_12 : allH 86 (ackL 12) = true := by kernel_rfl
theorem ack_13 : allH 86 (ackL 13) = true := by kernel_rfl
theorem ack_14 : allH 86 (ackL 14) = true := by kernel_rfl
theorem ack_15 : allH 86 (ackL 15) = true := by kernel_rfl
end Go.Ev
