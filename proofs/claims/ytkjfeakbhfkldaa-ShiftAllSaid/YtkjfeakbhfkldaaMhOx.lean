/- Shifting: the law's call, all three kinds. -/
import Derived.Test.YtkjfeakbhfkldaaMhOp
import Derived.Test.YtkjfeakbhfkldaaMhOr
import Derived.Test.YtkjfeakbhfkldaaMhOc
