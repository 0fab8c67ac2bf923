import Derived.Test.YtnepbpcpfeejkaaWTab
/-! ### 56. Four, five, six operations that may come up next, in any order -/
