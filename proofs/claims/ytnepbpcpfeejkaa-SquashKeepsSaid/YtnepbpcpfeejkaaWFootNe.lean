import Derived.Test.YtnepbpcpfeejkaaWN
/-! ### 52. A row that stays read whatever happens to a block (a set of blocks) doesn't lie there -/
