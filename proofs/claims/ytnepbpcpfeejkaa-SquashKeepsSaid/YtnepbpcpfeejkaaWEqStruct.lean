import Derived.Test.YtnepbpcpfeejkaaWWords
import Derived.Laws.StructEq
/-! ### 53. '==' of structs as_ one Bool -/
