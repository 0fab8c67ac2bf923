import Derived.Test.YtnepbpcpfeejkaaWApart
import Derived.Test.YtnepbpcpfeejkaaWArr
/-! ### 42. append(v, make([]T, n)...): the operation comes as_ append with the number in the second place -/
