import Derived.Test.YtnepbpcpfeejkaaWWords
/-! ### 41. Arrays '[n]T' as_ values: a kind (a field, an element of a row), an element read, an element set -/
