import Derived.Test.YtnepbpcpfeejkaaWWords
import Derived.Test.YtnepbpcpfeejkaaWLast
/-! ### 39. Stores into a row that may begin inside its block (Q): Q_form, Q_elem, Q_seg; scalars: Q_cell, Q_putg -/
