/- Texts of this session, joined by wip/tools/merge.py. Conditions: each theorem's own. -/
import Derived.Test.YtamlaebfpmbefaaMPdomEndsd
import Derived.Test.YtamlaebfpmbefaaGx0
import Derived.Test.YtamlaebfpmbefaaGx4
import Derived.Test.YtamlaebfpmbefaaGx25
import Derived.Test.YtamlaebfpmbefaaMPdomEndsc
namespace Go.Proofs.Ytamlaebfpmbefaa.G
open Go.Proofs.YtamlaebfpmbefaaH
open Go.RowKit Go.Proofs.YtamlaebfpmbefaaW.PrintWords Go.Proofs.YtamlaebfpmbefaaW.PrintLast Go.Proofs.YtamlaebfpmbefaaW.PrintMore
attribute [local go_sem] max2_int min2_int max_two min_two max_three min_three max_four min_four   -- for this text's walks alone
set_option linter.unusedVariables false
set_option linter.unusedSimpArgs false

abbrev m32_0 : Array Bool := #[F_,F_,F_,F_,F_,F_,F_,F_,F_,F_,F_,F_,F_,F_,F_,F_,F_,F_,F_,F_,F_,F_,F_,F_,F_,F_,F_,F_,F_,F_,F_,F_,F_,F_,F_,F_,F_,F_,F_,F_,F_,F_,F_,F_,F_,F_,F_,F_,F_,F_,F_,F_,F_,F_,F_]
abbrev m32_1 : Array Bool := #[T_,F_,F_,F_,F_,F_,F_,F_,F_,F_,F_,F_,F_,F_,F_,F_,F_,F_,F_,F_,F_,F_,F_,F_,F_,F_,F_,F_,F_,F_,F_,F_,F_,F_,F_,F_,F_,F_,F_,F_,F_,F_,F_,F_,F_,F_,F_,F_,F_,F_,F_,F_,F_,F_,F_]
abbrev m32_2 : Array Bool := #[T_,T_,F_,F_,F_,F_,F_,F_,F_,F_,F_,F_,F_,F_,F_,F_,F_,F_,F_,F_,F_,F_,F_,F_,F_,F_,F_,F_,F_,F_,F_,F_,F_,F_,F_,F_,F_,F_,F_,F_,F_,F_,F_,F_,F_,F_,F_,F_,F_,F_,F_,F_,F_,F_,F_]
abbrev m32_3 : Array Bool := #[T_,T_,T_,F_,F_,F_,F_,F_,F_,F_,F_,F_,F_,F_,F_,F_,F_,F_,F_,F_,F_,F_,F_,F_,F_,F_,F_,F_,F_,F_,F_,F_,F_,F_,F_,F_,F_,F_,F_,F_,F_,F_,F_,F_,F_,F_,F_,F_,F_,F_,F_,F_,F_,F_,F_]
abbrev m32_4 : Array Bool := #[T_,T_,T_,T_,F_,F_,F_,F_,F_,F_,F_,F_,F_,F_,F_,F_,F_,F_,F_,F_,F_,F_,F_,F_,F_,F_,F_,F_,F_,F_,F_,F_,F_,F_,F_,F_,F_,F_,F_,F_,F_,F_,F_,F_,F_,F_,F_,F_,F_,F_,F_,F_,F_,F_,F_]
abbrev m32_5 : Array Bool := #[T_,T_,T_,T_,T_,F_,F_,F_,F_,F_,F_,F_,F_,F_,F_,F_,F_,F_,F_,F_,F_,F_,F_,F_,F_,F_,F_,F_,F_,F_,F_,F_,F_,F_,F_,F_,F_,F_,F_,F_,F_,F_,F_,F_,F_,F_,F_,F_,F_,F_,F_,F_,F_,F_,F_]
abbrev m32_6 : Array Bool := #[T_,T_,T_,T_,T_,T_,F_,F_,F_,F_,F_,F_,F_,F_,F_,F_,F_,F_,F_,F_,F_,F_,F_,F_,F_,F_,F_,F_,F_,F_,F_,F_,F_,F_,F_,F_,F_,F_,F_,F_,F_,F_,F_,F_,F_,F_,F_,F_,F_,F_,F_,F_,F_,F_,F_]
abbrev m32_7 : Array Bool := #[T_,T_,T_,T_,T_,T_,T_,F_,F_,F_,F_,F_,F_,F_,F_,F_,F_,F_,F_,F_,F_,F_,F_,F_,F_,F_,F_,F_,F_,F_,F_,F_,F_,F_,F_,F_,F_,F_,F_,F_,F_,F_,F_,F_,F_,F_,F_,F_,F_,F_,F_,F_,F_,F_,F_]
abbrev m32_8 : Array Bool := #[T_,T_,T_,T_,T_,T_,T_,T_,F_,F_,F_,F_,F_,F_,F_,F_,F_,F_,F_,F_,F_,F_,F_,F_,F_,F_,F_,F_,F_,F_,F_,F_,F_,F_,F_,F_,F_,F_,F_,F_,F_,F_,F_,F_,F_,F_,F_,F_,F_,F_,F_,F_,F_,F_,F_]
abbrev m32_9 : Array Bool := #[T_,T_,T_,T_,T_,T_,T_,T_,T_,F_,F_,F_,F_,F_,F_,F_,F_,F_,F_,F_,F_,F_,F_,F_,F_,F_,F_,F_,F_,F_,F_,F_,F_,F_,F_,F_,F_,F_,F_,F_,F_,F_,F_,F_,F_,F_,F_,F_,F_,F_,F_,F_,F_,F_,F_]
abbrev m32_10 : Array Bool := #[T_,T_,T_,T_,T_,T_,T_,T_,T_,T_,F_,F_,F_,F_,F_,F_,F_,F_,F_,F_,F_,F_,F_,F_,F_,F_,F_,F_,F_,F_,F_,F_,F_,F_,F_,F_,F_,F_,F_,F_,F_,F_,F_,F_,F_,F_,F_,F_,F_,F_,F_,F_,F_,F_,F_]
abbrev m32_11 : Array Bool := #[T_,T_,T_,T_,T_,T_,T_,T_,T_,T_,T_,F_,F_,F_,F_,F_,F_,F_,F_,F_,F_,F_,F_,F_,F_,F_,F_,F_,F_,F_,F_,F_,F_,F_,F_,F_,F_,F_,F_,F_,F_,F_,F_,F_,F_,F_,F_,F_,F_,F_,F_,F_,F_,F_,F_]
abbrev m32_12 : Array Bool := #[T_,T_,T_,T_,T_,T_,T_,T_,T_,T_,T_,T_,F_,F_,F_,F_,F_,F_,F_,F_,F_,F_,F_,F_,F_,F_,F_,F_,F_,F_,F_,F_,F_,F_,F_,F_,F_,F_,F_,F_,F_,F_,F_,F_,F_,F_,F_,F_,F_,F_,F_,F_,F_,F_,F_]
abbrev m32_13 : Array Bool := #[T_,T_,T_,T_,T_,T_,T_,T_,T_,T_,T_,T_,T_,F_,F_,F_,F_,F_,F_,F_,F_,F_,F_,F_,F_,F_,F_,F_,F_,F_,F_,F_,F_,F_,F_,F_,F_,F_,F_,F_,F_,F_,F_,F_,F_,F_,F_,F_,F_,F_,F_,F_,F_,F_,F_]
abbrev m32_14 : Array Bool := #[T_,T_,T_,T_,T_,T_,T_,T_,T_,T_,T_,T_,T_,T_,F_,F_,F_,F_,F_,F_,F_,F_,F_,F_,F_,F_,F_,F_,F_,F_,F_,F_,F_,F_,F_,F_,F_,F_,F_,F_,F_,F_,F_,F_,F_,F_,F_,F_,F_,F_,F_,F_,F_,F_,F_]
abbrev m32_15 : Array Bool := #[T_,T_,T_,T_,T_,T_,T_,T_,T_,T_,T_,T_,T_,T_,T_,F_,F_,F_,F_,F_,F_,F_,F_,F_,F_,F_,F_,F_,F_,F_,F_,F_,F_,F_,F_,F_,F_,F_,F_,F_,F_,F_,F_,F_,F_,F_,F_,F_,F_,F_,F_,F_,F_,F_,F_]
abbrev m32_16 : Array Bool := #[T_,T_,T_,T_,T_,T_,T_,T_,T_,T_,T_,T_,T_,T_,T_,T_,F_,F_,F_,F_,F_,F_,F_,F_,F_,F_,F_,F_,F_,F_,F_,F_,F_,F_,F_,F_,F_,F_,F_,F_,F_,F_,F_,F_,F_,F_,F_,F_,F_,F_,F_,F_,F_,F_,F_]
abbrev m32_17 : Array Bool := #[T_,T_,T_,T_,T_,T_,T_,T_,T_,T_,T_,T_,T_,T_,T_,T_,T_,F_,F_,F_,F_,F_,F_,F_,F_,F_,F_,F_,F_,F_,F_,F_,F_,F_,F_,F_,F_,F_,F_,F_,F_,F_,F_,F_,F_,F_,F_,F_,F_,F_,F_,F_,F_,F_,F_]
abbrev m32_18 : Array Bool := #[T_,T_,T_,T_,T_,T_,T_,T_,T_,T_,T_,T_,T_,T_,T_,T_,T_,T_,F_,F_,F_,F_,F_,F_,F_,F_,F_,F_,F_,F_,F_,F_,F_,F_,F_,F_,F_,F_,F_,F_,F_,F_,F_,F_,F_,F_,F_,F_,F_,F_,F_,F_,F_,F_,F_]
abbrev m32_19 : Array Bool := #[T_,T_,T_,T_,T_,T_,T_,T_,T_,T_,T_,T_,T_,T_,T_,T_,T_,T_,T_,F_,F_,F_,F_,F_,F_,F_,F_,F_,F_,F_,F_,F_,F_,F_,F_,F_,F_,F_,F_,F_,F_,F_,F_,F_,F_,F_,F_,F_,F_,F_,F_,F_,F_,F_,F_]
abbrev m32_20 : Array Bool := #[T_,T_,T_,T_,T_,T_,T_,T_,T_,T_,T_,T_,T_,T_,T_,T_,T_,T_,T_,T_,F_,F_,F_,F_,F_,F_,F_,F_,F_,F_,F_,F_,F_,F_,F_,F_,F_,F_,F_,F_,F_,F_,F_,F_,F_,F_,F_,F_,F_,F_,F_,F_,F_,F_,F_]
abbrev m32_21 : Array Bool := #[T_,T_,T_,T_,T_,T_,T_,T_,T_,T_,T_,T_,T_,T_,T_,T_,T_,T_,T_,T_,T_,F_,F_,F_,F_,F_,F_,F_,F_,F_,F_,F_,F_,F_,F_,F_,F_,F_,F_,F_,F_,F_,F_,F_,F_,F_,F_,F_,F_,F_,F_,F_,F_,F_,F_]
abbrev m32_22 : Array Bool := #[T_,T_,T_,T_,T_,T_,T_,T_,T_,T_,T_,T_,T_,T_,T_,T_,T_,T_,T_,T_,T_,T_,F_,F_,F_,F_,F_,F_,F_,F_,F_,F_,F_,F_,F_,F_,F_,F_,F_,F_,F_,F_,F_,F_,F_,F_,F_,F_,F_,F_,F_,F_,F_,F_,F_]
abbrev m32_23 : Array Bool := #[T_,T_,T_,T_,T_,T_,T_,T_,T_,T_,T_,T_,T_,T_,T_,T_,T_,T_,T_,T_,T_,T_,T_,F_,F_,F_,F_,F_,F_,F_,F_,F_,F_,F_,F_,F_,F_,F_,F_,F_,F_,F_,F_,F_,F_,F_,F_,F_,F_,F_,F_,F_,F_,F_,F_]
abbrev m32_24 : Array Bool := #[T_,T_,T_,T_,T_,T_,T_,T_,T_,T_,T_,T_,T_,T_,T_,T_,T_,T_,T_,T_,T_,T_,T_,T_,F_,F_,F_,F_,F_,F_,F_,F_,F_,F_,F_,F_,F_,F_,F_,F_,F_,F_,F_,F_,F_,F_,F_,F_,F_,F_,F_,F_,F_,F_,F_]
abbrev m32_25 : Array Bool := #[T_,T_,T_,T_,T_,T_,T_,T_,T_,T_,T_,T_,T_,T_,T_,T_,T_,T_,T_,T_,T_,T_,T_,T_,T_,F_,F_,F_,F_,F_,F_,F_,F_,F_,F_,F_,F_,F_,F_,F_,F_,F_,F_,F_,F_,F_,F_,F_,F_,F_,F_,F_,F_,F_,F_]
abbrev m32_26 : Array Bool := #[T_,T_,T_,T_,T_,T_,T_,T_,T_,T_,T_,T_,T_,T_,T_,T_,T_,T_,T_,T_,T_,T_,T_,T_,T_,T_,F_,F_,F_,F_,F_,F_,F_,F_,F_,F_,F_,F_,F_,F_,F_,F_,F_,F_,F_,F_,F_,F_,F_,F_,F_,F_,F_,F_,F_]
abbrev m32_27 : Array Bool := #[T_,T_,T_,T_,T_,T_,T_,T_,T_,T_,T_,T_,T_,T_,T_,T_,T_,T_,T_,T_,T_,T_,T_,T_,T_,T_,T_,F_,F_,F_,F_,F_,F_,F_,F_,F_,F_,F_,F_,F_,F_,F_,F_,F_,F_,F_,F_,F_,F_,F_,F_,F_,F_,F_,F_]
abbrev m32_28 : Array Bool := #[T_,T_,T_,T_,T_,T_,T_,T_,T_,T_,T_,T_,T_,T_,T_,T_,T_,T_,T_,T_,T_,T_,T_,T_,T_,T_,T_,T_,F_,F_,F_,F_,F_,F_,F_,F_,F_,F_,F_,F_,F_,F_,F_,F_,F_,F_,F_,F_,F_,F_,F_,F_,F_,F_,F_]
abbrev m32_29 : Array Bool := #[T_,T_,T_,T_,T_,T_,T_,T_,T_,T_,T_,T_,T_,T_,T_,T_,T_,T_,T_,T_,T_,T_,T_,T_,T_,T_,T_,T_,T_,F_,F_,F_,F_,F_,F_,F_,F_,F_,F_,F_,F_,F_,F_,F_,F_,F_,F_,F_,F_,F_,F_,F_,F_,F_,F_]
abbrev m32_30 : Array Bool := #[T_,T_,T_,T_,T_,T_,T_,T_,T_,T_,T_,T_,T_,T_,T_,T_,T_,T_,T_,T_,T_,T_,T_,T_,T_,T_,T_,T_,T_,F_,T_,F_,F_,F_,F_,F_,F_,F_,F_,F_,F_,F_,F_,F_,F_,F_,F_,F_,F_,F_,F_,F_,F_,F_,F_]
abbrev m32_31 : Array Bool := #[T_,T_,T_,T_,T_,T_,T_,T_,T_,T_,T_,T_,T_,T_,T_,T_,T_,T_,T_,T_,T_,T_,T_,T_,T_,T_,T_,T_,T_,F_,T_,F_,F_,T_,F_,F_,F_,F_,F_,F_,F_,F_,F_,F_,F_,F_,F_,F_,F_,F_,F_,F_,F_,F_,F_]
abbrev m32_32 : Array Bool := #[T_,T_,T_,T_,T_,T_,T_,T_,T_,T_,T_,T_,T_,T_,T_,T_,T_,T_,T_,T_,T_,T_,T_,T_,T_,T_,T_,T_,T_,F_,T_,F_,F_,T_,F_,T_,F_,F_,F_,F_,F_,F_,F_,F_,F_,F_,F_,F_,F_,F_,F_,F_,F_,F_,F_]
abbrev m32_33 : Array Bool := #[T_,T_,T_,T_,T_,T_,T_,T_,T_,T_,T_,T_,T_,T_,T_,T_,T_,T_,T_,T_,T_,T_,T_,T_,T_,T_,T_,T_,T_,F_,T_,F_,F_,T_,F_,T_,T_,F_,F_,F_,F_,F_,F_,F_,F_,F_,F_,F_,F_,F_,F_,F_,F_,F_,F_]
abbrev m32_34 : Array Bool := #[T_,T_,T_,T_,T_,T_,T_,T_,T_,T_,T_,T_,T_,T_,T_,T_,T_,T_,T_,T_,T_,T_,T_,T_,T_,T_,T_,T_,T_,F_,T_,F_,F_,T_,F_,T_,T_,T_,F_,F_,F_,F_,F_,F_,F_,F_,F_,F_,F_,F_,F_,F_,F_,F_,F_]
abbrev m32_35 : Array Bool := #[T_,T_,T_,T_,T_,T_,T_,T_,T_,T_,T_,T_,T_,T_,T_,T_,T_,T_,T_,T_,T_,T_,T_,T_,T_,T_,T_,T_,T_,T_,T_,F_,F_,T_,F_,T_,T_,T_,F_,F_,F_,F_,F_,F_,F_,F_,F_,F_,F_,F_,F_,F_,F_,F_,F_]
abbrev m32_36 : Array Bool := #[T_,T_,T_,T_,T_,T_,T_,T_,T_,T_,T_,T_,T_,T_,T_,T_,T_,T_,T_,T_,T_,T_,T_,T_,T_,T_,T_,T_,T_,T_,T_,T_,F_,T_,F_,T_,T_,T_,F_,F_,F_,F_,F_,F_,F_,F_,F_,F_,F_,F_,F_,F_,F_,F_,F_]
abbrev m32_37 : Array Bool := #[T_,T_,T_,T_,T_,T_,T_,T_,T_,T_,T_,T_,T_,T_,T_,T_,T_,T_,T_,T_,T_,T_,T_,T_,T_,T_,T_,T_,T_,T_,T_,T_,T_,T_,F_,T_,T_,T_,F_,F_,F_,F_,F_,F_,F_,F_,F_,F_,F_,F_,F_,F_,F_,F_,F_]
abbrev m32_38 : Array Bool := #[T_,T_,T_,T_,T_,T_,T_,T_,T_,T_,T_,T_,T_,T_,T_,T_,T_,T_,T_,T_,T_,T_,T_,T_,T_,T_,T_,T_,T_,T_,T_,T_,T_,T_,T_,T_,T_,T_,F_,F_,F_,F_,F_,F_,F_,F_,F_,F_,F_,F_,F_,F_,F_,F_,F_]
abbrev m32_39 : Array Bool := #[T_,T_,T_,T_,T_,T_,T_,T_,T_,T_,T_,T_,T_,T_,T_,T_,T_,T_,T_,T_,T_,T_,T_,T_,T_,T_,T_,T_,T_,T_,T_,T_,T_,T_,T_,T_,T_,T_,T_,F_,F_,F_,F_,F_,F_,F_,F_,F_,F_,F_,F_,F_,F_,F_,F_]
abbrev m32_40 : Array Bool := #[T_,T_,T_,T_,T_,T_,T_,T_,T_,T_,T_,T_,T_,T_,T_,T_,T_,T_,T_,T_,T_,T_,T_,T_,T_,T_,T_,T_,T_,T_,T_,T_,T_,T_,T_,T_,T_,T_,T_,T_,F_,F_,F_,F_,F_,F_,F_,F_,F_,F_,F_,F_,F_,F_,F_]
abbrev m32_41 : Array Bool := #[T_,T_,T_,T_,T_,T_,T_,T_,T_,T_,T_,T_,T_,T_,T_,T_,T_,T_,T_,T_,T_,T_,T_,T_,T_,T_,T_,T_,T_,T_,T_,T_,T_,T_,T_,T_,T_,T_,T_,T_,T_,F_,F_,F_,F_,F_,F_,F_,F_,F_,F_,F_,F_,F_,F_]
abbrev m32_42 : Array Bool := #[T_,T_,T_,T_,T_,T_,T_,T_,T_,T_,T_,T_,T_,T_,T_,T_,T_,T_,T_,T_,T_,T_,T_,T_,T_,T_,T_,T_,T_,T_,T_,T_,T_,T_,T_,T_,T_,T_,T_,T_,T_,T_,F_,F_,F_,F_,F_,F_,F_,F_,F_,F_,F_,F_,F_]
abbrev m32_43 : Array Bool := #[T_,T_,T_,T_,T_,T_,T_,T_,T_,T_,T_,T_,T_,T_,T_,T_,T_,T_,T_,T_,T_,T_,T_,T_,T_,T_,T_,T_,T_,T_,T_,T_,T_,T_,T_,T_,T_,T_,T_,T_,T_,T_,T_,F_,F_,F_,F_,F_,F_,F_,F_,F_,F_,F_,F_]
abbrev m32_44 : Array Bool := #[T_,T_,T_,T_,T_,T_,T_,T_,T_,T_,T_,T_,T_,T_,T_,T_,T_,T_,T_,T_,T_,T_,T_,T_,T_,T_,T_,T_,T_,T_,T_,T_,T_,T_,T_,T_,T_,T_,T_,T_,T_,T_,T_,T_,F_,F_,F_,F_,F_,F_,F_,F_,F_,F_,F_]
abbrev m32_45 : Array Bool := #[T_,T_,T_,T_,T_,T_,T_,T_,T_,T_,T_,T_,T_,T_,T_,T_,T_,T_,T_,T_,T_,T_,T_,T_,T_,T_,T_,T_,T_,T_,T_,T_,T_,T_,T_,T_,T_,T_,T_,T_,T_,T_,T_,T_,T_,F_,F_,F_,F_,F_,F_,F_,F_,F_,F_]
abbrev m32_46 : Array Bool := #[T_,T_,T_,T_,T_,T_,T_,T_,T_,T_,T_,T_,T_,T_,T_,T_,T_,T_,T_,T_,T_,T_,T_,T_,T_,T_,T_,T_,T_,T_,T_,T_,T_,T_,T_,T_,T_,T_,T_,T_,T_,T_,T_,T_,T_,F_,T_,F_,F_,F_,F_,F_,F_,F_,F_]
abbrev m32_47 : Array Bool := #[T_,T_,T_,T_,T_,T_,T_,T_,T_,T_,T_,T_,T_,T_,T_,T_,T_,T_,T_,T_,T_,T_,T_,T_,T_,T_,T_,T_,T_,T_,T_,T_,T_,T_,T_,T_,T_,T_,T_,T_,T_,T_,T_,T_,T_,F_,T_,F_,F_,F_,T_,F_,F_,F_,F_]
abbrev m32_48 : Array Bool := #[T_,T_,T_,T_,T_,T_,T_,T_,T_,T_,T_,T_,T_,T_,T_,T_,T_,T_,T_,T_,T_,T_,T_,T_,T_,T_,T_,T_,T_,T_,T_,T_,T_,T_,T_,T_,T_,T_,T_,T_,T_,T_,T_,T_,T_,F_,T_,F_,F_,F_,T_,T_,F_,F_,F_]
abbrev m32_49 : Array Bool := #[T_,T_,T_,T_,T_,T_,T_,T_,T_,T_,T_,T_,T_,T_,T_,T_,T_,T_,T_,T_,T_,T_,T_,T_,T_,T_,T_,T_,T_,T_,T_,T_,T_,T_,T_,T_,T_,T_,T_,T_,T_,T_,T_,T_,T_,T_,T_,F_,F_,F_,T_,T_,F_,F_,F_]
abbrev m32_50 : Array Bool := #[T_,T_,T_,T_,T_,T_,T_,T_,T_,T_,T_,T_,T_,T_,T_,T_,T_,T_,T_,T_,T_,T_,T_,T_,T_,T_,T_,T_,T_,T_,T_,T_,T_,T_,T_,T_,T_,T_,T_,T_,T_,T_,T_,T_,T_,T_,T_,T_,F_,F_,T_,T_,F_,F_,F_]
abbrev m32_51 : Array Bool := #[T_,T_,T_,T_,T_,T_,T_,T_,T_,T_,T_,T_,T_,T_,T_,T_,T_,T_,T_,T_,T_,T_,T_,T_,T_,T_,T_,T_,T_,T_,T_,T_,T_,T_,T_,T_,T_,T_,T_,T_,T_,T_,T_,T_,T_,T_,T_,T_,T_,F_,T_,T_,F_,F_,F_]
abbrev m32_52 : Array Bool := #[T_,T_,T_,T_,T_,T_,T_,T_,T_,T_,T_,T_,T_,T_,T_,T_,T_,T_,T_,T_,T_,T_,T_,T_,T_,T_,T_,T_,T_,T_,T_,T_,T_,T_,T_,T_,T_,T_,T_,T_,T_,T_,T_,T_,T_,T_,T_,T_,T_,T_,T_,T_,F_,F_,F_]
abbrev m32_53 : Array Bool := #[T_,T_,T_,T_,T_,T_,T_,T_,T_,T_,T_,T_,T_,T_,T_,T_,T_,T_,T_,T_,T_,T_,T_,T_,T_,T_,T_,T_,T_,T_,T_,T_,T_,T_,T_,T_,T_,T_,T_,T_,T_,T_,T_,T_,T_,T_,T_,T_,T_,T_,T_,T_,T_,F_,F_]
abbrev m32_54 : Array Bool := #[T_,T_,T_,T_,T_,T_,T_,T_,T_,T_,T_,T_,T_,T_,T_,T_,T_,T_,T_,T_,T_,T_,T_,T_,T_,T_,T_,T_,T_,T_,T_,T_,T_,T_,T_,T_,T_,T_,T_,T_,T_,T_,T_,T_,T_,T_,T_,T_,T_,T_,T_,T_,T_,T_,F_]
abbrev m32_55 : Array Bool := #[T_,T_,T_,T_,T_,T_,T_,T_,T_,T_,T_,T_,T_,T_,T_,T_,T_,T_,T_,T_,T_,T_,T_,T_,T_,T_,T_,T_,T_,T_,T_,T_,T_,T_,T_,T_,T_,T_,T_,T_,T_,T_,T_,T_,T_,T_,T_,T_,T_,T_,T_,T_,T_,T_,T_]
abbrev m32_56 : Array Bool := #[T_,T_,T_,T_,T_,T_,T_,T_,T_,T_,T_,T_,T_,T_,T_,T_,T_,T_,T_,T_,T_,T_,T_,T_,T_,T_,T_,T_,T_,T_,T_,T_,T_,T_,T_,T_,T_,T_,T_,T_,T_,T_,T_,T_,T_,T_,F_,F_,F_,F_,F_,F_,F_,F_,F_]
abbrev m32_57 : Array Bool := #[T_,T_,T_,T_,T_,T_,T_,T_,T_,T_,T_,T_,T_,T_,T_,T_,T_,T_,T_,T_,T_,T_,T_,T_,T_,T_,T_,T_,T_,T_,T_,T_,T_,T_,T_,T_,T_,T_,T_,T_,T_,T_,T_,T_,T_,T_,T_,F_,F_,F_,F_,F_,F_,F_,F_]
abbrev m32_58 : Array Bool := #[T_,T_,T_,T_,T_,T_,T_,T_,T_,T_,T_,T_,T_,T_,T_,T_,T_,T_,T_,T_,T_,T_,T_,T_,T_,T_,T_,T_,T_,T_,T_,T_,T_,T_,T_,T_,T_,T_,T_,T_,T_,T_,T_,T_,T_,T_,T_,T_,F_,F_,F_,F_,F_,F_,F_]
abbrev m32_59 : Array Bool := #[T_,T_,T_,T_,T_,T_,T_,T_,T_,T_,T_,T_,T_,T_,T_,T_,T_,T_,T_,T_,T_,T_,T_,T_,T_,T_,T_,T_,T_,T_,T_,T_,T_,T_,T_,T_,T_,T_,T_,T_,T_,T_,T_,T_,T_,T_,T_,T_,T_,F_,F_,F_,F_,F_,F_]
abbrev m32_60 : Array Bool := #[T_,T_,T_,T_,T_,T_,T_,T_,T_,T_,T_,T_,T_,T_,T_,T_,T_,T_,T_,T_,T_,T_,T_,T_,T_,T_,T_,T_,T_,T_,T_,T_,T_,T_,T_,T_,T_,T_,T_,T_,T_,T_,T_,T_,T_,T_,T_,T_,T_,T_,F_,F_,F_,F_,F_]
abbrev m32_61 : Array Bool := #[T_,T_,T_,T_,T_,T_,T_,T_,T_,T_,T_,T_,T_,T_,T_,T_,T_,T_,T_,T_,T_,T_,T_,T_,T_,T_,T_,T_,T_,T_,T_,T_,T_,T_,T_,T_,T_,T_,T_,T_,T_,T_,T_,T_,T_,T_,T_,T_,T_,T_,T_,F_,F_,F_,F_]
abbrev m32_62 : Array Bool := #[T_,T_,T_,T_,T_,T_,T_,T_,T_,T_,T_,T_,T_,T_,T_,T_,T_,T_,T_,T_,T_,T_,T_,T_,T_,T_,T_,T_,T_,T_,F_,F_,F_,F_,F_,F_,F_,F_,F_,F_,F_,F_,F_,F_,F_,F_,F_,F_,F_,F_,F_,F_,F_,F_,F_]
abbrev m32_63 : Array Bool := #[T_,T_,T_,T_,T_,T_,T_,T_,T_,T_,T_,T_,T_,T_,T_,T_,T_,T_,T_,T_,T_,T_,T_,T_,T_,T_,T_,T_,T_,T_,T_,F_,F_,F_,F_,F_,F_,F_,F_,F_,F_,F_,F_,F_,F_,F_,F_,F_,F_,F_,F_,F_,F_,F_,F_]
abbrev m32_64 : Array Bool := #[T_,T_,T_,T_,T_,T_,T_,T_,T_,T_,T_,T_,T_,T_,T_,T_,T_,T_,T_,T_,T_,T_,T_,T_,T_,T_,T_,T_,T_,T_,T_,T_,F_,F_,F_,F_,F_,F_,F_,F_,F_,F_,F_,F_,F_,F_,F_,F_,F_,F_,F_,F_,F_,F_,F_]
abbrev m32_65 : Array Bool := #[T_,T_,T_,T_,T_,T_,T_,T_,T_,T_,T_,T_,T_,T_,T_,T_,T_,T_,T_,T_,T_,T_,T_,T_,T_,T_,T_,T_,T_,T_,T_,T_,T_,F_,F_,F_,F_,F_,F_,F_,F_,F_,F_,F_,F_,F_,F_,F_,F_,F_,F_,F_,F_,F_,F_]
abbrev m32_66 : Array Bool := #[T_,T_,T_,T_,T_,T_,T_,T_,T_,T_,T_,T_,T_,T_,T_,T_,T_,T_,T_,T_,T_,T_,T_,T_,T_,T_,T_,T_,T_,T_,T_,T_,T_,T_,F_,F_,F_,F_,F_,F_,F_,F_,F_,F_,F_,F_,F_,F_,F_,F_,F_,F_,F_,F_,F_]
abbrev m32_67 : Array Bool := #[T_,T_,T_,T_,T_,T_,T_,T_,T_,T_,T_,T_,T_,T_,T_,T_,T_,T_,T_,T_,T_,T_,T_,T_,T_,T_,T_,T_,T_,T_,T_,T_,T_,T_,T_,F_,F_,F_,F_,F_,F_,F_,F_,F_,F_,F_,F_,F_,F_,F_,F_,F_,F_,F_,F_]
abbrev m32_68 : Array Bool := #[T_,T_,T_,T_,T_,T_,T_,T_,T_,T_,T_,T_,T_,T_,T_,T_,T_,T_,T_,T_,T_,T_,T_,T_,T_,T_,T_,T_,T_,T_,T_,T_,T_,T_,T_,T_,F_,F_,F_,F_,F_,F_,F_,F_,F_,F_,F_,F_,F_,F_,F_,F_,F_,F_,F_]
abbrev m32_69 : Array Bool := #[T_,T_,T_,T_,T_,T_,T_,T_,T_,T_,T_,T_,T_,T_,T_,T_,T_,T_,T_,T_,T_,T_,T_,T_,T_,T_,T_,T_,T_,T_,T_,T_,T_,T_,T_,T_,T_,F_,F_,F_,F_,F_,F_,F_,F_,F_,F_,F_,F_,F_,F_,F_,F_,F_,F_]
/-! ### locksteplaw08_PdomEnds: function 4 -/
mutual
def locksteplaw08_PdomEnds.j0 : Nat → List (List Int) → Bool → Option (Bool)
 | 0, _, _ => none
 | k + 1, x0, x22 => if x22 = true then (some true) else ((graph_Make.f k x0).bind fun bt382 => (if bt382.2.2 = 0 then ((pdom_Exit.f k bt382.1 bt382.2.1).bind fun bt390 => (if bt390.2.2 = 0 then ((pdom_Shut.f k bt382.1 bt382.2.1).bind fun t398 => (locksteplaw08_PdomEnds.l0 k x0 (x0.length : Int) t398 0 0 bt390.1 bt390.2.1)) else (some false))) else (some true)))
def locksteplaw08_PdomEnds.l0 : Nat → List (List Int) → Int → List Int → Int → Int → List (List Int) → List (List Int) → Option (Bool)
 | 0, _, _, _, _, _, _, _ => none
 | k + 1, x0, x5, x8, x9, x10, x398000, x398001 => if x10 < x5 then (if 0 ≤ x10 then (if x10 < (x398000.length : Int) then ((lockstepref06_Has.f k (rd_L1 x398000 x10) x5).bind fun t403 => (if x10 < (x0.length : Int) then (if ((rd_L1 x0 x10).length : Int) = 0 then (if t403 = true then (if ((rd_L1 x0 x10).length : Int) > 0 then ((lockstepref06_Has.f k x8 x10).bind fun t407 => (if t407 = true then (if 0 ≤ ((rd_L1 x0 x10).length : Int) then (if ((rd_L1 x0 x10).length : Int) ≤ ((rd_L1 x398000 x10).length : Int) then ((lockstepref02_Ints.f k ((rd_L1 x398000 x10).take (((rd_L1 x0 x10).length : Int) : Int).toNat) (rd_L1 x0 x10)).bind fun t414 => (if t414 = true then (locksteplaw08_PdomEnds.j2 k x0 x5 x8 x9 x10 t403 ((rd_L1 x0 x10).length : Int) (t403 != (((rd_L1 x398000 x10).length : Int) == (wrap64 (((rd_L1 x0 x10).length : Int) + 1)))) x398000 x398001) else (locksteplaw08_PdomEnds.j2 k x0 x5 x8 x9 x10 t403 ((rd_L1 x0 x10).length : Int) true x398000 x398001))) else (none)) else (none)) else (locksteplaw08_PdomEnds.j2 k x0 x5 x8 x9 x10 t403 ((rd_L1 x0 x10).length : Int) true x398000 x398001))) else (if 0 ≤ ((rd_L1 x0 x10).length : Int) then (if ((rd_L1 x0 x10).length : Int) ≤ ((rd_L1 x398000 x10).length : Int) then ((lockstepref02_Ints.f k ((rd_L1 x398000 x10).take (((rd_L1 x0 x10).length : Int) : Int).toNat) (rd_L1 x0 x10)).bind fun t422 => (if t422 = true then (locksteplaw08_PdomEnds.j2 k x0 x5 x8 x9 x10 t403 ((rd_L1 x0 x10).length : Int) (t403 != (((rd_L1 x398000 x10).length : Int) == (wrap64 (((rd_L1 x0 x10).length : Int) + 1)))) x398000 x398001) else (locksteplaw08_PdomEnds.j2 k x0 x5 x8 x9 x10 t403 ((rd_L1 x0 x10).length : Int) true x398000 x398001))) else (none)) else (none))) else (locksteplaw08_PdomEnds.j2 k x0 x5 x8 x9 x10 t403 ((rd_L1 x0 x10).length : Int) true x398000 x398001)) else (if t403 = true then (if ((rd_L1 x0 x10).length : Int) > 0 then ((lockstepref06_Has.f k x8 x10).bind fun t425 => (if t425 = true then (if 0 ≤ ((rd_L1 x0 x10).length : Int) then (if ((rd_L1 x0 x10).length : Int) ≤ ((rd_L1 x398000 x10).length : Int) then ((lockstepref02_Ints.f k ((rd_L1 x398000 x10).take (((rd_L1 x0 x10).length : Int) : Int).toNat) (rd_L1 x0 x10)).bind fun t432 => (if t432 = true then (locksteplaw08_PdomEnds.j2 k x0 x5 x8 x9 x10 t403 ((rd_L1 x0 x10).length : Int) (t403 != (((rd_L1 x398000 x10).length : Int) == (wrap64 (((rd_L1 x0 x10).length : Int) + 1)))) x398000 x398001) else (locksteplaw08_PdomEnds.j2 k x0 x5 x8 x9 x10 t403 ((rd_L1 x0 x10).length : Int) true x398000 x398001))) else (none)) else (none)) else (locksteplaw08_PdomEnds.j2 k x0 x5 x8 x9 x10 t403 ((rd_L1 x0 x10).length : Int) true x398000 x398001))) else (if 0 ≤ ((rd_L1 x0 x10).length : Int) then (if ((rd_L1 x0 x10).length : Int) ≤ ((rd_L1 x398000 x10).length : Int) then ((lockstepref02_Ints.f k ((rd_L1 x398000 x10).take (((rd_L1 x0 x10).length : Int) : Int).toNat) (rd_L1 x0 x10)).bind fun t440 => (if t440 = true then (locksteplaw08_PdomEnds.j2 k x0 x5 x8 x9 x10 t403 ((rd_L1 x0 x10).length : Int) (t403 != (((rd_L1 x398000 x10).length : Int) == (wrap64 (((rd_L1 x0 x10).length : Int) + 1)))) x398000 x398001) else (locksteplaw08_PdomEnds.j2 k x0 x5 x8 x9 x10 t403 ((rd_L1 x0 x10).length : Int) true x398000 x398001))) else (none)) else (none))) else (if 0 ≤ ((rd_L1 x0 x10).length : Int) then (if ((rd_L1 x0 x10).length : Int) ≤ ((rd_L1 x398000 x10).length : Int) then ((lockstepref02_Ints.f k ((rd_L1 x398000 x10).take (((rd_L1 x0 x10).length : Int) : Int).toNat) (rd_L1 x0 x10)).bind fun t448 => (if t448 = true then (locksteplaw08_PdomEnds.j2 k x0 x5 x8 x9 x10 t403 ((rd_L1 x0 x10).length : Int) (t403 != (((rd_L1 x398000 x10).length : Int) == (wrap64 (((rd_L1 x0 x10).length : Int) + 1)))) x398000 x398001) else (locksteplaw08_PdomEnds.j2 k x0 x5 x8 x9 x10 t403 ((rd_L1 x0 x10).length : Int) true x398000 x398001))) else (none)) else (none)))) else (none))) else (none)) else (none)) else (if ((decide (x9 > 0)) == (decide ((x8.length : Int) > 0))) = true then (if 0 ≤ x5 then (if x5 < (x398000.length : Int) then (some (((rd_L1 x398000 x5).length : Int) == 0)) else (none)) else (none)) else (some false))
def locksteplaw08_PdomEnds.j2 : Nat → List (List Int) → Int → List Int → Int → Int → Bool → Int → Bool → List (List Int) → List (List Int) → Option (Bool)
 | 0, _, _, _, _, _, _, _, _, _, _ => none
 | k + 1, x0, x5, x8, x9, x10, x11, x12, x112, x398000, x398001 => if x112 = true then (some false) else (if x11 = true then (if x12 > 0 then (locksteplaw08_PdomEnds.l0 k x0 x5 x8 (wrap64 (x9 + 1)) (wrap64 (x10 + 1)) x398000 x398001) else (locksteplaw08_PdomEnds.l0 k x0 x5 x8 x9 (wrap64 (x10 + 1)) x398000 x398001)) else (locksteplaw08_PdomEnds.l0 k x0 x5 x8 x9 (wrap64 (x10 + 1)) x398000 x398001))
end
def locksteplaw08_PdomEnds.f (k : Nat) (l0 : List (List Int)) : Option (Bool) := (locksteplaw08_awake.f k).bind fun t380 => (if t380 = true then (if (l0.length : Int) > 30 then (locksteplaw08_PdomEnds.j0 k l0 true) else ((lockstepref06_Small.f k l0).bind fun t381 => (locksteplaw08_PdomEnds.j0 k l0 (!t381)))) else (some false))
theorem locksteplaw08_PdomEnds.mono_l : ∀ k, (∀ y0 y1, LeO (locksteplaw08_PdomEnds.j0 k y0 y1) (locksteplaw08_PdomEnds.j0 (k + 1) y0 y1)) ∧ (∀ y0 y1 y2 y3 y4 y5 y6, LeO (locksteplaw08_PdomEnds.l0 k y0 y1 y2 y3 y4 y5 y6) (locksteplaw08_PdomEnds.l0 (k + 1) y0 y1 y2 y3 y4 y5 y6)) ∧ (∀ y0 y1 y2 y3 y4 y5 y6 y7 y8 y9, LeO (locksteplaw08_PdomEnds.j2 k y0 y1 y2 y3 y4 y5 y6 y7 y8 y9) (locksteplaw08_PdomEnds.j2 (k + 1) y0 y1 y2 y3 y4 y5 y6 y7 y8 y9))
 | 0 => ⟨fun _ _ r h => by simp [locksteplaw08_PdomEnds.j0] at h, fun _ _ _ _ _ _ _ r h => by simp [locksteplaw08_PdomEnds.l0] at h, fun _ _ _ _ _ _ _ _ _ _ r h => by simp [locksteplaw08_PdomEnds.j2] at h⟩
 | k + 1 => by
  obtain ⟨ih0, ih1, ih2⟩ := locksteplaw08_PdomEnds.mono_l k
  refine ⟨?_, ?_, ?_⟩
  ·intro y0 y1
   unfold locksteplaw08_PdomEnds.j0
   repeat' first
   | (with_reducible exact ih0 _ _)
   | (with_reducible exact ih1 _ _ _ _ _ _ _)
   | (with_reducible exact ih2 _ _ _ _ _ _ _ _ _ _)
   | (with_reducible exact graph_Make.mono _ _)
   | (with_reducible exact locksteplaw08_awake.mono _)
   | (with_reducible exact lockstepref02_Ints.mono _ _ _)
   | (with_reducible exact lockstepref06_Has.mono _ _ _)
   | (with_reducible exact lockstepref06_Small.mono _ _)
   | (with_reducible exact pdom_Exit.mono _ _ _)
   | (with_reducible exact pdom_Shut.mono _ _ _)
   | (with_reducible exact LeO.refl _)
   | (with_reducible exact LeO.none _)
   | (with_reducible refine LeO.ite ?_ ?_)
   | (with_reducible refine LeO.bind ?_ (fun _ => ?_))
   | exact ih0 _ _
   | exact ih1 _ _ _ _ _ _ _
   | exact ih2 _ _ _ _ _ _ _ _ _ _
   | exact graph_Make.mono _ _
   | exact locksteplaw08_awake.mono _
   | exact lockstepref02_Ints.mono _ _ _
   | exact lockstepref06_Has.mono _ _ _
   | exact lockstepref06_Small.mono _ _
   | exact pdom_Exit.mono _ _ _
   | exact pdom_Shut.mono _ _ _
   | exact LeO.none _
   | refine LeO.ite ?_ ?_
   | refine LeO.bind ?_ (fun _ => ?_)
  ·intro y0 y1 y2 y3 y4 y5 y6
   unfold locksteplaw08_PdomEnds.l0
   repeat' first
   | (with_reducible exact ih0 _ _)
   | (with_reducible exact ih1 _ _ _ _ _ _ _)
   | (with_reducible exact ih2 _ _ _ _ _ _ _ _ _ _)
   | (with_reducible exact graph_Make.mono _ _)
   | (with_reducible exact locksteplaw08_awake.mono _)
   | (with_reducible exact lockstepref02_Ints.mono _ _ _)
   | (with_reducible exact lockstepref06_Has.mono _ _ _)
   | (with_reducible exact lockstepref06_Small.mono _ _)
   | (with_reducible exact pdom_Exit.mono _ _ _)
   | (with_reducible exact pdom_Shut.mono _ _ _)
   | (with_reducible exact LeO.refl _)
   | (with_reducible exact LeO.none _)
   | (with_reducible refine LeO.ite ?_ ?_)
   | (with_reducible refine LeO.bind ?_ (fun _ => ?_))
   | exact ih0 _ _
   | exact ih1 _ _ _ _ _ _ _
   | exact ih2 _ _ _ _ _ _ _ _ _ _
   | exact graph_Make.mono _ _
   | exact locksteplaw08_awake.mono _
   | exact lockstepref02_Ints.mono _ _ _
   | exact lockstepref06_Has.mono _ _ _
   | exact lockstepref06_Small.mono _ _
   | exact pdom_Exit.mono _ _ _
   | exact pdom_Shut.mono _ _ _
   | exact LeO.none _
   | refine LeO.ite ?_ ?_
   | refine LeO.bind ?_ (fun _ => ?_)
  ·intro y0 y1 y2 y3 y4 y5 y6 y7 y8 y9
   unfold locksteplaw08_PdomEnds.j2
   repeat' first
   | (with_reducible exact ih0 _ _)
   | (with_reducible exact ih1 _ _ _ _ _ _ _)
   | (with_reducible exact ih2 _ _ _ _ _ _ _ _ _ _)
   | (with_reducible exact graph_Make.mono _ _)
   | (with_reducible exact locksteplaw08_awake.mono _)
   | (with_reducible exact lockstepref02_Ints.mono _ _ _)
   | (with_reducible exact lockstepref06_Has.mono _ _ _)
   | (with_reducible exact lockstepref06_Small.mono _ _)
   | (with_reducible exact pdom_Exit.mono _ _ _)
   | (with_reducible exact pdom_Shut.mono _ _ _)
   | (with_reducible exact LeO.refl _)
   | (with_reducible exact LeO.none _)
   | (with_reducible refine LeO.ite ?_ ?_)
   | (with_reducible refine LeO.bind ?_ (fun _ => ?_))
   | exact ih0 _ _
   | exact ih1 _ _ _ _ _ _ _
   | exact ih2 _ _ _ _ _ _ _ _ _ _
   | exact graph_Make.mono _ _
   | exact locksteplaw08_awake.mono _
   | exact lockstepref02_Ints.mono _ _ _
   | exact lockstepref06_Has.mono _ _ _
   | exact lockstepref06_Small.mono _ _
   | exact pdom_Exit.mono _ _ _
   | exact pdom_Shut.mono _ _ _
   | exact LeO.none _
   | refine LeO.ite ?_ ?_
   | refine LeO.bind ?_ (fun _ => ?_)
theorem locksteplaw08_PdomEnds.mono : ∀ a0 k, LeO (locksteplaw08_PdomEnds.f k a0) (locksteplaw08_PdomEnds.f (k + 1) a0) := by
 intro a0 k
 obtain ⟨ih0, ih1, ih2⟩ := locksteplaw08_PdomEnds.mono_l k
 unfold locksteplaw08_PdomEnds.f
 repeat' first
  | (with_reducible exact ih0 _ _)
  | (with_reducible exact ih1 _ _ _ _ _ _ _)
  | (with_reducible exact ih2 _ _ _ _ _ _ _ _ _ _)
  | (with_reducible exact graph_Make.mono _ _)
  | (with_reducible exact locksteplaw08_awake.mono _)
  | (with_reducible exact lockstepref02_Ints.mono _ _ _)
  | (with_reducible exact lockstepref06_Has.mono _ _ _)
  | (with_reducible exact lockstepref06_Small.mono _ _)
  | (with_reducible exact pdom_Exit.mono _ _ _)
  | (with_reducible exact pdom_Shut.mono _ _ _)
  | (with_reducible exact LeO.refl _)
  | (with_reducible exact LeO.none _)
  | (with_reducible refine LeO.ite ?_ ?_)
  | (with_reducible refine LeO.bind ?_ (fun _ => ?_))
  | exact ih0 _ _
  | exact ih1 _ _ _ _ _ _ _
  | exact ih2 _ _ _ _ _ _ _ _ _ _
  | exact graph_Make.mono _ _
  | exact locksteplaw08_awake.mono _
  | exact lockstepref02_Ints.mono _ _ _
  | exact lockstepref06_Has.mono _ _ _
  | exact lockstepref06_Small.mono _ _
  | exact pdom_Exit.mono _ _ _
  | exact pdom_Shut.mono _ _ _
  | exact LeO.none _
  | refine LeO.ite ?_ ?_
  | refine LeO.bind ?_ (fun _ => ?_)
def locksteplaw08_PdomEnds.T19 : Bool × List (List Nat × List Nat) := (true, [([], []), ([], []), ([0, 1], [0, 1]), ([2], [2]), ([3], [3]), ([4], [4]), ([5], [5]), ([6], [6]), ([7, 6], [6, 7]), ([6, 8], [6, 8]), ([9, 6], [9]), ([10], [10]), ([11, 10, 10], [10, 11]), ([12], [12]), ([12], [12]), ([13, 14, 12], [12, 13, 14]), ([15, 12], [12, 15]), ([16, 12], [12, 16]), ([17, 12], [12, 17]), ([12, 18, 10], [10, 12, 18]), ([19, 12, 10], [10, 19]), ([20], [20]), ([20], [20]), ([21, 22, 20, 20], [20, 21, 22]), ([23, 20], [20, 23]), ([20, 24, 10], [10, 20, 24]), ([10, 25], [10, 25]), ([26, 23], [26]), ([27], [27]), ([28, 27], [27, 28]), ([27], [27]), ([29, 30, 27], [27, 29, 30]), ([31, 27], [27, 31]), ([27], [27]), ([32, 33, 27], [27, 32, 33]), ([27], [27]), ([27], [27]), ([35, 36, 27], [27, 35, 36]), ([37, 27], [27, 37]), ([34, 38, 27, 27], [27, 34, 38]), ([39, 27], [27, 39]), ([27, 40], [27, 40]), ([41, 39], [41]), ([42], [42]), ([42], [42]), ([44, 42], [42, 44]), ([42], [42]), ([45, 46, 42], [42, 45, 46]), ([47, 42], [42, 47]), ([48, 42], [42, 48]), ([42], [42]), ([50, 42], [42, 50]), ([49, 51, 42], [42, 49, 51]), ([43, 52, 42], [42, 43, 52]), ([42, 53], [42, 53])])
def locksteplaw08_PdomEnds.B19 : List Nat := [0, 0, 3, 7, 15, 31, 63, 127, 255, 511, 1023, 2047, 4095, 8191, 8191, 32767, 65535, 131071, 262143, 524287, 1048575, 2097151, 2097151, 8388607, 16777215, 33554431, 67108863, 134217727, 268435455, 536870911, 268435455, 2147483647, 4294967295, 268435455, 17179869183, 268435455, 268435455, 103347650559, 240786604031, 549755813887, 1099511627775, 2199023255551, 4398046511103, 8796093022207, 8796093022207, 26388279066623, 8796093022207, 131941395333119, 272678883688447, 554153860399103, 8796093022207, 1134695999864831, 4494803534348287, 9007199254740991, 18014398509481983]
theorem locksteplaw08_PdomEnds.tab19 : rtab .any (opsOf Try.f4 19) = locksteplaw08_PdomEnds.T19 := by kernel_rfl
theorem locksteplaw08_PdomEnds.bits19 : waitsOk locksteplaw08_PdomEnds.T19.2 locksteplaw08_PdomEnds.B19 = true := by kernel_rfl
set_option maxHeartbeats 8000000 in
set_option maxRecDepth 100000 in
theorem locksteplaw08_PdomEnds.calls (k : Nat) (A0 : Option Addr) (c0 : Nat) (l0 : List (List Int)) (w : World) (hr0 : Kd.C (Kd.slice 3 (Kd.int .i64)) w A0 l0.length l0) (hc0 : l0.length ≤ c0) (h : locksteplaw08_PdomEnds.f k l0 = some true) :
 Calls Try.prog 4 #[.slice A0 l0.length c0] w fun e w' => e = .returned (.bool true) ∧ Below w.heap.size w w' := by
 have hu26 := Try.underlying26
 have HR0 := Aside0.mk hr0
 have HC0 := Aside0.mk hc0
 clear hr0 hc0
 have HB := Aside0.mk (Below.refl w.heap.size w)
 have H : ((locksteplaw08_awake.f k).bind fun t380 => (if t380 = true then (if (l0.length : Int) > 30 then (locksteplaw08_PdomEnds.j0 k l0 true) else ((lockstepref06_Small.f k l0).bind fun t381 => (locksteplaw08_PdomEnds.j0 k l0 (!t381)))) else (some false))) = some true := h
 clear h
 replace H := Option.bind_eq_some_iff.mp H
 obtain ⟨t380, A20, H⟩ := H
 replace H : (if t380 = true then (if (l0.length : Int) > 30 then (locksteplaw08_PdomEnds.j0 k l0 true) else ((lockstepref06_Small.f k l0).bind fun t381 => (locksteplaw08_PdomEnds.j0 k l0 (!t381)))) else (some false)) = some true := H
 have A2 := Aside0.mk A20
 clear A20
 by_cases c3 : t380 = true
 ·subst c3
  have H1 : (if (l0.length : Int) > 30 then (locksteplaw08_PdomEnds.j0 k l0 true) else ((lockstepref06_Small.f k l0).bind fun t381 => (locksteplaw08_PdomEnds.j0 k l0 (!t381)))) = some true := by rw [if_pos rfl] at H; exact H
  clear H
  have H := H1
  clear H1
  have HC4 := Aside0.mk H
  clear H
  go_enter Try.func4, Try.ntmps4
  go_upto_region 3 with (first | ((with_reducible refine gate_callee (f := 7) rfl ?_); refine goesL_ (some 13) rfl rfl Try.func7 (by kernel_rfl) rfl #[] rfl (by (try simp only [List.map_toArray, List.map_cons, List.map_nil]); first | done | rfl | (simp only [List.length_drop, List.length_take]; rfl)) ?_; (with_reducible refine (locksteplaw08_awake.calls k   _ A2.out).mono ?_); rintro e w5 ⟨rfl, hb⟩; refine ⟨_, rfl, ?_⟩; have n0_ := Aside0.mk (below_step (B_) hb); clear HB; have HB := n0_; clear n0_; (try clear hb); (try clear hb2); (try clear hk); (try clear hi)))
  (try simp only [Act.put, List.setIfInBounds_toArray, List.set_cons_zero, List.set_cons_succ])
  go_cut [22] (fun v22 wc => ∃ (kq : Nat) (x22_3 : Bool), v22 = .bool x22_3 ∧ Aside0 (locksteplaw08_PdomEnds.j0 kq l0 x22_3 = some true) ∧ Aside0 (kq ≤ k) ∧ Aside0 (Below w.heap.size w wc))
  case first =>
   have H := HC4.out
   clear HC4
   by_cases c6 : (l0.length : Int) > 30
   ·rw [if_pos c6] at H
    have c6b0 : decide (30 < (l0.length : Int)) = true := decide_eq_true c6
    have c6b1 : decide (30 < l0.length) = true := decide_eq_true (by omega)
    clear c6
    (first | rw [c6b0] | (simp only [i64_w, i32_w]; rw [c6b0]) | skip)
    have H' := Aside0.mk H
    clear H
    go_wp2
    go_meet
    case rel => exact ⟨_, (true), (by first | rfl | exact congrArg (fun b => Ending.returned (Value.bool b)) HR_.out | (simp; done) | (simp [*]; done)), H', ⟨by first | omega | exact Nat.le_refl _⟩, ⟨B_⟩⟩
   rw [if_neg c6] at H
   have c6b0 : decide (30 < (l0.length : Int)) = false := decide_eq_false c6
   have c6b1 : decide (30 < l0.length) = false := decide_eq_false (by omega)
   clear c6
   (first | rw [c6b0] | (simp only [i64_w, i32_w]; rw [c6b0]) | skip)
   replace H := Option.bind_eq_some_iff.mp H
   obtain ⟨t381, A70, H⟩ := H
   replace H : (locksteplaw08_PdomEnds.j0 k l0 (!t381)) = some true := H
   have A7 := Aside0.mk A70
   clear A70
   have H' := Aside0.mk H
   clear H
   go_wp2_with (first | (go_at_call 8; (with_reducible refine (lockstepref06_Small.calls k _ _ l0 t381 _ ?side1 ?side2 A7.out).mono ?_); (case side1 => exact CX_ (Kd.C_below HR0.out HB.out)); (case side2 => exact HC0.out); rintro e w' ⟨rfl, ⟨nd, rfl⟩⟩))
   go_meet
   case rel => exact ⟨_, (!t381), (by first | rfl | exact congrArg (fun b => Ending.returned (Value.bool b)) HR_.out | (simp; done) | (simp [*]; done)), H', ⟨by first | omega | exact Nat.le_refl _⟩, ⟨B_⟩⟩
  case rest =>
   clear HC4
   try clear c3
   obtain ⟨kq, x22_3, rfl, HA, HJ3, HB⟩ := hcut
   cases kq with
   | zero => exact absurd HA.out (by simp [locksteplaw08_PdomEnds.j0])
   | succ kj3 =>
    have H := HA.out
    clear HA
    simp only [locksteplaw08_PdomEnds.j0] at H
    by_cases c8 : x22_3 = true
    ·subst c8
     have H1 : (some true) = some true := rfl
     clear H
     have H := H1
     clear H1
     clear H
     go_wp2
     go_ret
     exact ⟨by first | rfl | exact congrArg (fun b => Ending.returned (Value.bool b)) HR_.out | (simp [errW_none, errW_some] <;> rfl) | (simp [*, errW_none, errW_some] <;> rfl), B_⟩
    replace c8 := Bool.eq_false_iff.mpr c8
    subst c8
    have H1 : ((graph_Make.f kj3 l0).bind fun bt382 => (if bt382.2.2 = 0 then ((pdom_Exit.f kj3 bt382.1 bt382.2.1).bind fun bt390 => (if bt390.2.2 = 0 then ((pdom_Shut.f kj3 bt382.1 bt382.2.1).bind fun t398 => (locksteplaw08_PdomEnds.l0 kj3 l0 (l0.length : Int) t398 0 0 bt390.1 bt390.2.1)) else (some false))) else (some true))) = some true := by rw [if_neg (show ¬ (false = true) by decide)] at H; exact H
    clear H
    have H := H1
    clear H1
    replace H := Option.bind_eq_some_iff.mp H
    obtain ⟨⟨t382, t385, t388⟩, A90, H⟩ := H
    replace H : (if t388 = 0 then ((pdom_Exit.f kj3 t382 t385).bind fun bt390 => (if bt390.2.2 = 0 then ((pdom_Shut.f kj3 t382 t385).bind fun t398 => (locksteplaw08_PdomEnds.l0 kj3 l0 (l0.length : Int) t398 0 0 bt390.1 bt390.2.1)) else (some false))) else (some true)) = some true := H
    have A9 := Aside0.mk A90
    clear A90
    by_cases c10 : t388 = 0
    ·rw [if_pos c10] at H
     have c10b0 : (t388 == 0) = true := beq_iff_eq.mpr c10
     have c10b1 : (t388 != 0) = false := bne_eq_false_iff_eq.mpr c10
     clear c10
     replace H := Option.bind_eq_some_iff.mp H
     obtain ⟨⟨t390, t393, t396⟩, A110, H⟩ := H
     replace H : (if t396 = 0 then ((pdom_Shut.f kj3 t382 t385).bind fun t398 => (locksteplaw08_PdomEnds.l0 kj3 l0 (l0.length : Int) t398 0 0 t390 t393)) else (some false)) = some true := H
     have A11 := Aside0.mk A110
     clear A110
     by_cases c12 : t396 = 0
     ·rw [if_pos c12] at H
      have c12b0 : (t396 == 0) = true := beq_iff_eq.mpr c12
      have c12b1 : (t396 != 0) = false := bne_eq_false_iff_eq.mpr c12
      clear c12
      replace H := Option.bind_eq_some_iff.mp H
      obtain ⟨t398, A130, H⟩ := H
      replace H : (locksteplaw08_PdomEnds.l0 kj3 l0 (l0.length : Int) t398 0 0 t390 t393) = some true := H
      have A13 := Aside0.mk A130
      clear A130
      have H' := Aside0.mk H
      clear H
      go_wp2_with (first | ((with_reducible refine gate_callee (f := 9) rfl ?_); refine goesL_ (some 25) rfl rfl Try.func9 (by kernel_rfl) rfl #[.slice A0 l0.length c0] rfl (by (try simp only [List.map_toArray, List.map_cons, List.map_nil]); first | done | rfl | (simp only [List.length_drop, List.length_take]; rfl)) ?_; (with_reducible refine (graph_Make.calls kj3 _ _ l0 t382 t385 t388 _ ?side1 ?side2 A9.out).mono ?_); (case side1 => exact CX_ (Kd.C_below HR0.out HB.out)); (case side2 => exact HC0.out); rintro e w14 ⟨v383, v386, rfl, ho0, ho1, hb⟩; refine ⟨_, rfl, ?_⟩; have n0_ := Aside0.mk (Kd.S_lower ho0 (below_size (B_))); have n1_ := Aside0.mk (Kd.S_lower ho1 (below_size (B_))); have n2_ := Aside0.mk (below_step (B_) hb); clear HB; have HO384 := n0_; have HO387 := n1_; have HB := n2_; clear n0_ n1_ n2_; (try clear hb); (try clear hb2); (try clear hk); (try clear hi); (try clear ho0); (try clear ho1)) | ((with_reducible refine gate_dst (N := 3) rfl ?_); (try (refine gate_guard (by rfl) ?_; dsimp only)); refine box_event ?hg (N := 3) ?hd (cs := #[.slice none 0 0, .slice none 0 0]) (t := 26) ?hr ?_; (case hd => rfl); (case hg => rfl); (case hr => first | (go_simp; done) | (go_simp; rfl)); intro gb389 hg w15 hbox hb; have n0_ := Aside0.mk (Kd.S_below (by exact SX_ HO384.out) hb); have n1_ := Aside0.mk (Kd.S_below (by exact SX_ HO387.out) hb); have n2_ := Aside0.mk (below_step (B_) hb); have n3_ := Aside0.mk (hbox); have n4_ := Aside0.mk ((by rw [hg]; exact (below_size (B_)) : w.heap.size ≤ gb389)); have n5_ := Aside0.mk ((by rw [hg]; exact (below_size (B_)) : w.heap.size ≤ gb389)); clear HO384; clear HO387; clear HB; have HO384 := n0_; have HO387 := n1_; have HB := n2_; have BK389 := n3_; have GW389 := n4_; have GE389 := n5_; clear n0_ n1_ n2_ n3_ n4_ n5_; clear hb hbox hg; obtain ⟨Ao16, co16, eo16⟩ := Kd.S_slice HO384.out; subst eo16; have hcz17_0 : w15.cell? ⟨gb389, 0, none⟩ = some (.slice none 0 0) := (blk_cell BK389.out 0).trans rfl; have hcz17_1 : w15.cell? ⟨gb389, 1, none⟩ = some (.slice none 0 0) := (blk_cell BK389.out 1).trans rfl; have hfz17_0 := blk_frozen BK389.out 0; have hfz17_1 := blk_frozen BK389.out 1; obtain ⟨Ao18, co18, eo18⟩ := Kd.S_slice HO387.out; subst eo18) | ((with_reducible refine gate_callee (f := 11) rfl ?_); refine goesL_ (some 34) rfl rfl Try.func11 (by kernel_rfl) rfl #[.agg #[.slice Ao16 t382.length co16, .slice Ao18 t385.length co18]] rfl (by (try simp only [List.map_toArray, List.map_cons, List.map_nil]); first | done | rfl | (simp only [List.length_drop, List.length_take]; rfl)) ?_; (with_reducible refine (pdom_Exit.calls kj3 _ _ t382 _ _ t385 t390 t393 t396 _ ?side1 ?side2 ?side3 ?side4 A11.out).mono ?_); (case side1 => refine (Kd.S_reads' (e := 30) (base := w.heap.size) (ok := fun k_ => some k_ ≠ (.slice Ao18 t385.length co18 : Value).ownBlock) (n := t382.length) (c := co16) ?_).2.2; exact (by (with_reducible repeat (first | apply Kd.S_alloc | apply Kd.S_drewN | apply Kd.S_drew)); exact (Kd.S_mono (Kd.S_far (p := ⟨gb389, 1, none⟩) (Kd.S_far (p := ⟨gb389, 0, none⟩) (Kd.S_types HO384.out BK389.out (by decide)) (fun _ hk => hk.2) (.slice Ao16 t382.length co16)) (fun _ hk => hk.2) (.slice Ao18 t385.length co18)) (fun _ h_ => h_.1)))); (case side2 => exact (Kd.S_reads' HO384.out).2.1); (case side3 => refine (Kd.S_reads' (e := 30) (base := w.heap.size) (ok := fun k_ => some k_ ≠ (.slice Ao16 t382.length co16 : Value).ownBlock) (n := t385.length) (c := co18) ?_).2.2; exact (by (with_reducible repeat (first | apply Kd.S_alloc | apply Kd.S_drewN | apply Kd.S_drew)); exact (Kd.S_mono (Kd.S_far (p := ⟨gb389, 1, none⟩) (Kd.S_far (p := ⟨gb389, 0, none⟩) (Kd.S_types HO387.out BK389.out (by decide)) (fun _ hk => hk.2) (.slice Ao16 t382.length co16)) (fun _ hk => hk.2) (.slice Ao18 t385.length co18)) (fun _ h_ => h_.1)))); (case side4 => exact (Kd.S_reads' HO387.out).2.1); rintro e w19 ⟨v391, v394, rfl, ho0, ho1, hb⟩; refine ⟨_, rfl, ?_⟩; have n0_ := Aside0.mk (Kd.S_mono (Kd.S_told (Kd.S_told (Kd.S_old (by (with_reducible repeat (first | apply Kd.S_alloc | apply Kd.S_drewN | apply Kd.S_drew)); exact (Kd.S_mono (Kd.S_far (p := ⟨gb389, 1, none⟩) (Kd.S_far (p := ⟨gb389, 0, none⟩) (Kd.S_types HO384.out BK389.out (by decide)) (fun _ hk => hk.2) (.slice Ao16 t382.length co16)) (fun _ hk => hk.2) (.slice Ao18 t385.length co18)) (fun _ h_ => h_.1))) hb) (Kd.S_base ho0)) (Kd.S_base ho1)) (fun _ h_ => h_.1)); have n1_ := Aside0.mk (Kd.S_mono (Kd.S_told (Kd.S_told (Kd.S_old (by (with_reducible repeat (first | apply Kd.S_alloc | apply Kd.S_drewN | apply Kd.S_drew)); exact (Kd.S_mono (Kd.S_far (p := ⟨gb389, 1, none⟩) (Kd.S_far (p := ⟨gb389, 0, none⟩) (Kd.S_types HO387.out BK389.out (by decide)) (fun _ hk => hk.2) (.slice Ao16 t382.length co16)) (fun _ hk => hk.2) (.slice Ao18 t385.length co18)) (fun _ h_ => h_.1))) hb) (Kd.S_base ho0)) (Kd.S_base ho1)) (fun _ h_ => h_.1)); have n2_ := Aside0.mk (Kd.S_lower (Kd.S_new' (Kd.S_new' ho0 (Kd.S_lt (by (with_reducible repeat (first | apply Kd.S_alloc | apply Kd.S_drewN | apply Kd.S_drew)); exact (Kd.S_mono (Kd.S_far (p := ⟨gb389, 1, none⟩) (Kd.S_far (p := ⟨gb389, 0, none⟩) (Kd.S_types HO384.out BK389.out (by decide)) (fun _ hk => hk.2) (.slice Ao16 t382.length co16)) (fun _ hk => hk.2) (.slice Ao18 t385.length co18)) (fun _ h_ => h_.1))))) (Kd.S_lt (by (with_reducible repeat (first | apply Kd.S_alloc | apply Kd.S_drewN | apply Kd.S_drew)); exact (Kd.S_mono (Kd.S_far (p := ⟨gb389, 1, none⟩) (Kd.S_far (p := ⟨gb389, 0, none⟩) (Kd.S_types HO387.out BK389.out (by decide)) (fun _ hk => hk.2) (.slice Ao16 t382.length co16)) (fun _ hk => hk.2) (.slice Ao18 t385.length co18)) (fun _ h_ => h_.1))))) (below_size (B1_))); have n3_ := Aside0.mk (Kd.S_lower (Kd.S_new' (Kd.S_new' ho1 (Kd.S_lt (by (with_reducible repeat (first | apply Kd.S_alloc | apply Kd.S_drewN | apply Kd.S_drew)); exact (Kd.S_mono (Kd.S_far (p := ⟨gb389, 1, none⟩) (Kd.S_far (p := ⟨gb389, 0, none⟩) (Kd.S_types HO384.out BK389.out (by decide)) (fun _ hk => hk.2) (.slice Ao16 t382.length co16)) (fun _ hk => hk.2) (.slice Ao18 t385.length co18)) (fun _ h_ => h_.1))))) (Kd.S_lt (by (with_reducible repeat (first | apply Kd.S_alloc | apply Kd.S_drewN | apply Kd.S_drew)); exact (Kd.S_mono (Kd.S_far (p := ⟨gb389, 1, none⟩) (Kd.S_far (p := ⟨gb389, 0, none⟩) (Kd.S_types HO387.out BK389.out (by decide)) (fun _ hk => hk.2) (.slice Ao16 t382.length co16)) (fun _ hk => hk.2) (.slice Ao18 t385.length co18)) (fun _ h_ => h_.1))))) (below_size (B1_))); have n4_ := Aside0.mk (blk_below (g := gb389) (o := .cells #[.slice Ao16 t382.length co16, .slice Ao18 t385.length co18] 26 (0, 0)) (by (with_reducible repeat (first | refine blk_drewN ?_ _ | refine blk_drew ?_ | refine blk_alloc ?_ _)); refine blk_put (cs := #[.slice Ao16 t382.length co16, .slice none 0 0]) ?_ 1 _ rfl; (with_reducible repeat (first | refine blk_drewN ?_ _ | refine blk_drew ?_ | refine blk_alloc ?_ _)); refine blk_put (cs := #[.slice none 0 0, .slice none 0 0]) ?_ 0 _ rfl; exact KX_ BK389.out) hb); have n5_ := Aside0.mk (below_step (B1_) hb); clear HO384; clear HO387; clear BK389; clear HB; have HO384 := n0_; have HO387 := n1_; have HO392 := n2_; have HO395 := n3_; have BK389 := n4_; have HB := n5_; clear n0_ n1_ n2_ n3_ n4_ n5_; (try clear hb); (try clear hb2); (try clear hk); (try clear hi); (try clear ho0); (try clear ho1)) | ((with_reducible refine gate_dst (N := 6) rfl ?_); (try (refine gate_guard (by rfl) ?_; dsimp only)); refine box_event ?hg (N := 6) ?hd (cs := #[.slice none 0 0, .slice none 0 0]) (t := 26) ?hr ?_; (case hd => rfl); (case hg => rfl); (case hr => first | (go_simp; done) | (go_simp; rfl)); intro gb397 hg w20 hbox hb; have n0_ := Aside0.mk (Kd.S_below (by exact SX_ HO384.out) hb); have n1_ := Aside0.mk (Kd.S_below (by exact SX_ HO387.out) hb); have n2_ := Aside0.mk (Kd.S_below (by exact SX_ HO392.out) hb); have n3_ := Aside0.mk (Kd.S_below (by exact SX_ HO395.out) hb); have n4_ := Aside0.mk (blk_below (g := gb389) (o := .cells #[.slice Ao16 t382.length co16, .slice Ao18 t385.length co18] 26 (0, 0)) (by exact KX_ BK389.out) hb); have n5_ := Aside0.mk (below_step (B1_) hb); have n6_ := Aside0.mk (hbox); have n7_ := Aside0.mk ((by rw [hg]; exact (below_size (B1_)) : w.heap.size ≤ gb397)); have n8_ := Aside0.mk ((by rw [hg]; exact (below_size (B1_)) : w.heap.size ≤ gb397)); have n9_ := Aside0.mk ((by rw [hg]; exact Nat.ne_of_lt (blk_lt (g := gb389) (o := .cells #[.slice Ao16 t382.length co16, .slice Ao18 t385.length co18] 26 (0, 0)) (by exact KX_ BK389.out)) : gb389 ≠ gb397)); have n10_ := Aside0.mk ((by rw [hg]; exact Nat.ne_of_gt (blk_lt (g := gb389) (o := .cells #[.slice Ao16 t382.length co16, .slice Ao18 t385.length co18] 26 (0, 0)) (by exact KX_ BK389.out)) : gb397 ≠ gb389)); clear HO384; clear HO387; clear HO392; clear HO395; clear BK389; clear HB; have HO384 := n0_; have HO387 := n1_; have HO392 := n2_; have HO395 := n3_; have BK389 := n4_; have HB := n5_; have BK397 := n6_; have GW397 := n7_; have GE397 := n8_; have NB389_397 := n9_; have NB397_389 := n10_; clear n0_ n1_ n2_ n3_ n4_ n5_ n6_ n7_ n8_ n9_ n10_; clear hb hbox hg; obtain ⟨Ao21, co21, eo21⟩ := Kd.S_slice HO392.out; subst eo21; have hnb22 := NB397_389.out; have hnc22 := NB389_397.out; have hcz23_0 : w20.cell? ⟨gb397, 0, none⟩ = some (.slice none 0 0) := (blk_cell BK397.out 0).trans rfl; have hcz23_1 : w20.cell? ⟨gb397, 1, none⟩ = some (.slice none 0 0) := (blk_cell BK397.out 1).trans rfl; have hfz23_0 := blk_frozen BK397.out 0; have hfz23_1 := blk_frozen BK397.out 1; obtain ⟨Ao24, co24, eo24⟩ := Kd.S_slice HO395.out; subst eo24; have hcz25_0 : w20.cell? ⟨gb389, 0, none⟩ = some (.slice Ao16 t382.length co16) := (blk_cell BK389.out 0).trans rfl; have hcz25_1 : w20.cell? ⟨gb389, 1, none⟩ = some (.slice Ao18 t385.length co18) := (blk_cell BK389.out 1).trans rfl; have hfz25_0 := blk_frozen BK389.out 0; have hfz25_1 := blk_frozen BK389.out 1) | ((with_reducible refine gate_callee (f := 14) rfl ?_); refine goesL_ (some 40) rfl rfl Try.func14 (by kernel_rfl) rfl #[.agg #[.slice Ao16 t382.length co16, .slice Ao18 t385.length co18]] rfl (by (try simp only [List.map_toArray, List.map_cons, List.map_nil]); first | done | rfl | (simp only [List.length_drop, List.length_take]; rfl)) ?_; (with_reducible refine (pdom_Shut.calls kj3 _ _ t382 _ _ t385 t398 _ ?side1 ?side2 ?side3 ?side4 A13.out).mono ?_); (case side1 => refine (Kd.S_reads' (e := 30) (base := w.heap.size) (ok := fun k_ => ((some k_ ≠ (.slice Ao18 t385.length co18 : Value).ownBlock ∧ some k_ ≠ (.slice Ao21 t390.length co21 : Value).ownBlock) ∧ some k_ ≠ (.slice Ao24 t393.length co24 : Value).ownBlock)) (n := t382.length) (c := co16) ?_).2.2; exact (by (with_reducible repeat (first | apply Kd.S_alloc | apply Kd.S_drewN | apply Kd.S_drew)); exact (Kd.S_mono (Kd.S_far (p := ⟨gb397, 1, none⟩) (Kd.S_far (p := ⟨gb397, 0, none⟩) (Kd.S_types HO384.out BK397.out (by decide)) (fun _ hk => hk.2) (.slice Ao21 t390.length co21)) (fun _ hk => hk.2) (.slice Ao24 t393.length co24)) (fun _ h_ => h_.1)))); (case side2 => exact (Kd.S_reads' HO384.out).2.1); (case side3 => refine (Kd.S_reads' (e := 30) (base := w.heap.size) (ok := fun k_ => ((some k_ ≠ (.slice Ao16 t382.length co16 : Value).ownBlock ∧ some k_ ≠ (.slice Ao21 t390.length co21 : Value).ownBlock) ∧ some k_ ≠ (.slice Ao24 t393.length co24 : Value).ownBlock)) (n := t385.length) (c := co18) ?_).2.2; exact (by (with_reducible repeat (first | apply Kd.S_alloc | apply Kd.S_drewN | apply Kd.S_drew)); exact (Kd.S_mono (Kd.S_far (p := ⟨gb397, 1, none⟩) (Kd.S_far (p := ⟨gb397, 0, none⟩) (Kd.S_types HO387.out BK397.out (by decide)) (fun _ hk => hk.2) (.slice Ao21 t390.length co21)) (fun _ hk => hk.2) (.slice Ao24 t393.length co24)) (fun _ h_ => h_.1)))); (case side4 => exact (Kd.S_reads' HO387.out).2.1); rintro e w26 ⟨v399, rfl, ho0, hb⟩; refine ⟨_, rfl, ?_⟩; have n0_ := Aside0.mk (Kd.S_elder' (by (with_reducible repeat (first | apply Kd.S_alloc | apply Kd.S_drewN | apply Kd.S_drew)); exact (Kd.S_mono (Kd.S_far (p := ⟨gb397, 1, none⟩) (Kd.S_far (p := ⟨gb397, 0, none⟩) (Kd.S_types HO384.out BK397.out (by decide)) (fun _ hk => hk.2) (.slice Ao21 t390.length co21)) (fun _ hk => hk.2) (.slice Ao24 t393.length co24)) (fun _ h_ => h_.1))) (Kd.R_base ho0) hb); have n1_ := Aside0.mk (Kd.S_elder' (by (with_reducible repeat (first | apply Kd.S_alloc | apply Kd.S_drewN | apply Kd.S_drew)); exact (Kd.S_mono (Kd.S_far (p := ⟨gb397, 1, none⟩) (Kd.S_far (p := ⟨gb397, 0, none⟩) (Kd.S_types HO387.out BK397.out (by decide)) (fun _ hk => hk.2) (.slice Ao21 t390.length co21)) (fun _ hk => hk.2) (.slice Ao24 t393.length co24)) (fun _ h_ => h_.1))) (Kd.R_base ho0) hb); have n2_ := Aside0.mk (Kd.S_elder' (by (with_reducible repeat (first | apply Kd.S_alloc | apply Kd.S_drewN | apply Kd.S_drew)); exact (Kd.S_mono (Kd.S_far (p := ⟨gb397, 1, none⟩) (Kd.S_far (p := ⟨gb397, 0, none⟩) (Kd.S_types HO392.out BK397.out (by decide)) (fun _ hk => hk.2) (.slice Ao21 t390.length co21)) (fun _ hk => hk.2) (.slice Ao24 t393.length co24)) (fun _ h_ => h_.1))) (Kd.R_base ho0) hb); have n3_ := Aside0.mk (Kd.S_elder' (by (with_reducible repeat (first | apply Kd.S_alloc | apply Kd.S_drewN | apply Kd.S_drew)); exact (Kd.S_mono (Kd.S_far (p := ⟨gb397, 1, none⟩) (Kd.S_far (p := ⟨gb397, 0, none⟩) (Kd.S_types HO395.out BK397.out (by decide)) (fun _ hk => hk.2) (.slice Ao21 t390.length co21)) (fun _ hk => hk.2) (.slice Ao24 t393.length co24)) (fun _ h_ => h_.1))) (Kd.R_base ho0) hb); have n4_ := Aside0.mk (Kd.R_lower ho0 (below_size (B1_))); have n5_ := Aside0.mk (blk_below (g := gb389) (o := .cells #[.slice Ao16 t382.length co16, .slice Ao18 t385.length co18] 26 (0, 0)) (by (with_reducible repeat (first | refine blk_drewN ?_ _ | refine blk_drew ?_ | refine blk_alloc ?_ _)); refine blk_far ?_ NB389_397.out _; (with_reducible repeat (first | refine blk_drewN ?_ _ | refine blk_drew ?_ | refine blk_alloc ?_ _)); refine blk_far ?_ NB389_397.out _; exact KX_ BK389.out) hb); have n6_ := Aside0.mk (blk_below (g := gb397) (o := .cells #[.slice Ao21 t390.length co21, .slice Ao24 t393.length co24] 26 (0, 0)) (by (with_reducible repeat (first | refine blk_drewN ?_ _ | refine blk_drew ?_ | refine blk_alloc ?_ _)); refine blk_put (cs := #[.slice Ao21 t390.length co21, .slice none 0 0]) ?_ 1 _ rfl; (with_reducible repeat (first | refine blk_drewN ?_ _ | refine blk_drew ?_ | refine blk_alloc ?_ _)); refine blk_put (cs := #[.slice none 0 0, .slice none 0 0]) ?_ 0 _ rfl; exact KX_ BK397.out) hb); have n7_ := Aside0.mk (below_step (B1_) hb); clear HO384; clear HO387; clear HO392; clear HO395; clear BK389; clear BK397; clear HB; have HO384 := n0_; have HO387 := n1_; have HO392 := n2_; have HO395 := n3_; have HO400 := n4_; have BK389 := n5_; have BK397 := n6_; have HB := n7_; clear n0_ n1_ n2_ n3_ n4_ n5_ n6_ n7_; (try clear hb); (try clear hb2); (try clear hk); (try clear hi); (try clear ho0)))
      go_loopg [9, 10] kj3 (fun kq v9 v10 w' => ∃ (x9_2 : Int) (x10_2 : Int), v9 = .int .i64 x9_2 ∧ v10 = .int .i64 x10_2 ∧ Aside0 (locksteplaw08_PdomEnds.l0 kq l0 (l0.length : Int) t398 x9_2 x10_2 t390 t393 = some true) ∧ Aside0 (kq ≤ kj3) ∧ Aside0 (Kd.R (Kd.int .i64) 3 w' w.heap.size (fun _ => True) v399 t398) ∧ Aside0 (Kd.S (Kd.slice 3 (Kd.int .i64)) 30 w' w.heap.size (fun k_ => some k_ ≠ (v399 : Value).ownBlock ∧ some k_ ≠ ((.slice Ao18 t385.length co18) : Value).ownBlock ∧ some k_ ≠ ((.slice Ao21 t390.length co21) : Value).ownBlock ∧ some k_ ≠ ((.slice Ao24 t393.length co24) : Value).ownBlock) (.slice Ao16 t382.length co16) t382) ∧ Aside0 (Kd.S (Kd.slice 3 (Kd.int .i64)) 30 w' w.heap.size (fun k_ => some k_ ≠ (v399 : Value).ownBlock ∧ some k_ ≠ ((.slice Ao16 t382.length co16) : Value).ownBlock ∧ some k_ ≠ ((.slice Ao21 t390.length co21) : Value).ownBlock ∧ some k_ ≠ ((.slice Ao24 t393.length co24) : Value).ownBlock) (.slice Ao18 t385.length co18) t385) ∧ Aside0 (Kd.S (Kd.slice 3 (Kd.int .i64)) 30 w' w.heap.size (fun k_ => some k_ ≠ (v399 : Value).ownBlock ∧ some k_ ≠ ((.slice Ao16 t382.length co16) : Value).ownBlock ∧ some k_ ≠ ((.slice Ao18 t385.length co18) : Value).ownBlock ∧ some k_ ≠ ((.slice Ao24 t393.length co24) : Value).ownBlock) (.slice Ao21 t390.length co21) t390) ∧ Aside0 (Kd.S (Kd.slice 3 (Kd.int .i64)) 30 w' w.heap.size (fun k_ => some k_ ≠ (v399 : Value).ownBlock ∧ some k_ ≠ ((.slice Ao16 t382.length co16) : Value).ownBlock ∧ some k_ ≠ ((.slice Ao18 t385.length co18) : Value).ownBlock ∧ some k_ ≠ ((.slice Ao21 t390.length co21) : Value).ownBlock) (.slice Ao24 t393.length co24) t393) ∧ Aside0 (w'.heap[gb389]? = some (.cells #[(.slice Ao16 t382.length co16), (.slice Ao18 t385.length co18)] 26 (0, 0))) ∧ Aside0 (w'.heap[gb397]? = some (.cells #[(.slice Ao21 t390.length co21), (.slice Ao24 t393.length co24)] 26 (0, 0))) ∧ Aside0 (Below w.heap.size w w'))
      case atStart => exact ⟨(0), (0), (by first | rfl | exact congrArg (fun b => Ending.returned (Value.bool b)) HR_.out | (simp; done) | (simp [*]; done)), (by first | rfl | exact congrArg (fun b => Ending.returned (Value.bool b)) HR_.out | (simp; done) | (simp [*]; done)), H', ⟨Nat.le_refl _⟩, ⟨by exact RM_ HO400.out⟩, ⟨by (with_reducible repeat (first | apply Kd.S_alloc | apply Kd.S_drewN | apply Kd.S_drew)); exact Kd.S_mono HO384.out (fun _ hk => ⟨hk.2, ⟨hk.1.1.1, ⟨hk.1.1.2, hk.1.2⟩⟩⟩)⟩, ⟨by (with_reducible repeat (first | apply Kd.S_alloc | apply Kd.S_drewN | apply Kd.S_drew)); exact Kd.S_mono HO387.out (fun _ hk => ⟨hk.2, ⟨hk.1.1.1, ⟨hk.1.1.2, hk.1.2⟩⟩⟩)⟩, ⟨by (with_reducible repeat (first | apply Kd.S_alloc | apply Kd.S_drewN | apply Kd.S_drew)); exact Kd.S_mono HO392.out (fun _ hk => ⟨hk.2, ⟨hk.1.1.2, ⟨hk.1.2, hk.1.1.1⟩⟩⟩)⟩, ⟨by (with_reducible repeat (first | apply Kd.S_alloc | apply Kd.S_drewN | apply Kd.S_drew)); exact Kd.S_mono HO395.out (fun _ hk => ⟨hk.2, ⟨hk.1.1.2, ⟨hk.1.2, hk.1.1.1⟩⟩⟩)⟩, ⟨by exact KX_ BK389.out⟩, ⟨by exact KX_ BK397.out⟩, ⟨B1_⟩⟩
      case round =>
       clear H'
       try clear c8
       try clear c10b0
       try clear c10b1
       try clear c12b0
       try clear c12b1
       try clear hcz17_0
       try clear hcz17_1
       try clear hcz23_0
       try clear hcz23_1
       try clear hcz25_0
       try clear hcz25_1
       try clear hfz17_0
       try clear hfz17_1
       try clear hfz23_0
       try clear hfz23_1
       try clear hfz25_0
       try clear hfz25_1
       obtain ⟨x9_2, x10_2, rfl, rfl, HA, HK2, HO_8, HO_390000, HO_390001, HO_398000, HO_398001, BK389, BK397, HB⟩ := hrel
       cases gk with
       | zero => exact absurd HA.out (by simp [locksteplaw08_PdomEnds.l0])
       | succ k2 =>
        have H := HA.out
        clear HA
        simp only [locksteplaw08_PdomEnds.l0] at H
        by_cases c27 : x10_2 < (l0.length : Int)
        ·rw [if_pos c27] at H
         have c27b0 : decide (x10_2 < (l0.length : Int)) = true := decide_eq_true c27
         clear c27
         by_cases c28 : 0 ≤ x10_2
         ·rw [if_pos c28] at H
          have c28b0 : decide (0 ≤ x10_2) = true := decide_eq_true c28
          clear c28
          by_cases c29 : x10_2 < (t390.length : Int)
          ·rw [if_pos c29] at H
           have c29b0 : decide (x10_2 < (t390.length : Int)) = true := decide_eq_true c29
           clear c29
           replace H := Option.bind_eq_some_iff.mp H
           obtain ⟨t403, A300, H⟩ := H
           replace H : (if x10_2 < (l0.length : Int) then (if ((rd_L1 l0 x10_2).length : Int) = 0 then (if t403 = true then (if ((rd_L1 l0 x10_2).length : Int) > 0 then ((lockstepref06_Has.f k2 t398 x10_2).bind fun t407 => (if t407 = true then (if 0 ≤ ((rd_L1 l0 x10_2).length : Int) then (if ((rd_L1 l0 x10_2).length : Int) ≤ ((rd_L1 t390 x10_2).length : Int) then ((lockstepref02_Ints.f k2 ((rd_L1 t390 x10_2).take (((rd_L1 l0 x10_2).length : Int) : Int).toNat) (rd_L1 l0 x10_2)).bind fun t414 => (if t414 = true then (locksteplaw08_PdomEnds.j2 k2 l0 (l0.length : Int) t398 x9_2 x10_2 t403 ((rd_L1 l0 x10_2).length : Int) (t403 != (((rd_L1 t390 x10_2).length : Int) == (wrap64 (((rd_L1 l0 x10_2).length : Int) + 1)))) t390 t393) else (locksteplaw08_PdomEnds.j2 k2 l0 (l0.length : Int) t398 x9_2 x10_2 t403 ((rd_L1 l0 x10_2).length : Int) true t390 t393))) else (none)) else (none)) else (locksteplaw08_PdomEnds.j2 k2 l0 (l0.length : Int) t398 x9_2 x10_2 t403 ((rd_L1 l0 x10_2).length : Int) true t390 t393))) else (if 0 ≤ ((rd_L1 l0 x10_2).length : Int) then (if ((rd_L1 l0 x10_2).length : Int) ≤ ((rd_L1 t390 x10_2).length : Int) then ((lockstepref02_Ints.f k2 ((rd_L1 t390 x10_2).take (((rd_L1 l0 x10_2).length : Int) : Int).toNat) (rd_L1 l0 x10_2)).bind fun t422 => (if t422 = true then (locksteplaw08_PdomEnds.j2 k2 l0 (l0.length : Int) t398 x9_2 x10_2 t403 ((rd_L1 l0 x10_2).length : Int) (t403 != (((rd_L1 t390 x10_2).length : Int) == (wrap64 (((rd_L1 l0 x10_2).length : Int) + 1)))) t390 t393) else (locksteplaw08_PdomEnds.j2 k2 l0 (l0.length : Int) t398 x9_2 x10_2 t403 ((rd_L1 l0 x10_2).length : Int) true t390 t393))) else (none)) else (none))) else (locksteplaw08_PdomEnds.j2 k2 l0 (l0.length : Int) t398 x9_2 x10_2 t403 ((rd_L1 l0 x10_2).length : Int) true t390 t393)) else (if t403 = true then (if ((rd_L1 l0 x10_2).length : Int) > 0 then ((lockstepref06_Has.f k2 t398 x10_2).bind fun t425 => (if t425 = true then (if 0 ≤ ((rd_L1 l0 x10_2).length : Int) then (if ((rd_L1 l0 x10_2).length : Int) ≤ ((rd_L1 t390 x10_2).length : Int) then ((lockstepref02_Ints.f k2 ((rd_L1 t390 x10_2).take (((rd_L1 l0 x10_2).length : Int) : Int).toNat) (rd_L1 l0 x10_2)).bind fun t432 => (if t432 = true then (locksteplaw08_PdomEnds.j2 k2 l0 (l0.length : Int) t398 x9_2 x10_2 t403 ((rd_L1 l0 x10_2).length : Int) (t403 != (((rd_L1 t390 x10_2).length : Int) == (wrap64 (((rd_L1 l0 x10_2).length : Int) + 1)))) t390 t393) else (locksteplaw08_PdomEnds.j2 k2 l0 (l0.length : Int) t398 x9_2 x10_2 t403 ((rd_L1 l0 x10_2).length : Int) true t390 t393))) else (none)) else (none)) else (locksteplaw08_PdomEnds.j2 k2 l0 (l0.length : Int) t398 x9_2 x10_2 t403 ((rd_L1 l0 x10_2).length : Int) true t390 t393))) else (if 0 ≤ ((rd_L1 l0 x10_2).length : Int) then (if ((rd_L1 l0 x10_2).length : Int) ≤ ((rd_L1 t390 x10_2).length : Int) then ((lockstepref02_Ints.f k2 ((rd_L1 t390 x10_2).take (((rd_L1 l0 x10_2).length : Int) : Int).toNat) (rd_L1 l0 x10_2)).bind fun t440 => (if t440 = true then (locksteplaw08_PdomEnds.j2 k2 l0 (l0.length : Int) t398 x9_2 x10_2 t403 ((rd_L1 l0 x10_2).length : Int) (t403 != (((rd_L1 t390 x10_2).length : Int) == (wrap64 (((rd_L1 l0 x10_2).length : Int) + 1)))) t390 t393) else (locksteplaw08_PdomEnds.j2 k2 l0 (l0.length : Int) t398 x9_2 x10_2 t403 ((rd_L1 l0 x10_2).length : Int) true t390 t393))) else (none)) else (none))) else (if 0 ≤ ((rd_L1 l0 x10_2).length : Int) then (if ((rd_L1 l0 x10_2).length : Int) ≤ ((rd_L1 t390 x10_2).length : Int) then ((lockstepref02_Ints.f k2 ((rd_L1 t390 x10_2).take (((rd_L1 l0 x10_2).length : Int) : Int).toNat) (rd_L1 l0 x10_2)).bind fun t448 => (if t448 = true then (locksteplaw08_PdomEnds.j2 k2 l0 (l0.length : Int) t398 x9_2 x10_2 t403 ((rd_L1 l0 x10_2).length : Int) (t403 != (((rd_L1 t390 x10_2).length : Int) == (wrap64 (((rd_L1 l0 x10_2).length : Int) + 1)))) t390 t393) else (locksteplaw08_PdomEnds.j2 k2 l0 (l0.length : Int) t398 x9_2 x10_2 t403 ((rd_L1 l0 x10_2).length : Int) true t390 t393))) else (none)) else (none)))) else (none)) = some true := H
           have A30 := Aside0.mk A300
           clear A300
           by_cases c31 : x10_2 < (l0.length : Int)
           ·rw [if_pos c31] at H
            have c31b0 : decide (x10_2 < (l0.length : Int)) = true := decide_eq_true c31
            clear c31
            have HC32 := Aside0.mk H
            clear H
            have hnb33 := NB397_389.out
            have hnc33 := NB389_397.out
            have hcz34_0 : wr.cell? ⟨gb397, 0, none⟩ = some (.slice Ao21 t390.length co21) := (blk_cell BK397.out 0).trans rfl
            have hcz34_1 : wr.cell? ⟨gb397, 1, none⟩ = some (.slice Ao24 t393.length co24) := (blk_cell BK397.out 1).trans rfl
            have hfz34_0 := blk_frozen BK397.out 0
            have hfz34_1 := blk_frozen BK397.out 1
            have p402 : 0 ≤ (x10_2 : Int) := D_
            have q402 : x10_2 < (t390.length : Int) := D_
            obtain ⟨ad402, A402_0, c402_0, e402, hx402_0, hl402_0, hi402_0⟩ := at_L1 (Kd.S_reads' HO_398000.out).2.2 x10_2 p402 q402
            cases e402
            obtain ⟨ce402, hce402, hMe402, hcc402⟩ := Kd.S_get HO_398000.out [] x10_2 p402 (by first | exact q402 | exact D_ | (have e_ := (Kd.S_reads' HO_398000.out).1; omega))
            obtain ⟨ve402_0, rfl, ge402_0⟩ := hMe402
            have hv402_0 := hcc402 0 _ rfl
            rw [Nat.add_zero, show ((Kd.slice 3 (Kd.int .i64))).sz = 1 from rfl, Nat.mul_one] at hv402_0
            replace hv402_0 := Option.some.inj (hv402_0.symm.trans hx402_0)
            rw [hv402_0] at ge402_0
            have HL402_0 := Aside0.mk (show Kd.R (Kd.int .i64) 3 _ _ _ _ (rd_L1 t390 x10_2) from ge402_0)
            clear hv402_0 ge402_0
            clear hcc402 hce402
            have HR402_0 := Aside0.mk hi402_0
            have HC402_0 := Aside0.mk hl402_0
            clear hi402_0 hl402_0
            replace p402 := eq_true p402
            replace q402 := eq_true q402
            go_upto_region 19 with (first | ((with_reducible refine gate_callee (f := 15) rfl ?_); refine goesL_ (some 52) rfl rfl Try.func15 (by kernel_rfl) rfl #[.slice A402_0 (rd_L1 t390 x10_2).length c402_0, .int .i64 (l0.length : Int)] rfl (by (try simp only [List.map_toArray, List.map_cons, List.map_nil]); first | done | rfl | (simp only [List.length_drop, List.length_take]; rfl)) ?_; (with_reducible refine (lockstepref06_Has.calls k2 _ _ (rd_L1 t390 x10_2) (l0.length : Int) t403 _ ?side1 ?side2 A30.out).mono ?_); (case side1 => repeat (first | exact (by repeat (first | (with_reducible exact HR402_0.out) | (with_reducible refine Kd.C_alloc ?_ _) | (with_reducible refine Kd.C_drewN ?_ _) | (with_reducible refine Kd.C_drew ?_) | exact HR402_0.out)) | (with_reducible refine Kd.C_alloc ?_ _) | (with_reducible refine Kd.C_drewN ?_ _) | (with_reducible refine Kd.C_drew ?_))); (case side2 => exact HC402_0.out); rintro e w' ⟨rfl, ⟨nd, rfl⟩⟩; refine ⟨_, rfl, ?_⟩; have p404 : 0 ≤ (x10_2 : Int) := D_; have q404 : x10_2 < (l0.length : Int) := D_; obtain ⟨ad404, A404_0, c404_0, e404, hx404_0, hl404_0, hi404_0⟩ := at_L1 HR0.out x10_2 p404 q404; cases e404; replace hx404_0 := (HB.out.cell (World.block_lt_of_cell? w _ hx404_0)).trans hx404_0; have HR404_0 := Aside0.mk hi404_0; have HC404_0 := Aside0.mk hl404_0; clear hi404_0 hl404_0; replace p404 := eq_true p404; replace q404 := eq_true q404))
            (try simp only [Act.put, List.setIfInBounds_toArray, List.set_cons_zero, List.set_cons_succ])
            go_cut [112] (fun v112 wc => ∃ (kq : Nat) (x112_31 : Bool), v112 = .bool x112_31 ∧ Aside0 (locksteplaw08_PdomEnds.j2 kq l0 (l0.length : Int) t398 x9_2 x10_2 t403 ((rd_L1 l0 x10_2).length : Int) x112_31 t390 t393 = some true) ∧ Aside0 (kq ≤ k2) ∧ Aside0 (Kd.R (Kd.int .i64) 3 wc w.heap.size (fun _ => True) v399 t398) ∧ Aside0 (Kd.S (Kd.slice 3 (Kd.int .i64)) 30 wc w.heap.size (fun k_ => some k_ ≠ (v399 : Value).ownBlock ∧ some k_ ≠ ((.slice Ao18 t385.length co18) : Value).ownBlock ∧ some k_ ≠ ((.slice (some ad402) t390.length co21) : Value).ownBlock ∧ some k_ ≠ ((.slice Ao24 t393.length co24) : Value).ownBlock) (.slice Ao16 t382.length co16) t382) ∧ Aside0 (Kd.S (Kd.slice 3 (Kd.int .i64)) 30 wc w.heap.size (fun k_ => some k_ ≠ (v399 : Value).ownBlock ∧ some k_ ≠ ((.slice Ao16 t382.length co16) : Value).ownBlock ∧ some k_ ≠ ((.slice (some ad402) t390.length co21) : Value).ownBlock ∧ some k_ ≠ ((.slice Ao24 t393.length co24) : Value).ownBlock) (.slice Ao18 t385.length co18) t385) ∧ Aside0 (Kd.S (Kd.slice 3 (Kd.int .i64)) 30 wc w.heap.size (fun k_ => some k_ ≠ (v399 : Value).ownBlock ∧ some k_ ≠ ((.slice Ao16 t382.length co16) : Value).ownBlock ∧ some k_ ≠ ((.slice Ao18 t385.length co18) : Value).ownBlock ∧ some k_ ≠ ((.slice Ao24 t393.length co24) : Value).ownBlock) (.slice (some ad402) t390.length co21) t390) ∧ Aside0 (Kd.S (Kd.slice 3 (Kd.int .i64)) 30 wc w.heap.size (fun k_ => some k_ ≠ (v399 : Value).ownBlock ∧ some k_ ≠ ((.slice Ao16 t382.length co16) : Value).ownBlock ∧ some k_ ≠ ((.slice Ao18 t385.length co18) : Value).ownBlock ∧ some k_ ≠ ((.slice (some ad402) t390.length co21) : Value).ownBlock) (.slice Ao24 t393.length co24) t393) ∧ Aside0 (wc.heap[gb389]? = some (.cells #[(.slice Ao16 t382.length co16), (.slice Ao18 t385.length co18)] 26 (0, 0))) ∧ Aside0 (wc.heap[gb397]? = some (.cells #[(.slice (some ad402) t390.length co21), (.slice Ao24 t393.length co24)] 26 (0, 0))) ∧ Aside0 (Kd.C (Kd.int .i64) wc A402_0 (rd_L1 t390 x10_2).length (rd_L1 t390 x10_2)) ∧ Aside0 (Below w.heap.size w wc))
            case first =>
             have H := HC32.out
             clear HC32
             have n0_ := Aside0.mk (Kd.R_drewN HO_8.out nd)
             have n1_ := Aside0.mk (Kd.S_drewN HO_390000.out nd)
             have n2_ := Aside0.mk (Kd.S_drewN HO_390001.out nd)
             have n3_ := Aside0.mk (Kd.S_drewN HO_398000.out nd)
             have n4_ := Aside0.mk (Kd.S_drewN HO_398001.out nd)
             have n5_ := Aside0.mk (Kd.R_drewN HL402_0.out nd)
             have n6_ := Aside0.mk (blk_drewN BK389.out nd)
             have n7_ := Aside0.mk (blk_drewN BK397.out nd)
             have n8_ := Aside0.mk (Kd.C_drewN HR402_0.out nd)
             have n9_ := Aside0.mk (pw_below_drewN HB.out nd)
             clear HO_8 HO_390000 HO_390001 HO_398000 HO_398001 HL402_0 BK389 BK397 HR402_0 HB
             generalize wr.drewN nd = wr at n0_ n1_ n2_ n3_ n4_ n5_ n6_ n7_ n8_ n9_ ⊢
             have HO_8 := n0_
             have HO_390000 := n1_
             have HO_390001 := n2_
             have HO_398000 := n3_
             have HO_398001 := n4_
             have HL402_0 := n5_
             have BK389 := n6_
             have BK397 := n7_
             have HR402_0 := n8_
             have HB := n9_
             clear n0_ n1_ n2_ n3_ n4_ n5_ n6_ n7_ n8_ n9_
             by_cases c35 : ((rd_L1 l0 x10_2).length : Int) = 0
             ·rw [if_pos c35] at H
              have c35b0 : (((rd_L1 l0 x10_2).length : Int) == 0) = true := beq_iff_eq.mpr c35
              have c35b1 : (((rd_L1 l0 x10_2).length : Int) != 0) = false := bne_eq_false_iff_eq.mpr c35
              clear c35
              (first | rw [c35b0] | (simp only [i64_w, i32_w]; rw [c35b0]) | skip)
              by_cases c36 : t403 = true
              ·subst c36
               have H1 : (if ((rd_L1 l0 x10_2).length : Int) > 0 then ((lockstepref06_Has.f k2 t398 x10_2).bind fun t407 => (if t407 = true then (if 0 ≤ ((rd_L1 l0 x10_2).length : Int) then (if ((rd_L1 l0 x10_2).length : Int) ≤ ((rd_L1 t390 x10_2).length : Int) then ((lockstepref02_Ints.f k2 ((rd_L1 t390 x10_2).take (((rd_L1 l0 x10_2).length : Int) : Int).toNat) (rd_L1 l0 x10_2)).bind fun t414 => (if t414 = true then (locksteplaw08_PdomEnds.j2 k2 l0 (l0.length : Int) t398 x9_2 x10_2 true ((rd_L1 l0 x10_2).length : Int) (true != (((rd_L1 t390 x10_2).length : Int) == (wrap64 (((rd_L1 l0 x10_2).length : Int) + 1)))) t390 t393) else (locksteplaw08_PdomEnds.j2 k2 l0 (l0.length : Int) t398 x9_2 x10_2 true ((rd_L1 l0 x10_2).length : Int) true t390 t393))) else (none)) else (none)) else (locksteplaw08_PdomEnds.j2 k2 l0 (l0.length : Int) t398 x9_2 x10_2 true ((rd_L1 l0 x10_2).length : Int) true t390 t393))) else (if 0 ≤ ((rd_L1 l0 x10_2).length : Int) then (if ((rd_L1 l0 x10_2).length : Int) ≤ ((rd_L1 t390 x10_2).length : Int) then ((lockstepref02_Ints.f k2 ((rd_L1 t390 x10_2).take (((rd_L1 l0 x10_2).length : Int) : Int).toNat) (rd_L1 l0 x10_2)).bind fun t422 => (if t422 = true then (locksteplaw08_PdomEnds.j2 k2 l0 (l0.length : Int) t398 x9_2 x10_2 true ((rd_L1 l0 x10_2).length : Int) (true != (((rd_L1 t390 x10_2).length : Int) == (wrap64 (((rd_L1 l0 x10_2).length : Int) + 1)))) t390 t393) else (locksteplaw08_PdomEnds.j2 k2 l0 (l0.length : Int) t398 x9_2 x10_2 true ((rd_L1 l0 x10_2).length : Int) true t390 t393))) else (none)) else (none))) = some true := by rw [if_pos rfl] at H; exact H
               clear H
               have H := H1
               clear H1
               by_cases c37 : ((rd_L1 l0 x10_2).length : Int) > 0
               ·rw [if_pos c37] at H
                have c37b0 : decide (0 < ((rd_L1 l0 x10_2).length : Int)) = true := decide_eq_true c37
                have c37b1 : decide (0 < (rd_L1 l0 x10_2).length) = true := decide_eq_true (by omega)
                clear c37
                replace H := Option.bind_eq_some_iff.mp H
                obtain ⟨t407, A380, H⟩ := H
                replace H : (if t407 = true then (if 0 ≤ ((rd_L1 l0 x10_2).length : Int) then (if ((rd_L1 l0 x10_2).length : Int) ≤ ((rd_L1 t390 x10_2).length : Int) then ((lockstepref02_Ints.f k2 ((rd_L1 t390 x10_2).take (((rd_L1 l0 x10_2).length : Int) : Int).toNat) (rd_L1 l0 x10_2)).bind fun t414 => (if t414 = true then (locksteplaw08_PdomEnds.j2 k2 l0 (l0.length : Int) t398 x9_2 x10_2 true ((rd_L1 l0 x10_2).length : Int) (true != (((rd_L1 t390 x10_2).length : Int) == (wrap64 (((rd_L1 l0 x10_2).length : Int) + 1)))) t390 t393) else (locksteplaw08_PdomEnds.j2 k2 l0 (l0.length : Int) t398 x9_2 x10_2 true ((rd_L1 l0 x10_2).length : Int) true t390 t393))) else (none)) else (none)) else (locksteplaw08_PdomEnds.j2 k2 l0 (l0.length : Int) t398 x9_2 x10_2 true ((rd_L1 l0 x10_2).length : Int) true t390 t393)) = some true := H
                have A38 := Aside0.mk A380
                clear A380
                by_cases c39 : t407 = true
                ·subst c39
                 have H1 : (if 0 ≤ ((rd_L1 l0 x10_2).length : Int) then (if ((rd_L1 l0 x10_2).length : Int) ≤ ((rd_L1 t390 x10_2).length : Int) then ((lockstepref02_Ints.f k2 ((rd_L1 t390 x10_2).take (((rd_L1 l0 x10_2).length : Int) : Int).toNat) (rd_L1 l0 x10_2)).bind fun t414 => (if t414 = true then (locksteplaw08_PdomEnds.j2 k2 l0 (l0.length : Int) t398 x9_2 x10_2 true ((rd_L1 l0 x10_2).length : Int) (true != (((rd_L1 t390 x10_2).length : Int) == (wrap64 (((rd_L1 l0 x10_2).length : Int) + 1)))) t390 t393) else (locksteplaw08_PdomEnds.j2 k2 l0 (l0.length : Int) t398 x9_2 x10_2 true ((rd_L1 l0 x10_2).length : Int) true t390 t393))) else (none)) else (none)) = some true := by rw [if_pos rfl] at H; exact H
                 clear H
                 have H := H1
                 clear H1
                 by_cases c40 : 0 ≤ ((rd_L1 l0 x10_2).length : Int)
                 ·rw [if_pos c40] at H
                  have c40b0 := eq_true c40
                  have c40b1 : decide (0 ≤ ((rd_L1 l0 x10_2).length : Int)) = true := decide_eq_true c40
                  clear c40
                  by_cases c41 : ((rd_L1 l0 x10_2).length : Int) ≤ ((rd_L1 t390 x10_2).length : Int)
                  ·rw [if_pos c41] at H
                   have c41b0 := eq_true c41
                   have c41b1 : decide (((rd_L1 l0 x10_2).length : Int) ≤ ((rd_L1 t390 x10_2).length : Int)) = true := decide_eq_true c41
                   clear c41
                   obtain ⟨y409, hy409⟩ : ∃ y_ : List Int, y_ = ((rd_L1 t390 x10_2).take (((rd_L1 l0 x10_2).length : Int) : Int).toNat) := ⟨_, rfl⟩
                   replace H : ((lockstepref02_Ints.f k2 y409 (rd_L1 l0 x10_2)).bind fun t414 => (if t414 = true then (locksteplaw08_PdomEnds.j2 k2 l0 (l0.length : Int) t398 x9_2 x10_2 true ((rd_L1 l0 x10_2).length : Int) (true != (((rd_L1 t390 x10_2).length : Int) == (wrap64 (((rd_L1 l0 x10_2).length : Int) + 1)))) t390 t393) else (locksteplaw08_PdomEnds.j2 k2 l0 (l0.length : Int) t398 x9_2 x10_2 true ((rd_L1 l0 x10_2).length : Int) true t390 t393))) = some true := by first | (rw [hy409]; with_reducible exact H) | (have H2_ := (Option.bind_some _ _).symm.trans H; rw [hy409]; with_reducible exact H2_) | (have H2_ := (Option.bind_some _ _).symm.trans H; with_reducible exact H2_) | with_reducible exact H | (rw [hy409]; exact H) | exact H
                   have Ny409 := Aside0.mk hy409
                   clear hy409
                   replace H := Option.bind_eq_some_iff.mp H
                   obtain ⟨t414, A420, H⟩ := H
                   replace H : (if t414 = true then (locksteplaw08_PdomEnds.j2 k2 l0 (l0.length : Int) t398 x9_2 x10_2 true ((rd_L1 l0 x10_2).length : Int) (true != (((rd_L1 t390 x10_2).length : Int) == (wrap64 (((rd_L1 l0 x10_2).length : Int) + 1)))) t390 t393) else (locksteplaw08_PdomEnds.j2 k2 l0 (l0.length : Int) t398 x9_2 x10_2 true ((rd_L1 l0 x10_2).length : Int) true t390 t393)) = some true := H
                   have A42 := Aside0.mk A420
                   clear A420
                   by_cases c43 : t414 = true
                   ·subst c43
                    have H1 : (locksteplaw08_PdomEnds.j2 k2 l0 (l0.length : Int) t398 x9_2 x10_2 true ((rd_L1 l0 x10_2).length : Int) (true != (((rd_L1 t390 x10_2).length : Int) == (wrap64 (((rd_L1 l0 x10_2).length : Int) + 1)))) t390 t393) = some true := by rw [if_pos rfl] at H; exact H
                    clear H
                    have H := H1
                    clear H1
                    have H' := Aside0.mk H
                    clear H
                    try go_wp2
                    have n0_ := Aside0.mk (Kd.R_drew HO_8.out)
                    have n1_ := Aside0.mk (Kd.S_drew HO_390000.out)
                    have n2_ := Aside0.mk (Kd.S_drew HO_390001.out)
                    have n3_ := Aside0.mk (Kd.S_drew HO_398000.out)
                    have n4_ := Aside0.mk (Kd.S_drew HO_398001.out)
                    have n5_ := Aside0.mk (Kd.R_drew HL402_0.out)
                    have n6_ := Aside0.mk (blk_drew BK389.out)
                    have n7_ := Aside0.mk (blk_drew BK397.out)
                    have n8_ := Aside0.mk (Kd.C_drew HR402_0.out)
                    have n9_ := Aside0.mk (below_drew1 HB.out)
                    clear HO_8
                    clear HO_390000
                    clear HO_390001
                    clear HO_398000
                    clear HO_398001
                    clear HL402_0
                    clear BK389
                    clear BK397
                    clear HR402_0
                    clear HB
                    have HO_8 := n0_
                    have HO_390000 := n1_
                    have HO_390001 := n2_
                    have HO_398000 := n3_
                    have HO_398001 := n4_
                    have HL402_0 := n5_
                    have BK389 := n6_
                    have BK397 := n7_
                    have HR402_0 := n8_
                    have HB := n9_
                    clear n0_ n1_ n2_ n3_ n4_ n5_ n6_ n7_ n8_ n9_
                    have p405 : 0 ≤ (x10_2 : Int) := D_
                    have q405 : x10_2 < (l0.length : Int) := D_
                    obtain ⟨ad405, A405_0, c405_0, e405, hx405_0, hl405_0, hi405_0⟩ := at_L1 HR0.out x10_2 p405 q405
                    have hw405_0 := hx405_0
                    obtain rfl : ad404 = ad405 := (by injection e405)
                    replace hx405_0 := (HB.out.cell (World.block_lt_of_cell? w _ hx405_0)).trans hx405_0
                    have HR405_0 := Aside0.mk hi405_0
                    have HC405_0 := Aside0.mk hl405_0
                    clear hi405_0 hl405_0
                    replace p405 := eq_true p405
                    replace q405 := eq_true q405
                    have p406 : 0 ≤ (x10_2 : Int) := D_
                    have q406 : x10_2 < (l0.length : Int) := D_
                    obtain ⟨ad406, A406_0, c406_0, e406, hx406_0, hl406_0, hi406_0⟩ := at_L1 HR0.out x10_2 p406 q406
                    have hw406_0 := hx406_0
                    obtain rfl : ad404 = ad406 := (by injection e406)
                    replace hx406_0 := (HB.out.cell (World.block_lt_of_cell? w _ hx406_0)).trans hx406_0
                    have HR406_0 := Aside0.mk hi406_0
                    have HC406_0 := Aside0.mk hl406_0
                    clear hi406_0 hl406_0
                    replace p406 := eq_true p406
                    replace q406 := eq_true q406
                    have ea_ := Option.some.inj (hx405_0.symm.trans hx406_0)
                    injection ea_ with ea_ en_ ec_
                    subst ea_
                    subst ec_
                    clear en_
                    obtain ⟨Ao45, co45, eo45⟩ := Kd.R_slice HO_8.out
                    (first | subst eo45 | (injection eo45 with f1_ f2_ f3_; have f4_ := f1_.symm; have f5_ := f3_.symm; clear f1_ f2_ f3_; subst f4_; subst f5_))
                    have p408 : 0 ≤ (x10_2 : Int) := D_
                    have q408 : x10_2 < (t390.length : Int) := D_
                    obtain ⟨ad408, A408_0, c408_0, e408, hx408_0, hl408_0, hi408_0⟩ := at_L1 (Kd.S_reads' HO_398000.out).2.2 x10_2 p408 q408
                    obtain rfl : ad402 = ad408 := (by injection e408)
                    obtain ⟨ce408, hce408, hMe408, hcc408⟩ := Kd.S_get HO_398000.out [] x10_2 p408 (by first | exact q408 | exact D_ | (have e_ := (Kd.S_reads' HO_398000.out).1; omega))
                    obtain ⟨ve408_0, rfl, ge408_0⟩ := hMe408
                    have hv408_0 := hcc408 0 _ rfl
                    rw [Nat.add_zero, show ((Kd.slice 3 (Kd.int .i64))).sz = 1 from rfl, Nat.mul_one] at hv408_0
                    replace hv408_0 := Option.some.inj (hv408_0.symm.trans hx408_0)
                    rw [hv408_0] at ge408_0
                    have HL408_0 := Aside0.mk (show Kd.R (Kd.int .i64) 3 _ _ _ _ (rd_L1 t390 x10_2) from ge408_0)
                    clear hv408_0 ge408_0
                    clear hcc408 hce408
                    have HR408_0 := Aside0.mk hi408_0
                    have HC408_0 := Aside0.mk hl408_0
                    clear hi408_0 hl408_0
                    replace p408 := eq_true p408
                    replace q408 := eq_true q408
                    have p413 : 0 ≤ (x10_2 : Int) := D_
                    have q413 : x10_2 < (l0.length : Int) := D_
                    obtain ⟨ad413, A413_0, c413_0, e413, hx413_0, hl413_0, hi413_0⟩ := at_L1 HR0.out x10_2 p413 q413
                    have hw413_0 := hx413_0
                    obtain rfl : ad404 = ad413 := (by injection e413)
                    replace hx413_0 := (HB.out.cell (World.block_lt_of_cell? w _ hx413_0)).trans hx413_0
                    have HR413_0 := Aside0.mk hi413_0
                    have HC413_0 := Aside0.mk hl413_0
                    clear hi413_0 hl413_0
                    replace p413 := eq_true p413
                    replace q413 := eq_true q413
                    have ea_ := Option.some.inj (hx405_0.symm.trans hx413_0)
                    injection ea_ with ea_ en_ ec_
                    subst ea_
                    subst ec_
                    clear en_
                    have p415 : 0 ≤ (x10_2 : Int) := D_
                    have q415 : x10_2 < (t390.length : Int) := D_
                    obtain ⟨ad415, A415_0, c415_0, e415, hx415_0, hl415_0, hi415_0⟩ := at_L1 (Kd.S_reads' HO_398000.out).2.2 x10_2 p415 q415
                    obtain rfl : ad402 = ad415 := (by injection e415)
                    obtain ⟨ce415, hce415, hMe415, hcc415⟩ := Kd.S_get HO_398000.out [] x10_2 p415 (by first | exact q415 | exact D_ | (have e_ := (Kd.S_reads' HO_398000.out).1; omega))
                    obtain ⟨ve415_0, rfl, ge415_0⟩ := hMe415
                    have hv415_0 := hcc415 0 _ rfl
                    rw [Nat.add_zero, show ((Kd.slice 3 (Kd.int .i64))).sz = 1 from rfl, Nat.mul_one] at hv415_0
                    replace hv415_0 := Option.some.inj (hv415_0.symm.trans hx415_0)
                    rw [hv415_0] at ge415_0
                    have HL415_0 := Aside0.mk (show Kd.R (Kd.int .i64) 3 _ _ _ _ (rd_L1 t390 x10_2) from ge415_0)
                    clear hv415_0 ge415_0
                    clear hcc415 hce415
                    have HR415_0 := Aside0.mk hi415_0
                    have HC415_0 := Aside0.mk hl415_0
                    clear hi415_0 hl415_0
                    replace p415 := eq_true p415
                    replace q415 := eq_true q415
                    have ea_ := Option.some.inj (hx408_0.symm.trans hx415_0)
                    injection ea_ with ea_ en_ ec_
                    subst ea_
                    subst ec_
                    clear en_
                    as_aux_lemma =>
                     refine start_ (n := 55) (S := fun w' => w'.cell? ⟨gb397, 0, none⟩ = some (.slice (some ad402) t390.length co21) ∧ w'.cell? ⟨gb397, 1, none⟩ = some (.slice Ao24 t393.length co24) ∧ w'.cell? (ad404.add (x10_2).toNat) = some (.slice A405_0 (rd_L1 l0 x10_2).length c405_0) ∧ w'.cell? (ad404.add (x10_2).toNat) = some (.slice A405_0 (rd_L1 l0 x10_2).length c405_0) ∧ w'.cell? (ad402.add (x10_2).toNat) = some (.slice A408_0 (rd_L1 t390 x10_2).length c408_0) ∧ w'.cell? (ad404.add (x10_2).toNat) = some (.slice A405_0 (rd_L1 l0 x10_2).length c405_0) ∧ w'.cell? (ad402.add (x10_2).toNat) = some (.slice A408_0 (rd_L1 t390 x10_2).length c408_0)) (ds := []) m32_0 (by kernel_rfl) rfl rfl ⟨(blk_cell BK397.out 0).trans rfl, (blk_cell BK397.out 1).trans rfl, ((HB.out.cell (World.block_lt_of_cell? w _ hw405_0)).trans hw405_0), ((HB.out.cell (World.block_lt_of_cell? w _ hw406_0)).trans hw406_0), hx408_0, ((HB.out.cell (World.block_lt_of_cell? w _ hw413_0)).trans hw413_0), hx415_0⟩ (fun hHeld => ?_); refine with_tabW locksteplaw08_PdomEnds.tab19 locksteplaw08_PdomEnds.bits19 (fun HT_ HW_ => ?_)
                     generalize wr.drew = w44 at HO_8 HO_390000 HO_390001 HO_398000 HO_398001 HL402_0 BK389 BK397 HR402_0 HB HL408_0 HL415_0 HR405_0 HR406_0 HR408_0 HR413_0 HR415_0 hx405_0 hx406_0 hx408_0 hx413_0 hx415_0 hHeld ⊢
                     refine PU_ HT_ 0 58 m32_1 (h := ?_); refine PU_ HT_ 1 59 m32_2 (h := ?_); refine PU_ HT_ 2 60 m32_3 (h := ?_); refine TA_ HT_ HW_ 3 61 hHeld m32_4 (h := ?_); refine PU_ HT_ 4 62 m32_5 (h := ?_); refine PU_ HT_ 5 63 m32_6 (h := ?_); refine PU_ HT_ 6 64 m32_7 (h := ?_); refine PU_ HT_ 7 65 m32_8 (h := ?_); refine PU_ HT_ 8 66 m32_9 (h := ?_); refine PU_ HT_ 9 67 m32_10 (h := ?_); refine PU_ HT_ 10 68 m32_11 (h := ?_); refine PU_ HT_ 11 69 m32_12 (h := ?_); refine PU_ HT_ 12 70 m32_13 (h := ?_); refine PU_ HT_ 13 71 m32_14 (h := ?_); refine PU_ HT_ 14 72 m32_15 (h := ?_); refine PU_ HT_ 15 73 m32_16 (h := ?_); refine TA_ HT_ HW_ 16 74 hHeld m32_17 (h := ?_); refine PU_ HT_ 17 75 m32_18 (h := ?_); refine PU_ HT_ 18 76 m32_19 (h := ?_); refine PU_ HT_ 19 77 m32_20 (h := ?_); refine PU_ HT_ 20 78 m32_21 (h := ?_); refine PU_ HT_ 21 79 m32_22 (h := ?_); refine PU_ HT_ 22 80 m32_23 (h := ?_)
                     refine one_ (i := 23) (N := some 81) m32_24 rfl rfl (one_of HT_.out (by kernel_rfl)) (by decide) (fun K hK => ?_)
                     refine goes_ Try.func15 (by kernel_rfl) rfl #[.slice Ao45 t398.length co45, .int .i64 x10_2] (by rfl) rfl rfl (by (try simp only [List.map_toArray, List.map_cons, List.map_nil]); first | done | rfl | (simp only [List.length_drop, List.length_take]; rfl)) ?_
                     with_reducible refine (lockstepref06_Has.calls k2 _ _ t398 x10_2 true _ ?side1 ?side2 A38.out).mono ?_
                     (case side1 => repeat (first | exact (Kd.R_reads' HO_8.out).2.2 | (with_reducible refine Kd.C_alloc ?_ _) | (with_reducible refine Kd.C_drewN ?_ _) | (with_reducible refine Kd.C_drew ?_)))
                     (case side2 => exact (Kd.R_reads' HO_8.out).2.1)
                     rintro e w' ⟨rfl, ⟨nd, rfl⟩⟩
                     refine ⟨_, rfl, ?_⟩
                     have q46 : (((rd_L1 l0 x10_2).length : Int) : Int) ≤ (((rd_L1 t390 x10_2).length : Int) : Int) := D_
                     obtain ⟨i046, hi046, _, hsz46, _⟩ := info_parts info3
                     have hroom46 : (rd_L1 t390 x10_2).length ≤ c408_0 := HC408_0.out
                     have hC46 : Kd.C (Kd.int .i64) _ A408_0 (rd_L1 t390 x10_2).length (rd_L1 t390 x10_2) := (by repeat (first | (with_reducible exact HR408_0.out) | (with_reducible refine Kd.C_alloc ?_ _) | (with_reducible refine Kd.C_drewN ?_ _) | (with_reducible refine Kd.C_drew ?_) | exact HR408_0.out))
                     have hcut46 := cut_to (P := Try.prog) 30 3 .i64 Try.underlying30 hi046 A408_0 (rd_L1 t390 x10_2).length c408_0 ((rd_L1 l0 x10_2).length : Int) (D_) q46 hroom46
                     have hr46 := Kd.C_take (m := (((rd_L1 l0 x10_2).length : Int) : Int).toNat) hC46 (by omega)
                     have hy46 : y409.length = (((rd_L1 l0 x10_2).length : Int) : Int).toNat := (by rw [Ny409.out, List.length_take]; omega)
                     rw [← Ny409.out] at hr46
                     rw [← hy46] at hcut46
                     have HR412 := Aside0.mk hr46
                     have HC412 := Aside0.mk (show y409.length ≤ c408_0 from by omega)
                     clear hr46 hC46 hroom46 hi046 hsz46
                     have KY46 := Aside0.mk hy46
                     clear hy46
                     replace q46 := eq_true q46
                     refine hK.out _ _ ⟨(blk_cell BK397.out 0).trans rfl, (blk_cell BK397.out 1).trans rfl, ((HB.out.cell (World.block_lt_of_cell? w _ hw405_0)).trans hw405_0), ((HB.out.cell (World.block_lt_of_cell? w _ hw406_0)).trans hw406_0), hHeld.2.2.2.2.1, ((HB.out.cell (World.block_lt_of_cell? w _ hw413_0)).trans hw413_0), hHeld.2.2.2.2.2.2⟩ (fun hHeld => ?_)
                     clear hK K
                     refine norm_ (a' := ?_) ?_ ?_
                     rotate_left
                     ·show Act.put _ (some 81) _ = _
                      simp only [Act.put, List.setIfInBounds_toArray, List.set_cons_zero, List.set_cons_succ, i64_w, i32_w]
                      rfl
                     refine PU_ HT_ 24 82 m32_25 (h := ?_); refine PU_ HT_ 25 83 m32_26 (h := ?_); refine PU_ HT_ 26 84 m32_27 (h := ?_); refine PU_ HT_ 27 85 m32_28 (h := ?_); refine PU_ HT_ 28 86 m32_29 (h := ?_); refine PU_ HT_ 30 88 m32_30 (h := ?_); refine PU_ HT_ 33 91 m32_31 (h := ?_); refine PU_ HT_ 35 93 m32_32 (h := ?_); refine PU_ HT_ 36 94 m32_33 (h := ?_); refine PU_ HT_ 37 95 m32_34 (h := ?_); refine TA_ HT_ HW_ 29 87 hHeld m32_35 (h := ?_); refine PU_ HT_ 31 89 m32_36 (h := ?_); refine TA_ HT_ HW_ 32 90 hHeld m32_37 (h := ?_); refine PU_ HT_ 34 92 m32_38 (h := ?_); refine TA_ HT_ HW_ 38 96 hHeld m32_39 (h := ?_)
                     refine one_ (i := 39) (N := some 97) m32_40 rfl rfl (one_of HT_.out (by kernel_rfl)) (by decide) (fun K hK => ?_)
                     refine goes_ Try.func16 (by kernel_rfl) rfl #[.slice A408_0 y409.length c408_0, .slice A405_0 (rd_L1 l0 x10_2).length c405_0] (by rfl) rfl rfl (by (try simp only [List.map_toArray, List.map_cons, List.map_nil]); first | done | rfl | (simp only [List.length_drop, List.length_take]; rfl)) ?_
                     with_reducible refine (lockstepref02_Ints.calls k2 _ _ y409 _ _ (rd_L1 l0 x10_2) true _ ?side1 ?side2 ?side3 ?side4 A42.out).mono ?_
                     (case side1 => repeat (first | exact (by repeat (first | (with_reducible exact HR412.out) | (with_reducible refine Kd.C_alloc ?_ _) | (with_reducible refine Kd.C_drewN ?_ _) | (with_reducible refine Kd.C_drew ?_) | exact HR412.out)) | (with_reducible refine Kd.C_alloc ?_ _) | (with_reducible refine Kd.C_drewN ?_ _) | (with_reducible refine Kd.C_drew ?_)))
                     (case side2 => exact HC412.out)
                     (case side3 => repeat (first | exact (Kd.C_below HR413_0.out (B1_)) | (with_reducible refine Kd.C_alloc ?_ _) | (with_reducible refine Kd.C_drewN ?_ _) | (with_reducible refine Kd.C_drew ?_)))
                     (case side4 => exact HC413_0.out)
                     rintro e w' ⟨rfl, ⟨nd, rfl⟩⟩
                     refine ⟨_, rfl, ?_⟩
                     refine hK.out _ _ ⟨(blk_cell BK397.out 0).trans rfl, (blk_cell BK397.out 1).trans rfl, ((HB.out.cell (World.block_lt_of_cell? w _ hw405_0)).trans hw405_0), ((HB.out.cell (World.block_lt_of_cell? w _ hw406_0)).trans hw406_0), hHeld.2.2.2.2.1, ((HB.out.cell (World.block_lt_of_cell? w _ hw413_0)).trans hw413_0), hHeld.2.2.2.2.2.2⟩ (fun hHeld => ?_)
                     clear hK K
                     refine norm_ (a' := ?_) ?_ ?_
                     rotate_left
                     ·show Act.put _ (some 97) _ = _
                      simp only [Act.put, List.setIfInBounds_toArray, List.set_cons_zero, List.set_cons_succ, i64_w, i32_w]
                      rfl
                     refine PU_ HT_ 40 98 m32_41 (h := ?_); refine PU_ HT_ 41 99 m32_42 (h := ?_); refine PU_ HT_ 42 100 m32_43 (h := ?_); refine PU_ HT_ 43 101 m32_44 (h := ?_); refine PU_ HT_ 44 102 m32_45 (h := ?_); refine PU_ HT_ 46 104 m32_46 (h := ?_); refine PU_ HT_ 50 108 m32_47 (h := ?_); refine PU_ HT_ 51 109 m32_48 (h := ?_); refine TA_ HT_ HW_ 45 103 hHeld m32_49 (h := ?_); refine PU_ HT_ 47 105 m32_50 (h := ?_); refine TA_ HT_ HW_ 48 106 hHeld m32_51 (h := ?_); refine PU_ HT_ 49 107 m32_52 (h := ?_); refine PU_ HT_ 52 110 m32_53 (h := ?_); refine PU_ HT_ 53 111 m32_54 (h := ?_); refine PU_ HT_ 54 112 m32_55 (h := ?_)
                     refine done_ (done_of HT_.out (by kernel_rfl)) ?_
                     try go_wp2
                     go_meet
                     case rel => exact ⟨_, ((true != (((rd_L1 t390 x10_2).length : Int) == (wrap64 (((rd_L1 l0 x10_2).length : Int) + 1))))), (by first | rfl | exact congrArg (fun b => Ending.returned (Value.bool b)) HR_.out | (simp; done) | (simp [*]; done)), H', ⟨by have := HJ3.out; have := HK2.out; first | omega | exact Nat.le_refl _⟩, ⟨by exact RM_ HO_8.out⟩, ⟨by exact SM_ HO_390000.out⟩, ⟨by exact SM_ HO_390001.out⟩, ⟨by exact SM_ HO_398000.out⟩, ⟨by exact SM_ HO_398001.out⟩, ⟨by exact KX_ BK389.out⟩, ⟨by exact KX_ BK397.out⟩, ⟨by repeat (first | (with_reducible exact HR402_0.out) | (with_reducible refine Kd.C_alloc ?_ _) | (with_reducible refine Kd.C_drewN ?_ _) | (with_reducible refine Kd.C_drew ?_) | exact HR402_0.out)⟩, ⟨B1_⟩⟩
                   replace c43 := Bool.eq_false_iff.mpr c43
                   subst c43
                   have H1 : (locksteplaw08_PdomEnds.j2 k2 l0 (l0.length : Int) t398 x9_2 x10_2 true ((rd_L1 l0 x10_2).length : Int) true t390 t393) = some true := by rw [if_neg (show ¬ (false = true) by decide)] at H; exact H
                   clear H
                   have H := H1
                   clear H1
                   have H' := Aside0.mk H
                   clear H
                   try go_wp2
                   have n0_ := Aside0.mk (Kd.R_drew HO_8.out)
                   have n1_ := Aside0.mk (Kd.S_drew HO_390000.out)
                   have n2_ := Aside0.mk (Kd.S_drew HO_390001.out)
                   have n3_ := Aside0.mk (Kd.S_drew HO_398000.out)
                   have n4_ := Aside0.mk (Kd.S_drew HO_398001.out)
                   have n5_ := Aside0.mk (Kd.R_drew HL402_0.out)
                   have n6_ := Aside0.mk (blk_drew BK389.out)
                   have n7_ := Aside0.mk (blk_drew BK397.out)
                   have n8_ := Aside0.mk (Kd.C_drew HR402_0.out)
                   have n9_ := Aside0.mk (below_drew1 HB.out)
                   clear HO_8
                   clear HO_390000
                   clear HO_390001
                   clear HO_398000
                   clear HO_398001
                   clear HL402_0
                   clear BK389
                   clear BK397
                   clear HR402_0
                   clear HB
                   have HO_8 := n0_
                   have HO_390000 := n1_
                   have HO_390001 := n2_
                   have HO_398000 := n3_
                   have HO_398001 := n4_
                   have HL402_0 := n5_
                   have BK389 := n6_
                   have BK397 := n7_
                   have HR402_0 := n8_
                   have HB := n9_
                   clear n0_ n1_ n2_ n3_ n4_ n5_ n6_ n7_ n8_ n9_
                   have p405 : 0 ≤ (x10_2 : Int) := D_
                   have q405 : x10_2 < (l0.length : Int) := D_
                   obtain ⟨ad405, A405_0, c405_0, e405, hx405_0, hl405_0, hi405_0⟩ := at_L1 HR0.out x10_2 p405 q405
                   have hw405_0 := hx405_0
                   obtain rfl : ad404 = ad405 := (by injection e405)
                   replace hx405_0 := (HB.out.cell (World.block_lt_of_cell? w _ hx405_0)).trans hx405_0
                   have HR405_0 := Aside0.mk hi405_0
                   have HC405_0 := Aside0.mk hl405_0
                   clear hi405_0 hl405_0
                   replace p405 := eq_true p405
                   replace q405 := eq_true q405
                   have p406 : 0 ≤ (x10_2 : Int) := D_
                   have q406 : x10_2 < (l0.length : Int) := D_
                   obtain ⟨ad406, A406_0, c406_0, e406, hx406_0, hl406_0, hi406_0⟩ := at_L1 HR0.out x10_2 p406 q406
                   have hw406_0 := hx406_0
                   obtain rfl : ad404 = ad406 := (by injection e406)
                   replace hx406_0 := (HB.out.cell (World.block_lt_of_cell? w _ hx406_0)).trans hx406_0
                   have HR406_0 := Aside0.mk hi406_0
                   have HC406_0 := Aside0.mk hl406_0
                   clear hi406_0 hl406_0
                   replace p406 := eq_true p406
                   replace q406 := eq_true q406
                   have ea_ := Option.some.inj (hx405_0.symm.trans hx406_0)
                   injection ea_ with ea_ en_ ec_
                   subst ea_
                   subst ec_
                   clear en_
                   obtain ⟨Ao48, co48, eo48⟩ := Kd.R_slice HO_8.out
                   (first | subst eo48 | (injection eo48 with f1_ f2_ f3_; have f4_ := f1_.symm; have f5_ := f3_.symm; clear f1_ f2_ f3_; subst f4_; subst f5_))
                   have p408 : 0 ≤ (x10_2 : Int) := D_
                   have q408 : x10_2 < (t390.length : Int) := D_
                   obtain ⟨ad408, A408_0, c408_0, e408, hx408_0, hl408_0, hi408_0⟩ := at_L1 (Kd.S_reads' HO_398000.out).2.2 x10_2 p408 q408
                   obtain rfl : ad402 = ad408 := (by injection e408)
                   obtain ⟨ce408, hce408, hMe408, hcc408⟩ := Kd.S_get HO_398000.out [] x10_2 p408 (by first | exact q408 | exact D_ | (have e_ := (Kd.S_reads' HO_398000.out).1; omega))
                   obtain ⟨ve408_0, rfl, ge408_0⟩ := hMe408
                   have hv408_0 := hcc408 0 _ rfl
                   rw [Nat.add_zero, show ((Kd.slice 3 (Kd.int .i64))).sz = 1 from rfl, Nat.mul_one] at hv408_0
                   replace hv408_0 := Option.some.inj (hv408_0.symm.trans hx408_0)
                   rw [hv408_0] at ge408_0
                   have HL408_0 := Aside0.mk (show Kd.R (Kd.int .i64) 3 _ _ _ _ (rd_L1 t390 x10_2) from ge408_0)
                   clear hv408_0 ge408_0
                   clear hcc408 hce408
                   have HR408_0 := Aside0.mk hi408_0
                   have HC408_0 := Aside0.mk hl408_0
                   clear hi408_0 hl408_0
                   replace p408 := eq_true p408
                   replace q408 := eq_true q408
                   have p413 : 0 ≤ (x10_2 : Int) := D_
                   have q413 : x10_2 < (l0.length : Int) := D_
                   obtain ⟨ad413, A413_0, c413_0, e413, hx413_0, hl413_0, hi413_0⟩ := at_L1 HR0.out x10_2 p413 q413
                   have hw413_0 := hx413_0
                   obtain rfl : ad404 = ad413 := (by injection e413)
                   replace hx413_0 := (HB.out.cell (World.block_lt_of_cell? w _ hx413_0)).trans hx413_0
                   have HR413_0 := Aside0.mk hi413_0
                   have HC413_0 := Aside0.mk hl413_0
                   clear hi413_0 hl413_0
                   replace p413 := eq_true p413
                   replace q413 := eq_true q413
                   have ea_ := Option.some.inj (hx405_0.symm.trans hx413_0)
                   injection ea_ with ea_ en_ ec_
                   subst ea_
                   subst ec_
                   clear en_
                   as_aux_lemma =>
                    refine start_ (n := 55) (S := fun w' => w'.cell? ⟨gb397, 0, none⟩ = some (.slice (some ad402) t390.length co21) ∧ w'.cell? ⟨gb397, 1, none⟩ = some (.slice Ao24 t393.length co24) ∧ w'.cell? (ad404.add (x10_2).toNat) = some (.slice A405_0 (rd_L1 l0 x10_2).length c405_0) ∧ w'.cell? (ad404.add (x10_2).toNat) = some (.slice A405_0 (rd_L1 l0 x10_2).length c405_0) ∧ w'.cell? (ad402.add (x10_2).toNat) = some (.slice A408_0 (rd_L1 t390 x10_2).length c408_0) ∧ w'.cell? (ad404.add (x10_2).toNat) = some (.slice A405_0 (rd_L1 l0 x10_2).length c405_0)) (ds := []) m32_0 (by kernel_rfl) rfl rfl ⟨(blk_cell BK397.out 0).trans rfl, (blk_cell BK397.out 1).trans rfl, ((HB.out.cell (World.block_lt_of_cell? w _ hw405_0)).trans hw405_0), ((HB.out.cell (World.block_lt_of_cell? w _ hw406_0)).trans hw406_0), hx408_0, ((HB.out.cell (World.block_lt_of_cell? w _ hw413_0)).trans hw413_0)⟩ (fun hHeld => ?_); refine with_tabW locksteplaw08_PdomEnds.tab19 locksteplaw08_PdomEnds.bits19 (fun HT_ HW_ => ?_)
                    generalize wr.drew = w47 at HO_8 HO_390000 HO_390001 HO_398000 HO_398001 HL402_0 BK389 BK397 HR402_0 HB HL408_0 HR405_0 HR406_0 HR408_0 HR413_0 hx405_0 hx406_0 hx408_0 hx413_0 hHeld ⊢
                    refine PU_ HT_ 0 58 m32_1 (h := ?_); refine PU_ HT_ 1 59 m32_2 (h := ?_); refine PU_ HT_ 2 60 m32_3 (h := ?_); refine TA_ HT_ HW_ 3 61 hHeld m32_4 (h := ?_); refine PU_ HT_ 4 62 m32_5 (h := ?_); refine PU_ HT_ 5 63 m32_6 (h := ?_); refine PU_ HT_ 6 64 m32_7 (h := ?_); refine PU_ HT_ 7 65 m32_8 (h := ?_); refine PU_ HT_ 8 66 m32_9 (h := ?_); refine PU_ HT_ 9 67 m32_10 (h := ?_); refine PU_ HT_ 10 68 m32_11 (h := ?_); refine PU_ HT_ 11 69 m32_12 (h := ?_); refine PU_ HT_ 12 70 m32_13 (h := ?_); refine PU_ HT_ 13 71 m32_14 (h := ?_); refine PU_ HT_ 14 72 m32_15 (h := ?_); refine PU_ HT_ 15 73 m32_16 (h := ?_); refine TA_ HT_ HW_ 16 74 hHeld m32_17 (h := ?_); refine PU_ HT_ 17 75 m32_18 (h := ?_); refine PU_ HT_ 18 76 m32_19 (h := ?_); refine PU_ HT_ 19 77 m32_20 (h := ?_); refine PU_ HT_ 20 78 m32_21 (h := ?_); refine PU_ HT_ 21 79 m32_22 (h := ?_); refine PU_ HT_ 22 80 m32_23 (h := ?_)
                    refine one_ (i := 23) (N := some 81) m32_24 rfl rfl (one_of HT_.out (by kernel_rfl)) (by decide) (fun K hK => ?_)
                    refine goes_ Try.func15 (by kernel_rfl) rfl #[.slice Ao48 t398.length co48, .int .i64 x10_2] (by rfl) rfl rfl (by (try simp only [List.map_toArray, List.map_cons, List.map_nil]); first | done | rfl | (simp only [List.length_drop, List.length_take]; rfl)) ?_
                    with_reducible refine (lockstepref06_Has.calls k2 _ _ t398 x10_2 true _ ?side1 ?side2 A38.out).mono ?_
                    (case side1 => repeat (first | exact (Kd.R_reads' HO_8.out).2.2 | (with_reducible refine Kd.C_alloc ?_ _) | (with_reducible refine Kd.C_drewN ?_ _) | (with_reducible refine Kd.C_drew ?_)))
                    (case side2 => exact (Kd.R_reads' HO_8.out).2.1)
                    rintro e w' ⟨rfl, ⟨nd, rfl⟩⟩
                    refine ⟨_, rfl, ?_⟩
                    have q49 : (((rd_L1 l0 x10_2).length : Int) : Int) ≤ (((rd_L1 t390 x10_2).length : Int) : Int) := D_
                    obtain ⟨i049, hi049, _, hsz49, _⟩ := info_parts info3
                    have hroom49 : (rd_L1 t390 x10_2).length ≤ c408_0 := HC408_0.out
                    have hC49 : Kd.C (Kd.int .i64) _ A408_0 (rd_L1 t390 x10_2).length (rd_L1 t390 x10_2) := (by repeat (first | (with_reducible exact HR408_0.out) | (with_reducible refine Kd.C_alloc ?_ _) | (with_reducible refine Kd.C_drewN ?_ _) | (with_reducible refine Kd.C_drew ?_) | exact HR408_0.out))
                    have hcut49 := cut_to (P := Try.prog) 30 3 .i64 Try.underlying30 hi049 A408_0 (rd_L1 t390 x10_2).length c408_0 ((rd_L1 l0 x10_2).length : Int) (D_) q49 hroom49
                    have hr49 := Kd.C_take (m := (((rd_L1 l0 x10_2).length : Int) : Int).toNat) hC49 (by omega)
                    have hy49 : y409.length = (((rd_L1 l0 x10_2).length : Int) : Int).toNat := (by rw [Ny409.out, List.length_take]; omega)
                    rw [← Ny409.out] at hr49
                    rw [← hy49] at hcut49
                    have HR412 := Aside0.mk hr49
                    have HC412 := Aside0.mk (show y409.length ≤ c408_0 from by omega)
                    clear hr49 hC49 hroom49 hi049 hsz49
                    have KY49 := Aside0.mk hy49
                    clear hy49
                    replace q49 := eq_true q49
                    refine hK.out _ _ ⟨(blk_cell BK397.out 0).trans rfl, (blk_cell BK397.out 1).trans rfl, ((HB.out.cell (World.block_lt_of_cell? w _ hw405_0)).trans hw405_0), ((HB.out.cell (World.block_lt_of_cell? w _ hw406_0)).trans hw406_0), hHeld.2.2.2.2.1, ((HB.out.cell (World.block_lt_of_cell? w _ hw413_0)).trans hw413_0)⟩ (fun hHeld => ?_)
                    clear hK K
                    refine norm_ (a' := ?_) ?_ ?_
                    rotate_left
                    ·show Act.put _ (some 81) _ = _
                     simp only [Act.put, List.setIfInBounds_toArray, List.set_cons_zero, List.set_cons_succ, i64_w, i32_w]
                     rfl
                    refine PU_ HT_ 24 82 m32_25 (h := ?_); refine PU_ HT_ 25 83 m32_26 (h := ?_); refine PU_ HT_ 26 84 m32_27 (h := ?_); refine PU_ HT_ 27 85 m32_28 (h := ?_); refine PU_ HT_ 28 86 m32_29 (h := ?_); refine PU_ HT_ 30 88 m32_30 (h := ?_); refine PU_ HT_ 33 91 m32_31 (h := ?_); refine PU_ HT_ 35 93 m32_32 (h := ?_); refine PU_ HT_ 36 94 m32_33 (h := ?_); refine PU_ HT_ 37 95 m32_34 (h := ?_); refine TA_ HT_ HW_ 29 87 hHeld m32_35 (h := ?_); refine PU_ HT_ 31 89 m32_36 (h := ?_); refine TA_ HT_ HW_ 32 90 hHeld m32_37 (h := ?_); refine PU_ HT_ 34 92 m32_38 (h := ?_); refine TA_ HT_ HW_ 38 96 hHeld m32_39 (h := ?_)
                    refine one_ (i := 39) (N := some 97) m32_40 rfl rfl (one_of HT_.out (by kernel_rfl)) (by decide) (fun K hK => ?_)
                    refine goes_ Try.func16 (by kernel_rfl) rfl #[.slice A408_0 y409.length c408_0, .slice A405_0 (rd_L1 l0 x10_2).length c405_0] (by rfl) rfl rfl (by (try simp only [List.map_toArray, List.map_cons, List.map_nil]); first | done | rfl | (simp only [List.length_drop, List.length_take]; rfl)) ?_
                    with_reducible refine (lockstepref02_Ints.calls k2 _ _ y409 _ _ (rd_L1 l0 x10_2) false _ ?side1 ?side2 ?side3 ?side4 A42.out).mono ?_
                    (case side1 => repeat (first | exact (by repeat (first | (with_reducible exact HR412.out) | (with_reducible refine Kd.C_alloc ?_ _) | (with_reducible refine Kd.C_drewN ?_ _) | (with_reducible refine Kd.C_drew ?_) | exact HR412.out)) | (with_reducible refine Kd.C_alloc ?_ _) | (with_reducible refine Kd.C_drewN ?_ _) | (with_reducible refine Kd.C_drew ?_)))
                    (case side2 => exact HC412.out)
                    (case side3 => repeat (first | exact (Kd.C_below HR413_0.out (B1_)) | (with_reducible refine Kd.C_alloc ?_ _) | (with_reducible refine Kd.C_drewN ?_ _) | (with_reducible refine Kd.C_drew ?_)))
                    (case side4 => exact HC413_0.out)
                    rintro e w' ⟨rfl, ⟨nd, rfl⟩⟩
                    refine ⟨_, rfl, ?_⟩
                    refine hK.out _ _ ⟨(blk_cell BK397.out 0).trans rfl, (blk_cell BK397.out 1).trans rfl, ((HB.out.cell (World.block_lt_of_cell? w _ hw405_0)).trans hw405_0), ((HB.out.cell (World.block_lt_of_cell? w _ hw406_0)).trans hw406_0), hHeld.2.2.2.2.1, ((HB.out.cell (World.block_lt_of_cell? w _ hw413_0)).trans hw413_0)⟩ (fun hHeld => ?_)
                    clear hK K
                    refine norm_ (a' := ?_) ?_ ?_
                    rotate_left
                    ·show Act.put _ (some 97) _ = _
                     simp only [Act.put, List.setIfInBounds_toArray, List.set_cons_zero, List.set_cons_succ, i64_w, i32_w]
                     rfl
                    refine PU_ HT_ 40 98 m32_41 (h := ?_); refine PU_ HT_ 41 99 m32_42 (h := ?_); refine PU_ HT_ 42 100 m32_43 (h := ?_); refine PO_ HT_ 43 101 m32_44 (h := ?_); refine PO_ HT_ 44 102 m32_45 (h := ?_); refine PO_ HT_ 45 103 m32_56 (h := ?_); refine PO_ HT_ 46 104 m32_57 (h := ?_); refine PO_ HT_ 47 105 m32_58 (h := ?_); refine PO_ HT_ 48 106 m32_59 (h := ?_); refine PO_ HT_ 49 107 m32_60 (h := ?_); refine PO_ HT_ 50 108 m32_61 (h := ?_); refine PO_ HT_ 51 109 m32_52 (h := ?_); refine PO_ HT_ 52 110 m32_53 (h := ?_); refine PO_ HT_ 53 111 m32_54 (h := ?_); refine PU_ HT_ 54 112 m32_55 (h := ?_)
                    refine done_ (done_of HT_.out (by kernel_rfl)) ?_
                    try go_wp2
                    go_meet
                    case rel => exact ⟨_, (true), (by first | rfl | exact congrArg (fun b => Ending.returned (Value.bool b)) HR_.out | (simp; done) | (simp [*]; done)), H', ⟨by have := HJ3.out; have := HK2.out; first | omega | exact Nat.le_refl _⟩, ⟨by exact RM_ HO_8.out⟩, ⟨by exact SM_ HO_390000.out⟩, ⟨by exact SM_ HO_390001.out⟩, ⟨by exact SM_ HO_398000.out⟩, ⟨by exact SM_ HO_398001.out⟩, ⟨by exact KX_ BK389.out⟩, ⟨by exact KX_ BK397.out⟩, ⟨by repeat (first | (with_reducible exact HR402_0.out) | (with_reducible refine Kd.C_alloc ?_ _) | (with_reducible refine Kd.C_drewN ?_ _) | (with_reducible refine Kd.C_drew ?_) | exact HR402_0.out)⟩, ⟨B1_⟩⟩
                  rw [if_neg c41] at H
                  exact absurd H (by simp)
                 rw [if_neg c40] at H
                 exact absurd H (by simp)
                replace c39 := Bool.eq_false_iff.mpr c39
                subst c39
                have H1 : (locksteplaw08_PdomEnds.j2 k2 l0 (l0.length : Int) t398 x9_2 x10_2 true ((rd_L1 l0 x10_2).length : Int) true t390 t393) = some true := by rw [if_neg (show ¬ (false = true) by decide)] at H; exact H
                clear H
                have H := H1
                clear H1
                have H' := Aside0.mk H
                clear H
                try go_wp2
                have n0_ := Aside0.mk (Kd.R_drew HO_8.out)
                have n1_ := Aside0.mk (Kd.S_drew HO_390000.out)
                have n2_ := Aside0.mk (Kd.S_drew HO_390001.out)
                have n3_ := Aside0.mk (Kd.S_drew HO_398000.out)
                have n4_ := Aside0.mk (Kd.S_drew HO_398001.out)
                have n5_ := Aside0.mk (Kd.R_drew HL402_0.out)
                have n6_ := Aside0.mk (blk_drew BK389.out)
                have n7_ := Aside0.mk (blk_drew BK397.out)
                have n8_ := Aside0.mk (Kd.C_drew HR402_0.out)
                have n9_ := Aside0.mk (below_drew1 HB.out)
                clear HO_8
                clear HO_390000
                clear HO_390001
                clear HO_398000
                clear HO_398001
                clear HL402_0
                clear BK389
                clear BK397
                clear HR402_0
                clear HB
                have HO_8 := n0_
                have HO_390000 := n1_
                have HO_390001 := n2_
                have HO_398000 := n3_
                have HO_398001 := n4_
                have HL402_0 := n5_
                have BK389 := n6_
                have BK397 := n7_
                have HR402_0 := n8_
                have HB := n9_
                clear n0_ n1_ n2_ n3_ n4_ n5_ n6_ n7_ n8_ n9_
                have p405 : 0 ≤ (x10_2 : Int) := D_
                have q405 : x10_2 < (l0.length : Int) := D_
                obtain ⟨ad405, A405_0, c405_0, e405, hx405_0, hl405_0, hi405_0⟩ := at_L1 HR0.out x10_2 p405 q405
                have hw405_0 := hx405_0
                obtain rfl : ad404 = ad405 := (by injection e405)
                replace hx405_0 := (HB.out.cell (World.block_lt_of_cell? w _ hx405_0)).trans hx405_0
                have HR405_0 := Aside0.mk hi405_0
                have HC405_0 := Aside0.mk hl405_0
                clear hi405_0 hl405_0
                replace p405 := eq_true p405
                replace q405 := eq_true q405
                have p406 : 0 ≤ (x10_2 : Int) := D_
                have q406 : x10_2 < (l0.length : Int) := D_
                obtain ⟨ad406, A406_0, c406_0, e406, hx406_0, hl406_0, hi406_0⟩ := at_L1 HR0.out x10_2 p406 q406
                have hw406_0 := hx406_0
                obtain rfl : ad404 = ad406 := (by injection e406)
                replace hx406_0 := (HB.out.cell (World.block_lt_of_cell? w _ hx406_0)).trans hx406_0
                have HR406_0 := Aside0.mk hi406_0
                have HC406_0 := Aside0.mk hl406_0
                clear hi406_0 hl406_0
                replace p406 := eq_true p406
                replace q406 := eq_true q406
                have ea_ := Option.some.inj (hx405_0.symm.trans hx406_0)
                injection ea_ with ea_ en_ ec_
                subst ea_
                subst ec_
                clear en_
                obtain ⟨Ao51, co51, eo51⟩ := Kd.R_slice HO_8.out
                (first | subst eo51 | (injection eo51 with f1_ f2_ f3_; have f4_ := f1_.symm; have f5_ := f3_.symm; clear f1_ f2_ f3_; subst f4_; subst f5_))
                as_aux_lemma =>
                 refine start_ (n := 55) (S := fun w' => w'.cell? (ad404.add (x10_2).toNat) = some (.slice A405_0 (rd_L1 l0 x10_2).length c405_0) ∧ w'.cell? (ad404.add (x10_2).toNat) = some (.slice A405_0 (rd_L1 l0 x10_2).length c405_0)) (ds := []) m32_0 (by kernel_rfl) rfl rfl ⟨((HB.out.cell (World.block_lt_of_cell? w _ hw405_0)).trans hw405_0), ((HB.out.cell (World.block_lt_of_cell? w _ hw406_0)).trans hw406_0)⟩ (fun hHeld => ?_); refine with_tabW locksteplaw08_PdomEnds.tab19 locksteplaw08_PdomEnds.bits19 (fun HT_ HW_ => ?_)
                 generalize wr.drew = w50 at HO_8 HO_390000 HO_390001 HO_398000 HO_398001 HL402_0 BK389 BK397 HR402_0 HB HR405_0 HR406_0 hx405_0 hx406_0 hHeld ⊢
                 refine PU_ HT_ 0 58 m32_1 (h := ?_); refine PU_ HT_ 1 59 m32_2 (h := ?_); refine PU_ HT_ 2 60 m32_3 (h := ?_); refine TA_ HT_ HW_ 3 61 hHeld m32_4 (h := ?_); refine PU_ HT_ 4 62 m32_5 (h := ?_); refine PU_ HT_ 5 63 m32_6 (h := ?_); refine PU_ HT_ 6 64 m32_7 (h := ?_); refine PU_ HT_ 7 65 m32_8 (h := ?_); refine PU_ HT_ 8 66 m32_9 (h := ?_); refine PU_ HT_ 9 67 m32_10 (h := ?_); refine PU_ HT_ 10 68 m32_11 (h := ?_); refine PU_ HT_ 11 69 m32_12 (h := ?_); refine PU_ HT_ 12 70 m32_13 (h := ?_); refine PU_ HT_ 13 71 m32_14 (h := ?_); refine PU_ HT_ 14 72 m32_15 (h := ?_); refine PU_ HT_ 15 73 m32_16 (h := ?_); refine TA_ HT_ HW_ 16 74 hHeld m32_17 (h := ?_); refine PU_ HT_ 17 75 m32_18 (h := ?_); refine PU_ HT_ 18 76 m32_19 (h := ?_); refine PU_ HT_ 19 77 m32_20 (h := ?_); refine PU_ HT_ 20 78 m32_21 (h := ?_); refine PU_ HT_ 21 79 m32_22 (h := ?_); refine PU_ HT_ 22 80 m32_23 (h := ?_)
                 refine one_ (i := 23) (N := some 81) m32_24 rfl rfl (one_of HT_.out (by kernel_rfl)) (by decide) (fun K hK => ?_)
                 refine goes_ Try.func15 (by kernel_rfl) rfl #[.slice Ao51 t398.length co51, .int .i64 x10_2] (by rfl) rfl rfl (by (try simp only [List.map_toArray, List.map_cons, List.map_nil]); first | done | rfl | (simp only [List.length_drop, List.length_take]; rfl)) ?_
                 with_reducible refine (lockstepref06_Has.calls k2 _ _ t398 x10_2 false _ ?side1 ?side2 A38.out).mono ?_
                 (case side1 => repeat (first | exact (Kd.R_reads' HO_8.out).2.2 | (with_reducible refine Kd.C_alloc ?_ _) | (with_reducible refine Kd.C_drewN ?_ _) | (with_reducible refine Kd.C_drew ?_)))
                 (case side2 => exact (Kd.R_reads' HO_8.out).2.1)
                 rintro e w' ⟨rfl, ⟨nd, rfl⟩⟩
                 refine ⟨_, rfl, ?_⟩
                 refine hK.out _ _ ⟨((HB.out.cell (World.block_lt_of_cell? w _ hw405_0)).trans hw405_0), ((HB.out.cell (World.block_lt_of_cell? w _ hw406_0)).trans hw406_0)⟩ (fun hHeld => ?_)
                 clear hK K
                 refine norm_ (a' := ?_) ?_ ?_
                 rotate_left
                 ·show Act.put _ (some 81) _ = _
                  simp only [Act.put, List.setIfInBounds_toArray, List.set_cons_zero, List.set_cons_succ, i64_w, i32_w]
                  rfl
                 refine PU_ HT_ 24 82 m32_25 (h := ?_); refine PU_ HT_ 25 83 m32_26 (h := ?_); refine PU_ HT_ 26 84 m32_27 (h := ?_); refine PU_ HT_ 27 85 m32_28 (h := ?_); refine PO_ HT_ 28 86 m32_29 (h := ?_); refine PO_ HT_ 29 87 m32_62 (h := ?_); refine PO_ HT_ 30 88 m32_63 (h := ?_); refine PO_ HT_ 31 89 m32_64 (h := ?_); refine PO_ HT_ 32 90 m32_65 (h := ?_); refine PO_ HT_ 33 91 m32_66 (h := ?_); refine PO_ HT_ 34 92 m32_67 (h := ?_); refine PO_ HT_ 35 93 m32_68 (h := ?_); refine PO_ HT_ 36 94 m32_69 (h := ?_); refine PO_ HT_ 37 95 m32_38 (h := ?_); refine PO_ HT_ 38 96 m32_39 (h := ?_); refine PO_ HT_ 39 97 m32_40 (h := ?_); refine PO_ HT_ 40 98 m32_41 (h := ?_); refine PU_ HT_ 41 99 m32_42 (h := ?_); refine PU_ HT_ 42 100 m32_43 (h := ?_); refine PO_ HT_ 43 101 m32_44 (h := ?_); refine PO_ HT_ 44 102 m32_45 (h := ?_); refine PO_ HT_ 45 103 m32_56 (h := ?_); refine PO_ HT_ 46 104 m32_57 (h := ?_); refine PO_ HT_ 47 105 m32_58 (h := ?_); refine PO_ HT_ 48 106 m32_59 (h := ?_); refine PO_ HT_ 49 107 m32_60 (h := ?_); refine PO_ HT_ 50 108 m32_61 (h := ?_); refine PO_ HT_ 51 109 m32_52 (h := ?_); refine PO_ HT_ 52 110 m32_53 (h := ?_); refine PO_ HT_ 53 111 m32_54 (h := ?_); refine PU_ HT_ 54 112 m32_55 (h := ?_)
                 refine done_ (done_of HT_.out (by kernel_rfl)) ?_
                 try go_wp2
                 go_meet
                 case rel => exact ⟨_, (true), (by first | rfl | exact congrArg (fun b => Ending.returned (Value.bool b)) HR_.out | (simp; done) | (simp [*]; done)), H', ⟨by have := HJ3.out; have := HK2.out; first | omega | exact Nat.le_refl _⟩, ⟨by exact RM_ HO_8.out⟩, ⟨by exact SM_ HO_390000.out⟩, ⟨by exact SM_ HO_390001.out⟩, ⟨by exact SM_ HO_398000.out⟩, ⟨by exact SM_ HO_398001.out⟩, ⟨by exact KX_ BK389.out⟩, ⟨by exact KX_ BK397.out⟩, ⟨by repeat (first | (with_reducible exact HR402_0.out) | (with_reducible refine Kd.C_alloc ?_ _) | (with_reducible refine Kd.C_drewN ?_ _) | (with_reducible refine Kd.C_drew ?_) | exact HR402_0.out)⟩, ⟨B1_⟩⟩
               rw [if_neg c37] at H
               have c37b0 : decide (0 < ((rd_L1 l0 x10_2).length : Int)) = false := decide_eq_false c37
               have c37b1 : decide (0 < (rd_L1 l0 x10_2).length) = false := decide_eq_false (by omega)
               clear c37
               by_cases c52 : 0 ≤ ((rd_L1 l0 x10_2).length : Int)
               ·rw [if_pos c52] at H
                have c52b0 := eq_true c52
                have c52b1 : decide (0 ≤ ((rd_L1 l0 x10_2).length : Int)) = true := decide_eq_true c52
                clear c52
                by_cases c53 : ((rd_L1 l0 x10_2).length : Int) ≤ ((rd_L1 t390 x10_2).length : Int)
                ·rw [if_pos c53] at H
                 have c53b0 := eq_true c53
                 have c53b1 : decide (((rd_L1 l0 x10_2).length : Int) ≤ ((rd_L1 t390 x10_2).length : Int)) = true := decide_eq_true c53
                 clear c53
                 obtain ⟨y417, hy417⟩ : ∃ y_ : List Int, y_ = ((rd_L1 t390 x10_2).take (((rd_L1 l0 x10_2).length : Int) : Int).toNat) := ⟨_, rfl⟩
                 replace H : ((lockstepref02_Ints.f k2 y417 (rd_L1 l0 x10_2)).bind fun t422 => (if t422 = true then (locksteplaw08_PdomEnds.j2 k2 l0 (l0.length : Int) t398 x9_2 x10_2 true ((rd_L1 l0 x10_2).length : Int) (true != (((rd_L1 t390 x10_2).length : Int) == (wrap64 (((rd_L1 l0 x10_2).length : Int) + 1)))) t390 t393) else (locksteplaw08_PdomEnds.j2 k2 l0 (l0.length : Int) t398 x9_2 x10_2 true ((rd_L1 l0 x10_2).length : Int) true t390 t393))) = some true := by first | (rw [hy417]; with_reducible exact H) | (have H2_ := (Option.bind_some _ _).symm.trans H; rw [hy417]; with_reducible exact H2_) | (have H2_ := (Option.bind_some _ _).symm.trans H; with_reducible exact H2_) | with_reducible exact H | (rw [hy417]; exact H) | exact H
                 have Ny417 := Aside0.mk hy417
                 clear hy417
                 replace H := Option.bind_eq_some_iff.mp H
                 obtain ⟨t422, A540, H⟩ := H
                 replace H : (if t422 = true then (locksteplaw08_PdomEnds.j2 k2 l0 (l0.length : Int) t398 x9_2 x10_2 true ((rd_L1 l0 x10_2).length : Int) (true != (((rd_L1 t390 x10_2).length : Int) == (wrap64 (((rd_L1 l0 x10_2).length : Int) + 1)))) t390 t393) else (locksteplaw08_PdomEnds.j2 k2 l0 (l0.length : Int) t398 x9_2 x10_2 true ((rd_L1 l0 x10_2).length : Int) true t390 t393)) = some true := H
                 have A54 := Aside0.mk A540
                 clear A540
                 by_cases c55 : t422 = true
                 ·subst c55
                  have H1 : (locksteplaw08_PdomEnds.j2 k2 l0 (l0.length : Int) t398 x9_2 x10_2 true ((rd_L1 l0 x10_2).length : Int) (true != (((rd_L1 t390 x10_2).length : Int) == (wrap64 (((rd_L1 l0 x10_2).length : Int) + 1)))) t390 t393) = some true := by rw [if_pos rfl] at H; exact H
                  clear H
                  have H := H1
                  clear H1
                  have H' := Aside0.mk H
                  clear H
                  try go_wp2
                  have n0_ := Aside0.mk (Kd.R_drew HO_8.out)
                  have n1_ := Aside0.mk (Kd.S_drew HO_390000.out)
                  have n2_ := Aside0.mk (Kd.S_drew HO_390001.out)
                  have n3_ := Aside0.mk (Kd.S_drew HO_398000.out)
                  have n4_ := Aside0.mk (Kd.S_drew HO_398001.out)
                  have n5_ := Aside0.mk (Kd.R_drew HL402_0.out)
                  have n6_ := Aside0.mk (blk_drew BK389.out)
                  have n7_ := Aside0.mk (blk_drew BK397.out)
                  have n8_ := Aside0.mk (Kd.C_drew HR402_0.out)
                  have n9_ := Aside0.mk (below_drew1 HB.out)
                  clear HO_8
                  clear HO_390000
                  clear HO_390001
                  clear HO_398000
                  clear HO_398001
                  clear HL402_0
                  clear BK389
                  clear BK397
                  clear HR402_0
                  clear HB
                  have HO_8 := n0_
                  have HO_390000 := n1_
                  have HO_390001 := n2_
                  have HO_398000 := n3_
                  have HO_398001 := n4_
                  have HL402_0 := n5_
                  have BK389 := n6_
                  have BK397 := n7_
                  have HR402_0 := n8_
                  have HB := n9_
                  clear n0_ n1_ n2_ n3_ n4_ n5_ n6_ n7_ n8_ n9_
                  have p405 : 0 ≤ (x10_2 : Int) := D_
                  have q405 : x10_2 < (l0.length : Int) := D_
                  obtain ⟨ad405, A405_0, c405_0, e405, hx405_0, hl405_0, hi405_0⟩ := at_L1 HR0.out x10_2 p405 q405
                  have hw405_0 := hx405_0
                  obtain rfl : ad404 = ad405 := (by injection e405)
                  replace hx405_0 := (HB.out.cell (World.block_lt_of_cell? w _ hx405_0)).trans hx405_0
                  have HR405_0 := Aside0.mk hi405_0
                  have HC405_0 := Aside0.mk hl405_0
                  clear hi405_0 hl405_0
                  replace p405 := eq_true p405
                  replace q405 := eq_true q405
                  have p406 : 0 ≤ (x10_2 : Int) := D_
                  have q406 : x10_2 < (l0.length : Int) := D_
                  obtain ⟨ad406, A406_0, c406_0, e406, hx406_0, hl406_0, hi406_0⟩ := at_L1 HR0.out x10_2 p406 q406
                  have hw406_0 := hx406_0
                  obtain rfl : ad404 = ad406 := (by injection e406)
                  replace hx406_0 := (HB.out.cell (World.block_lt_of_cell? w _ hx406_0)).trans hx406_0
                  have HR406_0 := Aside0.mk hi406_0
                  have HC406_0 := Aside0.mk hl406_0
                  clear hi406_0 hl406_0
                  replace p406 := eq_true p406
                  replace q406 := eq_true q406
                  have ea_ := Option.some.inj (hx405_0.symm.trans hx406_0)
                  injection ea_ with ea_ en_ ec_
                  subst ea_
                  subst ec_
                  clear en_
                  have p416 : 0 ≤ (x10_2 : Int) := D_
                  have q416 : x10_2 < (t390.length : Int) := D_
                  obtain ⟨ad416, A416_0, c416_0, e416, hx416_0, hl416_0, hi416_0⟩ := at_L1 (Kd.S_reads' HO_398000.out).2.2 x10_2 p416 q416
                  obtain rfl : ad402 = ad416 := (by injection e416)
                  obtain ⟨ce416, hce416, hMe416, hcc416⟩ := Kd.S_get HO_398000.out [] x10_2 p416 (by first | exact q416 | exact D_ | (have e_ := (Kd.S_reads' HO_398000.out).1; omega))
                  obtain ⟨ve416_0, rfl, ge416_0⟩ := hMe416
                  have hv416_0 := hcc416 0 _ rfl
                  rw [Nat.add_zero, show ((Kd.slice 3 (Kd.int .i64))).sz = 1 from rfl, Nat.mul_one] at hv416_0
                  replace hv416_0 := Option.some.inj (hv416_0.symm.trans hx416_0)
                  rw [hv416_0] at ge416_0
                  have HL416_0 := Aside0.mk (show Kd.R (Kd.int .i64) 3 _ _ _ _ (rd_L1 t390 x10_2) from ge416_0)
                  clear hv416_0 ge416_0
                  clear hcc416 hce416
                  have HR416_0 := Aside0.mk hi416_0
                  have HC416_0 := Aside0.mk hl416_0
                  clear hi416_0 hl416_0
                  replace p416 := eq_true p416
                  replace q416 := eq_true q416
                  have q57 : (((rd_L1 l0 x10_2).length : Int) : Int) ≤ (((rd_L1 t390 x10_2).length : Int) : Int) := D_
                  obtain ⟨i057, hi057, _, hsz57, _⟩ := info_parts info3
                  have hroom57 : (rd_L1 t390 x10_2).length ≤ c416_0 := HC416_0.out
                  have hC57 : Kd.C (Kd.int .i64) _ A416_0 (rd_L1 t390 x10_2).length (rd_L1 t390 x10_2) := (by repeat (first | (with_reducible exact HR416_0.out) | (with_reducible refine Kd.C_alloc ?_ _) | (with_reducible refine Kd.C_drewN ?_ _) | (with_reducible refine Kd.C_drew ?_) | exact HR416_0.out))
                  have hcut57 := cut_to (P := Try.prog) 30 3 .i64 Try.underlying30 hi057 A416_0 (rd_L1 t390 x10_2).length c416_0 ((rd_L1 l0 x10_2).length : Int) (D_) q57 hroom57
                  have hr57 := Kd.C_take (m := (((rd_L1 l0 x10_2).length : Int) : Int).toNat) hC57 (by omega)
                  have hy57 : y417.length = (((rd_L1 l0 x10_2).length : Int) : Int).toNat := (by rw [Ny417.out, List.length_take]; omega)
                  rw [← Ny417.out] at hr57
                  rw [← hy57] at hcut57
                  have HR420 := Aside0.mk hr57
                  have HC420 := Aside0.mk (show y417.length ≤ c416_0 from by omega)
                  clear hr57 hC57 hroom57 hi057 hsz57
                  have KY57 := Aside0.mk hy57
                  clear hy57
                  replace q57 := eq_true q57
                  have p421 : 0 ≤ (x10_2 : Int) := D_
                  have q421 : x10_2 < (l0.length : Int) := D_
                  obtain ⟨ad421, A421_0, c421_0, e421, hx421_0, hl421_0, hi421_0⟩ := at_L1 HR0.out x10_2 p421 q421
                  have hw421_0 := hx421_0
                  obtain rfl : ad404 = ad421 := (by injection e421)
                  replace hx421_0 := (HB.out.cell (World.block_lt_of_cell? w _ hx421_0)).trans hx421_0
                  have HR421_0 := Aside0.mk hi421_0
                  have HC421_0 := Aside0.mk hl421_0
                  clear hi421_0 hl421_0
                  replace p421 := eq_true p421
                  replace q421 := eq_true q421
                  have ea_ := Option.some.inj (hx405_0.symm.trans hx421_0)
                  injection ea_ with ea_ en_ ec_
                  subst ea_
                  subst ec_
                  clear en_
                  have p423 : 0 ≤ (x10_2 : Int) := D_
                  have q423 : x10_2 < (t390.length : Int) := D_
                  obtain ⟨ad423, A423_0, c423_0, e423, hx423_0, hl423_0, hi423_0⟩ := at_L1 (Kd.S_reads' HO_398000.out).2.2 x10_2 p423 q423
                  obtain rfl : ad402 = ad423 := (by injection e423)
                  obtain ⟨ce423, hce423, hMe423, hcc423⟩ := Kd.S_get HO_398000.out [] x10_2 p423 (by first | exact q423 | exact D_ | (have e_ := (Kd.S_reads' HO_398000.out).1; omega))
                  obtain ⟨ve423_0, rfl, ge423_0⟩ := hMe423
                  have hv423_0 := hcc423 0 _ rfl
                  rw [Nat.add_zero, show ((Kd.slice 3 (Kd.int .i64))).sz = 1 from rfl, Nat.mul_one] at hv423_0
                  replace hv423_0 := Option.some.inj (hv423_0.symm.trans hx423_0)
                  rw [hv423_0] at ge423_0
                  have HL423_0 := Aside0.mk (show Kd.R (Kd.int .i64) 3 _ _ _ _ (rd_L1 t390 x10_2) from ge423_0)
                  clear hv423_0 ge423_0
                  clear hcc423 hce423
                  have HR423_0 := Aside0.mk hi423_0
                  have HC423_0 := Aside0.mk hl423_0
                  clear hi423_0 hl423_0
                  replace p423 := eq_true p423
                  replace q423 := eq_true q423
                  have ea_ := Option.some.inj (hx416_0.symm.trans hx423_0)
                  injection ea_ with ea_ en_ ec_
                  subst ea_
                  subst ec_
                  clear en_
                  as_aux_lemma =>
                   refine start_ (n := 55) (S := fun w' => w'.cell? ⟨gb397, 0, none⟩ = some (.slice (some ad402) t390.length co21) ∧ w'.cell? ⟨gb397, 1, none⟩ = some (.slice Ao24 t393.length co24) ∧ w'.cell? (ad404.add (x10_2).toNat) = some (.slice A405_0 (rd_L1 l0 x10_2).length c405_0) ∧ w'.cell? (ad404.add (x10_2).toNat) = some (.slice A405_0 (rd_L1 l0 x10_2).length c405_0) ∧ w'.cell? (ad402.add (x10_2).toNat) = some (.slice A416_0 (rd_L1 t390 x10_2).length c416_0) ∧ w'.cell? (ad404.add (x10_2).toNat) = some (.slice A405_0 (rd_L1 l0 x10_2).length c405_0) ∧ w'.cell? (ad402.add (x10_2).toNat) = some (.slice A416_0 (rd_L1 t390 x10_2).length c416_0)) (ds := []) m32_0 (by kernel_rfl) rfl rfl ⟨(blk_cell BK397.out 0).trans rfl, (blk_cell BK397.out 1).trans rfl, ((HB.out.cell (World.block_lt_of_cell? w _ hw405_0)).trans hw405_0), ((HB.out.cell (World.block_lt_of_cell? w _ hw406_0)).trans hw406_0), hx416_0, ((HB.out.cell (World.block_lt_of_cell? w _ hw421_0)).trans hw421_0), hx423_0⟩ (fun hHeld => ?_); refine with_tabW locksteplaw08_PdomEnds.tab19 locksteplaw08_PdomEnds.bits19 (fun HT_ HW_ => ?_)
                   generalize wr.drew = w56 at HO_8 HO_390000 HO_390001 HO_398000 HO_398001 HL402_0 BK389 BK397 HR402_0 HB HL416_0 HL423_0 HR405_0 HR406_0 HR416_0 HR420 HR421_0 HR423_0 hx405_0 hx406_0 hx416_0 hx421_0 hx423_0 hHeld ⊢
                   refine PU_ HT_ 0 58 m32_1 (h := ?_); refine PU_ HT_ 1 59 m32_2 (h := ?_); refine PU_ HT_ 2 60 m32_3 (h := ?_); refine TA_ HT_ HW_ 3 61 hHeld m32_4 (h := ?_); refine PU_ HT_ 4 62 m32_5 (h := ?_); refine PU_ HT_ 5 63 m32_6 (h := ?_); refine PU_ HT_ 6 64 m32_7 (h := ?_); refine PU_ HT_ 7 65 m32_8 (h := ?_); refine PU_ HT_ 8 66 m32_9 (h := ?_); refine PU_ HT_ 9 67 m32_10 (h := ?_); refine PU_ HT_ 10 68 m32_11 (h := ?_); refine PU_ HT_ 11 69 m32_12 (h := ?_); refine PU_ HT_ 12 70 m32_13 (h := ?_); refine PU_ HT_ 13 71 m32_14 (h := ?_); refine PU_ HT_ 14 72 m32_15 (h := ?_); refine PU_ HT_ 15 73 m32_16 (h := ?_); refine TA_ HT_ HW_ 16 74 hHeld m32_17 (h := ?_); refine PU_ HT_ 17 75 m32_18 (h := ?_); refine PU_ HT_ 18 76 m32_19 (h := ?_); refine PU_ HT_ 19 77 m32_20 (h := ?_); refine PU_ HT_ 20 78 m32_21 (h := ?_); refine PO_ HT_ 21 79 m32_22 (h := ?_); refine PO_ HT_ 22 80 m32_23 (h := ?_); refine PO_ HT_ 23 81 m32_24 (h := ?_); refine PO_ HT_ 24 82 m32_25 (h := ?_); refine PU_ HT_ 25 83 m32_26 (h := ?_); refine PU_ HT_ 26 84 m32_27 (h := ?_); refine PU_ HT_ 27 85 m32_28 (h := ?_); refine PU_ HT_ 28 86 m32_29 (h := ?_); refine PU_ HT_ 30 88 m32_30 (h := ?_); refine PU_ HT_ 33 91 m32_31 (h := ?_); refine PU_ HT_ 35 93 m32_32 (h := ?_); refine PU_ HT_ 36 94 m32_33 (h := ?_); refine PU_ HT_ 37 95 m32_34 (h := ?_); refine TA_ HT_ HW_ 29 87 hHeld m32_35 (h := ?_); refine PU_ HT_ 31 89 m32_36 (h := ?_); refine TA_ HT_ HW_ 32 90 hHeld m32_37 (h := ?_); refine PU_ HT_ 34 92 m32_38 (h := ?_); refine TA_ HT_ HW_ 38 96 hHeld m32_39 (h := ?_)
                   refine one_ (i := 39) (N := some 97) m32_40 rfl rfl (one_of HT_.out (by kernel_rfl)) (by decide) (fun K hK => ?_)
                   refine goes_ Try.func16 (by kernel_rfl) rfl #[.slice A416_0 y417.length c416_0, .slice A405_0 (rd_L1 l0 x10_2).length c405_0] (by rfl) rfl rfl (by (try simp only [List.map_toArray, List.map_cons, List.map_nil]); first | done | rfl | (simp only [List.length_drop, List.length_take]; rfl)) ?_
                   with_reducible refine (lockstepref02_Ints.calls k2 _ _ y417 _ _ (rd_L1 l0 x10_2) true _ ?side1 ?side2 ?side3 ?side4 A54.out).mono ?_
                   (case side1 => repeat (first | exact (by repeat (first | (with_reducible exact HR420.out) | (with_reducible refine Kd.C_alloc ?_ _) | (with_reducible refine Kd.C_drewN ?_ _) | (with_reducible refine Kd.C_drew ?_) | exact HR420.out)) | (with_reducible refine Kd.C_alloc ?_ _) | (with_reducible refine Kd.C_drewN ?_ _) | (with_reducible refine Kd.C_drew ?_)))
                   (case side2 => exact HC420.out)
                   (case side3 => exact CX_ (Kd.C_below HR421_0.out HB.out))
                   (case side4 => exact HC421_0.out)
                   rintro e w' ⟨rfl, ⟨nd, rfl⟩⟩
                   refine ⟨_, rfl, ?_⟩
                   refine hK.out _ _ ⟨(blk_cell BK397.out 0).trans rfl, (blk_cell BK397.out 1).trans rfl, ((HB.out.cell (World.block_lt_of_cell? w _ hw405_0)).trans hw405_0), ((HB.out.cell (World.block_lt_of_cell? w _ hw406_0)).trans hw406_0), hHeld.2.2.2.2.1, ((HB.out.cell (World.block_lt_of_cell? w _ hw421_0)).trans hw421_0), hHeld.2.2.2.2.2.2⟩ (fun hHeld => ?_)
                   clear hK K
                   refine norm_ (a' := ?_) ?_ ?_
                   rotate_left
                   ·show Act.put _ (some 97) _ = _
                    simp only [Act.put, List.setIfInBounds_toArray, List.set_cons_zero, List.set_cons_succ, i64_w, i32_w]
                    rfl
                   refine PU_ HT_ 40 98 m32_41 (h := ?_); refine PU_ HT_ 41 99 m32_42 (h := ?_); refine PU_ HT_ 42 100 m32_43 (h := ?_); refine PU_ HT_ 43 101 m32_44 (h := ?_); refine PU_ HT_ 44 102 m32_45 (h := ?_); refine PU_ HT_ 46 104 m32_46 (h := ?_); refine PU_ HT_ 50 108 m32_47 (h := ?_); refine PU_ HT_ 51 109 m32_48 (h := ?_); refine TA_ HT_ HW_ 45 103 hHeld m32_49 (h := ?_); refine PU_ HT_ 47 105 m32_50 (h := ?_); refine TA_ HT_ HW_ 48 106 hHeld m32_51 (h := ?_); refine PU_ HT_ 49 107 m32_52 (h := ?_); refine PU_ HT_ 52 110 m32_53 (h := ?_); refine PU_ HT_ 53 111 m32_54 (h := ?_); refine PU_ HT_ 54 112 m32_55 (h := ?_)
                   refine done_ (done_of HT_.out (by kernel_rfl)) ?_
                   try go_wp2
                   go_meet
                   case rel => exact ⟨_, ((true != (((rd_L1 t390 x10_2).length : Int) == (wrap64 (((rd_L1 l0 x10_2).length : Int) + 1))))), (by first | rfl | exact congrArg (fun b => Ending.returned (Value.bool b)) HR_.out | (simp; done) | (simp [*]; done)), H', ⟨by have := HJ3.out; have := HK2.out; first | omega | exact Nat.le_refl _⟩, ⟨by exact RM_ HO_8.out⟩, ⟨by exact SM_ HO_390000.out⟩, ⟨by exact SM_ HO_390001.out⟩, ⟨by exact SM_ HO_398000.out⟩, ⟨by exact SM_ HO_398001.out⟩, ⟨by exact KX_ BK389.out⟩, ⟨by exact KX_ BK397.out⟩, ⟨by repeat (first | (with_reducible exact HR402_0.out) | (with_reducible refine Kd.C_alloc ?_ _) | (with_reducible refine Kd.C_drewN ?_ _) | (with_reducible refine Kd.C_drew ?_) | exact HR402_0.out)⟩, ⟨B1_⟩⟩
                 replace c55 := Bool.eq_false_iff.mpr c55
                 subst c55
                 have H1 : (locksteplaw08_PdomEnds.j2 k2 l0 (l0.length : Int) t398 x9_2 x10_2 true ((rd_L1 l0 x10_2).length : Int) true t390 t393) = some true := by rw [if_neg (show ¬ (false = true) by decide)] at H; exact H
                 clear H
                 have H := H1
                 clear H1
                 have H' := Aside0.mk H
                 clear H
                 try go_wp2
                 have n0_ := Aside0.mk (Kd.R_drew HO_8.out)
                 have n1_ := Aside0.mk (Kd.S_drew HO_390000.out)
                 have n2_ := Aside0.mk (Kd.S_drew HO_390001.out)
                 have n3_ := Aside0.mk (Kd.S_drew HO_398000.out)
                 have n4_ := Aside0.mk (Kd.S_drew HO_398001.out)
                 have n5_ := Aside0.mk (Kd.R_drew HL402_0.out)
                 have n6_ := Aside0.mk (blk_drew BK389.out)
                 have n7_ := Aside0.mk (blk_drew BK397.out)
                 have n8_ := Aside0.mk (Kd.C_drew HR402_0.out)
                 have n9_ := Aside0.mk (below_drew1 HB.out)
                 clear HO_8
                 clear HO_390000
                 clear HO_390001
                 clear HO_398000
                 clear HO_398001
                 clear HL402_0
                 clear BK389
                 clear BK397
                 clear HR402_0
                 clear HB
                 have HO_8 := n0_
                 have HO_390000 := n1_
                 have HO_390001 := n2_
                 have HO_398000 := n3_
                 have HO_398001 := n4_
                 have HL402_0 := n5_
                 have BK389 := n6_
                 have BK397 := n7_
                 have HR402_0 := n8_
                 have HB := n9_
                 clear n0_ n1_ n2_ n3_ n4_ n5_ n6_ n7_ n8_ n9_
                 have p405 : 0 ≤ (x10_2 : Int) := D_
                 have q405 : x10_2 < (l0.length : Int) := D_
                 obtain ⟨ad405, A405_0, c405_0, e405, hx405_0, hl405_0, hi405_0⟩ := at_L1 HR0.out x10_2 p405 q405
                 have hw405_0 := hx405_0
                 obtain rfl : ad404 = ad405 := (by injection e405)
                 replace hx405_0 := (HB.out.cell (World.block_lt_of_cell? w _ hx405_0)).trans hx405_0
                 have HR405_0 := Aside0.mk hi405_0
                 have HC405_0 := Aside0.mk hl405_0
                 clear hi405_0 hl405_0
                 replace p405 := eq_true p405
                 replace q405 := eq_true q405
                 have p406 : 0 ≤ (x10_2 : Int) := D_
                 have q406 : x10_2 < (l0.length : Int) := D_
                 obtain ⟨ad406, A406_0, c406_0, e406, hx406_0, hl406_0, hi406_0⟩ := at_L1 HR0.out x10_2 p406 q406
                 have hw406_0 := hx406_0
                 obtain rfl : ad404 = ad406 := (by injection e406)
                 replace hx406_0 := (HB.out.cell (World.block_lt_of_cell? w _ hx406_0)).trans hx406_0
                 have HR406_0 := Aside0.mk hi406_0
                 have HC406_0 := Aside0.mk hl406_0
                 clear hi406_0 hl406_0
                 replace p406 := eq_true p406
                 replace q406 := eq_true q406
                 have ea_ := Option.some.inj (hx405_0.symm.trans hx406_0)
                 injection ea_ with ea_ en_ ec_
                 subst ea_
                 subst ec_
                 clear en_
                 have p416 : 0 ≤ (x10_2 : Int) := D_
                 have q416 : x10_2 < (t390.length : Int) := D_
                 obtain ⟨ad416, A416_0, c416_0, e416, hx416_0, hl416_0, hi416_0⟩ := at_L1 (Kd.S_reads' HO_398000.out).2.2 x10_2 p416 q416
                 obtain rfl : ad402 = ad416 := (by injection e416)
                 obtain ⟨ce416, hce416, hMe416, hcc416⟩ := Kd.S_get HO_398000.out [] x10_2 p416 (by first | exact q416 | exact D_ | (have e_ := (Kd.S_reads' HO_398000.out).1; omega))
                 obtain ⟨ve416_0, rfl, ge416_0⟩ := hMe416
                 have hv416_0 := hcc416 0 _ rfl
                 rw [Nat.add_zero, show ((Kd.slice 3 (Kd.int .i64))).sz = 1 from rfl, Nat.mul_one] at hv416_0
                 replace hv416_0 := Option.some.inj (hv416_0.symm.trans hx416_0)
                 rw [hv416_0] at ge416_0
                 have HL416_0 := Aside0.mk (show Kd.R (Kd.int .i64) 3 _ _ _ _ (rd_L1 t390 x10_2) from ge416_0)
                 clear hv416_0 ge416_0
                 clear hcc416 hce416
                 have HR416_0 := Aside0.mk hi416_0
                 have HC416_0 := Aside0.mk hl416_0
                 clear hi416_0 hl416_0
                 replace p416 := eq_true p416
                 replace q416 := eq_true q416
                 have q59 : (((rd_L1 l0 x10_2).length : Int) : Int) ≤ (((rd_L1 t390 x10_2).length : Int) : Int) := D_
                 obtain ⟨i059, hi059, _, hsz59, _⟩ := info_parts info3
                 have hroom59 : (rd_L1 t390 x10_2).length ≤ c416_0 := HC416_0.out
                 have hC59 : Kd.C (Kd.int .i64) _ A416_0 (rd_L1 t390 x10_2).length (rd_L1 t390 x10_2) := (by repeat (first | (with_reducible exact HR416_0.out) | (with_reducible refine Kd.C_alloc ?_ _) | (with_reducible refine Kd.C_drewN ?_ _) | (with_reducible refine Kd.C_drew ?_) | exact HR416_0.out))
                 have hcut59 := cut_to (P := Try.prog) 30 3 .i64 Try.underlying30 hi059 A416_0 (rd_L1 t390 x10_2).length c416_0 ((rd_L1 l0 x10_2).length : Int) (D_) q59 hroom59
                 have hr59 := Kd.C_take (m := (((rd_L1 l0 x10_2).length : Int) : Int).toNat) hC59 (by omega)
                 have hy59 : y417.length = (((rd_L1 l0 x10_2).length : Int) : Int).toNat := (by rw [Ny417.out, List.length_take]; omega)
                 rw [← Ny417.out] at hr59
                 rw [← hy59] at hcut59
                 have HR420 := Aside0.mk hr59
                 have HC420 := Aside0.mk (show y417.length ≤ c416_0 from by omega)
                 clear hr59 hC59 hroom59 hi059 hsz59
                 have KY59 := Aside0.mk hy59
                 clear hy59
                 replace q59 := eq_true q59
                 have p421 : 0 ≤ (x10_2 : Int) := D_
                 have q421 : x10_2 < (l0.length : Int) := D_
                 obtain ⟨ad421, A421_0, c421_0, e421, hx421_0, hl421_0, hi421_0⟩ := at_L1 HR0.out x10_2 p421 q421
                 have hw421_0 := hx421_0
                 obtain rfl : ad404 = ad421 := (by injection e421)
                 replace hx421_0 := (HB.out.cell (World.block_lt_of_cell? w _ hx421_0)).trans hx421_0
                 have HR421_0 := Aside0.mk hi421_0
                 have HC421_0 := Aside0.mk hl421_0
                 clear hi421_0 hl421_0
                 replace p421 := eq_true p421
                 replace q421 := eq_true q421
                 have ea_ := Option.some.inj (hx405_0.symm.trans hx421_0)
                 injection ea_ with ea_ en_ ec_
                 subst ea_
                 subst ec_
                 clear en_
                 as_aux_lemma =>
                  refine start_ (n := 55) (S := fun w' => w'.cell? ⟨gb397, 0, none⟩ = some (.slice (some ad402) t390.length co21) ∧ w'.cell? ⟨gb397, 1, none⟩ = some (.slice Ao24 t393.length co24) ∧ w'.cell? (ad404.add (x10_2).toNat) = some (.slice A405_0 (rd_L1 l0 x10_2).length c405_0) ∧ w'.cell? (ad404.add (x10_2).toNat) = some (.slice A405_0 (rd_L1 l0 x10_2).length c405_0) ∧ w'.cell? (ad402.add (x10_2).toNat) = some (.slice A416_0 (rd_L1 t390 x10_2).length c416_0) ∧ w'.cell? (ad404.add (x10_2).toNat) = some (.slice A405_0 (rd_L1 l0 x10_2).length c405_0)) (ds := []) m32_0 (by kernel_rfl) rfl rfl ⟨(blk_cell BK397.out 0).trans rfl, (blk_cell BK397.out 1).trans rfl, ((HB.out.cell (World.block_lt_of_cell? w _ hw405_0)).trans hw405_0), ((HB.out.cell (World.block_lt_of_cell? w _ hw406_0)).trans hw406_0), hx416_0, ((HB.out.cell (World.block_lt_of_cell? w _ hw421_0)).trans hw421_0)⟩ (fun hHeld => ?_); refine with_tabW locksteplaw08_PdomEnds.tab19 locksteplaw08_PdomEnds.bits19 (fun HT_ HW_ => ?_)
                  generalize wr.drew = w58 at HO_8 HO_390000 HO_390001 HO_398000 HO_398001 HL402_0 BK389 BK397 HR402_0 HB HL416_0 HR405_0 HR406_0 HR416_0 HR420 HR421_0 hx405_0 hx406_0 hx416_0 hx421_0 hHeld ⊢
                  refine PU_ HT_ 0 58 m32_1 (h := ?_); refine PU_ HT_ 1 59 m32_2 (h := ?_); refine PU_ HT_ 2 60 m32_3 (h := ?_); refine TA_ HT_ HW_ 3 61 hHeld m32_4 (h := ?_); refine PU_ HT_ 4 62 m32_5 (h := ?_); refine PU_ HT_ 5 63 m32_6 (h := ?_); refine PU_ HT_ 6 64 m32_7 (h := ?_); refine PU_ HT_ 7 65 m32_8 (h := ?_); refine PU_ HT_ 8 66 m32_9 (h := ?_); refine PU_ HT_ 9 67 m32_10 (h := ?_); refine PU_ HT_ 10 68 m32_11 (h := ?_); refine PU_ HT_ 11 69 m32_12 (h := ?_); refine PU_ HT_ 12 70 m32_13 (h := ?_); refine PU_ HT_ 13 71 m32_14 (h := ?_); refine PU_ HT_ 14 72 m32_15 (h := ?_); refine PU_ HT_ 15 73 m32_16 (h := ?_); refine TA_ HT_ HW_ 16 74 hHeld m32_17 (h := ?_); refine PU_ HT_ 17 75 m32_18 (h := ?_); refine PU_ HT_ 18 76 m32_19 (h := ?_); refine PU_ HT_ 19 77 m32_20 (h := ?_); refine PU_ HT_ 20 78 m32_21 (h := ?_); refine PO_ HT_ 21 79 m32_22 (h := ?_); refine PO_ HT_ 22 80 m32_23 (h := ?_); refine PO_ HT_ 23 81 m32_24 (h := ?_); refine PO_ HT_ 24 82 m32_25 (h := ?_); refine PU_ HT_ 25 83 m32_26 (h := ?_); refine PU_ HT_ 26 84 m32_27 (h := ?_); refine PU_ HT_ 27 85 m32_28 (h := ?_); refine PU_ HT_ 28 86 m32_29 (h := ?_); refine PU_ HT_ 30 88 m32_30 (h := ?_); refine PU_ HT_ 33 91 m32_31 (h := ?_); refine PU_ HT_ 35 93 m32_32 (h := ?_); refine PU_ HT_ 36 94 m32_33 (h := ?_); refine PU_ HT_ 37 95 m32_34 (h := ?_); refine TA_ HT_ HW_ 29 87 hHeld m32_35 (h := ?_); refine PU_ HT_ 31 89 m32_36 (h := ?_); refine TA_ HT_ HW_ 32 90 hHeld m32_37 (h := ?_); refine PU_ HT_ 34 92 m32_38 (h := ?_); refine TA_ HT_ HW_ 38 96 hHeld m32_39 (h := ?_)
                  refine one_ (i := 39) (N := some 97) m32_40 rfl rfl (one_of HT_.out (by kernel_rfl)) (by decide) (fun K hK => ?_)
                  refine goes_ Try.func16 (by kernel_rfl) rfl #[.slice A416_0 y417.length c416_0, .slice A405_0 (rd_L1 l0 x10_2).length c405_0] (by rfl) rfl rfl (by (try simp only [List.map_toArray, List.map_cons, List.map_nil]); first | done | rfl | (simp only [List.length_drop, List.length_take]; rfl)) ?_
                  with_reducible refine (lockstepref02_Ints.calls k2 _ _ y417 _ _ (rd_L1 l0 x10_2) false _ ?side1 ?side2 ?side3 ?side4 A54.out).mono ?_
                  (case side1 => repeat (first | exact (by repeat (first | (with_reducible exact HR420.out) | (with_reducible refine Kd.C_alloc ?_ _) | (with_reducible refine Kd.C_drewN ?_ _) | (with_reducible refine Kd.C_drew ?_) | exact HR420.out)) | (with_reducible refine Kd.C_alloc ?_ _) | (with_reducible refine Kd.C_drewN ?_ _) | (with_reducible refine Kd.C_drew ?_)))
                  (case side2 => exact HC420.out)
                  (case side3 => exact CX_ (Kd.C_below HR421_0.out HB.out))
                  (case side4 => exact HC421_0.out)
                  rintro e w' ⟨rfl, ⟨nd, rfl⟩⟩
                  refine ⟨_, rfl, ?_⟩
                  refine hK.out _ _ ⟨(blk_cell BK397.out 0).trans rfl, (blk_cell BK397.out 1).trans rfl, ((HB.out.cell (World.block_lt_of_cell? w _ hw405_0)).trans hw405_0), ((HB.out.cell (World.block_lt_of_cell? w _ hw406_0)).trans hw406_0), hHeld.2.2.2.2.1, ((HB.out.cell (World.block_lt_of_cell? w _ hw421_0)).trans hw421_0)⟩ (fun hHeld => ?_)
                  clear hK K
                  refine norm_ (a' := ?_) ?_ ?_
                  rotate_left
                  ·show Act.put _ (some 97) _ = _
                   simp only [Act.put, List.setIfInBounds_toArray, List.set_cons_zero, List.set_cons_succ, i64_w, i32_w]
                   rfl
                  refine PU_ HT_ 40 98 m32_41 (h := ?_); refine PU_ HT_ 41 99 m32_42 (h := ?_); refine PU_ HT_ 42 100 m32_43 (h := ?_); refine PO_ HT_ 43 101 m32_44 (h := ?_); refine PO_ HT_ 44 102 m32_45 (h := ?_); refine PO_ HT_ 45 103 m32_56 (h := ?_); refine PO_ HT_ 46 104 m32_57 (h := ?_); refine PO_ HT_ 47 105 m32_58 (h := ?_); refine PO_ HT_ 48 106 m32_59 (h := ?_); refine PO_ HT_ 49 107 m32_60 (h := ?_); refine PO_ HT_ 50 108 m32_61 (h := ?_); refine PO_ HT_ 51 109 m32_52 (h := ?_); refine PO_ HT_ 52 110 m32_53 (h := ?_); refine PO_ HT_ 53 111 m32_54 (h := ?_); refine PU_ HT_ 54 112 m32_55 (h := ?_)
                  refine done_ (done_of HT_.out (by kernel_rfl)) ?_
                  try go_wp2
                  go_meet
                  case rel => exact ⟨_, (true), (by first | rfl | exact congrArg (fun b => Ending.returned (Value.bool b)) HR_.out | (simp; done) | (simp [*]; done)), H', ⟨by have := HJ3.out; have := HK2.out; first | omega | exact Nat.le_refl _⟩, ⟨by exact RM_ HO_8.out⟩, ⟨by exact SM_ HO_390000.out⟩, ⟨by exact SM_ HO_390001.out⟩, ⟨by exact SM_ HO_398000.out⟩, ⟨by exact SM_ HO_398001.out⟩, ⟨by exact KX_ BK389.out⟩, ⟨by exact KX_ BK397.out⟩, ⟨by repeat (first | (with_reducible exact HR402_0.out) | (with_reducible refine Kd.C_alloc ?_ _) | (with_reducible refine Kd.C_drewN ?_ _) | (with_reducible refine Kd.C_drew ?_) | exact HR402_0.out)⟩, ⟨B1_⟩⟩
                rw [if_neg c53] at H
                exact absurd H (by simp)
               rw [if_neg c52] at H
               exact absurd H (by simp)
              replace c36 := Bool.eq_false_iff.mpr c36
              subst c36
              have H1 : (locksteplaw08_PdomEnds.j2 k2 l0 (l0.length : Int) t398 x9_2 x10_2 false ((rd_L1 l0 x10_2).length : Int) true t390 t393) = some true := by rw [if_neg (show ¬ (false = true) by decide)] at H; exact H
              clear H
              have H := H1
              clear H1
              have H' := Aside0.mk H
              clear H
              try go_wp2
              have n0_ := Aside0.mk (Kd.R_drew HO_8.out)
              have n1_ := Aside0.mk (Kd.S_drew HO_390000.out)
              have n2_ := Aside0.mk (Kd.S_drew HO_390001.out)
              have n3_ := Aside0.mk (Kd.S_drew HO_398000.out)
              have n4_ := Aside0.mk (Kd.S_drew HO_398001.out)
              have n5_ := Aside0.mk (Kd.R_drew HL402_0.out)
              have n6_ := Aside0.mk (blk_drew BK389.out)
              have n7_ := Aside0.mk (blk_drew BK397.out)
              have n8_ := Aside0.mk (Kd.C_drew HR402_0.out)
              have n9_ := Aside0.mk (below_drew1 HB.out)
              clear HO_8
              clear HO_390000
              clear HO_390001
              clear HO_398000
              clear HO_398001
              clear HL402_0
              clear BK389
              clear BK397
              clear HR402_0
              clear HB
              have HO_8 := n0_
              have HO_390000 := n1_
              have HO_390001 := n2_
              have HO_398000 := n3_
              have HO_398001 := n4_
              have HL402_0 := n5_
              have BK389 := n6_
              have BK397 := n7_
              have HR402_0 := n8_
              have HB := n9_
              clear n0_ n1_ n2_ n3_ n4_ n5_ n6_ n7_ n8_ n9_
              have p405 : 0 ≤ (x10_2 : Int) := D_
              have q405 : x10_2 < (l0.length : Int) := D_
              obtain ⟨ad405, A405_0, c405_0, e405, hx405_0, hl405_0, hi405_0⟩ := at_L1 HR0.out x10_2 p405 q405
              have hw405_0 := hx405_0
              obtain rfl : ad404 = ad405 := (by injection e405)
              replace hx405_0 := (HB.out.cell (World.block_lt_of_cell? w _ hx405_0)).trans hx405_0
              have HR405_0 := Aside0.mk hi405_0
              have HC405_0 := Aside0.mk hl405_0
              clear hi405_0 hl405_0
              replace p405 := eq_true p405
              replace q405 := eq_true q405
              as_aux_lemma =>
               refine start_ (n := 55) (S := fun w' => w'.cell? (ad404.add (x10_2).toNat) = some (.slice A405_0 (rd_L1 l0 x10_2).length c405_0)) (ds := []) m32_0 (by kernel_rfl) rfl rfl (((HB.out.cell (World.block_lt_of_cell? w _ hw405_0)).trans hw405_0)) (fun hHeld => ?_); refine with_tabW locksteplaw08_PdomEnds.tab19 locksteplaw08_PdomEnds.bits19 (fun HT_ HW_ => ?_)
               generalize wr.drew = w60 at HO_8 HO_390000 HO_390001 HO_398000 HO_398001 HL402_0 BK389 BK397 HR402_0 HB HR405_0 hx405_0 hHeld ⊢
               refine PU_ HT_ 0 58 m32_1 (h := ?_); refine PU_ HT_ 1 59 m32_2 (h := ?_); refine PU_ HT_ 2 60 m32_3 (h := ?_); refine TA_ HT_ HW_ 3 61 hHeld m32_4 (h := ?_); refine PU_ HT_ 4 62 m32_5 (h := ?_); refine PU_ HT_ 5 63 m32_6 (h := ?_); refine PU_ HT_ 6 64 m32_7 (h := ?_); refine PU_ HT_ 7 65 m32_8 (h := ?_); refine PU_ HT_ 8 66 m32_9 (h := ?_); refine PU_ HT_ 9 67 m32_10 (h := ?_); refine PU_ HT_ 10 68 m32_11 (h := ?_); refine PO_ HT_ 11 69 m32_12 (h := ?_); refine PO_ HT_ 12 70 m32_13 (h := ?_); refine PO_ HT_ 13 71 m32_14 (h := ?_); refine PO_ HT_ 14 72 m32_15 (h := ?_); refine PO_ HT_ 15 73 m32_16 (h := ?_); refine PO_ HT_ 16 74 m32_17 (h := ?_); refine PO_ HT_ 17 75 m32_18 (h := ?_); refine PO_ HT_ 18 76 m32_19 (h := ?_); refine PO_ HT_ 19 77 m32_20 (h := ?_); refine PO_ HT_ 20 78 m32_21 (h := ?_); refine PO_ HT_ 21 79 m32_22 (h := ?_); refine PO_ HT_ 22 80 m32_23 (h := ?_); refine PO_ HT_ 23 81 m32_24 (h := ?_); refine PO_ HT_ 24 82 m32_25 (h := ?_); refine PO_ HT_ 25 83 m32_26 (h := ?_); refine PU_ HT_ 26 84 m32_27 (h := ?_); refine PU_ HT_ 27 85 m32_28 (h := ?_); refine PO_ HT_ 28 86 m32_29 (h := ?_); refine PO_ HT_ 29 87 m32_62 (h := ?_); refine PO_ HT_ 30 88 m32_63 (h := ?_); refine PO_ HT_ 31 89 m32_64 (h := ?_); refine PO_ HT_ 32 90 m32_65 (h := ?_); refine PO_ HT_ 33 91 m32_66 (h := ?_); refine PO_ HT_ 34 92 m32_67 (h := ?_); refine PO_ HT_ 35 93 m32_68 (h := ?_); refine PO_ HT_ 36 94 m32_69 (h := ?_); refine PO_ HT_ 37 95 m32_38 (h := ?_); refine PO_ HT_ 38 96 m32_39 (h := ?_); refine PO_ HT_ 39 97 m32_40 (h := ?_); refine PO_ HT_ 40 98 m32_41 (h := ?_); refine PU_ HT_ 41 99 m32_42 (h := ?_); refine PU_ HT_ 42 100 m32_43 (h := ?_); refine PO_ HT_ 43 101 m32_44 (h := ?_); refine PO_ HT_ 44 102 m32_45 (h := ?_); refine PO_ HT_ 45 103 m32_56 (h := ?_); refine PO_ HT_ 46 104 m32_57 (h := ?_); refine PO_ HT_ 47 105 m32_58 (h := ?_); refine PO_ HT_ 48 106 m32_59 (h := ?_); refine PO_ HT_ 49 107 m32_60 (h := ?_); refine PO_ HT_ 50 108 m32_61 (h := ?_); refine PO_ HT_ 51 109 m32_52 (h := ?_); refine PO_ HT_ 52 110 m32_53 (h := ?_); refine PO_ HT_ 53 111 m32_54 (h := ?_); refine PU_ HT_ 54 112 m32_55 (h := ?_)
               refine done_ (done_of HT_.out (by kernel_rfl)) ?_
               try go_wp2
               go_meet
               case rel => exact ⟨_, (true), (by first | rfl | exact congrArg (fun b => Ending.returned (Value.bool b)) HR_.out | (simp; done) | (simp [*]; done)), H', ⟨by have := HJ3.out; have := HK2.out; first | omega | exact Nat.le_refl _⟩, ⟨by exact RM_ HO_8.out⟩, ⟨by exact SM_ HO_390000.out⟩, ⟨by exact SM_ HO_390001.out⟩, ⟨by exact SM_ HO_398000.out⟩, ⟨by exact SM_ HO_398001.out⟩, ⟨by exact KX_ BK389.out⟩, ⟨by exact KX_ BK397.out⟩, ⟨by repeat (first | (with_reducible exact HR402_0.out) | (with_reducible refine Kd.C_alloc ?_ _) | (with_reducible refine Kd.C_drewN ?_ _) | (with_reducible refine Kd.C_drew ?_) | exact HR402_0.out)⟩, ⟨B1_⟩⟩
             rw [if_neg c35] at H
             have c35b0 : (((rd_L1 l0 x10_2).length : Int) == 0) = false := beq_eq_false_iff_ne.mpr c35
             have c35b1 : (((rd_L1 l0 x10_2).length : Int) != 0) = true := bne_iff_ne.mpr c35
             have c35b2 : ¬ ((rd_L1 l0 x10_2) = []) := fun h_ => c35 (by rw [h_]; rfl)
             (first | rw [c35b0] | (simp only [i64_w, i32_w]; rw [c35b0]) | skip)
             by_cases c61 : t403 = true
             ·subst c61
              have H1 : (if ((rd_L1 l0 x10_2).length : Int) > 0 then ((lockstepref06_Has.f k2 t398 x10_2).bind fun t425 => (if t425 = true then (if 0 ≤ ((rd_L1 l0 x10_2).length : Int) then (if ((rd_L1 l0 x10_2).length : Int) ≤ ((rd_L1 t390 x10_2).length : Int) then ((lockstepref02_Ints.f k2 ((rd_L1 t390 x10_2).take (((rd_L1 l0 x10_2).length : Int) : Int).toNat) (rd_L1 l0 x10_2)).bind fun t432 => (if t432 = true then (locksteplaw08_PdomEnds.j2 k2 l0 (l0.length : Int) t398 x9_2 x10_2 true ((rd_L1 l0 x10_2).length : Int) (true != (((rd_L1 t390 x10_2).length : Int) == (wrap64 (((rd_L1 l0 x10_2).length : Int) + 1)))) t390 t393) else (locksteplaw08_PdomEnds.j2 k2 l0 (l0.length : Int) t398 x9_2 x10_2 true ((rd_L1 l0 x10_2).length : Int) true t390 t393))) else (none)) else (none)) else (locksteplaw08_PdomEnds.j2 k2 l0 (l0.length : Int) t398 x9_2 x10_2 true ((rd_L1 l0 x10_2).length : Int) true t390 t393))) else (if 0 ≤ ((rd_L1 l0 x10_2).length : Int) then (if ((rd_L1 l0 x10_2).length : Int) ≤ ((rd_L1 t390 x10_2).length : Int) then ((lockstepref02_Ints.f k2 ((rd_L1 t390 x10_2).take (((rd_L1 l0 x10_2).length : Int) : Int).toNat) (rd_L1 l0 x10_2)).bind fun t440 => (if t440 = true then (locksteplaw08_PdomEnds.j2 k2 l0 (l0.length : Int) t398 x9_2 x10_2 true ((rd_L1 l0 x10_2).length : Int) (true != (((rd_L1 t390 x10_2).length : Int) == (wrap64 (((rd_L1 l0 x10_2).length : Int) + 1)))) t390 t393) else (locksteplaw08_PdomEnds.j2 k2 l0 (l0.length : Int) t398 x9_2 x10_2 true ((rd_L1 l0 x10_2).length : Int) true t390 t393))) else (none)) else (none))) = some true := by rw [if_pos rfl] at H; exact H
              clear H
              have H := H1
              clear H1
              by_cases c62 : ((rd_L1 l0 x10_2).length : Int) > 0
              ·rw [if_pos c62] at H
               have c62b0 : decide (0 < ((rd_L1 l0 x10_2).length : Int)) = true := decide_eq_true c62
               have c62b1 : decide (0 < (rd_L1 l0 x10_2).length) = true := decide_eq_true (by omega)
               clear c62
               replace H := Option.bind_eq_some_iff.mp H
               obtain ⟨t425, A630, H⟩ := H
               replace H : (if t425 = true then (if 0 ≤ ((rd_L1 l0 x10_2).length : Int) then (if ((rd_L1 l0 x10_2).length : Int) ≤ ((rd_L1 t390 x10_2).length : Int) then ((lockstepref02_Ints.f k2 ((rd_L1 t390 x10_2).take (((rd_L1 l0 x10_2).length : Int) : Int).toNat) (rd_L1 l0 x10_2)).bind fun t432 => (if t432 = true then (locksteplaw08_PdomEnds.j2 k2 l0 (l0.length : Int) t398 x9_2 x10_2 true ((rd_L1 l0 x10_2).length : Int) (true != (((rd_L1 t390 x10_2).length : Int) == (wrap64 (((rd_L1 l0 x10_2).length : Int) + 1)))) t390 t393) else (locksteplaw08_PdomEnds.j2 k2 l0 (l0.length : Int) t398 x9_2 x10_2 true ((rd_L1 l0 x10_2).length : Int) true t390 t393))) else (none)) else (none)) else (locksteplaw08_PdomEnds.j2 k2 l0 (l0.length : Int) t398 x9_2 x10_2 true ((rd_L1 l0 x10_2).length : Int) true t390 t393)) = some true := H
               have A63 := Aside0.mk A630
               clear A630
               by_cases c64 : t425 = true
               ·subst c64
                have H1 : (if 0 ≤ ((rd_L1 l0 x10_2).length : Int) then (if ((rd_L1 l0 x10_2).length : Int) ≤ ((rd_L1 t390 x10_2).length : Int) then ((lockstepref02_Ints.f k2 ((rd_L1 t390 x10_2).take (((rd_L1 l0 x10_2).length : Int) : Int).toNat) (rd_L1 l0 x10_2)).bind fun t432 => (if t432 = true then (locksteplaw08_PdomEnds.j2 k2 l0 (l0.length : Int) t398 x9_2 x10_2 true ((rd_L1 l0 x10_2).length : Int) (true != (((rd_L1 t390 x10_2).length : Int) == (wrap64 (((rd_L1 l0 x10_2).length : Int) + 1)))) t390 t393) else (locksteplaw08_PdomEnds.j2 k2 l0 (l0.length : Int) t398 x9_2 x10_2 true ((rd_L1 l0 x10_2).length : Int) true t390 t393))) else (none)) else (none)) = some true := by rw [if_pos rfl] at H; exact H
                clear H
                have H := H1
                clear H1
                by_cases c65 : 0 ≤ ((rd_L1 l0 x10_2).length : Int)
                ·rw [if_pos c65] at H
                 have c65b0 := eq_true c65
                 have c65b1 : decide (0 ≤ ((rd_L1 l0 x10_2).length : Int)) = true := decide_eq_true c65
                 clear c65
                 by_cases c66 : ((rd_L1 l0 x10_2).length : Int) ≤ ((rd_L1 t390 x10_2).length : Int)
                 ·rw [if_pos c66] at H
                  have c66b0 := eq_true c66
                  have c66b1 : decide (((rd_L1 l0 x10_2).length : Int) ≤ ((rd_L1 t390 x10_2).length : Int)) = true := decide_eq_true c66
                  clear c66
                  obtain ⟨y427, hy427⟩ : ∃ y_ : List Int, y_ = ((rd_L1 t390 x10_2).take (((rd_L1 l0 x10_2).length : Int) : Int).toNat) := ⟨_, rfl⟩
                  replace H : ((lockstepref02_Ints.f k2 y427 (rd_L1 l0 x10_2)).bind fun t432 => (if t432 = true then (locksteplaw08_PdomEnds.j2 k2 l0 (l0.length : Int) t398 x9_2 x10_2 true ((rd_L1 l0 x10_2).length : Int) (true != (((rd_L1 t390 x10_2).length : Int) == (wrap64 (((rd_L1 l0 x10_2).length : Int) + 1)))) t390 t393) else (locksteplaw08_PdomEnds.j2 k2 l0 (l0.length : Int) t398 x9_2 x10_2 true ((rd_L1 l0 x10_2).length : Int) true t390 t393))) = some true := by first | (rw [hy427]; with_reducible exact H) | (have H2_ := (Option.bind_some _ _).symm.trans H; rw [hy427]; with_reducible exact H2_) | (have H2_ := (Option.bind_some _ _).symm.trans H; with_reducible exact H2_) | with_reducible exact H | (rw [hy427]; exact H) | exact H
                  have Ny427 := Aside0.mk hy427
                  clear hy427
                  replace H := Option.bind_eq_some_iff.mp H
                  obtain ⟨t432, A670, H⟩ := H
                  replace H : (if t432 = true then (locksteplaw08_PdomEnds.j2 k2 l0 (l0.length : Int) t398 x9_2 x10_2 true ((rd_L1 l0 x10_2).length : Int) (true != (((rd_L1 t390 x10_2).length : Int) == (wrap64 (((rd_L1 l0 x10_2).length : Int) + 1)))) t390 t393) else (locksteplaw08_PdomEnds.j2 k2 l0 (l0.length : Int) t398 x9_2 x10_2 true ((rd_L1 l0 x10_2).length : Int) true t390 t393)) = some true := H
                  have A67 := Aside0.mk A670
                  clear A670
                  by_cases c68 : t432 = true
                  ·subst c68
                   have H1 : (locksteplaw08_PdomEnds.j2 k2 l0 (l0.length : Int) t398 x9_2 x10_2 true ((rd_L1 l0 x10_2).length : Int) (true != (((rd_L1 t390 x10_2).length : Int) == (wrap64 (((rd_L1 l0 x10_2).length : Int) + 1)))) t390 t393) = some true := by rw [if_pos rfl] at H; exact H
                   clear H
                   have H := H1
                   clear H1
                   have H' := Aside0.mk H
                   clear H
                   try go_wp2
                   have n0_ := Aside0.mk (Kd.R_drew HO_8.out)
                   have n1_ := Aside0.mk (Kd.S_drew HO_390000.out)
                   have n2_ := Aside0.mk (Kd.S_drew HO_390001.out)
                   have n3_ := Aside0.mk (Kd.S_drew HO_398000.out)
                   have n4_ := Aside0.mk (Kd.S_drew HO_398001.out)
                   have n5_ := Aside0.mk (Kd.R_drew HL402_0.out)
                   have n6_ := Aside0.mk (blk_drew BK389.out)
                   have n7_ := Aside0.mk (blk_drew BK397.out)
                   have n8_ := Aside0.mk (Kd.C_drew HR402_0.out)
                   have n9_ := Aside0.mk (below_drew1 HB.out)
                   clear HO_8
                   clear HO_390000
                   clear HO_390001
                   clear HO_398000
                   clear HO_398001
                   clear HL402_0
                   clear BK389
                   clear BK397
                   clear HR402_0
                   clear HB
                   have HO_8 := n0_
                   have HO_390000 := n1_
                   have HO_390001 := n2_
                   have HO_398000 := n3_
                   have HO_398001 := n4_
                   have HL402_0 := n5_
                   have BK389 := n6_
                   have BK397 := n7_
                   have HR402_0 := n8_
                   have HB := n9_
                   clear n0_ n1_ n2_ n3_ n4_ n5_ n6_ n7_ n8_ n9_
                   have p405 : 0 ≤ (x10_2 : Int) := D_
                   have q405 : x10_2 < (l0.length : Int) := D_
                   obtain ⟨ad405, A405_0, c405_0, e405, hx405_0, hl405_0, hi405_0⟩ := at_L1 HR0.out x10_2 p405 q405
                   have hw405_0 := hx405_0
                   obtain rfl : ad404 = ad405 := (by injection e405)
                   replace hx405_0 := (HB.out.cell (World.block_lt_of_cell? w _ hx405_0)).trans hx405_0
                   have HR405_0 := Aside0.mk hi405_0
                   have HC405_0 := Aside0.mk hl405_0
                   clear hi405_0 hl405_0
                   replace p405 := eq_true p405
                   replace q405 := eq_true q405
                   have p424 : 0 ≤ (x10_2 : Int) := D_
                   have q424 : x10_2 < (l0.length : Int) := D_
                   obtain ⟨ad424, A424_0, c424_0, e424, hx424_0, hl424_0, hi424_0⟩ := at_L1 HR0.out x10_2 p424 q424
                   have hw424_0 := hx424_0
                   obtain rfl : ad404 = ad424 := (by injection e424)
                   replace hx424_0 := (HB.out.cell (World.block_lt_of_cell? w _ hx424_0)).trans hx424_0
                   have HR424_0 := Aside0.mk hi424_0
                   have HC424_0 := Aside0.mk hl424_0
                   clear hi424_0 hl424_0
                   replace p424 := eq_true p424
                   replace q424 := eq_true q424
                   have ea_ := Option.some.inj (hx405_0.symm.trans hx424_0)
                   injection ea_ with ea_ en_ ec_
                   subst ea_
                   subst ec_
                   clear en_
                   obtain ⟨Ao70, co70, eo70⟩ := Kd.R_slice HO_8.out
                   (first | subst eo70 | (injection eo70 with f1_ f2_ f3_; have f4_ := f1_.symm; have f5_ := f3_.symm; clear f1_ f2_ f3_; subst f4_; subst f5_))
                   have p426 : 0 ≤ (x10_2 : Int) := D_
                   have q426 : x10_2 < (t390.length : Int) := D_
                   obtain ⟨ad426, A426_0, c426_0, e426, hx426_0, hl426_0, hi426_0⟩ := at_L1 (Kd.S_reads' HO_398000.out).2.2 x10_2 p426 q426
                   obtain rfl : ad402 = ad426 := (by injection e426)
                   obtain ⟨ce426, hce426, hMe426, hcc426⟩ := Kd.S_get HO_398000.out [] x10_2 p426 (by first | exact q426 | exact D_ | (have e_ := (Kd.S_reads' HO_398000.out).1; omega))
                   obtain ⟨ve426_0, rfl, ge426_0⟩ := hMe426
                   have hv426_0 := hcc426 0 _ rfl
                   rw [Nat.add_zero, show ((Kd.slice 3 (Kd.int .i64))).sz = 1 from rfl, Nat.mul_one] at hv426_0
                   replace hv426_0 := Option.some.inj (hv426_0.symm.trans hx426_0)
                   rw [hv426_0] at ge426_0
                   have HL426_0 := Aside0.mk (show Kd.R (Kd.int .i64) 3 _ _ _ _ (rd_L1 t390 x10_2) from ge426_0)
                   clear hv426_0 ge426_0
                   clear hcc426 hce426
                   have HR426_0 := Aside0.mk hi426_0
                   have HC426_0 := Aside0.mk hl426_0
                   clear hi426_0 hl426_0
                   replace p426 := eq_true p426
                   replace q426 := eq_true q426
                   have p431 : 0 ≤ (x10_2 : Int) := D_
                   have q431 : x10_2 < (l0.length : Int) := D_
                   obtain ⟨ad431, A431_0, c431_0, e431, hx431_0, hl431_0, hi431_0⟩ := at_L1 HR0.out x10_2 p431 q431
                   have hw431_0 := hx431_0
                   obtain rfl : ad404 = ad431 := (by injection e431)
                   replace hx431_0 := (HB.out.cell (World.block_lt_of_cell? w _ hx431_0)).trans hx431_0
                   have HR431_0 := Aside0.mk hi431_0
                   have HC431_0 := Aside0.mk hl431_0
                   clear hi431_0 hl431_0
                   replace p431 := eq_true p431
                   replace q431 := eq_true q431
                   have ea_ := Option.some.inj (hx405_0.symm.trans hx431_0)
                   injection ea_ with ea_ en_ ec_
                   subst ea_
                   subst ec_
                   clear en_
                   have p433 : 0 ≤ (x10_2 : Int) := D_
                   have q433 : x10_2 < (t390.length : Int) := D_
                   obtain ⟨ad433, A433_0, c433_0, e433, hx433_0, hl433_0, hi433_0⟩ := at_L1 (Kd.S_reads' HO_398000.out).2.2 x10_2 p433 q433
                   obtain rfl : ad402 = ad433 := (by injection e433)
                   obtain ⟨ce433, hce433, hMe433, hcc433⟩ := Kd.S_get HO_398000.out [] x10_2 p433 (by first | exact q433 | exact D_ | (have e_ := (Kd.S_reads' HO_398000.out).1; omega))
                   obtain ⟨ve433_0, rfl, ge433_0⟩ := hMe433
                   have hv433_0 := hcc433 0 _ rfl
                   rw [Nat.add_zero, show ((Kd.slice 3 (Kd.int .i64))).sz = 1 from rfl, Nat.mul_one] at hv433_0
                   replace hv433_0 := Option.some.inj (hv433_0.symm.trans hx433_0)
                   rw [hv433_0] at ge433_0
                   have HL433_0 := Aside0.mk (show Kd.R (Kd.int .i64) 3 _ _ _ _ (rd_L1 t390 x10_2) from ge433_0)
                   clear hv433_0 ge433_0
                   clear hcc433 hce433
                   have HR433_0 := Aside0.mk hi433_0
                   have HC433_0 := Aside0.mk hl433_0
                   clear hi433_0 hl433_0
                   replace p433 := eq_true p433
                   replace q433 := eq_true q433
                   have ea_ := Option.some.inj (hx426_0.symm.trans hx433_0)
                   injection ea_ with ea_ en_ ec_
                   subst ea_
                   subst ec_
                   clear en_
                   as_aux_lemma =>
                    refine start_ (n := 55) (S := fun w' => w'.cell? ⟨gb397, 0, none⟩ = some (.slice (some ad402) t390.length co21) ∧ w'.cell? ⟨gb397, 1, none⟩ = some (.slice Ao24 t393.length co24) ∧ w'.cell? (ad404.add (x10_2).toNat) = some (.slice A405_0 (rd_L1 l0 x10_2).length c405_0) ∧ w'.cell? (ad404.add (x10_2).toNat) = some (.slice A405_0 (rd_L1 l0 x10_2).length c405_0) ∧ w'.cell? (ad402.add (x10_2).toNat) = some (.slice A426_0 (rd_L1 t390 x10_2).length c426_0) ∧ w'.cell? (ad404.add (x10_2).toNat) = some (.slice A405_0 (rd_L1 l0 x10_2).length c405_0) ∧ w'.cell? (ad402.add (x10_2).toNat) = some (.slice A426_0 (rd_L1 t390 x10_2).length c426_0)) (ds := []) m32_0 (by kernel_rfl) rfl rfl ⟨(blk_cell BK397.out 0).trans rfl, (blk_cell BK397.out 1).trans rfl, ((HB.out.cell (World.block_lt_of_cell? w _ hw405_0)).trans hw405_0), ((HB.out.cell (World.block_lt_of_cell? w _ hw424_0)).trans hw424_0), hx426_0, ((HB.out.cell (World.block_lt_of_cell? w _ hw431_0)).trans hw431_0), hx433_0⟩ (fun hHeld => ?_); refine with_tabW locksteplaw08_PdomEnds.tab19 locksteplaw08_PdomEnds.bits19 (fun HT_ HW_ => ?_)
                    generalize wr.drew = w69 at HO_8 HO_390000 HO_390001 HO_398000 HO_398001 HL402_0 BK389 BK397 HR402_0 HB HL426_0 HL433_0 HR405_0 HR424_0 HR426_0 HR431_0 HR433_0 hx405_0 hx424_0 hx426_0 hx431_0 hx433_0 hHeld ⊢
                    refine PU_ HT_ 0 58 m32_1 (h := ?_); refine PU_ HT_ 1 59 m32_2 (h := ?_); refine PU_ HT_ 2 60 m32_3 (h := ?_); refine TA_ HT_ HW_ 3 61 hHeld m32_4 (h := ?_); refine PU_ HT_ 4 62 m32_5 (h := ?_); refine PU_ HT_ 5 63 m32_6 (h := ?_); refine PU_ HT_ 6 64 m32_7 (h := ?_); refine PO_ HT_ 7 65 m32_8 (h := ?_); refine PO_ HT_ 8 66 m32_9 (h := ?_); refine PU_ HT_ 9 67 m32_10 (h := ?_); refine PU_ HT_ 10 68 m32_11 (h := ?_); refine PU_ HT_ 11 69 m32_12 (h := ?_); refine PU_ HT_ 12 70 m32_13 (h := ?_); refine PU_ HT_ 13 71 m32_14 (h := ?_); refine PU_ HT_ 14 72 m32_15 (h := ?_); refine PU_ HT_ 15 73 m32_16 (h := ?_); refine TA_ HT_ HW_ 16 74 hHeld m32_17 (h := ?_); refine PU_ HT_ 17 75 m32_18 (h := ?_); refine PU_ HT_ 18 76 m32_19 (h := ?_); refine PU_ HT_ 19 77 m32_20 (h := ?_); refine PU_ HT_ 20 78 m32_21 (h := ?_); refine PU_ HT_ 21 79 m32_22 (h := ?_); refine PU_ HT_ 22 80 m32_23 (h := ?_)
                    refine one_ (i := 23) (N := some 81) m32_24 rfl rfl (one_of HT_.out (by kernel_rfl)) (by decide) (fun K hK => ?_)
                    refine goes_ Try.func15 (by kernel_rfl) rfl #[.slice Ao70 t398.length co70, .int .i64 x10_2] (by rfl) rfl rfl (by (try simp only [List.map_toArray, List.map_cons, List.map_nil]); first | done | rfl | (simp only [List.length_drop, List.length_take]; rfl)) ?_
                    with_reducible refine (lockstepref06_Has.calls k2 _ _ t398 x10_2 true _ ?side1 ?side2 A63.out).mono ?_
                    (case side1 => repeat (first | exact (Kd.R_reads' HO_8.out).2.2 | (with_reducible refine Kd.C_alloc ?_ _) | (with_reducible refine Kd.C_drewN ?_ _) | (with_reducible refine Kd.C_drew ?_)))
                    (case side2 => exact (Kd.R_reads' HO_8.out).2.1)
                    rintro e w' ⟨rfl, ⟨nd, rfl⟩⟩
                    refine ⟨_, rfl, ?_⟩
                    have q71 : (((rd_L1 l0 x10_2).length : Int) : Int) ≤ (((rd_L1 t390 x10_2).length : Int) : Int) := D_
                    obtain ⟨i071, hi071, _, hsz71, _⟩ := info_parts info3
                    have hroom71 : (rd_L1 t390 x10_2).length ≤ c426_0 := HC426_0.out
                    have hC71 : Kd.C (Kd.int .i64) _ A426_0 (rd_L1 t390 x10_2).length (rd_L1 t390 x10_2) := (by repeat (first | (with_reducible exact HR426_0.out) | (with_reducible refine Kd.C_alloc ?_ _) | (with_reducible refine Kd.C_drewN ?_ _) | (with_reducible refine Kd.C_drew ?_) | exact HR426_0.out))
                    have hcut71 := cut_to (P := Try.prog) 30 3 .i64 Try.underlying30 hi071 A426_0 (rd_L1 t390 x10_2).length c426_0 ((rd_L1 l0 x10_2).length : Int) (D_) q71 hroom71
                    have hr71 := Kd.C_take (m := (((rd_L1 l0 x10_2).length : Int) : Int).toNat) hC71 (by omega)
                    have hy71 : y427.length = (((rd_L1 l0 x10_2).length : Int) : Int).toNat := (by rw [Ny427.out, List.length_take]; omega)
                    rw [← Ny427.out] at hr71
                    rw [← hy71] at hcut71
                    have HR430 := Aside0.mk hr71
                    have HC430 := Aside0.mk (show y427.length ≤ c426_0 from by omega)
                    clear hr71 hC71 hroom71 hi071 hsz71
                    have KY71 := Aside0.mk hy71
                    clear hy71
                    replace q71 := eq_true q71
                    refine hK.out _ _ ⟨(blk_cell BK397.out 0).trans rfl, (blk_cell BK397.out 1).trans rfl, ((HB.out.cell (World.block_lt_of_cell? w _ hw405_0)).trans hw405_0), ((HB.out.cell (World.block_lt_of_cell? w _ hw424_0)).trans hw424_0), hHeld.2.2.2.2.1, ((HB.out.cell (World.block_lt_of_cell? w _ hw431_0)).trans hw431_0), hHeld.2.2.2.2.2.2⟩ (fun hHeld => ?_)
                    clear hK K
                    refine norm_ (a' := ?_) ?_ ?_
                    rotate_left
                    ·show Act.put _ (some 81) _ = _
                     simp only [Act.put, List.setIfInBounds_toArray, List.set_cons_zero, List.set_cons_succ, i64_w, i32_w]
                     rfl
                    refine PU_ HT_ 24 82 m32_25 (h := ?_); refine PU_ HT_ 25 83 m32_26 (h := ?_); refine PU_ HT_ 26 84 m32_27 (h := ?_); refine PU_ HT_ 27 85 m32_28 (h := ?_); refine PU_ HT_ 28 86 m32_29 (h := ?_); refine PU_ HT_ 30 88 m32_30 (h := ?_); refine PU_ HT_ 33 91 m32_31 (h := ?_); refine PU_ HT_ 35 93 m32_32 (h := ?_); refine PU_ HT_ 36 94 m32_33 (h := ?_); refine PU_ HT_ 37 95 m32_34 (h := ?_); refine TA_ HT_ HW_ 29 87 hHeld m32_35 (h := ?_); refine PU_ HT_ 31 89 m32_36 (h := ?_); refine TA_ HT_ HW_ 32 90 hHeld m32_37 (h := ?_); refine PU_ HT_ 34 92 m32_38 (h := ?_); refine TA_ HT_ HW_ 38 96 hHeld m32_39 (h := ?_)
                    refine one_ (i := 39) (N := some 97) m32_40 rfl rfl (one_of HT_.out (by kernel_rfl)) (by decide) (fun K hK => ?_)
                    refine goes_ Try.func16 (by kernel_rfl) rfl #[.slice A426_0 y427.length c426_0, .slice A405_0 (rd_L1 l0 x10_2).length c405_0] (by rfl) rfl rfl (by (try simp only [List.map_toArray, List.map_cons, List.map_nil]); first | done | rfl | (simp only [List.length_drop, List.length_take]; rfl)) ?_
                    with_reducible refine (lockstepref02_Ints.calls k2 _ _ y427 _ _ (rd_L1 l0 x10_2) true _ ?side1 ?side2 ?side3 ?side4 A67.out).mono ?_
                    (case side1 => repeat (first | exact (by repeat (first | (with_reducible exact HR430.out) | (with_reducible refine Kd.C_alloc ?_ _) | (with_reducible refine Kd.C_drewN ?_ _) | (with_reducible refine Kd.C_drew ?_) | exact HR430.out)) | (with_reducible refine Kd.C_alloc ?_ _) | (with_reducible refine Kd.C_drewN ?_ _) | (with_reducible refine Kd.C_drew ?_)))
                    (case side2 => exact HC430.out)
                    (case side3 => repeat (first | exact (Kd.C_below HR431_0.out (B1_)) | (with_reducible refine Kd.C_alloc ?_ _) | (with_reducible refine Kd.C_drewN ?_ _) | (with_reducible refine Kd.C_drew ?_)))
                    (case side4 => exact HC431_0.out)
                    rintro e w' ⟨rfl, ⟨nd, rfl⟩⟩
                    refine ⟨_, rfl, ?_⟩
                    refine hK.out _ _ ⟨(blk_cell BK397.out 0).trans rfl, (blk_cell BK397.out 1).trans rfl, ((HB.out.cell (World.block_lt_of_cell? w _ hw405_0)).trans hw405_0), ((HB.out.cell (World.block_lt_of_cell? w _ hw424_0)).trans hw424_0), hHeld.2.2.2.2.1, ((HB.out.cell (World.block_lt_of_cell? w _ hw431_0)).trans hw431_0), hHeld.2.2.2.2.2.2⟩ (fun hHeld => ?_)
                    clear hK K
                    refine norm_ (a' := ?_) ?_ ?_
                    rotate_left
                    ·show Act.put _ (some 97) _ = _
                     simp only [Act.put, List.setIfInBounds_toArray, List.set_cons_zero, List.set_cons_succ, i64_w, i32_w]
                     rfl
                    refine PU_ HT_ 40 98 m32_41 (h := ?_); refine PU_ HT_ 41 99 m32_42 (h := ?_); refine PU_ HT_ 42 100 m32_43 (h := ?_); refine PU_ HT_ 43 101 m32_44 (h := ?_); refine PU_ HT_ 44 102 m32_45 (h := ?_); refine PU_ HT_ 46 104 m32_46 (h := ?_); refine PU_ HT_ 50 108 m32_47 (h := ?_); refine PU_ HT_ 51 109 m32_48 (h := ?_); refine TA_ HT_ HW_ 45 103 hHeld m32_49 (h := ?_); refine PU_ HT_ 47 105 m32_50 (h := ?_); refine TA_ HT_ HW_ 48 106 hHeld m32_51 (h := ?_); refine PU_ HT_ 49 107 m32_52 (h := ?_); refine PU_ HT_ 52 110 m32_53 (h := ?_); refine PU_ HT_ 53 111 m32_54 (h := ?_); refine PU_ HT_ 54 112 m32_55 (h := ?_)
                    refine done_ (done_of HT_.out (by kernel_rfl)) ?_
                    try go_wp2
                    go_meet
                    case rel => exact ⟨_, ((true != (((rd_L1 t390 x10_2).length : Int) == (wrap64 (((rd_L1 l0 x10_2).length : Int) + 1))))), (by first | rfl | exact congrArg (fun b => Ending.returned (Value.bool b)) HR_.out | (simp; done) | (simp [*]; done)), H', ⟨by have := HJ3.out; have := HK2.out; first | omega | exact Nat.le_refl _⟩, ⟨by exact RM_ HO_8.out⟩, ⟨by exact SM_ HO_390000.out⟩, ⟨by exact SM_ HO_390001.out⟩, ⟨by exact SM_ HO_398000.out⟩, ⟨by exact SM_ HO_398001.out⟩, ⟨by exact KX_ BK389.out⟩, ⟨by exact KX_ BK397.out⟩, ⟨by repeat (first | (with_reducible exact HR402_0.out) | (with_reducible refine Kd.C_alloc ?_ _) | (with_reducible refine Kd.C_drewN ?_ _) | (with_reducible refine Kd.C_drew ?_) | exact HR402_0.out)⟩, ⟨B1_⟩⟩
                  replace c68 := Bool.eq_false_iff.mpr c68
                  subst c68
                  have H1 : (locksteplaw08_PdomEnds.j2 k2 l0 (l0.length : Int) t398 x9_2 x10_2 true ((rd_L1 l0 x10_2).length : Int) true t390 t393) = some true := by rw [if_neg (show ¬ (false = true) by decide)] at H; exact H
                  clear H
                  have H := H1
                  clear H1
                  have H' := Aside0.mk H
                  clear H
                  try go_wp2
                  have n0_ := Aside0.mk (Kd.R_drew HO_8.out)
                  have n1_ := Aside0.mk (Kd.S_drew HO_390000.out)
                  have n2_ := Aside0.mk (Kd.S_drew HO_390001.out)
                  have n3_ := Aside0.mk (Kd.S_drew HO_398000.out)
                  have n4_ := Aside0.mk (Kd.S_drew HO_398001.out)
                  have n5_ := Aside0.mk (Kd.R_drew HL402_0.out)
                  have n6_ := Aside0.mk (blk_drew BK389.out)
                  have n7_ := Aside0.mk (blk_drew BK397.out)
                  have n8_ := Aside0.mk (Kd.C_drew HR402_0.out)
                  have n9_ := Aside0.mk (below_drew1 HB.out)
                  clear HO_8
                  clear HO_390000
                  clear HO_390001
                  clear HO_398000
                  clear HO_398001
                  clear HL402_0
                  clear BK389
                  clear BK397
                  clear HR402_0
                  clear HB
                  have HO_8 := n0_
                  have HO_390000 := n1_
                  have HO_390001 := n2_
                  have HO_398000 := n3_
                  have HO_398001 := n4_
                  have HL402_0 := n5_
                  have BK389 := n6_
                  have BK397 := n7_
                  have HR402_0 := n8_
                  have HB := n9_
                  clear n0_ n1_ n2_ n3_ n4_ n5_ n6_ n7_ n8_ n9_
                  have p405 : 0 ≤ (x10_2 : Int) := D_
                  have q405 : x10_2 < (l0.length : Int) := D_
                  obtain ⟨ad405, A405_0, c405_0, e405, hx405_0, hl405_0, hi405_0⟩ := at_L1 HR0.out x10_2 p405 q405
                  have hw405_0 := hx405_0
                  obtain rfl : ad404 = ad405 := (by injection e405)
                  replace hx405_0 := (HB.out.cell (World.block_lt_of_cell? w _ hx405_0)).trans hx405_0
                  have HR405_0 := Aside0.mk hi405_0
                  have HC405_0 := Aside0.mk hl405_0
                  clear hi405_0 hl405_0
                  replace p405 := eq_true p405
                  replace q405 := eq_true q405
                  have p424 : 0 ≤ (x10_2 : Int) := D_
                  have q424 : x10_2 < (l0.length : Int) := D_
                  obtain ⟨ad424, A424_0, c424_0, e424, hx424_0, hl424_0, hi424_0⟩ := at_L1 HR0.out x10_2 p424 q424
                  have hw424_0 := hx424_0
                  obtain rfl : ad404 = ad424 := (by injection e424)
                  replace hx424_0 := (HB.out.cell (World.block_lt_of_cell? w _ hx424_0)).trans hx424_0
                  have HR424_0 := Aside0.mk hi424_0
                  have HC424_0 := Aside0.mk hl424_0
                  clear hi424_0 hl424_0
                  replace p424 := eq_true p424
                  replace q424 := eq_true q424
                  have ea_ := Option.some.inj (hx405_0.symm.trans hx424_0)
                  injection ea_ with ea_ en_ ec_
                  subst ea_
                  subst ec_
                  clear en_
                  obtain ⟨Ao73, co73, eo73⟩ := Kd.R_slice HO_8.out
                  (first | subst eo73 | (injection eo73 with f1_ f2_ f3_; have f4_ := f1_.symm; have f5_ := f3_.symm; clear f1_ f2_ f3_; subst f4_; subst f5_))
                  have p426 : 0 ≤ (x10_2 : Int) := D_
                  have q426 : x10_2 < (t390.length : Int) := D_
                  obtain ⟨ad426, A426_0, c426_0, e426, hx426_0, hl426_0, hi426_0⟩ := at_L1 (Kd.S_reads' HO_398000.out).2.2 x10_2 p426 q426
                  obtain rfl : ad402 = ad426 := (by injection e426)
                  obtain ⟨ce426, hce426, hMe426, hcc426⟩ := Kd.S_get HO_398000.out [] x10_2 p426 (by first | exact q426 | exact D_ | (have e_ := (Kd.S_reads' HO_398000.out).1; omega))
                  obtain ⟨ve426_0, rfl, ge426_0⟩ := hMe426
                  have hv426_0 := hcc426 0 _ rfl
                  rw [Nat.add_zero, show ((Kd.slice 3 (Kd.int .i64))).sz = 1 from rfl, Nat.mul_one] at hv426_0
                  replace hv426_0 := Option.some.inj (hv426_0.symm.trans hx426_0)
                  rw [hv426_0] at ge426_0
                  have HL426_0 := Aside0.mk (show Kd.R (Kd.int .i64) 3 _ _ _ _ (rd_L1 t390 x10_2) from ge426_0)
                  clear hv426_0 ge426_0
                  clear hcc426 hce426
                  have HR426_0 := Aside0.mk hi426_0
                  have HC426_0 := Aside0.mk hl426_0
                  clear hi426_0 hl426_0
                  replace p426 := eq_true p426
                  replace q426 := eq_true q426
                  have p431 : 0 ≤ (x10_2 : Int) := D_
                  have q431 : x10_2 < (l0.length : Int) := D_
                  obtain ⟨ad431, A431_0, c431_0, e431, hx431_0, hl431_0, hi431_0⟩ := at_L1 HR0.out x10_2 p431 q431
                  have hw431_0 := hx431_0
                  obtain rfl : ad404 = ad431 := (by injection e431)
                  replace hx431_0 := (HB.out.cell (World.block_lt_of_cell? w _ hx431_0)).trans hx431_0
                  have HR431_0 := Aside0.mk hi431_0
                  have HC431_0 := Aside0.mk hl431_0
                  clear hi431_0 hl431_0
                  replace p431 := eq_true p431
                  replace q431 := eq_true q431
                  have ea_ := Option.some.inj (hx405_0.symm.trans hx431_0)
                  injection ea_ with ea_ en_ ec_
                  subst ea_
                  subst ec_
                  clear en_
                  as_aux_lemma =>
                   refine start_ (n := 55) (S := fun w' => w'.cell? ⟨gb397, 0, none⟩ = some (.slice (some ad402) t390.length co21) ∧ w'.cell? ⟨gb397, 1, none⟩ = some (.slice Ao24 t393.length co24) ∧ w'.cell? (ad404.add (x10_2).toNat) = some (.slice A405_0 (rd_L1 l0 x10_2).length c405_0) ∧ w'.cell? (ad404.add (x10_2).toNat) = some (.slice A405_0 (rd_L1 l0 x10_2).length c405_0) ∧ w'.cell? (ad402.add (x10_2).toNat) = some (.slice A426_0 (rd_L1 t390 x10_2).length c426_0) ∧ w'.cell? (ad404.add (x10_2).toNat) = some (.slice A405_0 (rd_L1 l0 x10_2).length c405_0)) (ds := []) m32_0 (by kernel_rfl) rfl rfl ⟨(blk_cell BK397.out 0).trans rfl, (blk_cell BK397.out 1).trans rfl, ((HB.out.cell (World.block_lt_of_cell? w _ hw405_0)).trans hw405_0), ((HB.out.cell (World.block_lt_of_cell? w _ hw424_0)).trans hw424_0), hx426_0, ((HB.out.cell (World.block_lt_of_cell? w _ hw431_0)).trans hw431_0)⟩ (fun hHeld => ?_); refine with_tabW locksteplaw08_PdomEnds.tab19 locksteplaw08_PdomEnds.bits19 (fun HT_ HW_ => ?_)
                   generalize wr.drew = w72 at HO_8 HO_390000 HO_390001 HO_398000 HO_398001 HL402_0 BK389 BK397 HR402_0 HB HL426_0 HR405_0 HR424_0 HR426_0 HR431_0 hx405_0 hx424_0 hx426_0 hx431_0 hHeld ⊢
                   refine PU_ HT_ 0 58 m32_1 (h := ?_); refine PU_ HT_ 1 59 m32_2 (h := ?_); refine PU_ HT_ 2 60 m32_3 (h := ?_); refine TA_ HT_ HW_ 3 61 hHeld m32_4 (h := ?_); refine PU_ HT_ 4 62 m32_5 (h := ?_); refine PU_ HT_ 5 63 m32_6 (h := ?_); refine PU_ HT_ 6 64 m32_7 (h := ?_); refine PO_ HT_ 7 65 m32_8 (h := ?_); refine PO_ HT_ 8 66 m32_9 (h := ?_); refine PU_ HT_ 9 67 m32_10 (h := ?_); refine PU_ HT_ 10 68 m32_11 (h := ?_); refine PU_ HT_ 11 69 m32_12 (h := ?_); refine PU_ HT_ 12 70 m32_13 (h := ?_); refine PU_ HT_ 13 71 m32_14 (h := ?_); refine PU_ HT_ 14 72 m32_15 (h := ?_); refine PU_ HT_ 15 73 m32_16 (h := ?_); refine TA_ HT_ HW_ 16 74 hHeld m32_17 (h := ?_); refine PU_ HT_ 17 75 m32_18 (h := ?_); refine PU_ HT_ 18 76 m32_19 (h := ?_); refine PU_ HT_ 19 77 m32_20 (h := ?_); refine PU_ HT_ 20 78 m32_21 (h := ?_); refine PU_ HT_ 21 79 m32_22 (h := ?_); refine PU_ HT_ 22 80 m32_23 (h := ?_)
                   refine one_ (i := 23) (N := some 81) m32_24 rfl rfl (one_of HT_.out (by kernel_rfl)) (by decide) (fun K hK => ?_)
                   refine goes_ Try.func15 (by kernel_rfl) rfl #[.slice Ao73 t398.length co73, .int .i64 x10_2] (by rfl) rfl rfl (by (try simp only [List.map_toArray, List.map_cons, List.map_nil]); first | done | rfl | (simp only [List.length_drop, List.length_take]; rfl)) ?_
                   with_reducible refine (lockstepref06_Has.calls k2 _ _ t398 x10_2 true _ ?side1 ?side2 A63.out).mono ?_
                   (case side1 => repeat (first | exact (Kd.R_reads' HO_8.out).2.2 | (with_reducible refine Kd.C_alloc ?_ _) | (with_reducible refine Kd.C_drewN ?_ _) | (with_reducible refine Kd.C_drew ?_)))
                   (case side2 => exact (Kd.R_reads' HO_8.out).2.1)
                   rintro e w' ⟨rfl, ⟨nd, rfl⟩⟩
                   refine ⟨_, rfl, ?_⟩
                   have q74 : (((rd_L1 l0 x10_2).length : Int) : Int) ≤ (((rd_L1 t390 x10_2).length : Int) : Int) := D_
                   obtain ⟨i074, hi074, _, hsz74, _⟩ := info_parts info3
                   have hroom74 : (rd_L1 t390 x10_2).length ≤ c426_0 := HC426_0.out
                   have hC74 : Kd.C (Kd.int .i64) _ A426_0 (rd_L1 t390 x10_2).length (rd_L1 t390 x10_2) := (by repeat (first | (with_reducible exact HR426_0.out) | (with_reducible refine Kd.C_alloc ?_ _) | (with_reducible refine Kd.C_drewN ?_ _) | (with_reducible refine Kd.C_drew ?_) | exact HR426_0.out))
                   have hcut74 := cut_to (P := Try.prog) 30 3 .i64 Try.underlying30 hi074 A426_0 (rd_L1 t390 x10_2).length c426_0 ((rd_L1 l0 x10_2).length : Int) (D_) q74 hroom74
                   have hr74 := Kd.C_take (m := (((rd_L1 l0 x10_2).length : Int) : Int).toNat) hC74 (by omega)
                   have hy74 : y427.length = (((rd_L1 l0 x10_2).length : Int) : Int).toNat := (by rw [Ny427.out, List.length_take]; omega)
                   rw [← Ny427.out] at hr74
                   rw [← hy74] at hcut74
                   have HR430 := Aside0.mk hr74
                   have HC430 := Aside0.mk (show y427.length ≤ c426_0 from by omega)
                   clear hr74 hC74 hroom74 hi074 hsz74
                   have KY74 := Aside0.mk hy74
                   clear hy74
                   replace q74 := eq_true q74
                   refine hK.out _ _ ⟨(blk_cell BK397.out 0).trans rfl, (blk_cell BK397.out 1).trans rfl, ((HB.out.cell (World.block_lt_of_cell? w _ hw405_0)).trans hw405_0), ((HB.out.cell (World.block_lt_of_cell? w _ hw424_0)).trans hw424_0), hHeld.2.2.2.2.1, ((HB.out.cell (World.block_lt_of_cell? w _ hw431_0)).trans hw431_0)⟩ (fun hHeld => ?_)
                   clear hK K
                   refine norm_ (a' := ?_) ?_ ?_
                   rotate_left
                   ·show Act.put _ (some 81) _ = _
                    simp only [Act.put, List.setIfInBounds_toArray, List.set_cons_zero, List.set_cons_succ, i64_w, i32_w]
                    rfl
                   refine PU_ HT_ 24 82 m32_25 (h := ?_); refine PU_ HT_ 25 83 m32_26 (h := ?_); refine PU_ HT_ 26 84 m32_27 (h := ?_); refine PU_ HT_ 27 85 m32_28 (h := ?_); refine PU_ HT_ 28 86 m32_29 (h := ?_); refine PU_ HT_ 30 88 m32_30 (h := ?_); refine PU_ HT_ 33 91 m32_31 (h := ?_); refine PU_ HT_ 35 93 m32_32 (h := ?_); refine PU_ HT_ 36 94 m32_33 (h := ?_); refine PU_ HT_ 37 95 m32_34 (h := ?_); refine TA_ HT_ HW_ 29 87 hHeld m32_35 (h := ?_); refine PU_ HT_ 31 89 m32_36 (h := ?_); refine TA_ HT_ HW_ 32 90 hHeld m32_37 (h := ?_); refine PU_ HT_ 34 92 m32_38 (h := ?_); refine TA_ HT_ HW_ 38 96 hHeld m32_39 (h := ?_)
                   refine one_ (i := 39) (N := some 97) m32_40 rfl rfl (one_of HT_.out (by kernel_rfl)) (by decide) (fun K hK => ?_)
                   refine goes_ Try.func16 (by kernel_rfl) rfl #[.slice A426_0 y427.length c426_0, .slice A405_0 (rd_L1 l0 x10_2).length c405_0] (by rfl) rfl rfl (by (try simp only [List.map_toArray, List.map_cons, List.map_nil]); first | done | rfl | (simp only [List.length_drop, List.length_take]; rfl)) ?_
                   with_reducible refine (lockstepref02_Ints.calls k2 _ _ y427 _ _ (rd_L1 l0 x10_2) false _ ?side1 ?side2 ?side3 ?side4 A67.out).mono ?_
                   (case side1 => repeat (first | exact (by repeat (first | (with_reducible exact HR430.out) | (with_reducible refine Kd.C_alloc ?_ _) | (with_reducible refine Kd.C_drewN ?_ _) | (with_reducible refine Kd.C_drew ?_) | exact HR430.out)) | (with_reducible refine Kd.C_alloc ?_ _) | (with_reducible refine Kd.C_drewN ?_ _) | (with_reducible refine Kd.C_drew ?_)))
                   (case side2 => exact HC430.out)
                   (case side3 => repeat (first | exact (Kd.C_below HR431_0.out (B1_)) | (with_reducible refine Kd.C_alloc ?_ _) | (with_reducible refine Kd.C_drewN ?_ _) | (with_reducible refine Kd.C_drew ?_)))
                   (case side4 => exact HC431_0.out)
                   rintro e w' ⟨rfl, ⟨nd, rfl⟩⟩
                   refine ⟨_, rfl, ?_⟩
                   refine hK.out _ _ ⟨(blk_cell BK397.out 0).trans rfl, (blk_cell BK397.out 1).trans rfl, ((HB.out.cell (World.block_lt_of_cell? w _ hw405_0)).trans hw405_0), ((HB.out.cell (World.block_lt_of_cell? w _ hw424_0)).trans hw424_0), hHeld.2.2.2.2.1, ((HB.out.cell (World.block_lt_of_cell? w _ hw431_0)).trans hw431_0)⟩ (fun hHeld => ?_)
                   clear hK K
                   refine norm_ (a' := ?_) ?_ ?_
                   rotate_left
                   ·show Act.put _ (some 97) _ = _
                    simp only [Act.put, List.setIfInBounds_toArray, List.set_cons_zero, List.set_cons_succ, i64_w, i32_w]
                    rfl
                   refine PU_ HT_ 40 98 m32_41 (h := ?_); refine PU_ HT_ 41 99 m32_42 (h := ?_); refine PU_ HT_ 42 100 m32_43 (h := ?_); refine PO_ HT_ 43 101 m32_44 (h := ?_); refine PO_ HT_ 44 102 m32_45 (h := ?_); refine PO_ HT_ 45 103 m32_56 (h := ?_); refine PO_ HT_ 46 104 m32_57 (h := ?_); refine PO_ HT_ 47 105 m32_58 (h := ?_); refine PO_ HT_ 48 106 m32_59 (h := ?_); refine PO_ HT_ 49 107 m32_60 (h := ?_); refine PO_ HT_ 50 108 m32_61 (h := ?_); refine PO_ HT_ 51 109 m32_52 (h := ?_); refine PO_ HT_ 52 110 m32_53 (h := ?_); refine PO_ HT_ 53 111 m32_54 (h := ?_); refine PU_ HT_ 54 112 m32_55 (h := ?_)
                   refine done_ (done_of HT_.out (by kernel_rfl)) ?_
                   try go_wp2
                   go_meet
                   case rel => exact ⟨_, (true), (by first | rfl | exact congrArg (fun b => Ending.returned (Value.bool b)) HR_.out | (simp; done) | (simp [*]; done)), H', ⟨by have := HJ3.out; have := HK2.out; first | omega | exact Nat.le_refl _⟩, ⟨by exact RM_ HO_8.out⟩, ⟨by exact SM_ HO_390000.out⟩, ⟨by exact SM_ HO_390001.out⟩, ⟨by exact SM_ HO_398000.out⟩, ⟨by exact SM_ HO_398001.out⟩, ⟨by exact KX_ BK389.out⟩, ⟨by exact KX_ BK397.out⟩, ⟨by repeat (first | (with_reducible exact HR402_0.out) | (with_reducible refine Kd.C_alloc ?_ _) | (with_reducible refine Kd.C_drewN ?_ _) | (with_reducible refine Kd.C_drew ?_) | exact HR402_0.out)⟩, ⟨B1_⟩⟩
                 rw [if_neg c66] at H
                 exact absurd H (by simp)
                rw [if_neg c65] at H
                exact absurd H (by simp)
               replace c64 := Bool.eq_false_iff.mpr c64
               subst c64
               have H1 : (locksteplaw08_PdomEnds.j2 k2 l0 (l0.length : Int) t398 x9_2 x10_2 true ((rd_L1 l0 x10_2).length : Int) true t390 t393) = some true := by rw [if_neg (show ¬ (false = true) by decide)] at H; exact H
               clear H
               have H := H1
               clear H1
               have H' := Aside0.mk H
               clear H
               try go_wp2
               have n0_ := Aside0.mk (Kd.R_drew HO_8.out)
               have n1_ := Aside0.mk (Kd.S_drew HO_390000.out)
               have n2_ := Aside0.mk (Kd.S_drew HO_390001.out)
               have n3_ := Aside0.mk (Kd.S_drew HO_398000.out)
               have n4_ := Aside0.mk (Kd.S_drew HO_398001.out)
               have n5_ := Aside0.mk (Kd.R_drew HL402_0.out)
               have n6_ := Aside0.mk (blk_drew BK389.out)
               have n7_ := Aside0.mk (blk_drew BK397.out)
               have n8_ := Aside0.mk (Kd.C_drew HR402_0.out)
               have n9_ := Aside0.mk (below_drew1 HB.out)
               clear HO_8
               clear HO_390000
               clear HO_390001
               clear HO_398000
               clear HO_398001
               clear HL402_0
               clear BK389
               clear BK397
               clear HR402_0
               clear HB
               have HO_8 := n0_
               have HO_390000 := n1_
               have HO_390001 := n2_
               have HO_398000 := n3_
               have HO_398001 := n4_
               have HL402_0 := n5_
               have BK389 := n6_
               have BK397 := n7_
               have HR402_0 := n8_
               have HB := n9_
               clear n0_ n1_ n2_ n3_ n4_ n5_ n6_ n7_ n8_ n9_
               have p405 : 0 ≤ (x10_2 : Int) := D_
               have q405 : x10_2 < (l0.length : Int) := D_
               obtain ⟨ad405, A405_0, c405_0, e405, hx405_0, hl405_0, hi405_0⟩ := at_L1 HR0.out x10_2 p405 q405
               have hw405_0 := hx405_0
               obtain rfl : ad404 = ad405 := (by injection e405)
               replace hx405_0 := (HB.out.cell (World.block_lt_of_cell? w _ hx405_0)).trans hx405_0
               have HR405_0 := Aside0.mk hi405_0
               have HC405_0 := Aside0.mk hl405_0
               clear hi405_0 hl405_0
               replace p405 := eq_true p405
               replace q405 := eq_true q405
               have p424 : 0 ≤ (x10_2 : Int) := D_
               have q424 : x10_2 < (l0.length : Int) := D_
               obtain ⟨ad424, A424_0, c424_0, e424, hx424_0, hl424_0, hi424_0⟩ := at_L1 HR0.out x10_2 p424 q424
               have hw424_0 := hx424_0
               obtain rfl : ad404 = ad424 := (by injection e424)
               replace hx424_0 := (HB.out.cell (World.block_lt_of_cell? w _ hx424_0)).trans hx424_0
               have HR424_0 := Aside0.mk hi424_0
               have HC424_0 := Aside0.mk hl424_0
               clear hi424_0 hl424_0
               replace p424 := eq_true p424
               replace q424 := eq_true q424
               have ea_ := Option.some.inj (hx405_0.symm.trans hx424_0)
               injection ea_ with ea_ en_ ec_
               subst ea_
               subst ec_
               clear en_
               obtain ⟨Ao76, co76, eo76⟩ := Kd.R_slice HO_8.out
               (first | subst eo76 | (injection eo76 with f1_ f2_ f3_; have f4_ := f1_.symm; have f5_ := f3_.symm; clear f1_ f2_ f3_; subst f4_; subst f5_))
               as_aux_lemma =>
                refine start_ (n := 55) (S := fun w' => w'.cell? (ad404.add (x10_2).toNat) = some (.slice A405_0 (rd_L1 l0 x10_2).length c405_0) ∧ w'.cell? (ad404.add (x10_2).toNat) = some (.slice A405_0 (rd_L1 l0 x10_2).length c405_0)) (ds := []) m32_0 (by kernel_rfl) rfl rfl ⟨((HB.out.cell (World.block_lt_of_cell? w _ hw405_0)).trans hw405_0), ((HB.out.cell (World.block_lt_of_cell? w _ hw424_0)).trans hw424_0)⟩ (fun hHeld => ?_); refine with_tabW locksteplaw08_PdomEnds.tab19 locksteplaw08_PdomEnds.bits19 (fun HT_ HW_ => ?_)
                generalize wr.drew = w75 at HO_8 HO_390000 HO_390001 HO_398000 HO_398001 HL402_0 BK389 BK397 HR402_0 HB HR405_0 HR424_0 hx405_0 hx424_0 hHeld ⊢
                refine PU_ HT_ 0 58 m32_1 (h := ?_); refine PU_ HT_ 1 59 m32_2 (h := ?_); refine PU_ HT_ 2 60 m32_3 (h := ?_); refine TA_ HT_ HW_ 3 61 hHeld m32_4 (h := ?_); refine PU_ HT_ 4 62 m32_5 (h := ?_); refine PU_ HT_ 5 63 m32_6 (h := ?_); refine PU_ HT_ 6 64 m32_7 (h := ?_); refine PO_ HT_ 7 65 m32_8 (h := ?_); refine PO_ HT_ 8 66 m32_9 (h := ?_); refine PU_ HT_ 9 67 m32_10 (h := ?_); refine PU_ HT_ 10 68 m32_11 (h := ?_); refine PU_ HT_ 11 69 m32_12 (h := ?_); refine PU_ HT_ 12 70 m32_13 (h := ?_); refine PU_ HT_ 13 71 m32_14 (h := ?_); refine PU_ HT_ 14 72 m32_15 (h := ?_); refine PU_ HT_ 15 73 m32_16 (h := ?_); refine TA_ HT_ HW_ 16 74 hHeld m32_17 (h := ?_); refine PU_ HT_ 17 75 m32_18 (h := ?_); refine PU_ HT_ 18 76 m32_19 (h := ?_); refine PU_ HT_ 19 77 m32_20 (h := ?_); refine PU_ HT_ 20 78 m32_21 (h := ?_); refine PU_ HT_ 21 79 m32_22 (h := ?_); refine PU_ HT_ 22 80 m32_23 (h := ?_)
                refine one_ (i := 23) (N := some 81) m32_24 rfl rfl (one_of HT_.out (by kernel_rfl)) (by decide) (fun K hK => ?_)
                refine goes_ Try.func15 (by kernel_rfl) rfl #[.slice Ao76 t398.length co76, .int .i64 x10_2] (by rfl) rfl rfl (by (try simp only [List.map_toArray, List.map_cons, List.map_nil]); first | done | rfl | (simp only [List.length_drop, List.length_take]; rfl)) ?_
                with_reducible refine (lockstepref06_Has.calls k2 _ _ t398 x10_2 false _ ?side1 ?side2 A63.out).mono ?_
                (case side1 => repeat (first | exact (Kd.R_reads' HO_8.out).2.2 | (with_reducible refine Kd.C_alloc ?_ _) | (with_reducible refine Kd.C_drewN ?_ _) | (with_reducible refine Kd.C_drew ?_)))
                (case side2 => exact (Kd.R_reads' HO_8.out).2.1)
                rintro e w' ⟨rfl, ⟨nd, rfl⟩⟩
                refine ⟨_, rfl, ?_⟩
                refine hK.out _ _ ⟨((HB.out.cell (World.block_lt_of_cell? w _ hw405_0)).trans hw405_0), ((HB.out.cell (World.block_lt_of_cell? w _ hw424_0)).trans hw424_0)⟩ (fun hHeld => ?_)
                clear hK K
                refine norm_ (a' := ?_) ?_ ?_
                rotate_left
                ·show Act.put _ (some 81) _ = _
                 simp only [Act.put, List.setIfInBounds_toArray, List.set_cons_zero, List.set_cons_succ, i64_w, i32_w]
                 rfl
                refine PU_ HT_ 24 82 m32_25 (h := ?_); refine PU_ HT_ 25 83 m32_26 (h := ?_); refine PU_ HT_ 26 84 m32_27 (h := ?_); refine PU_ HT_ 27 85 m32_28 (h := ?_); refine PO_ HT_ 28 86 m32_29 (h := ?_); refine PO_ HT_ 29 87 m32_62 (h := ?_); refine PO_ HT_ 30 88 m32_63 (h := ?_); refine PO_ HT_ 31 89 m32_64 (h := ?_); refine PO_ HT_ 32 90 m32_65 (h := ?_); refine PO_ HT_ 33 91 m32_66 (h := ?_); refine PO_ HT_ 34 92 m32_67 (h := ?_); refine PO_ HT_ 35 93 m32_68 (h := ?_); refine PO_ HT_ 36 94 m32_69 (h := ?_); refine PO_ HT_ 37 95 m32_38 (h := ?_); refine PO_ HT_ 38 96 m32_39 (h := ?_); refine PO_ HT_ 39 97 m32_40 (h := ?_); refine PO_ HT_ 40 98 m32_41 (h := ?_); refine PU_ HT_ 41 99 m32_42 (h := ?_); refine PU_ HT_ 42 100 m32_43 (h := ?_); refine PO_ HT_ 43 101 m32_44 (h := ?_); refine PO_ HT_ 44 102 m32_45 (h := ?_); refine PO_ HT_ 45 103 m32_56 (h := ?_); refine PO_ HT_ 46 104 m32_57 (h := ?_); refine PO_ HT_ 47 105 m32_58 (h := ?_); refine PO_ HT_ 48 106 m32_59 (h := ?_); refine PO_ HT_ 49 107 m32_60 (h := ?_); refine PO_ HT_ 50 108 m32_61 (h := ?_); refine PO_ HT_ 51 109 m32_52 (h := ?_); refine PO_ HT_ 52 110 m32_53 (h := ?_); refine PO_ HT_ 53 111 m32_54 (h := ?_); refine PU_ HT_ 54 112 m32_55 (h := ?_)
                refine done_ (done_of HT_.out (by kernel_rfl)) ?_
                try go_wp2
                go_meet
                case rel => exact ⟨_, (true), (by first | rfl | exact congrArg (fun b => Ending.returned (Value.bool b)) HR_.out | (simp; done) | (simp [*]; done)), H', ⟨by have := HJ3.out; have := HK2.out; first | omega | exact Nat.le_refl _⟩, ⟨by exact RM_ HO_8.out⟩, ⟨by exact SM_ HO_390000.out⟩, ⟨by exact SM_ HO_390001.out⟩, ⟨by exact SM_ HO_398000.out⟩, ⟨by exact SM_ HO_398001.out⟩, ⟨by exact KX_ BK389.out⟩, ⟨by exact KX_ BK397.out⟩, ⟨by repeat (first | (with_reducible exact HR402_0.out) | (with_reducible refine Kd.C_alloc ?_ _) | (with_reducible refine Kd.C_drewN ?_ _) | (with_reducible refine Kd.C_drew ?_) | exact HR402_0.out)⟩, ⟨B1_⟩⟩
              rw [if_neg c62] at H
              have c62b0 : decide (0 < ((rd_L1 l0 x10_2).length : Int)) = false := decide_eq_false c62
              have c62b1 : decide (0 < (rd_L1 l0 x10_2).length) = false := decide_eq_false (by omega)
              clear c62
              by_cases c77 : 0 ≤ ((rd_L1 l0 x10_2).length : Int)
              ·rw [if_pos c77] at H
               have c77b0 := eq_true c77
               have c77b1 : decide (0 ≤ ((rd_L1 l0 x10_2).length : Int)) = true := decide_eq_true c77
               clear c77
               by_cases c78 : ((rd_L1 l0 x10_2).length : Int) ≤ ((rd_L1 t390 x10_2).length : Int)
               ·rw [if_pos c78] at H
                have c78b0 := eq_true c78
                have c78b1 : decide (((rd_L1 l0 x10_2).length : Int) ≤ ((rd_L1 t390 x10_2).length : Int)) = true := decide_eq_true c78
                clear c78
                obtain ⟨y435, hy435⟩ : ∃ y_ : List Int, y_ = ((rd_L1 t390 x10_2).take (((rd_L1 l0 x10_2).length : Int) : Int).toNat) := ⟨_, rfl⟩
                replace H : ((lockstepref02_Ints.f k2 y435 (rd_L1 l0 x10_2)).bind fun t440 => (if t440 = true then (locksteplaw08_PdomEnds.j2 k2 l0 (l0.length : Int) t398 x9_2 x10_2 true ((rd_L1 l0 x10_2).length : Int) (true != (((rd_L1 t390 x10_2).length : Int) == (wrap64 (((rd_L1 l0 x10_2).length : Int) + 1)))) t390 t393) else (locksteplaw08_PdomEnds.j2 k2 l0 (l0.length : Int) t398 x9_2 x10_2 true ((rd_L1 l0 x10_2).length : Int) true t390 t393))) = some true := by first | (rw [hy435]; with_reducible exact H) | (have H2_ := (Option.bind_some _ _).symm.trans H; rw [hy435]; with_reducible exact H2_) | (have H2_ := (Option.bind_some _ _).symm.trans H; with_reducible exact H2_) | with_reducible exact H | (rw [hy435]; exact H) | exact H
                have Ny435 := Aside0.mk hy435
                clear hy435
                replace H := Option.bind_eq_some_iff.mp H
                obtain ⟨t440, A790, H⟩ := H
                replace H : (if t440 = true then (locksteplaw08_PdomEnds.j2 k2 l0 (l0.length : Int) t398 x9_2 x10_2 true ((rd_L1 l0 x10_2).length : Int) (true != (((rd_L1 t390 x10_2).length : Int) == (wrap64 (((rd_L1 l0 x10_2).length : Int) + 1)))) t390 t393) else (locksteplaw08_PdomEnds.j2 k2 l0 (l0.length : Int) t398 x9_2 x10_2 true ((rd_L1 l0 x10_2).length : Int) true t390 t393)) = some true := H
                have A79 := Aside0.mk A790
                clear A790
                by_cases c80 : t440 = true
                ·subst c80
                 have H1 : (locksteplaw08_PdomEnds.j2 k2 l0 (l0.length : Int) t398 x9_2 x10_2 true ((rd_L1 l0 x10_2).length : Int) (true != (((rd_L1 t390 x10_2).length : Int) == (wrap64 (((rd_L1 l0 x10_2).length : Int) + 1)))) t390 t393) = some true := by rw [if_pos rfl] at H; exact H
                 clear H
                 have H := H1
                 clear H1
                 have H' := Aside0.mk H
                 clear H
                 try go_wp2
                 have n0_ := Aside0.mk (Kd.R_drew HO_8.out)
                 have n1_ := Aside0.mk (Kd.S_drew HO_390000.out)
                 have n2_ := Aside0.mk (Kd.S_drew HO_390001.out)
                 have n3_ := Aside0.mk (Kd.S_drew HO_398000.out)
                 have n4_ := Aside0.mk (Kd.S_drew HO_398001.out)
                 have n5_ := Aside0.mk (Kd.R_drew HL402_0.out)
                 have n6_ := Aside0.mk (blk_drew BK389.out)
                 have n7_ := Aside0.mk (blk_drew BK397.out)
                 have n8_ := Aside0.mk (Kd.C_drew HR402_0.out)
                 have n9_ := Aside0.mk (below_drew1 HB.out)
                 clear HO_8
                 clear HO_390000
                 clear HO_390001
                 clear HO_398000
                 clear HO_398001
                 clear HL402_0
                 clear BK389
                 clear BK397
                 clear HR402_0
                 clear HB
                 have HO_8 := n0_
                 have HO_390000 := n1_
                 have HO_390001 := n2_
                 have HO_398000 := n3_
                 have HO_398001 := n4_
                 have HL402_0 := n5_
                 have BK389 := n6_
                 have BK397 := n7_
                 have HR402_0 := n8_
                 have HB := n9_
                 clear n0_ n1_ n2_ n3_ n4_ n5_ n6_ n7_ n8_ n9_
                 have p405 : 0 ≤ (x10_2 : Int) := D_
                 have q405 : x10_2 < (l0.length : Int) := D_
                 obtain ⟨ad405, A405_0, c405_0, e405, hx405_0, hl405_0, hi405_0⟩ := at_L1 HR0.out x10_2 p405 q405
                 have hw405_0 := hx405_0
                 obtain rfl : ad404 = ad405 := (by injection e405)
                 replace hx405_0 := (HB.out.cell (World.block_lt_of_cell? w _ hx405_0)).trans hx405_0
                 have HR405_0 := Aside0.mk hi405_0
                 have HC405_0 := Aside0.mk hl405_0
                 clear hi405_0 hl405_0
                 replace p405 := eq_true p405
                 replace q405 := eq_true q405
                 have p424 : 0 ≤ (x10_2 : Int) := D_
                 have q424 : x10_2 < (l0.length : Int) := D_
                 obtain ⟨ad424, A424_0, c424_0, e424, hx424_0, hl424_0, hi424_0⟩ := at_L1 HR0.out x10_2 p424 q424
                 have hw424_0 := hx424_0
                 obtain rfl : ad404 = ad424 := (by injection e424)
                 replace hx424_0 := (HB.out.cell (World.block_lt_of_cell? w _ hx424_0)).trans hx424_0
                 have HR424_0 := Aside0.mk hi424_0
                 have HC424_0 := Aside0.mk hl424_0
                 clear hi424_0 hl424_0
                 replace p424 := eq_true p424
                 replace q424 := eq_true q424
                 have ea_ := Option.some.inj (hx405_0.symm.trans hx424_0)
                 injection ea_ with ea_ en_ ec_
                 subst ea_
                 subst ec_
                 clear en_
                 have p434 : 0 ≤ (x10_2 : Int) := D_
                 have q434 : x10_2 < (t390.length : Int) := D_
                 obtain ⟨ad434, A434_0, c434_0, e434, hx434_0, hl434_0, hi434_0⟩ := at_L1 (Kd.S_reads' HO_398000.out).2.2 x10_2 p434 q434
                 obtain rfl : ad402 = ad434 := (by injection e434)
                 obtain ⟨ce434, hce434, hMe434, hcc434⟩ := Kd.S_get HO_398000.out [] x10_2 p434 (by first | exact q434 | exact D_ | (have e_ := (Kd.S_reads' HO_398000.out).1; omega))
                 obtain ⟨ve434_0, rfl, ge434_0⟩ := hMe434
                 have hv434_0 := hcc434 0 _ rfl
                 rw [Nat.add_zero, show ((Kd.slice 3 (Kd.int .i64))).sz = 1 from rfl, Nat.mul_one] at hv434_0
                 replace hv434_0 := Option.some.inj (hv434_0.symm.trans hx434_0)
                 rw [hv434_0] at ge434_0
                 have HL434_0 := Aside0.mk (show Kd.R (Kd.int .i64) 3 _ _ _ _ (rd_L1 t390 x10_2) from ge434_0)
                 clear hv434_0 ge434_0
                 clear hcc434 hce434
                 have HR434_0 := Aside0.mk hi434_0
                 have HC434_0 := Aside0.mk hl434_0
                 clear hi434_0 hl434_0
                 replace p434 := eq_true p434
                 replace q434 := eq_true q434
                 have q82 : (((rd_L1 l0 x10_2).length : Int) : Int) ≤ (((rd_L1 t390 x10_2).length : Int) : Int) := D_
                 obtain ⟨i082, hi082, _, hsz82, _⟩ := info_parts info3
                 have hroom82 : (rd_L1 t390 x10_2).length ≤ c434_0 := HC434_0.out
                 have hC82 : Kd.C (Kd.int .i64) _ A434_0 (rd_L1 t390 x10_2).length (rd_L1 t390 x10_2) := (by repeat (first | (with_reducible exact HR434_0.out) | (with_reducible refine Kd.C_alloc ?_ _) | (with_reducible refine Kd.C_drewN ?_ _) | (with_reducible refine Kd.C_drew ?_) | exact HR434_0.out))
                 have hcut82 := cut_to (P := Try.prog) 30 3 .i64 Try.underlying30 hi082 A434_0 (rd_L1 t390 x10_2).length c434_0 ((rd_L1 l0 x10_2).length : Int) (D_) q82 hroom82
                 have hr82 := Kd.C_take (m := (((rd_L1 l0 x10_2).length : Int) : Int).toNat) hC82 (by omega)
                 have hy82 : y435.length = (((rd_L1 l0 x10_2).length : Int) : Int).toNat := (by rw [Ny435.out, List.length_take]; omega)
                 rw [← Ny435.out] at hr82
                 rw [← hy82] at hcut82
                 have HR438 := Aside0.mk hr82
                 have HC438 := Aside0.mk (show y435.length ≤ c434_0 from by omega)
                 clear hr82 hC82 hroom82 hi082 hsz82
                 have KY82 := Aside0.mk hy82
                 clear hy82
                 replace q82 := eq_true q82
                 have p439 : 0 ≤ (x10_2 : Int) := D_
                 have q439 : x10_2 < (l0.length : Int) := D_
                 obtain ⟨ad439, A439_0, c439_0, e439, hx439_0, hl439_0, hi439_0⟩ := at_L1 HR0.out x10_2 p439 q439
                 have hw439_0 := hx439_0
                 obtain rfl : ad404 = ad439 := (by injection e439)
                 replace hx439_0 := (HB.out.cell (World.block_lt_of_cell? w _ hx439_0)).trans hx439_0
                 have HR439_0 := Aside0.mk hi439_0
                 have HC439_0 := Aside0.mk hl439_0
                 clear hi439_0 hl439_0
                 replace p439 := eq_true p439
                 replace q439 := eq_true q439
                 have ea_ := Option.some.inj (hx405_0.symm.trans hx439_0)
                 injection ea_ with ea_ en_ ec_
                 subst ea_
                 subst ec_
                 clear en_
                 have p441 : 0 ≤ (x10_2 : Int) := D_
                 have q441 : x10_2 < (t390.length : Int) := D_
                 obtain ⟨ad441, A441_0, c441_0, e441, hx441_0, hl441_0, hi441_0⟩ := at_L1 (Kd.S_reads' HO_398000.out).2.2 x10_2 p441 q441
                 obtain rfl : ad402 = ad441 := (by injection e441)
                 obtain ⟨ce441, hce441, hMe441, hcc441⟩ := Kd.S_get HO_398000.out [] x10_2 p441 (by first | exact q441 | exact D_ | (have e_ := (Kd.S_reads' HO_398000.out).1; omega))
                 obtain ⟨ve441_0, rfl, ge441_0⟩ := hMe441
                 have hv441_0 := hcc441 0 _ rfl
                 rw [Nat.add_zero, show ((Kd.slice 3 (Kd.int .i64))).sz = 1 from rfl, Nat.mul_one] at hv441_0
                 replace hv441_0 := Option.some.inj (hv441_0.symm.trans hx441_0)
                 rw [hv441_0] at ge441_0
                 have HL441_0 := Aside0.mk (show Kd.R (Kd.int .i64) 3 _ _ _ _ (rd_L1 t390 x10_2) from ge441_0)
                 clear hv441_0 ge441_0
                 clear hcc441 hce441
                 have HR441_0 := Aside0.mk hi441_0
                 have HC441_0 := Aside0.mk hl441_0
                 clear hi441_0 hl441_0
                 replace p441 := eq_true p441
                 replace q441 := eq_true q441
                 have ea_ := Option.some.inj (hx434_0.symm.trans hx441_0)
                 injection ea_ with ea_ en_ ec_
                 subst ea_
                 subst ec_
                 clear en_
                 as_aux_lemma =>
                  refine start_ (n := 55) (S := fun w' => w'.cell? ⟨gb397, 0, none⟩ = some (.slice (some ad402) t390.length co21) ∧ w'.cell? ⟨gb397, 1, none⟩ = some (.slice Ao24 t393.length co24) ∧ w'.cell? (ad404.add (x10_2).toNat) = some (.slice A405_0 (rd_L1 l0 x10_2).length c405_0) ∧ w'.cell? (ad404.add (x10_2).toNat) = some (.slice A405_0 (rd_L1 l0 x10_2).length c405_0) ∧ w'.cell? (ad402.add (x10_2).toNat) = some (.slice A434_0 (rd_L1 t390 x10_2).length c434_0) ∧ w'.cell? (ad404.add (x10_2).toNat) = some (.slice A405_0 (rd_L1 l0 x10_2).length c405_0) ∧ w'.cell? (ad402.add (x10_2).toNat) = some (.slice A434_0 (rd_L1 t390 x10_2).length c434_0)) (ds := []) m32_0 (by kernel_rfl) rfl rfl ⟨(blk_cell BK397.out 0).trans rfl, (blk_cell BK397.out 1).trans rfl, ((HB.out.cell (World.block_lt_of_cell? w _ hw405_0)).trans hw405_0), ((HB.out.cell (World.block_lt_of_cell? w _ hw424_0)).trans hw424_0), hx434_0, ((HB.out.cell (World.block_lt_of_cell? w _ hw439_0)).trans hw439_0), hx441_0⟩ (fun hHeld => ?_); refine with_tabW locksteplaw08_PdomEnds.tab19 locksteplaw08_PdomEnds.bits19 (fun HT_ HW_ => ?_)
                  generalize wr.drew = w81 at HO_8 HO_390000 HO_390001 HO_398000 HO_398001 HL402_0 BK389 BK397 HR402_0 HB HL434_0 HL441_0 HR405_0 HR424_0 HR434_0 HR438 HR439_0 HR441_0 hx405_0 hx424_0 hx434_0 hx439_0 hx441_0 hHeld ⊢
                  refine PU_ HT_ 0 58 m32_1 (h := ?_); refine PU_ HT_ 1 59 m32_2 (h := ?_); refine PU_ HT_ 2 60 m32_3 (h := ?_); refine TA_ HT_ HW_ 3 61 hHeld m32_4 (h := ?_); refine PU_ HT_ 4 62 m32_5 (h := ?_); refine PU_ HT_ 5 63 m32_6 (h := ?_); refine PU_ HT_ 6 64 m32_7 (h := ?_); refine PO_ HT_ 7 65 m32_8 (h := ?_); refine PO_ HT_ 8 66 m32_9 (h := ?_); refine PU_ HT_ 9 67 m32_10 (h := ?_); refine PU_ HT_ 10 68 m32_11 (h := ?_); refine PU_ HT_ 11 69 m32_12 (h := ?_); refine PU_ HT_ 12 70 m32_13 (h := ?_); refine PU_ HT_ 13 71 m32_14 (h := ?_); refine PU_ HT_ 14 72 m32_15 (h := ?_); refine PU_ HT_ 15 73 m32_16 (h := ?_); refine TA_ HT_ HW_ 16 74 hHeld m32_17 (h := ?_); refine PU_ HT_ 17 75 m32_18 (h := ?_); refine PU_ HT_ 18 76 m32_19 (h := ?_); refine PU_ HT_ 19 77 m32_20 (h := ?_); refine PU_ HT_ 20 78 m32_21 (h := ?_); refine PO_ HT_ 21 79 m32_22 (h := ?_); refine PO_ HT_ 22 80 m32_23 (h := ?_); refine PO_ HT_ 23 81 m32_24 (h := ?_); refine PO_ HT_ 24 82 m32_25 (h := ?_); refine PU_ HT_ 25 83 m32_26 (h := ?_); refine PU_ HT_ 26 84 m32_27 (h := ?_); refine PU_ HT_ 27 85 m32_28 (h := ?_); refine PU_ HT_ 28 86 m32_29 (h := ?_); refine PU_ HT_ 30 88 m32_30 (h := ?_); refine PU_ HT_ 33 91 m32_31 (h := ?_); refine PU_ HT_ 35 93 m32_32 (h := ?_); refine PU_ HT_ 36 94 m32_33 (h := ?_); refine PU_ HT_ 37 95 m32_34 (h := ?_); refine TA_ HT_ HW_ 29 87 hHeld m32_35 (h := ?_); refine PU_ HT_ 31 89 m32_36 (h := ?_); refine TA_ HT_ HW_ 32 90 hHeld m32_37 (h := ?_); refine PU_ HT_ 34 92 m32_38 (h := ?_); refine TA_ HT_ HW_ 38 96 hHeld m32_39 (h := ?_)
                  refine one_ (i := 39) (N := some 97) m32_40 rfl rfl (one_of HT_.out (by kernel_rfl)) (by decide) (fun K hK => ?_)
                  refine goes_ Try.func16 (by kernel_rfl) rfl #[.slice A434_0 y435.length c434_0, .slice A405_0 (rd_L1 l0 x10_2).length c405_0] (by rfl) rfl rfl (by (try simp only [List.map_toArray, List.map_cons, List.map_nil]); first | done | rfl | (simp only [List.length_drop, List.length_take]; rfl)) ?_
                  with_reducible refine (lockstepref02_Ints.calls k2 _ _ y435 _ _ (rd_L1 l0 x10_2) true _ ?side1 ?side2 ?side3 ?side4 A79.out).mono ?_
                  (case side1 => repeat (first | exact (by repeat (first | (with_reducible exact HR438.out) | (with_reducible refine Kd.C_alloc ?_ _) | (with_reducible refine Kd.C_drewN ?_ _) | (with_reducible refine Kd.C_drew ?_) | exact HR438.out)) | (with_reducible refine Kd.C_alloc ?_ _) | (with_reducible refine Kd.C_drewN ?_ _) | (with_reducible refine Kd.C_drew ?_)))
                  (case side2 => exact HC438.out)
                  (case side3 => exact CX_ (Kd.C_below HR439_0.out HB.out))
                  (case side4 => exact HC439_0.out)
                  rintro e w' ⟨rfl, ⟨nd, rfl⟩⟩
                  refine ⟨_, rfl, ?_⟩
                  refine hK.out _ _ ⟨(blk_cell BK397.out 0).trans rfl, (blk_cell BK397.out 1).trans rfl, ((HB.out.cell (World.block_lt_of_cell? w _ hw405_0)).trans hw405_0), ((HB.out.cell (World.block_lt_of_cell? w _ hw424_0)).trans hw424_0), hHeld.2.2.2.2.1, ((HB.out.cell (World.block_lt_of_cell? w _ hw439_0)).trans hw439_0), hHeld.2.2.2.2.2.2⟩ (fun hHeld => ?_)
                  clear hK K
                  refine norm_ (a' := ?_) ?_ ?_
                  rotate_left
                  ·show Act.put _ (some 97) _ = _
                   simp only [Act.put, List.setIfInBounds_toArray, List.set_cons_zero, List.set_cons_succ, i64_w, i32_w]
                   rfl
                  refine PU_ HT_ 40 98 m32_41 (h := ?_); refine PU_ HT_ 41 99 m32_42 (h := ?_); refine PU_ HT_ 42 100 m32_43 (h := ?_); refine PU_ HT_ 43 101 m32_44 (h := ?_); refine PU_ HT_ 44 102 m32_45 (h := ?_); refine PU_ HT_ 46 104 m32_46 (h := ?_); refine PU_ HT_ 50 108 m32_47 (h := ?_); refine PU_ HT_ 51 109 m32_48 (h := ?_); refine TA_ HT_ HW_ 45 103 hHeld m32_49 (h := ?_); refine PU_ HT_ 47 105 m32_50 (h := ?_); refine TA_ HT_ HW_ 48 106 hHeld m32_51 (h := ?_); refine PU_ HT_ 49 107 m32_52 (h := ?_); refine PU_ HT_ 52 110 m32_53 (h := ?_); refine PU_ HT_ 53 111 m32_54 (h := ?_); refine PU_ HT_ 54 112 m32_55 (h := ?_)
                  refine done_ (done_of HT_.out (by kernel_rfl)) ?_
                  try go_wp2
                  go_meet
                  case rel => exact ⟨_, ((true != (((rd_L1 t390 x10_2).length : Int) == (wrap64 (((rd_L1 l0 x10_2).length : Int) + 1))))), (by first | rfl | exact congrArg (fun b => Ending.returned (Value.bool b)) HR_.out | (simp; done) | (simp [*]; done)), H', ⟨by have := HJ3.out; have := HK2.out; first | omega | exact Nat.le_refl _⟩, ⟨by exact RM_ HO_8.out⟩, ⟨by exact SM_ HO_390000.out⟩, ⟨by exact SM_ HO_390001.out⟩, ⟨by exact SM_ HO_398000.out⟩, ⟨by exact SM_ HO_398001.out⟩, ⟨by exact KX_ BK389.out⟩, ⟨by exact KX_ BK397.out⟩, ⟨by repeat (first | (with_reducible exact HR402_0.out) | (with_reducible refine Kd.C_alloc ?_ _) | (with_reducible refine Kd.C_drewN ?_ _) | (with_reducible refine Kd.C_drew ?_) | exact HR402_0.out)⟩, ⟨B1_⟩⟩
                replace c80 := Bool.eq_false_iff.mpr c80
                subst c80
                have H1 : (locksteplaw08_PdomEnds.j2 k2 l0 (l0.length : Int) t398 x9_2 x10_2 true ((rd_L1 l0 x10_2).length : Int) true t390 t393) = some true := by rw [if_neg (show ¬ (false = true) by decide)] at H; exact H
                clear H
                have H := H1
                clear H1
                have H' := Aside0.mk H
                clear H
                try go_wp2
                have n0_ := Aside0.mk (Kd.R_drew HO_8.out)
                have n1_ := Aside0.mk (Kd.S_drew HO_390000.out)
                have n2_ := Aside0.mk (Kd.S_drew HO_390001.out)
                have n3_ := Aside0.mk (Kd.S_drew HO_398000.out)
                have n4_ := Aside0.mk (Kd.S_drew HO_398001.out)
                have n5_ := Aside0.mk (Kd.R_drew HL402_0.out)
                have n6_ := Aside0.mk (blk_drew BK389.out)
                have n7_ := Aside0.mk (blk_drew BK397.out)
                have n8_ := Aside0.mk (Kd.C_drew HR402_0.out)
                have n9_ := Aside0.mk (below_drew1 HB.out)
                clear HO_8
                clear HO_390000
                clear HO_390001
                clear HO_398000
                clear HO_398001
                clear HL402_0
                clear BK389
                clear BK397
                clear HR402_0
                clear HB
                have HO_8 := n0_
                have HO_390000 := n1_
                have HO_390001 := n2_
                have HO_398000 := n3_
                have HO_398001 := n4_
                have HL402_0 := n5_
                have BK389 := n6_
                have BK397 := n7_
                have HR402_0 := n8_
                have HB := n9_
                clear n0_ n1_ n2_ n3_ n4_ n5_ n6_ n7_ n8_ n9_
                have p405 : 0 ≤ (x10_2 : Int) := D_
                have q405 : x10_2 < (l0.length : Int) := D_
                obtain ⟨ad405, A405_0, c405_0, e405, hx405_0, hl405_0, hi405_0⟩ := at_L1 HR0.out x10_2 p405 q405
                have hw405_0 := hx405_0
                obtain rfl : ad404 = ad405 := (by injection e405)
                replace hx405_0 := (HB.out.cell (World.block_lt_of_cell? w _ hx405_0)).trans hx405_0
                have HR405_0 := Aside0.mk hi405_0
                have HC405_0 := Aside0.mk hl405_0
                clear hi405_0 hl405_0
                replace p405 := eq_true p405
                replace q405 := eq_true q405
                have p424 : 0 ≤ (x10_2 : Int) := D_
                have q424 : x10_2 < (l0.length : Int) := D_
                obtain ⟨ad424, A424_0, c424_0, e424, hx424_0, hl424_0, hi424_0⟩ := at_L1 HR0.out x10_2 p424 q424
                have hw424_0 := hx424_0
                obtain rfl : ad404 = ad424 := (by injection e424)
                replace hx424_0 := (HB.out.cell (World.block_lt_of_cell? w _ hx424_0)).trans hx424_0
                have HR424_0 := Aside0.mk hi424_0
                have HC424_0 := Aside0.mk hl424_0
                clear hi424_0 hl424_0
                replace p424 := eq_true p424
                replace q424 := eq_true q424
                have ea_ := Option.some.inj (hx405_0.symm.trans hx424_0)
                injection ea_ with ea_ en_ ec_
                subst ea_
                subst ec_
                clear en_
                have p434 : 0 ≤ (x10_2 : Int) := D_
                have q434 : x10_2 < (t390.length : Int) := D_
                obtain ⟨ad434, A434_0, c434_0, e434, hx434_0, hl434_0, hi434_0⟩ := at_L1 (Kd.S_reads' HO_398000.out).2.2 x10_2 p434 q434
                obtain rfl : ad402 = ad434 := (by injection e434)
                obtain ⟨ce434, hce434, hMe434, hcc434⟩ := Kd.S_get HO_398000.out [] x10_2 p434 (by first | exact q434 | exact D_ | (have e_ := (Kd.S_reads' HO_398000.out).1; omega))
                obtain ⟨ve434_0, rfl, ge434_0⟩ := hMe434
                have hv434_0 := hcc434 0 _ rfl
                rw [Nat.add_zero, show ((Kd.slice 3 (Kd.int .i64))).sz = 1 from rfl, Nat.mul_one] at hv434_0
                replace hv434_0 := Option.some.inj (hv434_0.symm.trans hx434_0)
                rw [hv434_0] at ge434_0
                have HL434_0 := Aside0.mk (show Kd.R (Kd.int .i64) 3 _ _ _ _ (rd_L1 t390 x10_2) from ge434_0)
                clear hv434_0 ge434_0
                clear hcc434 hce434
                have HR434_0 := Aside0.mk hi434_0
                have HC434_0 := Aside0.mk hl434_0
                clear hi434_0 hl434_0
                replace p434 := eq_true p434
                replace q434 := eq_true q434
                have q84 : (((rd_L1 l0 x10_2).length : Int) : Int) ≤ (((rd_L1 t390 x10_2).length : Int) : Int) := D_
                obtain ⟨i084, hi084, _, hsz84, _⟩ := info_parts info3
                have hroom84 : (rd_L1 t390 x10_2).length ≤ c434_0 := HC434_0.out
                have hC84 : Kd.C (Kd.int .i64) _ A434_0 (rd_L1 t390 x10_2).length (rd_L1 t390 x10_2) := (by repeat (first | (with_reducible exact HR434_0.out) | (with_reducible refine Kd.C_alloc ?_ _) | (with_reducible refine Kd.C_drewN ?_ _) | (with_reducible refine Kd.C_drew ?_) | exact HR434_0.out))
                have hcut84 := cut_to (P := Try.prog) 30 3 .i64 Try.underlying30 hi084 A434_0 (rd_L1 t390 x10_2).length c434_0 ((rd_L1 l0 x10_2).length : Int) (D_) q84 hroom84
                have hr84 := Kd.C_take (m := (((rd_L1 l0 x10_2).length : Int) : Int).toNat) hC84 (by omega)
                have hy84 : y435.length = (((rd_L1 l0 x10_2).length : Int) : Int).toNat := (by rw [Ny435.out, List.length_take]; omega)
                rw [← Ny435.out] at hr84
                rw [← hy84] at hcut84
                have HR438 := Aside0.mk hr84
                have HC438 := Aside0.mk (show y435.length ≤ c434_0 from by omega)
                clear hr84 hC84 hroom84 hi084 hsz84
                have KY84 := Aside0.mk hy84
                clear hy84
                replace q84 := eq_true q84
                have p439 : 0 ≤ (x10_2 : Int) := D_
                have q439 : x10_2 < (l0.length : Int) := D_
                obtain ⟨ad439, A439_0, c439_0, e439, hx439_0, hl439_0, hi439_0⟩ := at_L1 HR0.out x10_2 p439 q439
                have hw439_0 := hx439_0
                obtain rfl : ad404 = ad439 := (by injection e439)
                replace hx439_0 := (HB.out.cell (World.block_lt_of_cell? w _ hx439_0)).trans hx439_0
                have HR439_0 := Aside0.mk hi439_0
                have HC439_0 := Aside0.mk hl439_0
                clear hi439_0 hl439_0
                replace p439 := eq_true p439
                replace q439 := eq_true q439
                have ea_ := Option.some.inj (hx405_0.symm.trans hx439_0)
                injection ea_ with ea_ en_ ec_
                subst ea_
                subst ec_
                clear en_
                as_aux_lemma =>
                 refine start_ (n := 55) (S := fun w' => w'.cell? ⟨gb397, 0, none⟩ = some (.slice (some ad402) t390.length co21) ∧ w'.cell? ⟨gb397, 1, none⟩ = some (.slice Ao24 t393.length co24) ∧ w'.cell? (ad404.add (x10_2).toNat) = some (.slice A405_0 (rd_L1 l0 x10_2).length c405_0) ∧ w'.cell? (ad404.add (x10_2).toNat) = some (.slice A405_0 (rd_L1 l0 x10_2).length c405_0) ∧ w'.cell? (ad402.add (x10_2).toNat) = some (.slice A434_0 (rd_L1 t390 x10_2).length c434_0) ∧ w'.cell? (ad404.add (x10_2).toNat) = some (.slice A405_0 (rd_L1 l0 x10_2).length c405_0)) (ds := []) m32_0 (by kernel_rfl) rfl rfl ⟨(blk_cell BK397.out 0).trans rfl, (blk_cell BK397.out 1).trans rfl, ((HB.out.cell (World.block_lt_of_cell? w _ hw405_0)).trans hw405_0), ((HB.out.cell (World.block_lt_of_cell? w _ hw424_0)).trans hw424_0), hx434_0, ((HB.out.cell (World.block_lt_of_cell? w _ hw439_0)).trans hw439_0)⟩ (fun hHeld => ?_); refine with_tabW locksteplaw08_PdomEnds.tab19 locksteplaw08_PdomEnds.bits19 (fun HT_ HW_ => ?_)
                 generalize wr.drew = w83 at HO_8 HO_390000 HO_390001 HO_398000 HO_398001 HL402_0 BK389 BK397 HR402_0 HB HL434_0 HR405_0 HR424_0 HR434_0 HR438 HR439_0 hx405_0 hx424_0 hx434_0 hx439_0 hHeld ⊢
                 refine PU_ HT_ 0 58 m32_1 (h := ?_); refine PU_ HT_ 1 59 m32_2 (h := ?_); refine PU_ HT_ 2 60 m32_3 (h := ?_); refine TA_ HT_ HW_ 3 61 hHeld m32_4 (h := ?_); refine PU_ HT_ 4 62 m32_5 (h := ?_); refine PU_ HT_ 5 63 m32_6 (h := ?_); refine PU_ HT_ 6 64 m32_7 (h := ?_); refine PO_ HT_ 7 65 m32_8 (h := ?_); refine PO_ HT_ 8 66 m32_9 (h := ?_); refine PU_ HT_ 9 67 m32_10 (h := ?_); refine PU_ HT_ 10 68 m32_11 (h := ?_); refine PU_ HT_ 11 69 m32_12 (h := ?_); refine PU_ HT_ 12 70 m32_13 (h := ?_); refine PU_ HT_ 13 71 m32_14 (h := ?_); refine PU_ HT_ 14 72 m32_15 (h := ?_); refine PU_ HT_ 15 73 m32_16 (h := ?_); refine TA_ HT_ HW_ 16 74 hHeld m32_17 (h := ?_); refine PU_ HT_ 17 75 m32_18 (h := ?_); refine PU_ HT_ 18 76 m32_19 (h := ?_); refine PU_ HT_ 19 77 m32_20 (h := ?_); refine PU_ HT_ 20 78 m32_21 (h := ?_); refine PO_ HT_ 21 79 m32_22 (h := ?_); refine PO_ HT_ 22 80 m32_23 (h := ?_); refine PO_ HT_ 23 81 m32_24 (h := ?_); refine PO_ HT_ 24 82 m32_25 (h := ?_); refine PU_ HT_ 25 83 m32_26 (h := ?_); refine PU_ HT_ 26 84 m32_27 (h := ?_); refine PU_ HT_ 27 85 m32_28 (h := ?_); refine PU_ HT_ 28 86 m32_29 (h := ?_); refine PU_ HT_ 30 88 m32_30 (h := ?_); refine PU_ HT_ 33 91 m32_31 (h := ?_); refine PU_ HT_ 35 93 m32_32 (h := ?_); refine PU_ HT_ 36 94 m32_33 (h := ?_); refine PU_ HT_ 37 95 m32_34 (h := ?_); refine TA_ HT_ HW_ 29 87 hHeld m32_35 (h := ?_); refine PU_ HT_ 31 89 m32_36 (h := ?_); refine TA_ HT_ HW_ 32 90 hHeld m32_37 (h := ?_); refine PU_ HT_ 34 92 m32_38 (h := ?_); refine TA_ HT_ HW_ 38 96 hHeld m32_39 (h := ?_)
                 refine one_ (i := 39) (N := some 97) m32_40 rfl rfl (one_of HT_.out (by kernel_rfl)) (by decide) (fun K hK => ?_)
                 refine goes_ Try.func16 (by kernel_rfl) rfl #[.slice A434_0 y435.length c434_0, .slice A405_0 (rd_L1 l0 x10_2).length c405_0] (by rfl) rfl rfl (by (try simp only [List.map_toArray, List.map_cons, List.map_nil]); first | done | rfl | (simp only [List.length_drop, List.length_take]; rfl)) ?_
                 with_reducible refine (lockstepref02_Ints.calls k2 _ _ y435 _ _ (rd_L1 l0 x10_2) false _ ?side1 ?side2 ?side3 ?side4 A79.out).mono ?_
                 (case side1 => repeat (first | exact (by repeat (first | (with_reducible exact HR438.out) | (with_reducible refine Kd.C_alloc ?_ _) | (with_reducible refine Kd.C_drewN ?_ _) | (with_reducible refine Kd.C_drew ?_) | exact HR438.out)) | (with_reducible refine Kd.C_alloc ?_ _) | (with_reducible refine Kd.C_drewN ?_ _) | (with_reducible refine Kd.C_drew ?_)))
                 (case side2 => exact HC438.out)
                 (case side3 => exact CX_ (Kd.C_below HR439_0.out HB.out))
                 (case side4 => exact HC439_0.out)
                 rintro e w' ⟨rfl, ⟨nd, rfl⟩⟩
                 refine ⟨_, rfl, ?_⟩
                 refine hK.out _ _ ⟨(blk_cell BK397.out 0).trans rfl, (blk_cell BK397.out 1).trans rfl, ((HB.out.cell (World.block_lt_of_cell? w _ hw405_0)).trans hw405_0), ((HB.out.cell (World.block_lt_of_cell? w _ hw424_0)).trans hw424_0), hHeld.2.2.2.2.1, ((HB.out.cell (World.block_lt_of_cell? w _ hw439_0)).trans hw439_0)⟩ (fun hHeld => ?_)
                 clear hK K
                 refine norm_ (a' := ?_) ?_ ?_
                 rotate_left
                 ·show Act.put _ (some 97) _ = _
                  simp only [Act.put, List.setIfInBounds_toArray, List.set_cons_zero, List.set_cons_succ, i64_w, i32_w]
                  rfl
                 refine PU_ HT_ 40 98 m32_41 (h := ?_); refine PU_ HT_ 41 99 m32_42 (h := ?_); refine PU_ HT_ 42 100 m32_43 (h := ?_); refine PO_ HT_ 43 101 m32_44 (h := ?_); refine PO_ HT_ 44 102 m32_45 (h := ?_); refine PO_ HT_ 45 103 m32_56 (h := ?_); refine PO_ HT_ 46 104 m32_57 (h := ?_); refine PO_ HT_ 47 105 m32_58 (h := ?_); refine PO_ HT_ 48 106 m32_59 (h := ?_); refine PO_ HT_ 49 107 m32_60 (h := ?_); refine PO_ HT_ 50 108 m32_61 (h := ?_); refine PO_ HT_ 51 109 m32_52 (h := ?_); refine PO_ HT_ 52 110 m32_53 (h := ?_); refine PO_ HT_ 53 111 m32_54 (h := ?_); refine PU_ HT_ 54 112 m32_55 (h := ?_)
                 refine done_ (done_of HT_.out (by kernel_rfl)) ?_
                 try go_wp2
                 go_meet
                 case rel => exact ⟨_, (true), (by first | rfl | exact congrArg (fun b => Ending.returned (Value.bool b)) HR_.out | (simp; done) | (simp [*]; done)), H', ⟨by have := HJ3.out; have := HK2.out; first | omega | exact Nat.le_refl _⟩, ⟨by exact RM_ HO_8.out⟩, ⟨by exact SM_ HO_390000.out⟩, ⟨by exact SM_ HO_390001.out⟩, ⟨by exact SM_ HO_398000.out⟩, ⟨by exact SM_ HO_398001.out⟩, ⟨by exact KX_ BK389.out⟩, ⟨by exact KX_ BK397.out⟩, ⟨by repeat (first | (with_reducible exact HR402_0.out) | (with_reducible refine Kd.C_alloc ?_ _) | (with_reducible refine Kd.C_drewN ?_ _) | (with_reducible refine Kd.C_drew ?_) | exact HR402_0.out)⟩, ⟨B1_⟩⟩
               rw [if_neg c78] at H
               exact absurd H (by simp)
              rw [if_neg c77] at H
              exact absurd H (by simp)
             replace c61 := Bool.eq_false_iff.mpr c61
             subst c61
             have H1 : (if 0 ≤ ((rd_L1 l0 x10_2).length : Int) then (if ((rd_L1 l0 x10_2).length : Int) ≤ ((rd_L1 t390 x10_2).length : Int) then ((lockstepref02_Ints.f k2 ((rd_L1 t390 x10_2).take (((rd_L1 l0 x10_2).length : Int) : Int).toNat) (rd_L1 l0 x10_2)).bind fun t448 => (if t448 = true then (locksteplaw08_PdomEnds.j2 k2 l0 (l0.length : Int) t398 x9_2 x10_2 false ((rd_L1 l0 x10_2).length : Int) (false != (((rd_L1 t390 x10_2).length : Int) == (wrap64 (((rd_L1 l0 x10_2).length : Int) + 1)))) t390 t393) else (locksteplaw08_PdomEnds.j2 k2 l0 (l0.length : Int) t398 x9_2 x10_2 false ((rd_L1 l0 x10_2).length : Int) true t390 t393))) else (none)) else (none)) = some true := by rw [if_neg (show ¬ (false = true) by decide)] at H; exact H
             clear H
             have H := H1
             clear H1
             by_cases c85 : 0 ≤ ((rd_L1 l0 x10_2).length : Int)
             ·rw [if_pos c85] at H
              have c85b0 := eq_true c85
              have c85b1 : decide (0 ≤ ((rd_L1 l0 x10_2).length : Int)) = true := decide_eq_true c85
              clear c85
              by_cases c86 : ((rd_L1 l0 x10_2).length : Int) ≤ ((rd_L1 t390 x10_2).length : Int)
              ·rw [if_pos c86] at H
               have c86b0 := eq_true c86
               have c86b1 : decide (((rd_L1 l0 x10_2).length : Int) ≤ ((rd_L1 t390 x10_2).length : Int)) = true := decide_eq_true c86
               clear c86
               obtain ⟨y443, hy443⟩ : ∃ y_ : List Int, y_ = ((rd_L1 t390 x10_2).take (((rd_L1 l0 x10_2).length : Int) : Int).toNat) := ⟨_, rfl⟩
               replace H : ((lockstepref02_Ints.f k2 y443 (rd_L1 l0 x10_2)).bind fun t448 => (if t448 = true then (locksteplaw08_PdomEnds.j2 k2 l0 (l0.length : Int) t398 x9_2 x10_2 false ((rd_L1 l0 x10_2).length : Int) (false != (((rd_L1 t390 x10_2).length : Int) == (wrap64 (((rd_L1 l0 x10_2).length : Int) + 1)))) t390 t393) else (locksteplaw08_PdomEnds.j2 k2 l0 (l0.length : Int) t398 x9_2 x10_2 false ((rd_L1 l0 x10_2).length : Int) true t390 t393))) = some true := by first | (rw [hy443]; with_reducible exact H) | (have H2_ := (Option.bind_some _ _).symm.trans H; rw [hy443]; with_reducible exact H2_) | (have H2_ := (Option.bind_some _ _).symm.trans H; with_reducible exact H2_) | with_reducible exact H | (rw [hy443]; exact H) | exact H
               have Ny443 := Aside0.mk hy443
               clear hy443
               replace H := Option.bind_eq_some_iff.mp H
               obtain ⟨t448, A870, H⟩ := H
               replace H : (if t448 = true then (locksteplaw08_PdomEnds.j2 k2 l0 (l0.length : Int) t398 x9_2 x10_2 false ((rd_L1 l0 x10_2).length : Int) (false != (((rd_L1 t390 x10_2).length : Int) == (wrap64 (((rd_L1 l0 x10_2).length : Int) + 1)))) t390 t393) else (locksteplaw08_PdomEnds.j2 k2 l0 (l0.length : Int) t398 x9_2 x10_2 false ((rd_L1 l0 x10_2).length : Int) true t390 t393)) = some true := H
               have A87 := Aside0.mk A870
               clear A870
               by_cases c88 : t448 = true
               ·subst c88
                have H1 : (locksteplaw08_PdomEnds.j2 k2 l0 (l0.length : Int) t398 x9_2 x10_2 false ((rd_L1 l0 x10_2).length : Int) (false != (((rd_L1 t390 x10_2).length : Int) == (wrap64 (((rd_L1 l0 x10_2).length : Int) + 1)))) t390 t393) = some true := by rw [if_pos rfl] at H; exact H
                clear H
                have H := H1
                clear H1
                have H' := Aside0.mk H
                clear H
                try go_wp2
                have n0_ := Aside0.mk (Kd.R_drew HO_8.out)
                have n1_ := Aside0.mk (Kd.S_drew HO_390000.out)
                have n2_ := Aside0.mk (Kd.S_drew HO_390001.out)
                have n3_ := Aside0.mk (Kd.S_drew HO_398000.out)
                have n4_ := Aside0.mk (Kd.S_drew HO_398001.out)
                have n5_ := Aside0.mk (Kd.R_drew HL402_0.out)
                have n6_ := Aside0.mk (blk_drew BK389.out)
                have n7_ := Aside0.mk (blk_drew BK397.out)
                have n8_ := Aside0.mk (Kd.C_drew HR402_0.out)
                have n9_ := Aside0.mk (below_drew1 HB.out)
                clear HO_8
                clear HO_390000
                clear HO_390001
                clear HO_398000
                clear HO_398001
                clear HL402_0
                clear BK389
                clear BK397
                clear HR402_0
                clear HB
                have HO_8 := n0_
                have HO_390000 := n1_
                have HO_390001 := n2_
                have HO_398000 := n3_
                have HO_398001 := n4_
                have HL402_0 := n5_
                have BK389 := n6_
                have BK397 := n7_
                have HR402_0 := n8_
                have HB := n9_
                clear n0_ n1_ n2_ n3_ n4_ n5_ n6_ n7_ n8_ n9_
                have p405 : 0 ≤ (x10_2 : Int) := D_
                have q405 : x10_2 < (l0.length : Int) := D_
                obtain ⟨ad405, A405_0, c405_0, e405, hx405_0, hl405_0, hi405_0⟩ := at_L1 HR0.out x10_2 p405 q405
                have hw405_0 := hx405_0
                obtain rfl : ad404 = ad405 := (by injection e405)
                replace hx405_0 := (HB.out.cell (World.block_lt_of_cell? w _ hx405_0)).trans hx405_0
                have HR405_0 := Aside0.mk hi405_0
                have HC405_0 := Aside0.mk hl405_0
                clear hi405_0 hl405_0
                replace p405 := eq_true p405
                replace q405 := eq_true q405
                have p442 : 0 ≤ (x10_2 : Int) := D_
                have q442 : x10_2 < (t390.length : Int) := D_
                obtain ⟨ad442, A442_0, c442_0, e442, hx442_0, hl442_0, hi442_0⟩ := at_L1 (Kd.S_reads' HO_398000.out).2.2 x10_2 p442 q442
                obtain rfl : ad402 = ad442 := (by injection e442)
                obtain ⟨ce442, hce442, hMe442, hcc442⟩ := Kd.S_get HO_398000.out [] x10_2 p442 (by first | exact q442 | exact D_ | (have e_ := (Kd.S_reads' HO_398000.out).1; omega))
                obtain ⟨ve442_0, rfl, ge442_0⟩ := hMe442
                have hv442_0 := hcc442 0 _ rfl
                rw [Nat.add_zero, show ((Kd.slice 3 (Kd.int .i64))).sz = 1 from rfl, Nat.mul_one] at hv442_0
                replace hv442_0 := Option.some.inj (hv442_0.symm.trans hx442_0)
                rw [hv442_0] at ge442_0
                have HL442_0 := Aside0.mk (show Kd.R (Kd.int .i64) 3 _ _ _ _ (rd_L1 t390 x10_2) from ge442_0)
                clear hv442_0 ge442_0
                clear hcc442 hce442
                have HR442_0 := Aside0.mk hi442_0
                have HC442_0 := Aside0.mk hl442_0
                clear hi442_0 hl442_0
                replace p442 := eq_true p442
                replace q442 := eq_true q442
                have q90 : (((rd_L1 l0 x10_2).length : Int) : Int) ≤ (((rd_L1 t390 x10_2).length : Int) : Int) := D_
                obtain ⟨i090, hi090, _, hsz90, _⟩ := info_parts info3
                have hroom90 : (rd_L1 t390 x10_2).length ≤ c442_0 := HC442_0.out
                have hC90 : Kd.C (Kd.int .i64) _ A442_0 (rd_L1 t390 x10_2).length (rd_L1 t390 x10_2) := (by repeat (first | (with_reducible exact HR442_0.out) | (with_reducible refine Kd.C_alloc ?_ _) | (with_reducible refine Kd.C_drewN ?_ _) | (with_reducible refine Kd.C_drew ?_) | exact HR442_0.out))
                have hcut90 := cut_to (P := Try.prog) 30 3 .i64 Try.underlying30 hi090 A442_0 (rd_L1 t390 x10_2).length c442_0 ((rd_L1 l0 x10_2).length : Int) (D_) q90 hroom90
                have hr90 := Kd.C_take (m := (((rd_L1 l0 x10_2).length : Int) : Int).toNat) hC90 (by omega)
                have hy90 : y443.length = (((rd_L1 l0 x10_2).length : Int) : Int).toNat := (by rw [Ny443.out, List.length_take]; omega)
                rw [← Ny443.out] at hr90
                rw [← hy90] at hcut90
                have HR446 := Aside0.mk hr90
                have HC446 := Aside0.mk (show y443.length ≤ c442_0 from by omega)
                clear hr90 hC90 hroom90 hi090 hsz90
                have KY90 := Aside0.mk hy90
                clear hy90
                replace q90 := eq_true q90
                have p447 : 0 ≤ (x10_2 : Int) := D_
                have q447 : x10_2 < (l0.length : Int) := D_
                obtain ⟨ad447, A447_0, c447_0, e447, hx447_0, hl447_0, hi447_0⟩ := at_L1 HR0.out x10_2 p447 q447
                have hw447_0 := hx447_0
                obtain rfl : ad404 = ad447 := (by injection e447)
                replace hx447_0 := (HB.out.cell (World.block_lt_of_cell? w _ hx447_0)).trans hx447_0
                have HR447_0 := Aside0.mk hi447_0
                have HC447_0 := Aside0.mk hl447_0
                clear hi447_0 hl447_0
                replace p447 := eq_true p447
                replace q447 := eq_true q447
                have ea_ := Option.some.inj (hx405_0.symm.trans hx447_0)
                injection ea_ with ea_ en_ ec_
                subst ea_
                subst ec_
                clear en_
                have p449 : 0 ≤ (x10_2 : Int) := D_
                have q449 : x10_2 < (t390.length : Int) := D_
                obtain ⟨ad449, A449_0, c449_0, e449, hx449_0, hl449_0, hi449_0⟩ := at_L1 (Kd.S_reads' HO_398000.out).2.2 x10_2 p449 q449
                obtain rfl : ad402 = ad449 := (by injection e449)
                obtain ⟨ce449, hce449, hMe449, hcc449⟩ := Kd.S_get HO_398000.out [] x10_2 p449 (by first | exact q449 | exact D_ | (have e_ := (Kd.S_reads' HO_398000.out).1; omega))
                obtain ⟨ve449_0, rfl, ge449_0⟩ := hMe449
                have hv449_0 := hcc449 0 _ rfl
                rw [Nat.add_zero, show ((Kd.slice 3 (Kd.int .i64))).sz = 1 from rfl, Nat.mul_one] at hv449_0
                replace hv449_0 := Option.some.inj (hv449_0.symm.trans hx449_0)
                rw [hv449_0] at ge449_0
                have HL449_0 := Aside0.mk (show Kd.R (Kd.int .i64) 3 _ _ _ _ (rd_L1 t390 x10_2) from ge449_0)
                clear hv449_0 ge449_0
                clear hcc449 hce449
                have HR449_0 := Aside0.mk hi449_0
                have HC449_0 := Aside0.mk hl449_0
                clear hi449_0 hl449_0
                replace p449 := eq_true p449
                replace q449 := eq_true q449
                have ea_ := Option.some.inj (hx442_0.symm.trans hx449_0)
                injection ea_ with ea_ en_ ec_
                subst ea_
                subst ec_
                clear en_
                as_aux_lemma =>
                 refine start_ (n := 55) (S := fun w' => w'.cell? ⟨gb397, 0, none⟩ = some (.slice (some ad402) t390.length co21) ∧ w'.cell? ⟨gb397, 1, none⟩ = some (.slice Ao24 t393.length co24) ∧ w'.cell? (ad404.add (x10_2).toNat) = some (.slice A405_0 (rd_L1 l0 x10_2).length c405_0) ∧ w'.cell? (ad402.add (x10_2).toNat) = some (.slice A442_0 (rd_L1 t390 x10_2).length c442_0) ∧ w'.cell? (ad404.add (x10_2).toNat) = some (.slice A405_0 (rd_L1 l0 x10_2).length c405_0) ∧ w'.cell? (ad402.add (x10_2).toNat) = some (.slice A442_0 (rd_L1 t390 x10_2).length c442_0)) (ds := []) m32_0 (by kernel_rfl) rfl rfl ⟨(blk_cell BK397.out 0).trans rfl, (blk_cell BK397.out 1).trans rfl, ((HB.out.cell (World.block_lt_of_cell? w _ hw405_0)).trans hw405_0), hx442_0, ((HB.out.cell (World.block_lt_of_cell? w _ hw447_0)).trans hw447_0), hx449_0⟩ (fun hHeld => ?_); refine with_tabW locksteplaw08_PdomEnds.tab19 locksteplaw08_PdomEnds.bits19 (fun HT_ HW_ => ?_)
                 generalize wr.drew = w89 at HO_8 HO_390000 HO_390001 HO_398000 HO_398001 HL402_0 BK389 BK397 HR402_0 HB HL442_0 HL449_0 HR405_0 HR442_0 HR446 HR447_0 HR449_0 hx405_0 hx442_0 hx447_0 hx449_0 hHeld ⊢
                 refine PU_ HT_ 0 58 m32_1 (h := ?_); refine PU_ HT_ 1 59 m32_2 (h := ?_); refine PU_ HT_ 2 60 m32_3 (h := ?_); refine TA_ HT_ HW_ 3 61 hHeld m32_4 (h := ?_); refine PU_ HT_ 4 62 m32_5 (h := ?_); refine PU_ HT_ 5 63 m32_6 (h := ?_); refine PU_ HT_ 6 64 m32_7 (h := ?_); refine PO_ HT_ 7 65 m32_8 (h := ?_); refine PO_ HT_ 8 66 m32_9 (h := ?_); refine PU_ HT_ 9 67 m32_10 (h := ?_); refine PU_ HT_ 10 68 m32_11 (h := ?_); refine PU_ HT_ 11 69 m32_12 (h := ?_); refine PU_ HT_ 12 70 m32_13 (h := ?_); refine PO_ HT_ 13 71 m32_14 (h := ?_); refine PO_ HT_ 14 72 m32_15 (h := ?_); refine PO_ HT_ 15 73 m32_16 (h := ?_); refine PO_ HT_ 16 74 m32_17 (h := ?_); refine PO_ HT_ 17 75 m32_18 (h := ?_); refine PO_ HT_ 18 76 m32_19 (h := ?_); refine PU_ HT_ 19 77 m32_20 (h := ?_); refine PU_ HT_ 20 78 m32_21 (h := ?_); refine PO_ HT_ 21 79 m32_22 (h := ?_); refine PO_ HT_ 22 80 m32_23 (h := ?_); refine PO_ HT_ 23 81 m32_24 (h := ?_); refine PO_ HT_ 24 82 m32_25 (h := ?_); refine PU_ HT_ 25 83 m32_26 (h := ?_); refine PU_ HT_ 26 84 m32_27 (h := ?_); refine PU_ HT_ 27 85 m32_28 (h := ?_); refine PU_ HT_ 28 86 m32_29 (h := ?_); refine PU_ HT_ 30 88 m32_30 (h := ?_); refine PU_ HT_ 33 91 m32_31 (h := ?_); refine PU_ HT_ 35 93 m32_32 (h := ?_); refine PU_ HT_ 36 94 m32_33 (h := ?_); refine PU_ HT_ 37 95 m32_34 (h := ?_); refine TA_ HT_ HW_ 29 87 hHeld m32_35 (h := ?_); refine PU_ HT_ 31 89 m32_36 (h := ?_); refine TA_ HT_ HW_ 32 90 hHeld m32_37 (h := ?_); refine PU_ HT_ 34 92 m32_38 (h := ?_); refine TA_ HT_ HW_ 38 96 hHeld m32_39 (h := ?_)
                 refine one_ (i := 39) (N := some 97) m32_40 rfl rfl (one_of HT_.out (by kernel_rfl)) (by decide) (fun K hK => ?_)
                 refine goes_ Try.func16 (by kernel_rfl) rfl #[.slice A442_0 y443.length c442_0, .slice A405_0 (rd_L1 l0 x10_2).length c405_0] (by rfl) rfl rfl (by (try simp only [List.map_toArray, List.map_cons, List.map_nil]); first | done | rfl | (simp only [List.length_drop, List.length_take]; rfl)) ?_
                 with_reducible refine (lockstepref02_Ints.calls k2 _ _ y443 _ _ (rd_L1 l0 x10_2) true _ ?side1 ?side2 ?side3 ?side4 A87.out).mono ?_
                 (case side1 => repeat (first | exact (by repeat (first | (with_reducible exact HR446.out) | (with_reducible refine Kd.C_alloc ?_ _) | (with_reducible refine Kd.C_drewN ?_ _) | (with_reducible refine Kd.C_drew ?_) | exact HR446.out)) | (with_reducible refine Kd.C_alloc ?_ _) | (with_reducible refine Kd.C_drewN ?_ _) | (with_reducible refine Kd.C_drew ?_)))
                 (case side2 => exact HC446.out)
                 (case side3 => exact CX_ (Kd.C_below HR447_0.out HB.out))
                 (case side4 => exact HC447_0.out)
                 rintro e w' ⟨rfl, ⟨nd, rfl⟩⟩
                 refine ⟨_, rfl, ?_⟩
                 refine hK.out _ _ ⟨(blk_cell BK397.out 0).trans rfl, (blk_cell BK397.out 1).trans rfl, ((HB.out.cell (World.block_lt_of_cell? w _ hw405_0)).trans hw405_0), hHeld.2.2.2.1, ((HB.out.cell (World.block_lt_of_cell? w _ hw447_0)).trans hw447_0), hHeld.2.2.2.2.2⟩ (fun hHeld => ?_)
                 clear hK K
                 refine norm_ (a' := ?_) ?_ ?_
                 rotate_left
                 ·show Act.put _ (some 97) _ = _
                  simp only [Act.put, List.setIfInBounds_toArray, List.set_cons_zero, List.set_cons_succ, i64_w, i32_w]
                  rfl
                 refine PU_ HT_ 40 98 m32_41 (h := ?_); refine PU_ HT_ 41 99 m32_42 (h := ?_); refine PU_ HT_ 42 100 m32_43 (h := ?_); refine PU_ HT_ 43 101 m32_44 (h := ?_); refine PU_ HT_ 44 102 m32_45 (h := ?_); refine PU_ HT_ 46 104 m32_46 (h := ?_); refine PU_ HT_ 50 108 m32_47 (h := ?_); refine PU_ HT_ 51 109 m32_48 (h := ?_); refine TA_ HT_ HW_ 45 103 hHeld m32_49 (h := ?_); refine PU_ HT_ 47 105 m32_50 (h := ?_); refine TA_ HT_ HW_ 48 106 hHeld m32_51 (h := ?_); refine PU_ HT_ 49 107 m32_52 (h := ?_); refine PU_ HT_ 52 110 m32_53 (h := ?_); refine PU_ HT_ 53 111 m32_54 (h := ?_); refine PU_ HT_ 54 112 m32_55 (h := ?_)
                 refine done_ (done_of HT_.out (by kernel_rfl)) ?_
                 try go_wp2
                 go_meet
                 case rel => exact ⟨_, ((false != (((rd_L1 t390 x10_2).length : Int) == (wrap64 (((rd_L1 l0 x10_2).length : Int) + 1))))), (by first | rfl | exact congrArg (fun b => Ending.returned (Value.bool b)) HR_.out | (simp; done) | (simp [*]; done)), H', ⟨by have := HJ3.out; have := HK2.out; first | omega | exact Nat.le_refl _⟩, ⟨by exact RM_ HO_8.out⟩, ⟨by exact SM_ HO_390000.out⟩, ⟨by exact SM_ HO_390001.out⟩, ⟨by exact SM_ HO_398000.out⟩, ⟨by exact SM_ HO_398001.out⟩, ⟨by exact KX_ BK389.out⟩, ⟨by exact KX_ BK397.out⟩, ⟨by repeat (first | (with_reducible exact HR402_0.out) | (with_reducible refine Kd.C_alloc ?_ _) | (with_reducible refine Kd.C_drewN ?_ _) | (with_reducible refine Kd.C_drew ?_) | exact HR402_0.out)⟩, ⟨B1_⟩⟩
               replace c88 := Bool.eq_false_iff.mpr c88
               subst c88
               have H1 : (locksteplaw08_PdomEnds.j2 k2 l0 (l0.length : Int) t398 x9_2 x10_2 false ((rd_L1 l0 x10_2).length : Int) true t390 t393) = some true := by rw [if_neg (show ¬ (false = true) by decide)] at H; exact H
               clear H
               have H := H1
               clear H1
               have H' := Aside0.mk H
               clear H
               try go_wp2
               have n0_ := Aside0.mk (Kd.R_drew HO_8.out)
               have n1_ := Aside0.mk (Kd.S_drew HO_390000.out)
               have n2_ := Aside0.mk (Kd.S_drew HO_390001.out)
               have n3_ := Aside0.mk (Kd.S_drew HO_398000.out)
               have n4_ := Aside0.mk (Kd.S_drew HO_398001.out)
               have n5_ := Aside0.mk (Kd.R_drew HL402_0.out)
               have n6_ := Aside0.mk (blk_drew BK389.out)
               have n7_ := Aside0.mk (blk_drew BK397.out)
               have n8_ := Aside0.mk (Kd.C_drew HR402_0.out)
               have n9_ := Aside0.mk (below_drew1 HB.out)
               clear HO_8
               clear HO_390000
               clear HO_390001
               clear HO_398000
               clear HO_398001
               clear HL402_0
               clear BK389
               clear BK397
               clear HR402_0
               clear HB
               have HO_8 := n0_
               have HO_390000 := n1_
               have HO_390001 := n2_
               have HO_398000 := n3_
               have HO_398001 := n4_
               have HL402_0 := n5_
               have BK389 := n6_
               have BK397 := n7_
               have HR402_0 := n8_
               have HB := n9_
               clear n0_ n1_ n2_ n3_ n4_ n5_ n6_ n7_ n8_ n9_
               have p405 : 0 ≤ (x10_2 : Int) := D_
               have q405 : x10_2 < (l0.length : Int) := D_
               obtain ⟨ad405, A405_0, c405_0, e405, hx405_0, hl405_0, hi405_0⟩ := at_L1 HR0.out x10_2 p405 q405
               have hw405_0 := hx405_0
               obtain rfl : ad404 = ad405 := (by injection e405)
               replace hx405_0 := (HB.out.cell (World.block_lt_of_cell? w _ hx405_0)).trans hx405_0
               have HR405_0 := Aside0.mk hi405_0
               have HC405_0 := Aside0.mk hl405_0
               clear hi405_0 hl405_0
               replace p405 := eq_true p405
               replace q405 := eq_true q405
               have p442 : 0 ≤ (x10_2 : Int) := D_
               have q442 : x10_2 < (t390.length : Int) := D_
               obtain ⟨ad442, A442_0, c442_0, e442, hx442_0, hl442_0, hi442_0⟩ := at_L1 (Kd.S_reads' HO_398000.out).2.2 x10_2 p442 q442
               obtain rfl : ad402 = ad442 := (by injection e442)
               obtain ⟨ce442, hce442, hMe442, hcc442⟩ := Kd.S_get HO_398000.out [] x10_2 p442 (by first | exact q442 | exact D_ | (have e_ := (Kd.S_reads' HO_398000.out).1; omega))
               obtain ⟨ve442_0, rfl, ge442_0⟩ := hMe442
               have hv442_0 := hcc442 0 _ rfl
               rw [Nat.add_zero, show ((Kd.slice 3 (Kd.int .i64))).sz = 1 from rfl, Nat.mul_one] at hv442_0
               replace hv442_0 := Option.some.inj (hv442_0.symm.trans hx442_0)
               rw [hv442_0] at ge442_0
               have HL442_0 := Aside0.mk (show Kd.R (Kd.int .i64) 3 _ _ _ _ (rd_L1 t390 x10_2) from ge442_0)
               clear hv442_0 ge442_0
               clear hcc442 hce442
               have HR442_0 := Aside0.mk hi442_0
               have HC442_0 := Aside0.mk hl442_0
               clear hi442_0 hl442_0
               replace p442 := eq_true p442
               replace q442 := eq_true q442
               have q92 : (((rd_L1 l0 x10_2).length : Int) : Int) ≤ (((rd_L1 t390 x10_2).length : Int) : Int) := D_
               obtain ⟨i092, hi092, _, hsz92, _⟩ := info_parts info3
               have hroom92 : (rd_L1 t390 x10_2).length ≤ c442_0 := HC442_0.out
               have hC92 : Kd.C (Kd.int .i64) _ A442_0 (rd_L1 t390 x10_2).length (rd_L1 t390 x10_2) := (by repeat (first | (with_reducible exact HR442_0.out) | (with_reducible refine Kd.C_alloc ?_ _) | (with_reducible refine Kd.C_drewN ?_ _) | (with_reducible refine Kd.C_drew ?_) | exact HR442_0.out))
               have hcut92 := cut_to (P := Try.prog) 30 3 .i64 Try.underlying30 hi092 A442_0 (rd_L1 t390 x10_2).length c442_0 ((rd_L1 l0 x10_2).length : Int) (D_) q92 hroom92
               have hr92 := Kd.C_take (m := (((rd_L1 l0 x10_2).length : Int) : Int).toNat) hC92 (by omega)
               have hy92 : y443.length = (((rd_L1 l0 x10_2).length : Int) : Int).toNat := (by rw [Ny443.out, List.length_take]; omega)
               rw [← Ny443.out] at hr92
               rw [← hy92] at hcut92
               have HR446 := Aside0.mk hr92
               have HC446 := Aside0.mk (show y443.length ≤ c442_0 from by omega)
               clear hr92 hC92 hroom92 hi092 hsz92
               have KY92 := Aside0.mk hy92
               clear hy92
               replace q92 := eq_true q92
               have p447 : 0 ≤ (x10_2 : Int) := D_
               have q447 : x10_2 < (l0.length : Int) := D_
               obtain ⟨ad447, A447_0, c447_0, e447, hx447_0, hl447_0, hi447_0⟩ := at_L1 HR0.out x10_2 p447 q447
               have hw447_0 := hx447_0
               obtain rfl : ad404 = ad447 := (by injection e447)
               replace hx447_0 := (HB.out.cell (World.block_lt_of_cell? w _ hx447_0)).trans hx447_0
               have HR447_0 := Aside0.mk hi447_0
               have HC447_0 := Aside0.mk hl447_0
               clear hi447_0 hl447_0
               replace p447 := eq_true p447
               replace q447 := eq_true q447
               have ea_ := Option.some.inj (hx405_0.symm.trans hx447_0)
               injection ea_ with ea_ en_ ec_
               subst ea_
               subst ec_
               clear en_
               as_aux_lemma =>
                refine start_ (n := 55) (S := fun w' => w'.cell? ⟨gb397, 0, none⟩ = some (.slice (some ad402) t390.length co21) ∧ w'.cell? ⟨gb397, 1, none⟩ = some (.slice Ao24 t393.length co24) ∧ w'.cell? (ad404.add (x10_2).toNat) = some (.slice A405_0 (rd_L1 l0 x10_2).length c405_0) ∧ w'.cell? (ad402.add (x10_2).toNat) = some (.slice A442_0 (rd_L1 t390 x10_2).length c442_0) ∧ w'.cell? (ad404.add (x10_2).toNat) = some (.slice A405_0 (rd_L1 l0 x10_2).length c405_0)) (ds := []) m32_0 (by kernel_rfl) rfl rfl ⟨(blk_cell BK397.out 0).trans rfl, (blk_cell BK397.out 1).trans rfl, ((HB.out.cell (World.block_lt_of_cell? w _ hw405_0)).trans hw405_0), hx442_0, ((HB.out.cell (World.block_lt_of_cell? w _ hw447_0)).trans hw447_0)⟩ (fun hHeld => ?_); refine with_tabW locksteplaw08_PdomEnds.tab19 locksteplaw08_PdomEnds.bits19 (fun HT_ HW_ => ?_)
                generalize wr.drew = w91 at HO_8 HO_390000 HO_390001 HO_398000 HO_398001 HL402_0 BK389 BK397 HR402_0 HB HL442_0 HR405_0 HR442_0 HR446 HR447_0 hx405_0 hx442_0 hx447_0 hHeld ⊢
                refine PU_ HT_ 0 58 m32_1 (h := ?_); refine PU_ HT_ 1 59 m32_2 (h := ?_); refine PU_ HT_ 2 60 m32_3 (h := ?_); refine TA_ HT_ HW_ 3 61 hHeld m32_4 (h := ?_); refine PU_ HT_ 4 62 m32_5 (h := ?_); refine PU_ HT_ 5 63 m32_6 (h := ?_); refine PU_ HT_ 6 64 m32_7 (h := ?_); refine PO_ HT_ 7 65 m32_8 (h := ?_); refine PO_ HT_ 8 66 m32_9 (h := ?_); refine PU_ HT_ 9 67 m32_10 (h := ?_); refine PU_ HT_ 10 68 m32_11 (h := ?_); refine PU_ HT_ 11 69 m32_12 (h := ?_); refine PU_ HT_ 12 70 m32_13 (h := ?_); refine PO_ HT_ 13 71 m32_14 (h := ?_); refine PO_ HT_ 14 72 m32_15 (h := ?_); refine PO_ HT_ 15 73 m32_16 (h := ?_); refine PO_ HT_ 16 74 m32_17 (h := ?_); refine PO_ HT_ 17 75 m32_18 (h := ?_); refine PO_ HT_ 18 76 m32_19 (h := ?_); refine PU_ HT_ 19 77 m32_20 (h := ?_); refine PU_ HT_ 20 78 m32_21 (h := ?_); refine PO_ HT_ 21 79 m32_22 (h := ?_); refine PO_ HT_ 22 80 m32_23 (h := ?_); refine PO_ HT_ 23 81 m32_24 (h := ?_); refine PO_ HT_ 24 82 m32_25 (h := ?_); refine PU_ HT_ 25 83 m32_26 (h := ?_); refine PU_ HT_ 26 84 m32_27 (h := ?_); refine PU_ HT_ 27 85 m32_28 (h := ?_); refine PU_ HT_ 28 86 m32_29 (h := ?_); refine PU_ HT_ 30 88 m32_30 (h := ?_); refine PU_ HT_ 33 91 m32_31 (h := ?_); refine PU_ HT_ 35 93 m32_32 (h := ?_); refine PU_ HT_ 36 94 m32_33 (h := ?_); refine PU_ HT_ 37 95 m32_34 (h := ?_); refine TA_ HT_ HW_ 29 87 hHeld m32_35 (h := ?_); refine PU_ HT_ 31 89 m32_36 (h := ?_); refine TA_ HT_ HW_ 32 90 hHeld m32_37 (h := ?_); refine PU_ HT_ 34 92 m32_38 (h := ?_); refine TA_ HT_ HW_ 38 96 hHeld m32_39 (h := ?_)
                refine one_ (i := 39) (N := some 97) m32_40 rfl rfl (one_of HT_.out (by kernel_rfl)) (by decide) (fun K hK => ?_)
                refine goes_ Try.func16 (by kernel_rfl) rfl #[.slice A442_0 y443.length c442_0, .slice A405_0 (rd_L1 l0 x10_2).length c405_0] (by rfl) rfl rfl (by (try simp only [List.map_toArray, List.map_cons, List.map_nil]); first | done | rfl | (simp only [List.length_drop, List.length_take]; rfl)) ?_
                with_reducible refine (lockstepref02_Ints.calls k2 _ _ y443 _ _ (rd_L1 l0 x10_2) false _ ?side1 ?side2 ?side3 ?side4 A87.out).mono ?_
                (case side1 => repeat (first | exact (by repeat (first | (with_reducible exact HR446.out) | (with_reducible refine Kd.C_alloc ?_ _) | (with_reducible refine Kd.C_drewN ?_ _) | (with_reducible refine Kd.C_drew ?_) | exact HR446.out)) | (with_reducible refine Kd.C_alloc ?_ _) | (with_reducible refine Kd.C_drewN ?_ _) | (with_reducible refine Kd.C_drew ?_)))
                (case side2 => exact HC446.out)
                (case side3 => exact CX_ (Kd.C_below HR447_0.out HB.out))
                (case side4 => exact HC447_0.out)
                rintro e w' ⟨rfl, ⟨nd, rfl⟩⟩
                refine ⟨_, rfl, ?_⟩
                refine hK.out _ _ ⟨(blk_cell BK397.out 0).trans rfl, (blk_cell BK397.out 1).trans rfl, ((HB.out.cell (World.block_lt_of_cell? w _ hw405_0)).trans hw405_0), hHeld.2.2.2.1, ((HB.out.cell (World.block_lt_of_cell? w _ hw447_0)).trans hw447_0)⟩ (fun hHeld => ?_)
                clear hK K
                refine norm_ (a' := ?_) ?_ ?_
                rotate_left
                ·show Act.put _ (some 97) _ = _
                 simp only [Act.put, List.setIfInBounds_toArray, List.set_cons_zero, List.set_cons_succ, i64_w, i32_w]
                 rfl
                refine PU_ HT_ 40 98 m32_41 (h := ?_); refine PU_ HT_ 41 99 m32_42 (h := ?_); refine PU_ HT_ 42 100 m32_43 (h := ?_); refine PO_ HT_ 43 101 m32_44 (h := ?_); refine PO_ HT_ 44 102 m32_45 (h := ?_); refine PO_ HT_ 45 103 m32_56 (h := ?_); refine PO_ HT_ 46 104 m32_57 (h := ?_); refine PO_ HT_ 47 105 m32_58 (h := ?_); refine PO_ HT_ 48 106 m32_59 (h := ?_); refine PO_ HT_ 49 107 m32_60 (h := ?_); refine PO_ HT_ 50 108 m32_61 (h := ?_); refine PO_ HT_ 51 109 m32_52 (h := ?_); refine PO_ HT_ 52 110 m32_53 (h := ?_); refine PO_ HT_ 53 111 m32_54 (h := ?_); refine PU_ HT_ 54 112 m32_55 (h := ?_)
                refine done_ (done_of HT_.out (by kernel_rfl)) ?_
                try go_wp2
                go_meet
                case rel => exact ⟨_, (true), (by first | rfl | exact congrArg (fun b => Ending.returned (Value.bool b)) HR_.out | (simp; done) | (simp [*]; done)), H', ⟨by have := HJ3.out; have := HK2.out; first | omega | exact Nat.le_refl _⟩, ⟨by exact RM_ HO_8.out⟩, ⟨by exact SM_ HO_390000.out⟩, ⟨by exact SM_ HO_390001.out⟩, ⟨by exact SM_ HO_398000.out⟩, ⟨by exact SM_ HO_398001.out⟩, ⟨by exact KX_ BK389.out⟩, ⟨by exact KX_ BK397.out⟩, ⟨by repeat (first | (with_reducible exact HR402_0.out) | (with_reducible refine Kd.C_alloc ?_ _) | (with_reducible refine Kd.C_drewN ?_ _) | (with_reducible refine Kd.C_drew ?_) | exact HR402_0.out)⟩, ⟨B1_⟩⟩
              rw [if_neg c86] at H
              exact absurd H (by simp)
             rw [if_neg c85] at H
             exact absurd H (by simp)
            case rest =>
             clear HC32
             obtain ⟨kq, x112_31, rfl, HA, HJ31, HO_8, HO_390000, HO_390001, HO_398000, HO_398001, BK389, BK397, HR402_0, HB⟩ := hcut
             cases kq with
             | zero => exact absurd HA.out (by simp [locksteplaw08_PdomEnds.j2])
             | succ kj31 =>
              have H := HA.out
              clear HA
              simp only [locksteplaw08_PdomEnds.j2] at H
              by_cases c93 : x112_31 = true
              ·subst c93
               have H1 : (some false) = some true := by rw [if_pos rfl] at H; exact H
               clear H
               have H := H1
               clear H1
               exact absurd H (by simp)
              replace c93 := Bool.eq_false_iff.mpr c93
              subst c93
              have H1 : (if t403 = true then (if ((rd_L1 l0 x10_2).length : Int) > 0 then (locksteplaw08_PdomEnds.l0 kj31 l0 (l0.length : Int) t398 (wrap64 (x9_2 + 1)) (wrap64 (x10_2 + 1)) t390 t393) else (locksteplaw08_PdomEnds.l0 kj31 l0 (l0.length : Int) t398 x9_2 (wrap64 (x10_2 + 1)) t390 t393)) else (locksteplaw08_PdomEnds.l0 kj31 l0 (l0.length : Int) t398 x9_2 (wrap64 (x10_2 + 1)) t390 t393)) = some true := by rw [if_neg (show ¬ (false = true) by decide)] at H; exact H
              clear H
              have H := H1
              clear H1
              by_cases c94 : t403 = true
              ·subst c94
               have H1 : (if ((rd_L1 l0 x10_2).length : Int) > 0 then (locksteplaw08_PdomEnds.l0 kj31 l0 (l0.length : Int) t398 (wrap64 (x9_2 + 1)) (wrap64 (x10_2 + 1)) t390 t393) else (locksteplaw08_PdomEnds.l0 kj31 l0 (l0.length : Int) t398 x9_2 (wrap64 (x10_2 + 1)) t390 t393)) = some true := by rw [if_pos rfl] at H; exact H
               clear H
               have H := H1
               clear H1
               by_cases c95 : ((rd_L1 l0 x10_2).length : Int) > 0
               ·rw [if_pos c95] at H
                have c95b0 : decide (0 < ((rd_L1 l0 x10_2).length : Int)) = true := decide_eq_true c95
                have c95b1 : decide (0 < (rd_L1 l0 x10_2).length) = true := decide_eq_true (by omega)
                clear c95
                have H' := Aside0.mk H
                clear H
                go_wp2
                go_roundg kj31
                case measure => have := HJ3.out; have := HK2.out; have := HJ31.out; omega
                case rel => exact ⟨(wrap64 (x9_2 + 1)), (wrap64 (x10_2 + 1)), (by first | rfl | exact congrArg (fun b => Ending.returned (Value.bool b)) HR_.out | (simp; done) | (simp [*]; done)), (by first | rfl | exact congrArg (fun b => Ending.returned (Value.bool b)) HR_.out | (simp; done) | (simp [*]; done)), H', ⟨by have := HJ3.out; have := HK2.out; have := HJ31.out; omega⟩, ⟨by exact RM_ HO_8.out⟩, ⟨by exact SM_ HO_390000.out⟩, ⟨by exact SM_ HO_390001.out⟩, ⟨by exact SM_ HO_398000.out⟩, ⟨by exact SM_ HO_398001.out⟩, ⟨by exact KX_ BK389.out⟩, ⟨by exact KX_ BK397.out⟩, ⟨B1_⟩⟩
               rw [if_neg c95] at H
               have c95b0 : decide (0 < ((rd_L1 l0 x10_2).length : Int)) = false := decide_eq_false c95
               have c95b1 : decide (0 < (rd_L1 l0 x10_2).length) = false := decide_eq_false (by omega)
               clear c95
               have H' := Aside0.mk H
               clear H
               go_wp2
               go_roundg kj31
               case measure => have := HJ3.out; have := HK2.out; have := HJ31.out; omega
               case rel => exact ⟨(x9_2), (wrap64 (x10_2 + 1)), (by first | rfl | exact congrArg (fun b => Ending.returned (Value.bool b)) HR_.out | (simp; done) | (simp [*]; done)), (by first | rfl | exact congrArg (fun b => Ending.returned (Value.bool b)) HR_.out | (simp; done) | (simp [*]; done)), H', ⟨by have := HJ3.out; have := HK2.out; have := HJ31.out; omega⟩, ⟨by exact RM_ HO_8.out⟩, ⟨by exact SM_ HO_390000.out⟩, ⟨by exact SM_ HO_390001.out⟩, ⟨by exact SM_ HO_398000.out⟩, ⟨by exact SM_ HO_398001.out⟩, ⟨by exact KX_ BK389.out⟩, ⟨by exact KX_ BK397.out⟩, ⟨B1_⟩⟩
              replace c94 := Bool.eq_false_iff.mpr c94
              subst c94
              have H1 : (locksteplaw08_PdomEnds.l0 kj31 l0 (l0.length : Int) t398 x9_2 (wrap64 (x10_2 + 1)) t390 t393) = some true := by rw [if_neg (show ¬ (false = true) by decide)] at H; exact H
              clear H
              have H := H1
              clear H1
              have H' := Aside0.mk H
              clear H
              go_wp2
              go_roundg kj31
              case measure => have := HJ3.out; have := HK2.out; have := HJ31.out; omega
              case rel => exact ⟨(x9_2), (wrap64 (x10_2 + 1)), (by first | rfl | exact congrArg (fun b => Ending.returned (Value.bool b)) HR_.out | (simp; done) | (simp [*]; done)), (by first | rfl | exact congrArg (fun b => Ending.returned (Value.bool b)) HR_.out | (simp; done) | (simp [*]; done)), H', ⟨by have := HJ3.out; have := HK2.out; have := HJ31.out; omega⟩, ⟨by exact RM_ HO_8.out⟩, ⟨by exact SM_ HO_390000.out⟩, ⟨by exact SM_ HO_390001.out⟩, ⟨by exact SM_ HO_398000.out⟩, ⟨by exact SM_ HO_398001.out⟩, ⟨by exact KX_ BK389.out⟩, ⟨by exact KX_ BK397.out⟩, ⟨B1_⟩⟩
           rw [if_neg c31] at H
           exact absurd H (by simp)
          rw [if_neg c29] at H
          exact absurd H (by simp)
         rw [if_neg c28] at H
         exact absurd H (by simp)
        rw [if_neg c27] at H
        have c27b0 : decide (x10_2 < (l0.length : Int)) = false := decide_eq_false c27
        clear c27
        by_cases c96 : ((decide (x9_2 > 0)) == (decide ((t398.length : Int) > 0))) = true
        ·rw [if_pos c96] at H
         have c96b0 : ((decide (x9_2 > 0)) == (decide ((t398.length : Int) > 0))) = true := c96
         (try (have c96b1 : decide ((decide (x9_2 > 0)) = (decide ((t398.length : Int) > 0))) = true := by simpa using c96))
         (try (have c96b2 : ((decide (x9_2 > 0)) == (decide ((t398.length : Int) > 0))) = true := by simpa using c96))
         have c96b3 : (decide (0 < x9_2) == decide (0 < t398.length)) = true := by (have e_ : (t398.length : Int) > 0 ↔ 0 < t398.length := by omega); simpa [e_] using c96b2
         clear c96
         by_cases c97 : 0 ≤ (l0.length : Int)
         ·rw [if_pos c97] at H
          have c97b0 : decide (0 ≤ (l0.length : Int)) = true := decide_eq_true c97
          have c97b1 : decide (0 ≤ l0.length) = true := decide_eq_true (by omega)
          clear c97
          by_cases c98 : (l0.length : Int) < (t390.length : Int)
          ·rw [if_pos c98] at H
           have c98b0 : decide ((l0.length : Int) < (t390.length : Int)) = true := decide_eq_true c98
           have c98b1 : decide (l0.length < t390.length) = true := decide_eq_true (Int.ofNat_lt.mp c98)
           clear c98
           have HR_ := Aside0.mk (Option.some.inj H)
           clear H
           obtain ⟨Ao99, co99, eo99⟩ := Kd.R_slice HO_8.out
           subst eo99
           have hnb100 := NB397_389.out
           have hnc100 := NB389_397.out
           have hcz101_0 : wr.cell? ⟨gb397, 0, none⟩ = some (.slice Ao21 t390.length co21) := (blk_cell BK397.out 0).trans rfl
           have hcz101_1 : wr.cell? ⟨gb397, 1, none⟩ = some (.slice Ao24 t393.length co24) := (blk_cell BK397.out 1).trans rfl
           have hfz101_0 := blk_frozen BK397.out 0
           have hfz101_1 := blk_frozen BK397.out 1
           have p401 : 0 ≤ ((l0.length : Int) : Int) := D_
           have q401 : (l0.length : Int) < (t390.length : Int) := D_
           obtain ⟨ad401, A401_0, c401_0, e401, hx401_0, hl401_0, hi401_0⟩ := at_L1 (Kd.S_reads' HO_398000.out).2.2 (l0.length : Int) p401 q401
           cases e401
           obtain ⟨ce401, hce401, hMe401, hcc401⟩ := Kd.S_get HO_398000.out [] (l0.length : Int) p401 (by first | exact q401 | exact D_ | (have e_ := (Kd.S_reads' HO_398000.out).1; omega))
           obtain ⟨ve401_0, rfl, ge401_0⟩ := hMe401
           have hv401_0 := hcc401 0 _ rfl
           rw [Nat.add_zero, show ((Kd.slice 3 (Kd.int .i64))).sz = 1 from rfl, Nat.mul_one] at hv401_0
           replace hv401_0 := Option.some.inj (hv401_0.symm.trans hx401_0)
           rw [hv401_0] at ge401_0
           have HL401_0 := Aside0.mk (show Kd.R (Kd.int .i64) 3 _ _ _ _ (rd_L1 t390 (l0.length : Int)) from ge401_0)
           clear hv401_0 ge401_0
           clear hcc401 hce401
           have HR401_0 := Aside0.mk hi401_0
           have HC401_0 := Aside0.mk hl401_0
           clear hi401_0 hl401_0
           (try simp only [Go.IntWalk.toNatUp] at hx401_0)
           replace p401 := eq_true p401
           replace q401 := eq_true q401
           go_wp2
           go_ret
           exact ⟨by first | rfl | exact congrArg (fun b => Ending.returned (Value.bool b)) HR_.out | (simp [errW_none, errW_some] <;> rfl) | (simp [*, errW_none, errW_some] <;> rfl), B1_⟩
          rw [if_neg c98] at H
          exact absurd H (by simp)
         rw [if_neg c97] at H
         exact absurd H (by simp)
        rw [if_neg c96] at H
        have c96b0 : ((decide (x9_2 > 0)) == (decide ((t398.length : Int) > 0))) = false := by simpa using c96
        (try (have c96b1 : decide ((decide (x9_2 > 0)) = (decide ((t398.length : Int) > 0))) = false := by simpa using c96))
        (try (have c96b2 : ((decide (x9_2 > 0)) == (decide ((t398.length : Int) > 0))) = false := by simpa using c96))
        (try (have c96b3 : ¬ ((decide (x9_2 > 0)) = (decide ((t398.length : Int) > 0))) := by simpa using c96))
        clear c96
        exact absurd H (by simp)
     rw [if_neg c12] at H
     have c12b0 : (t396 == 0) = false := beq_eq_false_iff_ne.mpr c12
     have c12b1 : (t396 != 0) = true := bne_iff_ne.mpr c12
     exact absurd H (by simp)
    rw [if_neg c10] at H
    have c10b0 : (t388 == 0) = false := beq_eq_false_iff_ne.mpr c10
    have c10b1 : (t388 != 0) = true := bne_iff_ne.mpr c10
    clear H
    go_wp2_with (first | ((with_reducible refine gate_callee (f := 9) rfl ?_); refine goesL_ (some 25) rfl rfl Try.func9 (by kernel_rfl) rfl #[.slice A0 l0.length c0] rfl (by (try simp only [List.map_toArray, List.map_cons, List.map_nil]); first | done | rfl | (simp only [List.length_drop, List.length_take]; rfl)) ?_; (with_reducible refine (graph_Make.calls kj3 _ _ l0 t382 t385 t388 _ ?side1 ?side2 A9.out).mono ?_); (case side1 => exact CX_ (Kd.C_below HR0.out HB.out)); (case side2 => exact HC0.out); rintro e w102 ⟨v383, v386, rfl, ho0, ho1, hb⟩; refine ⟨_, rfl, ?_⟩; have n0_ := Aside0.mk (Kd.S_lower ho0 (below_size (B_))); have n1_ := Aside0.mk (Kd.S_lower ho1 (below_size (B_))); have n2_ := Aside0.mk (below_step (B_) hb); clear HB; have HO384 := n0_; have HO387 := n1_; have HB := n2_; clear n0_ n1_ n2_; (try clear hb); (try clear hb2); (try clear hk); (try clear hi); (try clear ho0); (try clear ho1)) | ((with_reducible refine gate_dst (N := 3) rfl ?_); (try (refine gate_guard (by rfl) ?_; dsimp only)); refine box_event ?hg (N := 3) ?hd (cs := #[.slice none 0 0, .slice none 0 0]) (t := 26) ?hr ?_; (case hd => rfl); (case hg => rfl); (case hr => first | (go_simp; done) | (go_simp; rfl)); intro gb389 hg w103 hbox hb; have n0_ := Aside0.mk (Kd.S_below (by exact SX_ HO384.out) hb); have n1_ := Aside0.mk (Kd.S_below (by exact SX_ HO387.out) hb); have n2_ := Aside0.mk (below_step (B_) hb); have n3_ := Aside0.mk (hbox); have n4_ := Aside0.mk ((by rw [hg]; exact (below_size (B_)) : w.heap.size ≤ gb389)); have n5_ := Aside0.mk ((by rw [hg]; exact (below_size (B_)) : w.heap.size ≤ gb389)); clear HO384; clear HO387; clear HB; have HO384 := n0_; have HO387 := n1_; have HB := n2_; have BK389 := n3_; have GW389 := n4_; have GE389 := n5_; clear n0_ n1_ n2_ n3_ n4_ n5_; clear hb hbox hg; obtain ⟨Ao104, co104, eo104⟩ := Kd.S_slice HO384.out; subst eo104; have hcz105_0 : w103.cell? ⟨gb389, 0, none⟩ = some (.slice none 0 0) := (blk_cell BK389.out 0).trans rfl; have hcz105_1 : w103.cell? ⟨gb389, 1, none⟩ = some (.slice none 0 0) := (blk_cell BK389.out 1).trans rfl; have hfz105_0 := blk_frozen BK389.out 0; have hfz105_1 := blk_frozen BK389.out 1; obtain ⟨Ao106, co106, eo106⟩ := Kd.S_slice HO387.out; subst eo106))
    go_ret
    exact ⟨by first | rfl | exact congrArg (fun b => Ending.returned (Value.bool b)) HR_.out | (simp [errW_none, errW_some] <;> rfl) | (simp [*, errW_none, errW_some] <;> rfl), B1_⟩
 replace c3 := Bool.eq_false_iff.mpr c3
 subst c3
 have H1 : (some false) = some true := by rw [if_neg (show ¬ (false = true) by decide)] at H; exact H
 clear H
 have H := H1
 clear H1
 exact absurd H (by simp)

/-- THE ONE PURE STATEMENT of locksteplaw08_PdomEnds: yours. -/
def locksteplaw08_PdomEnds.Pure : Prop := ∀ (l0 : List (List Int)), RowsOk .i64 l0 → ∃ k, locksteplaw08_PdomEnds.f k l0 = some true
theorem locksteplaw08_PdomEnds.walk (P : locksteplaw08_PdomEnds.Pure) (a0 : Option Addr) (cap0 : Nat) (l0 : List (List Int)) (w : World) (w0 : Kd.C (Kd.slice 3 (Kd.int .i64)) w a0 l0.length l0) (y0 : l0.length ≤ cap0) (m0 : RowsOk .i64 l0) :
 Calls Try.prog 4 #[.slice a0 l0.length cap0] w fun e w' => e = .returned (.bool true) ∧ Below w.heap.size w w' := by
 obtain ⟨k, h⟩ := P l0 m0
 refine (locksteplaw08_PdomEnds.calls k _ _ l0 w w0 y0 h).mono ?_
 rintro e w' ⟨rfl, hd⟩
 exact ⟨rfl, hd⟩

end Go.Proofs.Ytamlaebfpmbefaa.G
namespace Go.Proofs.Ytamlaebfpmbefaa.GP
open Go.RowKit Go.Proofs.Ytamlaebfpmbefaa.G Go.Proofs.YtamlaebfpmbefaaW.PrintWords

/-- With enough rounds the answer is v. -/
def Ev {α : Type} (f : Nat → Option α) (v : α) : Prop := ∃ K, ∀ k, K ≤ k → f k = some v
theorem Ev.succ {α : Type} {f : Nat → Option α} {v : α} (h : Ev (fun k => f (k + 1)) v) : Ev f v := by
  obtain ⟨K, h⟩ := h
  refine ⟨K + 1, fun k hk => ?_⟩
  obtain ⟨m, rfl⟩ : ∃ m, k = m + 1 := ⟨k - 1, by omega⟩
  exact h m (by omega)
theorem Ev.bind {α β : Type} {g : Nat → Option α} {h : Nat → α → Option β} {a : α} {r : β} (h1 : Ev g a) (h2 : Ev (fun k => h k a) r) : Ev (fun k => (g k).bind (fun t => h k t)) r := by
  obtain ⟨K1, h1⟩ := h1
  obtain ⟨K2, h2⟩ := h2
  refine ⟨K1 + K2, fun k hk => ?_⟩
  simp only [h1 k (by omega), Option.bind_some]
  exact h2 k (by omega)
theorem Ev.pure {α : Type} {v : α} : Ev (fun _ => some v) v := ⟨0, fun _ _ => rfl⟩
theorem Ev.ifp {α : Type} {c : Prop} [Decidable c] {a b : Nat → Option α} {v : α} (h : c) (H : Ev a v) : Ev (fun k => if c then a k else b k) v := by
  simp only [if_pos h]; exact H
theorem Ev.ifn {α : Type} {c : Prop} [Decidable c] {a b : Nat → Option α} {v : α} (h : ¬ c) (H : Ev b v) : Ev (fun k => if c then a k else b k) v := by
  simp only [if_neg h]; exact H
theorem Ev.at {α : Type} {f : Nat → Option α} {v : α} (h : Ev f v) : ∃ k, f k = some v := by
  obtain ⟨K, h⟩ := h; exact ⟨K, h K (Nat.le_refl _)⟩
theorem Ev.of_eq {α : Type} {f : Nat → Option α} {v w : α} (h : Ev f v) (e : v = w) : Ev f w := e ▸ h
theorem Ev.of_at {α : Type} {f : Nat → Option α} {v : α} (m : ∀ k, LeO (f k) (f (k + 1))) {K : Nat} (h : f K = some v) : Ev f v := by
  refine ⟨K, fun k hk => ?_⟩
  obtain ⟨d, rfl⟩ : ∃ d, k = K + d := ⟨k - K, by omega⟩
  clear hk
  induction d with
  | zero => exact h
  | succ d ih => exact m _ _ ih

theorem wrap_nat {i : Nat} (h : i < 9223372036854775807) : wrap64 ((i : Int) + 1) = ((i + 1 : Nat) : Int) := by unfold wrap64; omega
theorem wrap_id {x : Int} (h : -9223372036854775808 ≤ x) (h' : x ≤ 9223372036854775807) : wrap64 x = x := by unfold wrap64; omega

/-- Numbers as blocks' numbers. -/
def up (l : List Nat) : List Int := l.map (fun n : Nat => (n : Int))
def up2 (S : List (List Nat)) : List (List Int) := S.map up
@[simp] theorem up_length (l : List Nat) : (up l).length = l.length := by simp [up]
@[simp] theorem up2_length (S : List (List Nat)) : (up2 S).length = S.length := by simp [up2]
@[simp] theorem up_nil : up [] = [] := rfl
@[simp] theorem up2_nil : up2 [] = [] := rfl
theorem up_append (a b : List Nat) : up (a ++ b) = up a ++ up b := by simp [up]
theorem up_inj {a b : List Nat} (h : up a = up b) : a = b := by
  induction a generalizing b with
  | nil => cases b with
    | nil => rfl
    | cons y b => simp [up] at h
  | cons x a ih => cases b with
    | nil => simp [up] at h
    | cons y b =>
      simp only [up, List.map_cons, List.cons.injEq] at h
      rw [show x = y by omega, ih h.2]
theorem up2_inj {a b : List (List Nat)} (h : up2 a = up2 b) : a = b := by
  induction a generalizing b with
  | nil => cases b with
    | nil => rfl
    | cons y b => simp [up2] at h
  | cons x a ih => cases b with
    | nil => simp [up2] at h
    | cons y b =>
      simp only [up2, List.map_cons, List.cons.injEq] at h
      rw [up_inj h.1, ih h.2]
theorem rd_up (l : List Nat) (i : Nat) : rd (up l) (i : Int) = ((l.getD i 0 : Nat) : Int) := by
  simp only [rd, up, Int.toNat_natCast, List.getD_eq_getElem?_getD, List.getElem?_map]
  cases l[i]? <;> rfl
theorem rdL_up (S : List (List Nat)) (i : Nat) : rd_L1 (up2 S) (i : Int) = up (S.getD i []) := by
  simp only [rd_L1, up2, Int.toNat_natCast, List.getD_eq_getElem?_getD, List.getElem?_map]
  cases S[i]? <;> rfl
theorem getD_mem {α : Type} {l : List α} {i : Nat} {d : α} (h : i < l.length) : l.getD i d ∈ l := by
  rw [List.getD_eq_getElem?_getD, List.getElem?_eq_getElem h]; exact List.getElem_mem h
theorem drop_getD {α : Type} (l : List α) (i : Nat) (d : α) (h : i < l.length) : l.drop i = l.getD i d :: l.drop (i + 1) := by
  rw [List.drop_eq_getElem_cons h, List.getD_eq_getElem?_getD, List.getElem?_eq_getElem h]; rfl
theorem take_getD {α : Type} (l : List α) (i : Nat) (d : α) (h : i < l.length) : l.take (i + 1) = l.take i ++ [l.getD i d] := by
  rw [List.take_succ_eq_append_getElem h, List.getD_eq_getElem?_getD, List.getElem?_eq_getElem h]; rfl
theorem getD_map_range {α : Type} (n : Nat) (f : Nat → α) (i : Nat) (d : α) (h : i < n) : ((List.range n).map f).getD i d = f i := by
  rw [List.getD_eq_getElem?_getD, List.getElem?_map, List.getElem?_range h]; rfl
theorem set_map_range {α : Type} (n : Nat) (f g : Nat → α) (i : Nat) (v : α) (hv : g i = v) (he : ∀ j, j ≠ i → g j = f j) : ((List.range n).map f).set i v = (List.range n).map g := by
  apply List.ext_getElem
  · simp
  · intro j h1 h2
    simp only [List.getElem_set, List.getElem_map, List.getElem_range]
    split
    · next e => rw [← e, hv]
    · next e => rw [he j (fun h => e h.symm)]
theorem self_map_range {α : Type} (l : List α) (d : α) : l = (List.range l.length).map (fun i => l.getD i d) := by
  apply List.ext_getElem
  · simp
  · intro j h1 h2
    simp only [List.getElem_map, List.getElem_range, List.getD_eq_getElem?_getD, List.getElem?_eq_getElem h1]; rfl
theorem ext_getD {α : Type} {a b : List α} (d : α) (hl : a.length = b.length) (h : ∀ i, i < a.length → a.getD i d = b.getD i d) : a = b := by
  rw [self_map_range a d, self_map_range b d, hl]
  exact List.map_congr_left (fun i hi => h i (by have := List.mem_range.mp hi; omega))
end Go.Proofs.Ytamlaebfpmbefaa.GP
