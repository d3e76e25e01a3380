/- Texts of this session, joined by wip/tools/merge.py. Conditions: each theorem's own. -/
import Derived.Test.YtheillkpgmpnlaaMDepEndsc
import Derived.Test.YtheillkpgmpnlaaGx0
import Derived.Test.YtheillkpgmpnlaaGx5
import Derived.Test.YtheillkpgmpnlaaGx25
import Derived.Test.YtheillkpgmpnlaaGx8
import Derived.Test.YtheillkpgmpnlaaGx13
import Derived.Test.YtheillkpgmpnlaaGx9
import Derived.Test.YtheillkpgmpnlaaGx10
import Derived.Test.YtheillkpgmpnlaaGx18
namespace Go.Proofs.Ytheillkpgmpnlaa.G
open Go.Proofs.YtheillkpgmpnlaaH
open Go.RowKit Go.Proofs.YtheillkpgmpnlaaW.PrintWords Go.Proofs.YtheillkpgmpnlaaW.PrintLast Go.Proofs.YtheillkpgmpnlaaW.PrintMore
attribute [local go_sem] max2_int min2_int max_two min_two max_three min_three max_four min_four   -- for this text's walks alone
set_option linter.unusedVariables false
set_option linter.unusedSimpArgs false

abbrev m50_0 : Array Bool := #[F_,F_,F_,F_,F_,F_,F_,F_,F_,F_,F_,F_,F_,F_,F_,F_,F_,F_,F_,F_,F_,F_,F_,F_,F_,F_,F_,F_,F_,F_,F_,F_,F_,F_,F_,F_,F_,F_,F_,F_]
abbrev m50_1 : Array Bool := #[T_,F_,F_,F_,F_,F_,F_,F_,F_,F_,F_,F_,F_,F_,F_,F_,F_,F_,F_,F_,F_,F_,F_,F_,F_,F_,F_,F_,F_,F_,F_,F_,F_,F_,F_,F_,F_,F_,F_,F_]
abbrev m50_2 : Array Bool := #[T_,T_,F_,F_,F_,F_,F_,F_,F_,F_,F_,F_,F_,F_,F_,F_,F_,F_,F_,F_,F_,F_,F_,F_,F_,F_,F_,F_,F_,F_,F_,F_,F_,F_,F_,F_,F_,F_,F_,F_]
abbrev m50_3 : Array Bool := #[T_,T_,T_,F_,F_,F_,F_,F_,F_,F_,F_,F_,F_,F_,F_,F_,F_,F_,F_,F_,F_,F_,F_,F_,F_,F_,F_,F_,F_,F_,F_,F_,F_,F_,F_,F_,F_,F_,F_,F_]
abbrev m50_4 : Array Bool := #[T_,T_,T_,T_,F_,F_,F_,F_,F_,F_,F_,F_,F_,F_,F_,F_,F_,F_,F_,F_,F_,F_,F_,F_,F_,F_,F_,F_,F_,F_,F_,F_,F_,F_,F_,F_,F_,F_,F_,F_]
abbrev m50_5 : Array Bool := #[T_,T_,T_,T_,T_,F_,F_,F_,F_,F_,F_,F_,F_,F_,F_,F_,F_,F_,F_,F_,F_,F_,F_,F_,F_,F_,F_,F_,F_,F_,F_,F_,F_,F_,F_,F_,F_,F_,F_,F_]
abbrev m50_6 : Array Bool := #[T_,T_,T_,T_,T_,T_,T_,T_,F_,F_,F_,F_,F_,F_,F_,F_,F_,F_,F_,F_,F_,F_,F_,F_,F_,F_,F_,F_,F_,F_,F_,F_,F_,F_,F_,F_,F_,F_,F_,F_]
abbrev m50_7 : Array Bool := #[T_,T_,T_,T_,T_,T_,T_,T_,T_,F_,F_,F_,F_,F_,F_,F_,F_,F_,F_,F_,F_,F_,F_,F_,F_,F_,F_,F_,F_,F_,F_,F_,F_,F_,F_,F_,F_,F_,F_,F_]
abbrev m50_8 : Array Bool := #[T_,T_,T_,T_,T_,T_,T_,T_,T_,T_,F_,F_,F_,F_,F_,F_,F_,F_,F_,F_,F_,F_,F_,F_,F_,F_,F_,F_,F_,F_,F_,F_,F_,F_,F_,F_,F_,F_,F_,F_]
abbrev m50_9 : Array Bool := #[T_,T_,T_,T_,T_,T_,T_,T_,T_,T_,T_,F_,F_,F_,F_,F_,F_,F_,F_,F_,F_,F_,F_,F_,F_,F_,F_,F_,F_,F_,F_,F_,F_,F_,F_,F_,F_,F_,F_,F_]
abbrev m50_10 : Array Bool := #[T_,T_,T_,T_,T_,T_,T_,T_,T_,T_,T_,T_,F_,F_,F_,F_,F_,F_,F_,F_,F_,F_,F_,F_,F_,F_,F_,F_,F_,F_,F_,F_,F_,F_,F_,F_,F_,F_,F_,F_]
abbrev m50_11 : Array Bool := #[T_,T_,T_,T_,T_,T_,T_,T_,T_,T_,T_,T_,T_,F_,F_,F_,F_,F_,F_,F_,F_,F_,F_,F_,F_,F_,F_,F_,F_,F_,F_,F_,F_,F_,F_,F_,F_,F_,F_,F_]
abbrev m50_12 : Array Bool := #[T_,T_,T_,T_,T_,T_,T_,T_,T_,T_,T_,T_,T_,T_,T_,T_,T_,F_,F_,F_,F_,F_,F_,F_,F_,F_,F_,F_,F_,F_,F_,F_,F_,F_,F_,F_,F_,F_,F_,F_]
abbrev m50_13 : Array Bool := #[T_,T_,T_,T_,T_,T_,T_,T_,T_,T_,T_,T_,T_,T_,T_,T_,T_,T_,F_,F_,F_,F_,F_,F_,F_,F_,F_,F_,F_,F_,F_,F_,F_,F_,F_,F_,F_,F_,F_,F_]
abbrev m50_14 : Array Bool := #[T_,T_,T_,T_,T_,T_,T_,T_,T_,T_,T_,T_,T_,T_,T_,T_,T_,T_,T_,F_,F_,F_,F_,F_,F_,F_,F_,F_,F_,F_,F_,F_,F_,F_,F_,F_,F_,F_,F_,F_]
abbrev m50_15 : Array Bool := #[T_,T_,T_,T_,T_,T_,T_,T_,T_,T_,T_,T_,T_,T_,T_,T_,T_,T_,T_,T_,F_,F_,F_,F_,F_,F_,F_,F_,F_,F_,F_,F_,F_,F_,F_,F_,F_,F_,F_,F_]
abbrev m50_16 : Array Bool := #[T_,T_,T_,T_,T_,T_,T_,T_,T_,T_,T_,T_,T_,T_,T_,T_,T_,T_,T_,T_,T_,F_,F_,F_,F_,F_,F_,F_,F_,F_,F_,F_,F_,F_,F_,F_,F_,F_,F_,F_]
abbrev m50_17 : Array Bool := #[T_,T_,T_,T_,T_,T_,T_,T_,T_,T_,T_,T_,T_,T_,T_,T_,T_,T_,T_,T_,T_,T_,F_,F_,F_,F_,F_,F_,F_,F_,F_,F_,F_,F_,F_,F_,F_,F_,F_,F_]
abbrev m50_18 : Array Bool := #[T_,T_,T_,T_,T_,T_,T_,T_,T_,T_,T_,T_,T_,T_,T_,T_,T_,T_,T_,T_,T_,T_,T_,F_,F_,F_,F_,F_,F_,F_,F_,F_,F_,F_,F_,F_,F_,F_,F_,F_]
abbrev m50_19 : Array Bool := #[T_,T_,T_,T_,T_,T_,T_,T_,T_,T_,T_,T_,T_,T_,T_,T_,T_,T_,T_,T_,T_,T_,T_,T_,F_,F_,F_,F_,F_,F_,F_,F_,F_,F_,F_,F_,F_,F_,F_,F_]
abbrev m50_20 : Array Bool := #[T_,T_,T_,T_,T_,T_,T_,T_,T_,T_,T_,T_,T_,T_,T_,T_,T_,T_,T_,T_,T_,T_,T_,T_,T_,F_,F_,F_,F_,F_,F_,F_,F_,F_,F_,F_,F_,F_,F_,F_]
abbrev m50_21 : Array Bool := #[T_,T_,T_,T_,T_,T_,T_,T_,T_,T_,T_,T_,T_,T_,T_,T_,T_,T_,T_,T_,T_,T_,T_,T_,T_,T_,F_,F_,F_,F_,F_,F_,F_,F_,F_,F_,F_,F_,F_,F_]
abbrev m50_22 : Array Bool := #[T_,T_,T_,T_,T_,T_,T_,T_,T_,T_,T_,T_,T_,T_,T_,T_,T_,T_,T_,T_,T_,T_,T_,T_,T_,T_,T_,F_,F_,F_,F_,F_,F_,F_,F_,F_,F_,F_,F_,F_]
abbrev m50_23 : Array Bool := #[T_,T_,T_,T_,T_,T_,T_,T_,T_,T_,T_,T_,T_,T_,T_,T_,T_,T_,T_,T_,T_,T_,T_,T_,T_,T_,T_,T_,F_,F_,F_,F_,F_,F_,F_,F_,F_,F_,F_,F_]
abbrev m50_24 : Array Bool := #[T_,T_,T_,T_,T_,T_,T_,T_,T_,T_,T_,T_,T_,T_,T_,T_,T_,T_,T_,T_,T_,T_,T_,T_,T_,T_,T_,T_,T_,F_,F_,F_,F_,F_,F_,F_,F_,F_,F_,F_]
abbrev m50_25 : Array Bool := #[T_,T_,T_,T_,T_,T_,T_,T_,T_,T_,T_,T_,T_,T_,T_,T_,T_,T_,T_,T_,T_,T_,T_,T_,T_,T_,T_,T_,T_,T_,F_,F_,F_,F_,F_,F_,F_,F_,F_,F_]
abbrev m50_26 : Array Bool := #[T_,T_,T_,T_,T_,T_,T_,T_,T_,T_,T_,T_,T_,T_,T_,T_,T_,T_,T_,T_,T_,T_,T_,T_,T_,T_,T_,T_,T_,T_,T_,F_,F_,F_,F_,F_,F_,F_,F_,F_]
abbrev m50_27 : Array Bool := #[T_,T_,T_,T_,T_,T_,T_,T_,T_,T_,T_,T_,T_,T_,T_,T_,T_,T_,T_,T_,T_,T_,T_,T_,T_,T_,T_,T_,T_,T_,T_,T_,F_,F_,F_,F_,F_,F_,F_,F_]
abbrev m50_28 : Array Bool := #[T_,T_,T_,T_,T_,T_,T_,T_,T_,T_,T_,T_,T_,T_,T_,T_,T_,T_,T_,T_,T_,T_,T_,T_,T_,T_,T_,T_,T_,T_,T_,T_,T_,F_,F_,F_,F_,F_,F_,F_]
abbrev m50_29 : Array Bool := #[T_,T_,T_,T_,T_,T_,T_,T_,T_,T_,T_,T_,T_,T_,T_,T_,T_,T_,T_,T_,T_,T_,T_,T_,T_,T_,T_,T_,T_,T_,T_,T_,T_,T_,F_,F_,F_,F_,F_,F_]
abbrev m50_30 : Array Bool := #[T_,T_,T_,T_,T_,T_,T_,T_,T_,T_,T_,T_,T_,T_,T_,T_,T_,T_,T_,T_,T_,T_,T_,T_,T_,T_,T_,T_,T_,T_,T_,T_,T_,T_,T_,F_,F_,F_,F_,F_]
abbrev m50_31 : Array Bool := #[T_,T_,T_,T_,T_,T_,T_,T_,T_,T_,T_,T_,T_,T_,T_,T_,T_,T_,T_,T_,T_,T_,T_,T_,T_,T_,T_,T_,T_,T_,T_,T_,T_,T_,T_,T_,F_,F_,F_,F_]
abbrev m50_32 : Array Bool := #[T_,T_,T_,T_,T_,T_,T_,T_,T_,T_,T_,T_,T_,T_,T_,T_,T_,T_,T_,T_,T_,T_,T_,T_,T_,T_,T_,T_,T_,T_,T_,T_,T_,T_,T_,T_,T_,F_,F_,F_]
abbrev m50_33 : Array Bool := #[T_,T_,T_,T_,T_,T_,T_,T_,T_,T_,T_,T_,T_,T_,T_,T_,T_,T_,T_,T_,T_,T_,T_,T_,T_,T_,T_,T_,T_,T_,T_,T_,T_,T_,T_,T_,T_,T_,F_,F_]
abbrev m50_34 : Array Bool := #[T_,T_,T_,T_,T_,T_,T_,T_,T_,T_,T_,T_,T_,T_,T_,T_,T_,T_,T_,T_,T_,T_,T_,T_,T_,T_,T_,T_,T_,T_,T_,T_,T_,T_,T_,T_,T_,T_,T_,F_]
abbrev m50_35 : Array Bool := #[T_,T_,T_,T_,T_,T_,T_,T_,T_,T_,T_,T_,T_,T_,T_,T_,T_,T_,T_,T_,T_,T_,T_,T_,T_,T_,T_,T_,T_,T_,T_,T_,T_,T_,T_,T_,T_,T_,T_,T_]
abbrev m50_36 : Array Bool := #[T_,T_,T_,T_,T_,F_,T_,F_,F_,F_,F_,F_,F_,F_,F_,F_,F_,F_,F_,F_,F_,F_,F_,F_,F_,F_,F_,F_,F_,F_,F_,F_,F_,F_,F_,F_,F_,F_,F_,F_]
abbrev m50_37 : Array Bool := #[T_,T_,T_,T_,T_,F_,T_,T_,F_,F_,F_,F_,F_,F_,F_,F_,F_,F_,F_,F_,F_,F_,F_,F_,F_,F_,F_,F_,F_,F_,F_,F_,F_,F_,F_,F_,F_,F_,F_,F_]
abbrev m50_38 : Array Bool := #[T_,T_,T_,T_,T_,T_,T_,T_,T_,T_,T_,T_,T_,F_,F_,F_,T_,F_,F_,F_,F_,F_,F_,F_,F_,F_,F_,F_,F_,F_,F_,F_,F_,F_,F_,F_,F_,F_,F_,F_]
abbrev m50_39 : Array Bool := #[T_,T_,T_,T_,T_,T_,T_,T_,T_,T_,T_,T_,T_,T_,F_,F_,T_,F_,F_,F_,F_,F_,F_,F_,F_,F_,F_,F_,F_,F_,F_,F_,F_,F_,F_,F_,F_,F_,F_,F_]
abbrev m50_40 : Array Bool := #[T_,T_,T_,T_,T_,T_,T_,T_,T_,T_,T_,T_,T_,T_,T_,F_,T_,F_,F_,F_,F_,F_,F_,F_,F_,F_,F_,F_,F_,F_,F_,F_,F_,F_,F_,F_,F_,F_,F_,F_]
abbrev m50_41 : Array Bool := #[F_,F_,F_,F_,F_,F_,F_,F_,F_,F_,F_,F_,F_,F_,F_,F_,F_,F_,F_,F_,F_,F_,F_,F_,F_,F_,F_,F_,F_,F_,F_,F_,F_,F_,F_,F_,F_,F_,F_,F_,F_,F_,F_,F_,F_,F_,F_,F_,F_,F_,F_,F_,F_,F_,F_,F_,F_]
abbrev m50_42 : Array Bool := #[T_,F_,F_,F_,F_,F_,F_,F_,F_,F_,F_,F_,F_,F_,F_,F_,F_,F_,F_,F_,F_,F_,F_,F_,F_,F_,F_,F_,F_,F_,F_,F_,F_,F_,F_,F_,F_,F_,F_,F_,F_,F_,F_,F_,F_,F_,F_,F_,F_,F_,F_,F_,F_,F_,F_,F_,F_]
abbrev m50_43 : Array Bool := #[T_,T_,F_,F_,F_,F_,F_,F_,F_,F_,F_,F_,F_,F_,F_,F_,F_,F_,F_,F_,F_,F_,F_,F_,F_,F_,F_,F_,F_,F_,F_,F_,F_,F_,F_,F_,F_,F_,F_,F_,F_,F_,F_,F_,F_,F_,F_,F_,F_,F_,F_,F_,F_,F_,F_,F_,F_]
abbrev m50_44 : Array Bool := #[T_,T_,T_,F_,F_,F_,F_,F_,F_,F_,F_,F_,F_,F_,F_,F_,F_,F_,F_,F_,F_,F_,F_,F_,F_,F_,F_,F_,F_,F_,F_,F_,F_,F_,F_,F_,F_,F_,F_,F_,F_,F_,F_,F_,F_,F_,F_,F_,F_,F_,F_,F_,F_,F_,F_,F_,F_]
abbrev m50_45 : Array Bool := #[T_,T_,T_,T_,F_,F_,F_,F_,F_,F_,F_,F_,F_,F_,F_,F_,F_,F_,F_,F_,F_,F_,F_,F_,F_,F_,F_,F_,F_,F_,F_,F_,F_,F_,F_,F_,F_,F_,F_,F_,F_,F_,F_,F_,F_,F_,F_,F_,F_,F_,F_,F_,F_,F_,F_,F_,F_]
abbrev m50_46 : Array Bool := #[T_,T_,T_,T_,T_,F_,F_,F_,F_,F_,F_,F_,F_,F_,F_,F_,F_,F_,F_,F_,F_,F_,F_,F_,F_,F_,F_,F_,F_,F_,F_,F_,F_,F_,F_,F_,F_,F_,F_,F_,F_,F_,F_,F_,F_,F_,F_,F_,F_,F_,F_,F_,F_,F_,F_,F_,F_]
abbrev m50_47 : Array Bool := #[T_,T_,T_,T_,T_,T_,F_,F_,F_,F_,F_,F_,F_,F_,F_,F_,F_,F_,F_,F_,F_,F_,F_,F_,F_,F_,F_,F_,F_,F_,F_,F_,F_,F_,F_,F_,F_,F_,F_,F_,F_,F_,F_,F_,F_,F_,F_,F_,F_,F_,F_,F_,F_,F_,F_,F_,F_]
abbrev m50_48 : Array Bool := #[T_,T_,T_,T_,T_,T_,T_,F_,F_,F_,F_,F_,F_,F_,F_,F_,F_,F_,F_,F_,F_,F_,F_,F_,F_,F_,F_,F_,F_,F_,F_,F_,F_,F_,F_,F_,F_,F_,F_,F_,F_,F_,F_,F_,F_,F_,F_,F_,F_,F_,F_,F_,F_,F_,F_,F_,F_]
abbrev m50_49 : Array Bool := #[T_,T_,T_,T_,T_,T_,T_,T_,F_,F_,F_,F_,F_,F_,F_,F_,F_,F_,F_,F_,F_,F_,F_,F_,F_,F_,F_,F_,F_,F_,F_,F_,F_,F_,F_,F_,F_,F_,F_,F_,F_,F_,F_,F_,F_,F_,F_,F_,F_,F_,F_,F_,F_,F_,F_,F_,F_]
abbrev m50_50 : Array Bool := #[T_,T_,T_,T_,T_,T_,T_,T_,F_,T_,F_,F_,F_,F_,F_,F_,F_,F_,F_,F_,F_,F_,F_,F_,F_,F_,F_,F_,F_,F_,F_,F_,F_,F_,F_,F_,F_,F_,F_,F_,F_,F_,F_,F_,F_,F_,F_,F_,F_,F_,F_,F_,F_,F_,F_,F_,F_]
abbrev m50_51 : Array Bool := #[T_,T_,T_,T_,T_,T_,T_,T_,T_,T_,F_,F_,F_,F_,F_,F_,F_,F_,F_,F_,F_,F_,F_,F_,F_,F_,F_,F_,F_,F_,F_,F_,F_,F_,F_,F_,F_,F_,F_,F_,F_,F_,F_,F_,F_,F_,F_,F_,F_,F_,F_,F_,F_,F_,F_,F_,F_]
abbrev m50_52 : Array Bool := #[T_,T_,T_,T_,T_,T_,T_,T_,T_,T_,T_,F_,F_,F_,F_,F_,F_,F_,F_,F_,F_,F_,F_,F_,F_,F_,F_,F_,F_,F_,F_,F_,F_,F_,F_,F_,F_,F_,F_,F_,F_,F_,F_,F_,F_,F_,F_,F_,F_,F_,F_,F_,F_,F_,F_,F_,F_]
abbrev m50_53 : Array Bool := #[T_,T_,T_,T_,T_,T_,T_,T_,T_,T_,T_,T_,F_,F_,F_,F_,F_,F_,F_,F_,F_,F_,F_,F_,F_,F_,F_,F_,F_,F_,F_,F_,F_,F_,F_,F_,F_,F_,F_,F_,F_,F_,F_,F_,F_,F_,F_,F_,F_,F_,F_,F_,F_,F_,F_,F_,F_]
abbrev m50_54 : Array Bool := #[T_,T_,T_,T_,T_,T_,T_,T_,T_,T_,T_,T_,T_,F_,F_,F_,F_,F_,F_,F_,F_,F_,F_,F_,F_,F_,F_,F_,F_,F_,F_,F_,F_,F_,F_,F_,F_,F_,F_,F_,F_,F_,F_,F_,F_,F_,F_,F_,F_,F_,F_,F_,F_,F_,F_,F_,F_]
abbrev m50_55 : Array Bool := #[T_,T_,T_,T_,T_,T_,T_,T_,T_,T_,T_,T_,T_,T_,F_,F_,F_,F_,F_,F_,F_,F_,F_,F_,F_,F_,F_,F_,F_,F_,F_,F_,F_,F_,F_,F_,F_,F_,F_,F_,F_,F_,F_,F_,F_,F_,F_,F_,F_,F_,F_,F_,F_,F_,F_,F_,F_]
abbrev m50_56 : Array Bool := #[T_,T_,T_,T_,T_,T_,T_,T_,T_,T_,T_,T_,T_,T_,T_,F_,F_,F_,F_,F_,F_,F_,F_,F_,F_,F_,F_,F_,F_,F_,F_,F_,F_,F_,F_,F_,F_,F_,F_,F_,F_,F_,F_,F_,F_,F_,F_,F_,F_,F_,F_,F_,F_,F_,F_,F_,F_]
abbrev m50_57 : Array Bool := #[T_,T_,T_,T_,T_,T_,T_,T_,T_,T_,T_,T_,T_,T_,T_,T_,F_,F_,F_,F_,F_,F_,F_,F_,F_,F_,F_,F_,F_,F_,F_,F_,F_,F_,F_,F_,F_,F_,F_,F_,F_,F_,F_,F_,F_,F_,F_,F_,F_,F_,F_,F_,F_,F_,F_,F_,F_]
abbrev m50_58 : Array Bool := #[T_,T_,T_,T_,T_,T_,T_,T_,T_,T_,T_,T_,T_,T_,T_,T_,T_,F_,F_,F_,F_,F_,F_,F_,F_,F_,F_,F_,F_,F_,F_,F_,F_,F_,F_,F_,F_,F_,F_,F_,F_,F_,F_,F_,F_,F_,F_,F_,F_,F_,F_,F_,F_,F_,F_,F_,F_]
abbrev m50_59 : Array Bool := #[T_,T_,T_,T_,T_,T_,T_,T_,T_,T_,T_,T_,T_,T_,T_,T_,T_,T_,F_,F_,F_,F_,F_,F_,F_,F_,F_,F_,F_,F_,F_,F_,F_,F_,F_,F_,F_,F_,F_,F_,F_,F_,F_,F_,F_,F_,F_,F_,F_,F_,F_,F_,F_,F_,F_,F_,F_]
abbrev m50_60 : Array Bool := #[T_,T_,T_,T_,T_,T_,T_,T_,T_,T_,T_,T_,T_,T_,T_,T_,T_,T_,F_,T_,F_,F_,F_,F_,F_,F_,F_,F_,F_,F_,F_,F_,F_,F_,F_,F_,F_,F_,F_,F_,F_,F_,F_,F_,F_,F_,F_,F_,F_,F_,F_,F_,F_,F_,F_,F_,F_]
abbrev m50_61 : Array Bool := #[T_,T_,T_,T_,T_,T_,T_,T_,T_,T_,T_,T_,T_,T_,T_,T_,T_,T_,T_,T_,F_,F_,F_,F_,F_,F_,F_,F_,F_,F_,F_,F_,F_,F_,F_,F_,F_,F_,F_,F_,F_,F_,F_,F_,F_,F_,F_,F_,F_,F_,F_,F_,F_,F_,F_,F_,F_]
abbrev m50_62 : Array Bool := #[T_,T_,T_,T_,T_,T_,T_,T_,T_,T_,T_,T_,T_,T_,T_,T_,T_,T_,T_,T_,T_,F_,F_,F_,F_,F_,F_,F_,F_,F_,F_,F_,F_,F_,F_,F_,F_,F_,F_,F_,F_,F_,F_,F_,F_,F_,F_,F_,F_,F_,F_,F_,F_,F_,F_,F_,F_]
abbrev m50_63 : Array Bool := #[T_,T_,T_,T_,T_,T_,T_,T_,T_,T_,T_,T_,T_,T_,T_,T_,T_,T_,T_,T_,T_,T_,F_,F_,F_,F_,F_,F_,F_,F_,F_,F_,F_,F_,F_,F_,F_,F_,F_,F_,F_,F_,F_,F_,F_,F_,F_,F_,F_,F_,F_,F_,F_,F_,F_,F_,F_]
abbrev m50_64 : Array Bool := #[T_,T_,T_,T_,T_,T_,T_,T_,T_,T_,T_,T_,T_,T_,T_,T_,T_,T_,T_,T_,T_,T_,T_,F_,F_,F_,F_,F_,F_,F_,F_,F_,F_,F_,F_,F_,F_,F_,F_,F_,F_,F_,F_,F_,F_,F_,F_,F_,F_,F_,F_,F_,F_,F_,F_,F_,F_]
abbrev m50_65 : Array Bool := #[T_,T_,T_,T_,T_,T_,T_,T_,T_,T_,T_,T_,T_,T_,T_,T_,T_,T_,T_,T_,T_,T_,T_,T_,F_,F_,F_,F_,F_,F_,F_,F_,F_,F_,F_,F_,F_,F_,F_,F_,F_,F_,F_,F_,F_,F_,F_,F_,F_,F_,F_,F_,F_,F_,F_,F_,F_]
abbrev m50_66 : Array Bool := #[T_,T_,T_,T_,T_,T_,T_,T_,T_,T_,T_,T_,T_,T_,T_,T_,T_,T_,T_,T_,T_,T_,T_,T_,T_,F_,F_,F_,F_,F_,F_,F_,F_,F_,F_,F_,F_,F_,F_,F_,F_,F_,F_,F_,F_,F_,F_,F_,F_,F_,F_,F_,F_,F_,F_,F_,F_]
abbrev m50_67 : Array Bool := #[T_,T_,T_,T_,T_,T_,T_,T_,T_,T_,T_,T_,T_,T_,T_,T_,T_,T_,T_,T_,T_,T_,T_,T_,T_,T_,F_,F_,F_,F_,F_,F_,F_,F_,F_,F_,F_,F_,F_,F_,F_,F_,F_,F_,F_,F_,F_,F_,F_,F_,F_,F_,F_,F_,F_,F_,F_]
abbrev m50_68 : Array Bool := #[T_,T_,T_,T_,T_,T_,T_,T_,T_,T_,T_,T_,T_,T_,T_,T_,T_,T_,T_,T_,T_,T_,T_,T_,T_,T_,T_,F_,F_,F_,F_,F_,F_,F_,F_,F_,F_,F_,F_,F_,F_,F_,F_,F_,F_,F_,F_,F_,F_,F_,F_,F_,F_,F_,F_,F_,F_]
abbrev m50_69 : Array Bool := #[T_,T_,T_,T_,T_,T_,T_,T_,T_,T_,T_,T_,T_,T_,T_,T_,T_,T_,T_,T_,T_,T_,T_,T_,T_,T_,T_,T_,F_,F_,F_,F_,F_,F_,F_,F_,F_,F_,F_,F_,F_,F_,F_,F_,F_,F_,F_,F_,F_,F_,F_,F_,F_,F_,F_,F_,F_]
abbrev m50_70 : Array Bool := #[T_,T_,T_,T_,T_,T_,T_,T_,T_,T_,T_,T_,T_,T_,T_,T_,T_,T_,T_,T_,T_,T_,T_,T_,T_,T_,T_,T_,T_,T_,F_,F_,F_,F_,F_,F_,F_,F_,F_,F_,F_,F_,F_,F_,F_,F_,F_,F_,F_,F_,F_,F_,F_,F_,F_,F_,F_]
abbrev m50_71 : Array Bool := #[T_,T_,T_,T_,T_,T_,T_,T_,T_,T_,T_,T_,T_,T_,T_,T_,T_,T_,T_,T_,T_,T_,T_,T_,T_,T_,T_,T_,T_,T_,T_,F_,F_,F_,F_,F_,F_,F_,F_,F_,F_,F_,F_,F_,F_,F_,F_,F_,F_,F_,F_,F_,F_,F_,F_,F_,F_]
abbrev m50_72 : Array Bool := #[T_,T_,T_,T_,T_,T_,T_,T_,T_,T_,T_,T_,T_,T_,T_,T_,T_,T_,T_,T_,T_,T_,T_,T_,T_,T_,T_,T_,T_,T_,T_,T_,F_,F_,F_,F_,F_,F_,F_,F_,F_,F_,F_,F_,F_,F_,F_,F_,F_,F_,F_,F_,F_,F_,F_,F_,F_]
abbrev m50_73 : Array Bool := #[T_,T_,T_,T_,T_,T_,T_,T_,T_,T_,T_,T_,T_,T_,T_,T_,T_,T_,T_,T_,T_,T_,T_,T_,T_,T_,T_,T_,T_,T_,T_,T_,T_,F_,F_,F_,F_,F_,F_,F_,F_,F_,F_,F_,F_,F_,F_,F_,F_,F_,F_,F_,F_,F_,F_,F_,F_]
abbrev m50_74 : Array Bool := #[T_,T_,T_,T_,T_,T_,T_,T_,T_,T_,T_,T_,T_,T_,T_,T_,T_,T_,T_,T_,T_,T_,T_,T_,T_,T_,T_,T_,T_,T_,T_,T_,T_,T_,F_,F_,F_,F_,F_,F_,F_,F_,F_,F_,F_,F_,F_,F_,F_,F_,F_,F_,F_,F_,F_,F_,F_]
abbrev m50_75 : Array Bool := #[T_,T_,T_,T_,T_,T_,T_,T_,T_,T_,T_,T_,T_,T_,T_,T_,T_,T_,T_,T_,T_,T_,T_,T_,T_,T_,T_,T_,T_,T_,T_,T_,T_,T_,T_,F_,F_,F_,F_,F_,F_,F_,F_,F_,F_,F_,F_,F_,F_,F_,F_,F_,F_,F_,F_,F_,F_]
abbrev m50_76 : Array Bool := #[T_,T_,T_,T_,T_,T_,T_,T_,T_,T_,T_,T_,T_,T_,T_,T_,T_,T_,T_,T_,T_,T_,T_,T_,T_,T_,T_,T_,T_,T_,T_,T_,T_,T_,T_,T_,F_,F_,F_,F_,F_,F_,F_,F_,F_,F_,F_,F_,F_,F_,F_,F_,F_,F_,F_,F_,F_]
abbrev m50_77 : Array Bool := #[T_,T_,T_,T_,T_,T_,T_,T_,T_,T_,T_,T_,T_,T_,T_,T_,T_,T_,T_,T_,T_,T_,T_,T_,T_,T_,T_,T_,T_,T_,T_,T_,T_,T_,T_,T_,T_,F_,F_,F_,F_,F_,F_,F_,F_,F_,F_,F_,F_,F_,F_,F_,F_,F_,F_,F_,F_]
abbrev m50_78 : Array Bool := #[T_,T_,T_,T_,T_,T_,T_,T_,T_,T_,T_,T_,T_,T_,T_,T_,T_,T_,T_,T_,T_,T_,T_,T_,T_,T_,T_,T_,T_,T_,T_,T_,T_,T_,T_,T_,T_,T_,F_,F_,F_,F_,F_,F_,F_,F_,F_,F_,F_,F_,F_,F_,F_,F_,F_,F_,F_]
abbrev m50_79 : Array Bool := #[T_,T_,T_,T_,T_,T_,T_,T_,T_,T_,T_,T_,T_,T_,T_,T_,T_,T_,T_,T_,T_,T_,T_,T_,T_,T_,T_,T_,T_,T_,T_,T_,T_,T_,T_,T_,T_,T_,T_,T_,F_,F_,F_,F_,F_,F_,F_,F_,F_,F_,F_,F_,F_,F_,F_,F_,F_]
abbrev m50_80 : Array Bool := #[T_,T_,T_,T_,T_,T_,T_,T_,T_,T_,T_,T_,T_,T_,T_,T_,T_,T_,T_,T_,T_,T_,T_,T_,T_,T_,T_,T_,T_,T_,T_,T_,T_,T_,T_,T_,T_,T_,T_,T_,T_,F_,F_,F_,F_,F_,F_,F_,F_,F_,F_,F_,F_,F_,F_,F_,F_]
abbrev m50_81 : Array Bool := #[T_,T_,T_,T_,T_,T_,T_,T_,T_,T_,T_,T_,T_,T_,T_,T_,T_,T_,T_,T_,T_,T_,T_,T_,T_,T_,T_,T_,T_,T_,T_,T_,T_,T_,T_,T_,T_,T_,T_,T_,T_,T_,F_,F_,F_,F_,F_,F_,F_,F_,F_,F_,F_,F_,F_,F_,F_]
abbrev m50_82 : Array Bool := #[T_,T_,T_,T_,T_,T_,T_,T_,T_,T_,T_,T_,T_,T_,T_,T_,T_,T_,T_,T_,T_,T_,T_,T_,T_,T_,T_,T_,T_,T_,T_,T_,T_,T_,T_,T_,T_,T_,T_,T_,T_,T_,T_,F_,F_,F_,F_,F_,F_,F_,F_,F_,F_,F_,F_,F_,F_]
abbrev m50_83 : Array Bool := #[T_,T_,T_,T_,T_,T_,T_,T_,T_,T_,T_,T_,T_,T_,T_,T_,T_,T_,T_,T_,T_,T_,T_,T_,T_,T_,T_,T_,T_,T_,T_,T_,T_,T_,T_,T_,T_,T_,T_,T_,T_,T_,T_,T_,F_,F_,F_,F_,F_,F_,F_,F_,F_,F_,F_,F_,F_]
abbrev m50_84 : Array Bool := #[T_,T_,T_,T_,T_,T_,T_,T_,T_,T_,T_,T_,T_,T_,T_,T_,T_,T_,T_,T_,T_,T_,T_,T_,T_,T_,T_,T_,T_,T_,T_,T_,T_,T_,T_,T_,T_,T_,T_,T_,T_,T_,T_,T_,T_,F_,F_,F_,F_,F_,F_,F_,F_,F_,F_,F_,F_]
abbrev m50_85 : Array Bool := #[T_,T_,T_,T_,T_,T_,T_,T_,T_,T_,T_,T_,T_,T_,T_,T_,T_,T_,T_,T_,T_,T_,T_,T_,T_,T_,T_,T_,T_,T_,T_,T_,T_,T_,T_,T_,T_,T_,T_,T_,T_,T_,T_,T_,T_,T_,F_,F_,F_,F_,F_,F_,F_,F_,F_,F_,F_]
abbrev m50_86 : Array Bool := #[T_,T_,T_,T_,T_,T_,T_,T_,T_,T_,T_,T_,T_,T_,T_,T_,T_,T_,T_,T_,T_,T_,T_,T_,T_,T_,T_,T_,T_,T_,T_,T_,T_,T_,T_,T_,T_,T_,T_,T_,T_,T_,T_,T_,T_,T_,T_,F_,F_,F_,F_,F_,F_,F_,F_,F_,F_]
abbrev m50_87 : Array Bool := #[T_,T_,T_,T_,T_,T_,T_,T_,T_,T_,T_,T_,T_,T_,T_,T_,T_,T_,T_,T_,T_,T_,T_,T_,T_,T_,T_,T_,T_,T_,T_,T_,T_,T_,T_,T_,T_,T_,T_,T_,T_,T_,T_,T_,T_,T_,T_,T_,F_,F_,F_,F_,F_,F_,F_,F_,F_]
abbrev m50_88 : Array Bool := #[T_,T_,T_,T_,T_,T_,T_,T_,T_,T_,T_,T_,T_,T_,T_,T_,T_,T_,T_,T_,T_,T_,T_,T_,T_,T_,T_,T_,T_,T_,T_,T_,T_,T_,T_,T_,T_,T_,T_,T_,T_,T_,T_,T_,T_,T_,T_,T_,T_,T_,F_,F_,F_,F_,F_,F_,F_]
abbrev m50_89 : Array Bool := #[T_,T_,T_,T_,T_,T_,T_,T_,T_,T_,T_,T_,T_,T_,T_,T_,T_,T_,T_,T_,T_,T_,T_,T_,T_,T_,T_,T_,T_,T_,T_,T_,T_,T_,T_,T_,T_,T_,T_,T_,T_,T_,T_,T_,T_,T_,T_,T_,T_,T_,T_,F_,F_,F_,F_,F_,F_]
abbrev m50_90 : Array Bool := #[T_,T_,T_,T_,T_,T_,T_,T_,T_,T_,T_,T_,T_,T_,T_,T_,T_,T_,T_,T_,T_,T_,T_,T_,T_,T_,T_,T_,T_,T_,T_,T_,T_,T_,T_,T_,T_,T_,T_,T_,T_,T_,T_,T_,T_,T_,T_,T_,T_,T_,T_,T_,F_,F_,F_,F_,F_]
abbrev m50_91 : Array Bool := #[T_,T_,T_,T_,T_,T_,T_,T_,T_,T_,T_,T_,T_,T_,T_,T_,T_,T_,T_,T_,T_,T_,T_,T_,T_,T_,T_,T_,T_,T_,T_,T_,T_,T_,T_,T_,T_,T_,T_,T_,T_,T_,T_,T_,T_,T_,T_,T_,T_,T_,T_,T_,T_,F_,F_,F_,F_]
abbrev m50_92 : Array Bool := #[T_,T_,T_,T_,T_,T_,T_,T_,T_,T_,T_,T_,T_,T_,T_,T_,T_,T_,T_,T_,T_,T_,T_,T_,T_,T_,T_,T_,T_,T_,T_,T_,T_,T_,T_,T_,T_,T_,T_,T_,T_,T_,T_,T_,T_,T_,T_,T_,T_,T_,T_,T_,T_,T_,F_,F_,F_]
abbrev m50_93 : Array Bool := #[T_,T_,T_,T_,T_,T_,T_,T_,T_,T_,T_,T_,T_,T_,T_,T_,T_,T_,T_,T_,T_,T_,T_,T_,T_,T_,T_,T_,T_,T_,T_,T_,T_,T_,T_,T_,T_,T_,T_,T_,T_,T_,T_,T_,T_,T_,T_,T_,T_,T_,T_,T_,T_,T_,T_,F_,F_]
abbrev m50_94 : Array Bool := #[T_,T_,T_,T_,T_,T_,T_,T_,T_,T_,T_,T_,T_,T_,T_,T_,T_,T_,T_,T_,T_,T_,T_,T_,T_,T_,T_,T_,T_,T_,T_,T_,T_,T_,T_,T_,T_,T_,T_,T_,T_,T_,T_,T_,T_,T_,T_,T_,T_,T_,T_,T_,T_,T_,T_,T_,F_]
abbrev m50_95 : Array Bool := #[T_,T_,T_,T_,T_,T_,T_,T_,T_,T_,T_,T_,T_,T_,T_,T_,T_,T_,T_,T_,T_,T_,T_,T_,T_,T_,T_,T_,T_,T_,T_,T_,T_,T_,T_,T_,T_,T_,T_,T_,T_,T_,T_,T_,T_,T_,T_,T_,T_,T_,T_,T_,T_,T_,T_,T_,T_]
abbrev m50_96 : Array Bool := #[T_,T_,T_,T_,T_,T_,T_,T_,T_,T_,T_,T_,T_,T_,T_,T_,T_,T_,T_,T_,T_,T_,T_,T_,T_,T_,T_,T_,T_,T_,T_,T_,T_,T_,T_,T_,T_,T_,T_,T_,T_,T_,T_,T_,T_,T_,T_,T_,T_,F_,F_,F_,F_,F_,F_,F_,F_]
/-! ### locksteplaw09_DepEnds: function 5 -/
mutual
def locksteplaw09_DepEnds.j0 : Nat → List (List Int) → Bool → Option (Bool)
 | 0, _, _ => none
 | k + 1, x0, x20 => if x20 = true then (some true) else ((graph_Make.f k x0).bind fun bt603 => (if bt603.2.2 = 0 then ((dep_All.f k bt603.1 bt603.2.1).bind fun t614 => (locksteplaw09_DepEnds.l0 k x0 t614 true 0)) else ((dep_All.f k bt603.1 bt603.2.1).bind fun t611 => (some ((t611.length : Int) == 0)))))
def locksteplaw09_DepEnds.l0 : Nat → List (List Int) → List (S37) → Bool → Int → Option (Bool)
 | 0, _, _, _, _ => none
 | k + 1, x0, x5, x6, x7 => if x7 < (x0.length : Int) then (locksteplaw09_DepEnds.l1 k x0 x5 x6 x7 0) else (locksteplaw09_DepEnds.l2 k x0 x5 x6 0)
def locksteplaw09_DepEnds.l1 : Nat → List (List Int) → List (S37) → Bool → Int → Int → Option (Bool)
 | 0, _, _, _, _, _ => none
 | k + 1, x0, x5, x6, x7, x8 => if 0 ≤ x7 then (if x7 < (x0.length : Int) then (if x8 < ((rd_L1 x0 x7).length : Int) then (if x6 = true then (if 0 ≤ x8 then (locksteplaw09_DepEnds.l1 k x0 x5 (decide ((rd (rd_L1 x0 x7) x8) > x7)) x7 (wrap64 (x8 + 1))) else (none)) else (locksteplaw09_DepEnds.l1 k x0 x5 false x7 (wrap64 (x8 + 1)))) else (locksteplaw09_DepEnds.l0 k x0 x5 x6 (wrap64 (x7 + 1)))) else (none)) else (none)
def locksteplaw09_DepEnds.l2 : Nat → List (List Int) → List (S37) → Bool → Int → Option (Bool)
 | 0, _, _, _, _ => none
 | k + 1, x0, x5, x6, x9 => if x9 < (x5.length : Int) then (if 0 ≤ x9 then (if ((rd_T37 x5 x9).f1) < 0 then (locksteplaw09_DepEnds.j4 k x0 x5 x6 x9 true ((rd_T37 x5 x9).f0) ((rd_T37 x5 x9).f1) ((rd_T37 x5 x9).f2)) else (if ((rd_T37 x5 x9).f1) ≥ (x0.length : Int) then (locksteplaw09_DepEnds.j4 k x0 x5 x6 x9 true ((rd_T37 x5 x9).f0) ((rd_T37 x5 x9).f1) ((rd_T37 x5 x9).f2)) else (if 0 ≤ ((rd_T37 x5 x9).f1) then (if ((rd_T37 x5 x9).f1) < (x0.length : Int) then ((lockstepref06_Has.f k (rd_L1 x0 ((rd_T37 x5 x9).f1)) ((rd_T37 x5 x9).f2)).bind fun t623 => (if t623 = true then (if x6 = true then (if ((rd_T37 x5 x9).f0) = ((rd_T37 x5 x9).f1) then (locksteplaw09_DepEnds.j4 k x0 x5 x6 x9 true ((rd_T37 x5 x9).f0) ((rd_T37 x5 x9).f1) ((rd_T37 x5 x9).f2)) else (locksteplaw09_DepEnds.j4 k x0 x5 x6 x9 (decide (((rd_L1 x0 ((rd_T37 x5 x9).f1)).length : Int) < 2)) ((rd_T37 x5 x9).f0) ((rd_T37 x5 x9).f1) ((rd_T37 x5 x9).f2))) else (locksteplaw09_DepEnds.j4 k x0 x5 x6 x9 false ((rd_T37 x5 x9).f0) ((rd_T37 x5 x9).f1) ((rd_T37 x5 x9).f2))) else (locksteplaw09_DepEnds.j4 k x0 x5 x6 x9 true ((rd_T37 x5 x9).f0) ((rd_T37 x5 x9).f1) ((rd_T37 x5 x9).f2)))) else (none)) else (none)))) else (none)) else (some true)
def locksteplaw09_DepEnds.j4 : Nat → List (List Int) → List (S37) → Bool → Int → Bool → Int → Int → Int → Option (Bool)
 | 0, _, _, _, _, _, _, _, _ => none
 | k + 1, x0, x5, x6, x9, x110, x622000, x622001, x622002 => if x110 = true then (some false) else (if x9 > 0 then (if 0 ≤ (wrap64 (x9 - 1)) then (if (wrap64 (x9 - 1)) < (x5.length : Int) then (if ((rd_T37 x5 (wrap64 (x9 - 1))).f0) > x622000 then (some false) else (if ((rd_T37 x5 (wrap64 (x9 - 1))).f0) = x622000 then (if ((rd_T37 x5 (wrap64 (x9 - 1))).f1) > x622001 then (some false) else (if ((rd_T37 x5 (wrap64 (x9 - 1))).f1) = x622001 then (if ((rd_T37 x5 (wrap64 (x9 - 1))).f2) ≥ x622002 then (some false) else (locksteplaw09_DepEnds.l2 k x0 x5 x6 (wrap64 (x9 + 1)))) else (locksteplaw09_DepEnds.l2 k x0 x5 x6 (wrap64 (x9 + 1))))) else (locksteplaw09_DepEnds.l2 k x0 x5 x6 (wrap64 (x9 + 1))))) else (none)) else (none)) else (locksteplaw09_DepEnds.l2 k x0 x5 x6 (wrap64 (x9 + 1))))
end
def locksteplaw09_DepEnds.f (k : Nat) (l0 : List (List Int)) : Option (Bool) := (locksteplaw09_awake.f k).bind fun t601 => (if t601 = true then (if (l0.length : Int) > 16 then (locksteplaw09_DepEnds.j0 k l0 true) else ((lockstepref06_Small.f k l0).bind fun t602 => (locksteplaw09_DepEnds.j0 k l0 (!t602)))) else (some false))
theorem locksteplaw09_DepEnds.mono_l : ∀ k, (∀ y0 y1, LeO (locksteplaw09_DepEnds.j0 k y0 y1) (locksteplaw09_DepEnds.j0 (k + 1) y0 y1)) ∧ (∀ y0 y1 y2 y3, LeO (locksteplaw09_DepEnds.l0 k y0 y1 y2 y3) (locksteplaw09_DepEnds.l0 (k + 1) y0 y1 y2 y3)) ∧ (∀ y0 y1 y2 y3 y4, LeO (locksteplaw09_DepEnds.l1 k y0 y1 y2 y3 y4) (locksteplaw09_DepEnds.l1 (k + 1) y0 y1 y2 y3 y4)) ∧ (∀ y0 y1 y2 y3, LeO (locksteplaw09_DepEnds.l2 k y0 y1 y2 y3) (locksteplaw09_DepEnds.l2 (k + 1) y0 y1 y2 y3)) ∧ (∀ y0 y1 y2 y3 y4 y5 y6 y7, LeO (locksteplaw09_DepEnds.j4 k y0 y1 y2 y3 y4 y5 y6 y7) (locksteplaw09_DepEnds.j4 (k + 1) y0 y1 y2 y3 y4 y5 y6 y7))
 | 0 => ⟨fun _ _ r h => by simp [locksteplaw09_DepEnds.j0] at h, fun _ _ _ _ r h => by simp [locksteplaw09_DepEnds.l0] at h, fun _ _ _ _ _ r h => by simp [locksteplaw09_DepEnds.l1] at h, fun _ _ _ _ r h => by simp [locksteplaw09_DepEnds.l2] at h, fun _ _ _ _ _ _ _ _ r h => by simp [locksteplaw09_DepEnds.j4] at h⟩
 | k + 1 => by
  obtain ⟨ih0, ih1, ih2, ih3, ih4⟩ := locksteplaw09_DepEnds.mono_l k
  refine ⟨?_, ?_, ?_, ?_, ?_⟩
  ·intro y0 y1
   unfold locksteplaw09_DepEnds.j0
   repeat' (with_reducible first | exact ih0 _ _ | exact ih1 _ _ _ _ | exact ih2 _ _ _ _ _ | exact ih3 _ _ _ _ | exact ih4 _ _ _ _ _ _ _ _ | exact dep_All.mono _ _ _ | exact graph_Make.mono _ _ | exact locksteplaw09_awake.mono _ | exact lockstepref06_Has.mono _ _ _ | exact lockstepref06_Small.mono _ _ | exact LeO.refl _ | exact LeO.none _ | refine LeO.ite ?_ ?_ | refine LeO.bind ?_ (fun _ => ?_))
  ·intro y0 y1 y2 y3
   unfold locksteplaw09_DepEnds.l0
   repeat' (with_reducible first | exact ih0 _ _ | exact ih1 _ _ _ _ | exact ih2 _ _ _ _ _ | exact ih3 _ _ _ _ | exact ih4 _ _ _ _ _ _ _ _ | exact dep_All.mono _ _ _ | exact graph_Make.mono _ _ | exact locksteplaw09_awake.mono _ | exact lockstepref06_Has.mono _ _ _ | exact lockstepref06_Small.mono _ _ | exact LeO.refl _ | exact LeO.none _ | refine LeO.ite ?_ ?_ | refine LeO.bind ?_ (fun _ => ?_))
  ·intro y0 y1 y2 y3 y4
   unfold locksteplaw09_DepEnds.l1
   repeat' (with_reducible first | exact ih0 _ _ | exact ih1 _ _ _ _ | exact ih2 _ _ _ _ _ | exact ih3 _ _ _ _ | exact ih4 _ _ _ _ _ _ _ _ | exact dep_All.mono _ _ _ | exact graph_Make.mono _ _ | exact locksteplaw09_awake.mono _ | exact lockstepref06_Has.mono _ _ _ | exact lockstepref06_Small.mono _ _ | exact LeO.refl _ | exact LeO.none _ | refine LeO.ite ?_ ?_ | refine LeO.bind ?_ (fun _ => ?_))
  ·intro y0 y1 y2 y3
   unfold locksteplaw09_DepEnds.l2
   repeat' (with_reducible first | exact ih0 _ _ | exact ih1 _ _ _ _ | exact ih2 _ _ _ _ _ | exact ih3 _ _ _ _ | exact ih4 _ _ _ _ _ _ _ _ | exact dep_All.mono _ _ _ | exact graph_Make.mono _ _ | exact locksteplaw09_awake.mono _ | exact lockstepref06_Has.mono _ _ _ | exact lockstepref06_Small.mono _ _ | exact LeO.refl _ | exact LeO.none _ | refine LeO.ite ?_ ?_ | refine LeO.bind ?_ (fun _ => ?_))
  ·intro y0 y1 y2 y3 y4 y5 y6 y7
   unfold locksteplaw09_DepEnds.j4
   repeat' (with_reducible first | exact ih0 _ _ | exact ih1 _ _ _ _ | exact ih2 _ _ _ _ _ | exact ih3 _ _ _ _ | exact ih4 _ _ _ _ _ _ _ _ | exact dep_All.mono _ _ _ | exact graph_Make.mono _ _ | exact locksteplaw09_awake.mono _ | exact lockstepref06_Has.mono _ _ _ | exact lockstepref06_Small.mono _ _ | exact LeO.refl _ | exact LeO.none _ | refine LeO.ite ?_ ?_ | refine LeO.bind ?_ (fun _ => ?_))
theorem locksteplaw09_DepEnds.mono : ∀ a0 k, LeO (locksteplaw09_DepEnds.f k a0) (locksteplaw09_DepEnds.f (k + 1) a0) := by
 intro a0 k
 obtain ⟨ih0, ih1, ih2, ih3, ih4⟩ := locksteplaw09_DepEnds.mono_l k
 unfold locksteplaw09_DepEnds.f
 repeat' (with_reducible first | exact ih0 _ _ | exact ih1 _ _ _ _ | exact ih2 _ _ _ _ _ | exact ih3 _ _ _ _ | exact ih4 _ _ _ _ _ _ _ _ | exact dep_All.mono _ _ _ | exact graph_Make.mono _ _ | exact locksteplaw09_awake.mono _ | exact lockstepref06_Has.mono _ _ _ | exact lockstepref06_Small.mono _ _ | exact LeO.refl _ | exact LeO.none _ | refine LeO.ite ?_ ?_ | refine LeO.bind ?_ (fun _ => ?_))
def locksteplaw09_DepEnds.T21 : Bool × List (List Nat × List Nat) := (true, [([], []), ([0], [0]), ([1], [1]), ([2], [2]), ([3], [3]), ([4, 3], [3, 4]), ([3], [3]), ([6, 3], [3, 6]), ([5, 7, 3], [3, 5, 7]), ([3, 8], [3, 8]), ([9, 3], [9]), ([10], [10]), ([10], [10]), ([12, 10], [10, 12]), ([11, 13, 10], [10, 11, 13]), ([14, 10], [10, 14]), ([10], [10]), ([16, 10], [10, 16]), ([15, 17, 10, 10], [10, 15, 17]), ([18, 10], [10, 18]), ([10, 19], [10, 19]), ([20, 18], [20]), ([21], [21]), ([22, 21, 21], [21, 22]), ([23], [23]), ([24, 23], [23, 24]), ([23], [23]), ([26, 23], [23, 26]), ([25, 27, 23], [23, 25, 27]), ([28, 23, 23], [23, 28]), ([29], [29]), ([29], [29]), ([31, 29], [29, 31]), ([30, 32, 29], [29, 30, 32]), ([33, 29], [29, 33]), ([34, 29], [29, 34]), ([35, 29], [29, 35]), ([29, 36, 23], [23, 29, 36]), ([23, 37, 21], [21, 23, 37]), ([21, 38], [21, 38])])
def locksteplaw09_DepEnds.B21 : List Nat := [0, 1, 3, 7, 15, 31, 15, 79, 255, 511, 1023, 2047, 2047, 6143, 16383, 32767, 2047, 67583, 262143, 524287, 1048575, 2097151, 4194303, 8388607, 16777215, 33554431, 16777215, 83886079, 268435455, 536870911, 1073741823, 1073741823, 3221225471, 8589934591, 17179869183, 34359738367, 68719476735, 137438953471, 274877906943, 549755813887]
theorem locksteplaw09_DepEnds.tab21 : rtab .any (opsOf Try.f5 21) = locksteplaw09_DepEnds.T21 := by kernel_rfl
theorem locksteplaw09_DepEnds.bits21 : waitsOk locksteplaw09_DepEnds.T21.2 locksteplaw09_DepEnds.B21 = true := by kernel_rfl
def locksteplaw09_DepEnds.T23 : Bool × List (List Nat × List Nat) := (true, [([], []), ([0], [0]), ([1], [1]), ([2], [2]), ([2], [2]), ([4, 2], [2, 4]), ([3, 5, 2], [2, 3, 5]), ([6, 2], [2, 6]), ([7, 2], [2, 7]), ([2], [2]), ([9, 2], [2, 9]), ([8, 10, 2], [2, 8, 10]), ([11, 2, 2], [2, 11]), ([12], [12]), ([12], [12]), ([14, 12], [12, 14]), ([13, 15, 12], [12, 13, 15]), ([16, 12], [12, 16]), ([17, 12], [12, 17]), ([12], [12]), ([19, 12], [12, 19]), ([18, 20, 12], [12, 18, 20]), ([21, 12, 12], [12, 21]), ([22], [22]), ([22], [22]), ([24, 22], [22, 24]), ([23, 25, 22], [22, 23, 25]), ([26, 22], [22, 26]), ([27, 22], [22, 27]), ([22], [22]), ([29, 22], [22, 29]), ([28, 30, 22], [22, 28, 30]), ([31, 22, 22], [22, 31]), ([32], [32]), ([32], [32]), ([34, 32], [32, 34]), ([33, 35, 32], [32, 33, 35]), ([36, 32], [32, 36]), ([37, 32], [32, 37]), ([32], [32]), ([39, 32], [32, 39]), ([38, 40, 32], [32, 38, 40]), ([41, 32, 32], [32, 41]), ([42], [42]), ([42], [42]), ([44, 42], [42, 44]), ([43, 45, 42], [42, 43, 45]), ([46, 42], [42, 46]), ([47, 42], [42, 47]), ([42], [42]), ([49, 42], [42, 49]), ([48, 50, 42], [42, 48, 50]), ([42, 51, 32], [32, 42, 51]), ([32, 52, 22], [22, 32, 52]), ([22, 53, 12], [12, 22, 53]), ([12, 54, 2], [2, 12, 54]), ([2, 55], [2, 55])])
def locksteplaw09_DepEnds.B23 : List Nat := [0, 1, 3, 7, 7, 23, 63, 127, 255, 7, 519, 2047, 4095, 8191, 8191, 24575, 65535, 131071, 262143, 8191, 532479, 2097151, 4194303, 8388607, 8388607, 25165823, 67108863, 134217727, 268435455, 8388607, 545259519, 2147483647, 4294967295, 8589934591, 8589934591, 25769803775, 68719476735, 137438953471, 274877906943, 8589934591, 558345748479, 2199023255551, 4398046511103, 8796093022207, 8796093022207, 26388279066623, 70368744177663, 140737488355327, 281474976710655, 8796093022207, 571746046443519, 2251799813685247, 4503599627370495, 9007199254740991, 18014398509481983, 36028797018963967, 72057594037927935]
theorem locksteplaw09_DepEnds.tab23 : rtab .any (opsOf Try.f5 23) = locksteplaw09_DepEnds.T23 := by kernel_rfl
theorem locksteplaw09_DepEnds.bits23 : waitsOk locksteplaw09_DepEnds.T23.2 locksteplaw09_DepEnds.B23 = true := by kernel_rfl
set_option maxHeartbeats 8000000 in
set_option maxRecDepth 100000 in
theorem locksteplaw09_DepEnds.calls (k : Nat) (A0 : Option Addr) (c0 : Nat) (l0 : List (List Int)) (w : World) (hr0 : Kd.C (Kd.slice 3 (Kd.int .i64)) w A0 l0.length l0) (hc0 : l0.length ≤ c0) (h : locksteplaw09_DepEnds.f k l0 = some true) :
 Calls Try.prog 5 #[.slice A0 l0.length c0] w fun e w' => e = .returned (.bool true) ∧ Below w.heap.size w w' := by
 have hu26 := Try.underlying26
 have hu37 := Try.underlying37
 have HR0 := Aside0.mk hr0
 have HC0 := Aside0.mk hc0
 clear hr0 hc0
 have HB := A_ (Below.refl w.heap.size w)
 have H : ((locksteplaw09_awake.f k).bind fun t601 => (if t601 = true then (if (l0.length : Int) > 16 then (locksteplaw09_DepEnds.j0 k l0 true) else ((lockstepref06_Small.f k l0).bind fun t602 => (locksteplaw09_DepEnds.j0 k l0 (!t602)))) else (some false))) = some true := h
 clear h
 replace H := Option.bind_eq_some_iff.mp H
 obtain ⟨t601, A20, H⟩ := H
 try dsimp only at H
 have A2 := Aside0.mk A20
 clear A20
 by_cases c3 : t601 = true
 ·subst c3
  have H1 : (if (l0.length : Int) > 16 then (locksteplaw09_DepEnds.j0 k l0 true) else ((lockstepref06_Small.f k l0).bind fun t602 => (locksteplaw09_DepEnds.j0 k l0 (!t602)))) = some true := by rw [if_pos rfl] at H; exact H
  clear H
  have H := H1
  clear H1
  have HC4 := Aside0.mk H
  clear H
  go_enter Try.func5, Try.ntmps5
  go_upto_region 3 with (first | ((with_reducible refine gate_callee (f := 7) rfl ?_); refine goesL_ (some 11) rfl rfl Try.func7 (by kernel_rfl) rfl #[] rfl (by (try simp only [List.map_toArray, List.map_cons, List.map_nil]); first | done | rfl | (simp only [List.length_drop, List.length_take]; rfl)) ?_; (with_reducible refine (locksteplaw09_awake.calls k   _ A2.out).mono ?_); rintro e w5 ⟨rfl, hb⟩; refine ⟨_, rfl, ?_⟩; replace HB := A_ (below_step (B_) hb); (try clear hb); (try clear hb2); (try clear hk); (try clear hi)))
  (try simp only [Act.put, List.setIfInBounds_toArray, List.set_cons_zero, List.set_cons_succ])
  go_cut [20] (fun v20 wc => ∃ (kq : Nat) (x20_3 : Bool), v20 = .bool x20_3 ∧ Aside0 (locksteplaw09_DepEnds.j0 kq l0 x20_3 = some true) ∧ Aside0 (kq ≤ k) ∧ Aside0 (Below w.heap.size w wc))
  case first =>
   have H := HC4.out
   clear HC4
   by_cases c6 : (l0.length : Int) > 16
   ·rw [if_pos c6] at H
    have c6b0 : decide (16 < (l0.length : Int)) = true := decide_eq_true c6
    have c6b1 : decide (16 < l0.length) = true := decide_eq_true (by omega)
    clear c6
    (first | rw [c6b0] | (simp only [i64_w, i32_w]; rw [c6b0]) | skip)
    have H' := Aside0.mk H
    clear H
    go_wp2
    go_meet
    case rel => exact ⟨_, (true), (by first | rfl | exact congrArg (fun b => Ending.returned (Value.bool b)) HR_.out | (simp; done) | (simp [*]; done)), H', ⟨by first | omega | exact Nat.le_refl _⟩, ⟨B_⟩⟩
   rw [if_neg c6] at H
   have c6b0 : decide (16 < (l0.length : Int)) = false := decide_eq_false c6
   have c6b1 : decide (16 < l0.length) = false := decide_eq_false (by omega)
   clear c6
   (first | rw [c6b0] | (simp only [i64_w, i32_w]; rw [c6b0]) | skip)
   replace H := Option.bind_eq_some_iff.mp H
   obtain ⟨t602, A70, H⟩ := H
   try dsimp only at H
   have A7 := Aside0.mk A70
   clear A70
   have H' := Aside0.mk H
   clear H
   go_wp2_with (first | (go_at_call 8; (with_reducible refine (lockstepref06_Small.calls k _ _ l0 t602 _ ?side1 ?side2 A7.out).mono ?_); (case side1 => exact CX_ (Kd.C_below HR0.out HB.out)); (case side2 => exact HC0.out); rintro e w' ⟨rfl, ⟨nd, rfl⟩⟩))
   go_meet
   case rel => exact ⟨_, (!t602), (by first | rfl | exact congrArg (fun b => Ending.returned (Value.bool b)) HR_.out | (simp; done) | (simp [*]; done)), H', ⟨by first | omega | exact Nat.le_refl _⟩, ⟨B_⟩⟩
  case rest =>
   clear HC4
   try clear c3
   obtain ⟨kq, x20_3, rfl, HA, HJ3, HB⟩ := hcut
   cases kq with
   | zero => exact absurd HA.out (by simp [locksteplaw09_DepEnds.j0])
   | succ kj3 =>
    have H := HA.out
    clear HA
    simp only [locksteplaw09_DepEnds.j0] at H
    by_cases c8 : x20_3 = true
    ·subst c8
     have H1 : (some true) = some true := rfl
     clear H
     have H := H1
     clear H1
     clear H
     go_wp2
     go_ret
     exact ⟨by first | rfl | exact congrArg (fun b => Ending.returned (Value.bool b)) HR_.out | (simp [errW_none, errW_some] <;> rfl) | (simp [*, errW_none, errW_some] <;> rfl), B_⟩
    replace c8 := Bool.eq_false_iff.mpr c8
    subst c8
    have H1 : ((graph_Make.f kj3 l0).bind fun bt603 => (if bt603.2.2 = 0 then ((dep_All.f kj3 bt603.1 bt603.2.1).bind fun t614 => (locksteplaw09_DepEnds.l0 kj3 l0 t614 true 0)) else ((dep_All.f kj3 bt603.1 bt603.2.1).bind fun t611 => (some ((t611.length : Int) == 0))))) = some true := by rw [if_neg (show ¬ (false = true) by decide)] at H; exact H
    clear H
    have H := H1
    clear H1
    replace H := Option.bind_eq_some_iff.mp H
    obtain ⟨⟨t603, t606, t609⟩, A90, H⟩ := H
    try dsimp only at H
    have A9 := Aside0.mk A90
    clear A90
    by_cases c10 : t609 = 0
    ·rw [if_pos c10] at H
     have c10b0 : (t609 == 0) = true := beq_iff_eq.mpr c10
     have c10b1 : (t609 != 0) = false := bne_eq_false_iff_eq.mpr c10
     clear c10
     replace H := Option.bind_eq_some_iff.mp H
     obtain ⟨t614, A110, H⟩ := H
     try dsimp only at H
     have A11 := Aside0.mk A110
     clear A110
     have H' := Aside0.mk H
     clear H
     go_wp2_with (first | ((with_reducible refine gate_callee (f := 15) rfl ?_); refine goesL_ (some 23) rfl rfl Try.func15 (by kernel_rfl) rfl #[.slice A0 l0.length c0] rfl (by (try simp only [List.map_toArray, List.map_cons, List.map_nil]); first | done | rfl | (simp only [List.length_drop, List.length_take]; rfl)) ?_; (with_reducible refine (graph_Make.calls kj3 _ _ l0 t603 t606 t609 _ ?side1 ?side2 A9.out).mono ?_); (case side1 => exact CX_ (Kd.C_below HR0.out HB.out)); (case side2 => exact HC0.out); rintro e w12 ⟨v604, v607, rfl, ho0, ho1, hb⟩; refine ⟨_, rfl, ?_⟩; have HO605 := A_ (Kd.S_lower ho0 (below_size (B_))); have HO608 := A_ (Kd.S_lower ho1 (below_size (B_))); replace HB := A_ (below_step (B_) hb); (try clear hb); (try clear hb2); (try clear hk); (try clear hi); (try clear ho0); (try clear ho1)) | ((with_reducible refine gate_dst (N := 3) rfl ?_); (try (refine gate_guard (by rfl) ?_; dsimp only)); refine box_event ?hg (N := 3) ?hd (cs := #[.slice none 0 0, .slice none 0 0]) (t := 26) ?hr ?_; (case hd => rfl); (case hg => rfl); (case hr => first | (go_simp; done) | (go_simp; rfl)); intro gb610 hg w13 hbox hb; replace HO605 := A_ (Kd.S_below (by exact SX_ HO605.out) hb); replace HO608 := A_ (Kd.S_below (by exact SX_ HO608.out) hb); have BK610 := A_ (hbox); have GW610 := A_ ((by rw [hg]; exact (below_size (B_)) : w.heap.size ≤ gb610)); have GE610 := A_ ((by rw [hg]; exact (below_size (B_)) : w.heap.size ≤ gb610)); replace HB := A_ (below_step (B_) hb); clear hb hbox hg; obtain ⟨Ao14, co14, eo14⟩ := Kd.S_slice HO605.out; subst eo14; have hcz15_0 : w13.cell? ⟨gb610, 0, none⟩ = some (.slice none 0 0) := (blk_cell BK610.out 0).trans rfl; have hcz15_1 : w13.cell? ⟨gb610, 1, none⟩ = some (.slice none 0 0) := (blk_cell BK610.out 1).trans rfl; have hfz15_0 := blk_frozen BK610.out 0; have hfz15_1 := blk_frozen BK610.out 1; obtain ⟨Ao16, co16, eo16⟩ := Kd.S_slice HO608.out; subst eo16) | ((with_reducible refine gate_callee (f := 10) rfl ?_); refine goesL_ (some 33) rfl rfl Try.func10 (by kernel_rfl) rfl #[.agg #[.slice Ao14 t603.length co14, .slice Ao16 t606.length co16]] rfl (by (try simp only [List.map_toArray, List.map_cons, List.map_nil]); first | done | rfl | (simp only [List.length_drop, List.length_take]; rfl)) ?_; (with_reducible refine (dep_All.calls kj3 _ _ t603 _ _ t606 t614 _ ?side1 ?side2 ?side3 ?side4 A11.out).mono ?_); (case side1 => refine (Kd.S_reads' (e := 31) (base := w.heap.size) (ok := fun k_ => some k_ ≠ (.slice Ao16 t606.length co16 : Value).ownBlock) (n := t603.length) (c := co14) ?_).2.2; exact (by (with_reducible repeat (first | apply Kd.S_alloc | apply Kd.S_drewN | apply Kd.S_drew)); exact (Kd.S_mono (Kd.S_far (p := ⟨gb610, 1, none⟩) (Kd.S_far (p := ⟨gb610, 0, none⟩) (Kd.S_types HO605.out BK610.out (by decide)) (fun _ hk => hk.2) (.slice Ao14 t603.length co14)) (fun _ hk => hk.2) (.slice Ao16 t606.length co16)) (fun _ h_ => h_.1)))); (case side2 => exact (Kd.S_reads' HO605.out).2.1); (case side3 => refine (Kd.S_reads' (e := 31) (base := w.heap.size) (ok := fun k_ => some k_ ≠ (.slice Ao14 t603.length co14 : Value).ownBlock) (n := t606.length) (c := co16) ?_).2.2; exact (by (with_reducible repeat (first | apply Kd.S_alloc | apply Kd.S_drewN | apply Kd.S_drew)); exact (Kd.S_mono (Kd.S_far (p := ⟨gb610, 1, none⟩) (Kd.S_far (p := ⟨gb610, 0, none⟩) (Kd.S_types HO608.out BK610.out (by decide)) (fun _ hk => hk.2) (.slice Ao14 t603.length co14)) (fun _ hk => hk.2) (.slice Ao16 t606.length co16)) (fun _ h_ => h_.1)))); (case side4 => exact (Kd.S_reads' HO608.out).2.1); rintro e w17 ⟨v615, rfl, ho0, hb⟩; refine ⟨_, rfl, ?_⟩; replace HO605 := A_ (Kd.S_below (by (with_reducible repeat (first | apply Kd.S_alloc | apply Kd.S_drewN | apply Kd.S_drew)); exact (Kd.S_mono (Kd.S_far (p := ⟨gb610, 1, none⟩) (Kd.S_far (p := ⟨gb610, 0, none⟩) (Kd.S_types HO605.out BK610.out (by decide)) (fun _ hk => hk.2) (.slice Ao14 t603.length co14)) (fun _ hk => hk.2) (.slice Ao16 t606.length co16)) (fun _ h_ => h_.1))) hb); replace HO608 := A_ (Kd.S_below (by (with_reducible repeat (first | apply Kd.S_alloc | apply Kd.S_drewN | apply Kd.S_drew)); exact (Kd.S_mono (Kd.S_far (p := ⟨gb610, 1, none⟩) (Kd.S_far (p := ⟨gb610, 0, none⟩) (Kd.S_types HO608.out BK610.out (by decide)) (fun _ hk => hk.2) (.slice Ao14 t603.length co14)) (fun _ hk => hk.2) (.slice Ao16 t606.length co16)) (fun _ h_ => h_.1))) hb); have HO616 := A_ (Kd.R_lower ho0 (below_size (B1_))); replace BK610 := A_ (blk_below (g := gb610) (o := .cells #[.slice Ao14 t603.length co14, .slice Ao16 t606.length co16] 26 (0, 0)) (by (with_reducible repeat (first | refine blk_drewN ?_ _ | refine blk_drew ?_ | refine blk_alloc ?_ _)); refine blk_put (cs := #[.slice Ao14 t603.length co14, .slice none 0 0]) ?_ 1 _ rfl; (with_reducible repeat (first | refine blk_drewN ?_ _ | refine blk_drew ?_ | refine blk_alloc ?_ _)); refine blk_put (cs := #[.slice none 0 0, .slice none 0 0]) ?_ 0 _ rfl; exact KX_ BK610.out) hb); replace HB := A_ (below_step (B1_) hb); (try clear hb); (try clear hb2); (try clear hk); (try clear hi); (try clear ho0)))
     go_loopg [6, 7] kj3 (fun kq v6 v7 w' => ∃ (x6_2 : Bool) (x7_2 : Int), v6 = .bool x6_2 ∧ v7 = .int .i64 x7_2 ∧ Aside0 (locksteplaw09_DepEnds.l0 kq l0 t614 x6_2 x7_2 = some true) ∧ Aside0 (kq ≤ kj3) ∧ Aside0 (Kd.R k37 37 w' w.heap.size (fun _ => True) v615 t614) ∧ Aside0 (Kd.S (Kd.slice 3 (Kd.int .i64)) 31 w' w.heap.size (fun k_ => some k_ ≠ ((.slice Ao16 t606.length co16) : Value).ownBlock) (.slice Ao14 t603.length co14) t603) ∧ Aside0 (Kd.S (Kd.slice 3 (Kd.int .i64)) 31 w' w.heap.size (fun k_ => some k_ ≠ ((.slice Ao14 t603.length co14) : Value).ownBlock) (.slice Ao16 t606.length co16) t606) ∧ Aside0 (w'.heap[gb610]? = some (.cells #[(.slice Ao14 t603.length co14), (.slice Ao16 t606.length co16)] 26 (0, 0))) ∧ Aside0 (Below w.heap.size w w'))
     case atStart => exact ⟨(true), (0), (by first | rfl | exact congrArg (fun b => Ending.returned (Value.bool b)) HR_.out | (simp; done) | (simp [*]; done)), (by first | rfl | exact congrArg (fun b => Ending.returned (Value.bool b)) HR_.out | (simp; done) | (simp [*]; done)), H', ⟨Nat.le_refl _⟩, ⟨by exact RM_ HO616.out⟩, ⟨by exact SM_ HO605.out⟩, ⟨by exact SM_ HO608.out⟩, ⟨by exact KX_ BK610.out⟩, ⟨B1_⟩⟩
     case round =>
      clear H'
      try clear c8
      try clear c10b0
      try clear c10b1
      try clear hcz15_0
      try clear hcz15_1
      try clear hfz15_0
      try clear hfz15_1
      obtain ⟨x6_2, x7_2, rfl, rfl, HA, HK2, HO_5, HO_611000, HO_611001, BK610, HB⟩ := hrel
      cases gk with
      | zero => exact absurd HA.out (by simp [locksteplaw09_DepEnds.l0])
      | succ k2 =>
       have H := HA.out
       clear HA
       simp only [locksteplaw09_DepEnds.l0] at H
       by_cases c18 : x7_2 < (l0.length : Int)
       ·rw [if_pos c18] at H
        have c18b0 : decide (x7_2 < (l0.length : Int)) = true := decide_eq_true c18
        clear c18
        have H' := Aside0.mk H
        clear H
        go_wp2
        go_loopg [6, 8] k2 (fun kq v6 v8 w' => ∃ (x6_3 : Bool) (x8_3 : Int), v6 = .bool x6_3 ∧ v8 = .int .i64 x8_3 ∧ Aside0 (locksteplaw09_DepEnds.l1 kq l0 t614 x6_3 x7_2 x8_3 = some true) ∧ Aside0 (kq ≤ k2) ∧ Aside0 (Kd.R k37 37 w' w.heap.size (fun _ => True) v615 t614) ∧ Aside0 (Kd.S (Kd.slice 3 (Kd.int .i64)) 31 w' w.heap.size (fun k_ => some k_ ≠ ((.slice Ao16 t606.length co16) : Value).ownBlock) (.slice Ao14 t603.length co14) t603) ∧ Aside0 (Kd.S (Kd.slice 3 (Kd.int .i64)) 31 w' w.heap.size (fun k_ => some k_ ≠ ((.slice Ao14 t603.length co14) : Value).ownBlock) (.slice Ao16 t606.length co16) t606) ∧ Aside0 (w'.heap[gb610]? = some (.cells #[(.slice Ao14 t603.length co14), (.slice Ao16 t606.length co16)] 26 (0, 0))) ∧ Aside0 (Below w.heap.size w w'))
        case atStart => exact ⟨(x6_2), (0), (by first | rfl | exact congrArg (fun b => Ending.returned (Value.bool b)) HR_.out | (simp; done) | (simp [*]; done)), (by first | rfl | exact congrArg (fun b => Ending.returned (Value.bool b)) HR_.out | (simp; done) | (simp [*]; done)), H', ⟨Nat.le_refl _⟩, ⟨by exact RM_ HO_5.out⟩, ⟨by exact SM_ HO_611000.out⟩, ⟨by exact SM_ HO_611001.out⟩, ⟨by exact KX_ BK610.out⟩, ⟨B1_⟩⟩
        case round =>
         clear H'
         try clear c18b0
         obtain ⟨x6_3, x8_3, rfl, rfl, HA, HK3, HO_5, HO_611000, HO_611001, BK610, HB⟩ := hrel
         cases gk with
         | zero => exact absurd HA.out (by simp [locksteplaw09_DepEnds.l1])
         | succ k3 =>
          have H := HA.out
          clear HA
          simp only [locksteplaw09_DepEnds.l1] at H
          by_cases c19 : 0 ≤ x7_2
          ·rw [if_pos c19] at H
           have c19b0 : decide (0 ≤ x7_2) = true := decide_eq_true c19
           clear c19
           by_cases c20 : x7_2 < (l0.length : Int)
           ·rw [if_pos c20] at H
            have c20b0 : decide (x7_2 < (l0.length : Int)) = true := decide_eq_true c20
            clear c20
            by_cases c21 : x8_3 < ((rd_L1 l0 x7_2).length : Int)
            ·rw [if_pos c21] at H
             have c21b0 : decide (x8_3 < ((rd_L1 l0 x7_2).length : Int)) = true := decide_eq_true c21
             clear c21
             by_cases c22 : x6_3 = true
             ·subst c22
              have H1 : (if 0 ≤ x8_3 then (locksteplaw09_DepEnds.l1 k3 l0 t614 (decide ((rd (rd_L1 l0 x7_2) x8_3) > x7_2)) x7_2 (wrap64 (x8_3 + 1))) else (none)) = some true := by rw [if_pos rfl] at H; exact H
              clear H
              have H := H1
              clear H1
              by_cases c23 : 0 ≤ x8_3
              ·rw [if_pos c23] at H
               have c23b0 : decide (0 ≤ x8_3) = true := decide_eq_true c23
               clear c23
               have H' := Aside0.mk H
               clear H
               have p617 : 0 ≤ (x7_2 : Int) := D_
               have q617 : x7_2 < (l0.length : Int) := D_
               obtain ⟨ad617, A617_0, c617_0, e617, hx617_0, hl617_0, hi617_0⟩ := at_L1 HR0.out x7_2 p617 q617
               cases e617
               replace hx617_0 := (HB.out.cell (World.block_lt_of_cell? w _ hx617_0)).trans hx617_0
               have HR617_0 := Aside0.mk hi617_0
               have HC617_0 := Aside0.mk hl617_0
               clear hi617_0 hl617_0
               replace p617 := eq_true p617
               replace q617 := eq_true q617
               have p618 : 0 ≤ (x7_2 : Int) := D_
               have q618 : x7_2 < (l0.length : Int) := D_
               obtain ⟨ad618, A618_0, c618_0, e618, hx618_0, hl618_0, hi618_0⟩ := at_L1 HR0.out x7_2 p618 q618
               obtain rfl : ad617 = ad618 := (by injection e618)
               replace hx618_0 := (HB.out.cell (World.block_lt_of_cell? w _ hx618_0)).trans hx618_0
               have HR618_0 := Aside0.mk hi618_0
               have HC618_0 := Aside0.mk hl618_0
               clear hi618_0 hl618_0
               replace p618 := eq_true p618
               replace q618 := eq_true q618
               have ea_ := Option.some.inj (hx617_0.symm.trans hx618_0)
               injection ea_ with ea_ en_ ec_
               subst ea_
               subst ec_
               clear en_
               have p619 : 0 ≤ (x8_3 : Int) := D_
               have q619 : x8_3 < ((rd_L1 l0 x7_2).length : Int) := D_
               obtain ⟨ad619, e619, hx619_0⟩ := Kd.at_int HR618_0.out x8_3 p619 q619
               cases e619
               replace hx619_0 := (HB.out.cell (World.block_lt_of_cell? w _ hx619_0)).trans hx619_0
               replace p619 := eq_true p619
               replace q619 := eq_true q619
               go_wp2
               go_roundg k3
               case measure => have := HJ3.out; have := HK2.out; have := HK3.out; omega
               case rel => exact ⟨(decide ((rd (rd_L1 l0 x7_2) x8_3) > x7_2)), (wrap64 (x8_3 + 1)), (by first | rfl | exact congrArg (fun b => Ending.returned (Value.bool b)) HR_.out | (simp; done) | (simp [*]; done)), (by first | rfl | exact congrArg (fun b => Ending.returned (Value.bool b)) HR_.out | (simp; done) | (simp [*]; done)), H', ⟨by have := HJ3.out; have := HK2.out; have := HK3.out; omega⟩, ⟨by exact RM_ HO_5.out⟩, ⟨by exact SM_ HO_611000.out⟩, ⟨by exact SM_ HO_611001.out⟩, ⟨by exact KX_ BK610.out⟩, ⟨B1_⟩⟩
              rw [if_neg c23] at H
              exact absurd H (by simp)
             replace c22 := Bool.eq_false_iff.mpr c22
             subst c22
             have H1 : (locksteplaw09_DepEnds.l1 k3 l0 t614 false x7_2 (wrap64 (x8_3 + 1))) = some true := by rw [if_neg (show ¬ (false = true) by decide)] at H; exact H
             clear H
             have H := H1
             clear H1
             have H' := Aside0.mk H
             clear H
             have p617 : 0 ≤ (x7_2 : Int) := D_
             have q617 : x7_2 < (l0.length : Int) := D_
             obtain ⟨ad617, A617_0, c617_0, e617, hx617_0, hl617_0, hi617_0⟩ := at_L1 HR0.out x7_2 p617 q617
             cases e617
             replace hx617_0 := (HB.out.cell (World.block_lt_of_cell? w _ hx617_0)).trans hx617_0
             have HR617_0 := Aside0.mk hi617_0
             have HC617_0 := Aside0.mk hl617_0
             clear hi617_0 hl617_0
             replace p617 := eq_true p617
             replace q617 := eq_true q617
             go_wp2
             go_roundg k3
             case measure => have := HJ3.out; have := HK2.out; have := HK3.out; omega
             case rel => exact ⟨(false), (wrap64 (x8_3 + 1)), (by first | rfl | exact congrArg (fun b => Ending.returned (Value.bool b)) HR_.out | (simp; done) | (simp [*]; done)), (by first | rfl | exact congrArg (fun b => Ending.returned (Value.bool b)) HR_.out | (simp; done) | (simp [*]; done)), H', ⟨by have := HJ3.out; have := HK2.out; have := HK3.out; omega⟩, ⟨by exact RM_ HO_5.out⟩, ⟨by exact SM_ HO_611000.out⟩, ⟨by exact SM_ HO_611001.out⟩, ⟨by exact KX_ BK610.out⟩, ⟨B1_⟩⟩
            rw [if_neg c21] at H
            have c21b0 : decide (x8_3 < ((rd_L1 l0 x7_2).length : Int)) = false := decide_eq_false c21
            clear c21
            have H' := Aside0.mk H
            clear H
            have p617 : 0 ≤ (x7_2 : Int) := D_
            have q617 : x7_2 < (l0.length : Int) := D_
            obtain ⟨ad617, A617_0, c617_0, e617, hx617_0, hl617_0, hi617_0⟩ := at_L1 HR0.out x7_2 p617 q617
            cases e617
            replace hx617_0 := (HB.out.cell (World.block_lt_of_cell? w _ hx617_0)).trans hx617_0
            have HR617_0 := Aside0.mk hi617_0
            have HC617_0 := Aside0.mk hl617_0
            clear hi617_0 hl617_0
            replace p617 := eq_true p617
            replace q617 := eq_true q617
            go_wp2
            go_roundg k3
            case measure => have := HJ3.out; have := HK2.out; have := HK3.out; omega
            case rel => exact ⟨(x6_3), (wrap64 (x7_2 + 1)), (by first | rfl | exact congrArg (fun b => Ending.returned (Value.bool b)) HR_.out | (simp; done) | (simp [*]; done)), (by first | rfl | exact congrArg (fun b => Ending.returned (Value.bool b)) HR_.out | (simp; done) | (simp [*]; done)), H', ⟨by have := HJ3.out; have := HK2.out; have := HK3.out; omega⟩, ⟨by exact RM_ HO_5.out⟩, ⟨by exact SM_ HO_611000.out⟩, ⟨by exact SM_ HO_611001.out⟩, ⟨by exact KX_ BK610.out⟩, ⟨B1_⟩⟩
           rw [if_neg c20] at H
           exact absurd H (by simp)
          rw [if_neg c19] at H
          exact absurd H (by simp)
       rw [if_neg c18] at H
       have c18b0 : decide (x7_2 < (l0.length : Int)) = false := decide_eq_false c18
       clear c18
       have H' := Aside0.mk H
       clear H
       go_wp2
       go_loopg [9] k2 (fun kq v9 w' => ∃ (x9_3 : Int), v9 = .int .i64 x9_3 ∧ Aside0 (locksteplaw09_DepEnds.l2 kq l0 t614 x6_2 x9_3 = some true) ∧ Aside0 (kq ≤ k2) ∧ Aside0 (Kd.R k37 37 w' w.heap.size (fun _ => True) v615 t614) ∧ Aside0 (Kd.S (Kd.slice 3 (Kd.int .i64)) 31 w' w.heap.size (fun k_ => some k_ ≠ ((.slice Ao16 t606.length co16) : Value).ownBlock) (.slice Ao14 t603.length co14) t603) ∧ Aside0 (Kd.S (Kd.slice 3 (Kd.int .i64)) 31 w' w.heap.size (fun k_ => some k_ ≠ ((.slice Ao14 t603.length co14) : Value).ownBlock) (.slice Ao16 t606.length co16) t606) ∧ Aside0 (w'.heap[gb610]? = some (.cells #[(.slice Ao14 t603.length co14), (.slice Ao16 t606.length co16)] 26 (0, 0))) ∧ Aside0 (Below w.heap.size w w'))
       case atStart => exact ⟨(0), (by first | rfl | exact congrArg (fun b => Ending.returned (Value.bool b)) HR_.out | (simp; done) | (simp [*]; done)), H', ⟨Nat.le_refl _⟩, ⟨by exact RM_ HO_5.out⟩, ⟨by exact SM_ HO_611000.out⟩, ⟨by exact SM_ HO_611001.out⟩, ⟨by exact KX_ BK610.out⟩, ⟨B1_⟩⟩
       case round =>
        clear H'
        try clear c18b0
        obtain ⟨x9_3, rfl, HA, HK3, HO_5, HO_611000, HO_611001, BK610, HB⟩ := hrel
        cases gk with
        | zero => exact absurd HA.out (by simp [locksteplaw09_DepEnds.l2])
        | succ k3 =>
         have H := HA.out
         clear HA
         simp only [locksteplaw09_DepEnds.l2] at H
         by_cases c24 : x9_3 < (t614.length : Int)
         ·rw [if_pos c24] at H
          have c24b0 : decide (x9_3 < (t614.length : Int)) = true := decide_eq_true c24
          clear c24
          by_cases c25 : 0 ≤ x9_3
          ·rw [if_pos c25] at H
           have c25b0 : decide (0 ≤ x9_3) = true := decide_eq_true c25
           clear c25
           have HC26 := Aside0.mk H
           clear H
           obtain ⟨Ao27, co27, eo27⟩ := Kd.R_slice HO_5.out
           subst eo27
           have p620 : 0 ≤ (x9_3 : Int) := D_
           have q620 : x9_3 < (t614.length : Int) := D_
           obtain ⟨ad620, e620, hx620_0, hx620_1, hx620_2⟩ := at_T37 (Kd.R_reads' HO_5.out).2.2 x9_3 p620 q620
           cases e620
           replace p620 := eq_true p620
           replace q620 := eq_true q620
           go_upto_region 21 with (first | ((with_reducible refine gate_dst (N := 10) rfl ?_); (try (refine gate_guard (by rfl) ?_; dsimp only)); refine box_event ?hg (N := 10) ?hd (cs := #[.int .i64 0, .int .i64 0, .int .i64 0]) (t := 37) ?hr ?_; (case hd => rfl); (case hg => rfl); (case hr => first | (go_simp; done) | (go_simp; rfl)); intro gb621 hg w28 hbox hb; replace HO_5 := A_ (Kd.R_below (Kd.R_elderB (by exact RX_ HO_5.out) gb621 (Nat.le_of_eq hg.symm)) hb); replace HO_611000 := A_ (Kd.S_below (by exact SX_ HO_611000.out) hb); replace HO_611001 := A_ (Kd.S_below (by exact SX_ HO_611001.out) hb); have BK621 := A_ (hbox); have GW621 := A_ ((by rw [hg]; exact (below_size (B1_)) : w.heap.size ≤ gb621)); have GE621 := A_ ((by rw [hg]; exact (below_size (B1_)) : w.heap.size ≤ gb621)); replace HB := A_ (below_step (B1_) hb); have NB610_621 := A_ ((by rw [hg]; exact Nat.ne_of_lt (blk_lt (g := gb610) (o := .cells #[.slice Ao14 t603.length co14, .slice Ao16 t606.length co16] 26 (0, 0)) (by exact KX_ BK610.out)) : gb610 ≠ gb621)); have NB621_610 := A_ ((by rw [hg]; exact Nat.ne_of_gt (blk_lt (g := gb610) (o := .cells #[.slice Ao14 t603.length co14, .slice Ao16 t606.length co16] 26 (0, 0)) (by exact KX_ BK610.out)) : gb621 ≠ gb610)); replace BK610 := A_ (blk_below (g := gb610) (o := .cells #[.slice Ao14 t603.length co14, .slice Ao16 t606.length co16] 26 (0, 0)) (by exact KX_ BK610.out) hb); clear hb hbox hg; have hnb29 := NB621_610.out; have hnc29 := NB610_621.out; have hcz30_0 : w28.cell? ⟨gb621, 0, none⟩ = some (.int .i64 0) := (blk_cell BK621.out 0).trans rfl; have hcz30_1 : w28.cell? ⟨gb621, 1, none⟩ = some (.int .i64 0) := (blk_cell BK621.out 1).trans rfl; have hcz30_2 : w28.cell? ⟨gb621, 2, none⟩ = some (.int .i64 0) := (blk_cell BK621.out 2).trans rfl; have hfz30_0 := blk_frozen BK621.out 0; have hfz30_1 := blk_frozen BK621.out 1; have hfz30_2 := blk_frozen BK621.out 2))
           (try simp only [Act.put, List.setIfInBounds_toArray, List.set_cons_zero, List.set_cons_succ])
           go_cut [110] (fun v110 wc => ∃ (kq : Nat) (x110_25 : Bool), v110 = .bool x110_25 ∧ Aside0 (locksteplaw09_DepEnds.j4 kq l0 t614 x6_2 x9_3 x110_25 ((rd_T37 t614 x9_3).f0) ((rd_T37 t614 x9_3).f1) ((rd_T37 t614 x9_3).f2) = some true) ∧ Aside0 (kq ≤ k3) ∧ Aside0 (Kd.R k37 37 wc w.heap.size (fun k_ => k_ ≠ gb621) (.slice (some ad620) t614.length co27) t614) ∧ Aside0 (Kd.S (Kd.slice 3 (Kd.int .i64)) 31 wc w.heap.size (fun k_ => some k_ ≠ ((.slice Ao16 t606.length co16) : Value).ownBlock) (.slice Ao14 t603.length co14) t603) ∧ Aside0 (Kd.S (Kd.slice 3 (Kd.int .i64)) 31 wc w.heap.size (fun k_ => some k_ ≠ ((.slice Ao14 t603.length co14) : Value).ownBlock) (.slice Ao16 t606.length co16) t606) ∧ Aside0 (wc.heap[gb610]? = some (.cells #[(.slice Ao14 t603.length co14), (.slice Ao16 t606.length co16)] 26 (0, 0))) ∧ Aside0 (wc.heap[gb621]? = some (.cells #[.int .i64 ((rd_T37 t614 x9_3).f0), .int .i64 ((rd_T37 t614 x9_3).f1), .int .i64 ((rd_T37 t614 x9_3).f2)] 37 (0, 0))) ∧ Aside0 (Below w.heap.size w wc))
           case first =>
            have H := HC26.out
            clear HC26
            by_cases c31 : ((rd_T37 t614 x9_3).f1) < 0
            ·rw [if_pos c31] at H
             have c31b0 : decide (((rd_T37 t614 x9_3).f1) < 0) = true := decide_eq_true c31
             clear c31
             (first | rw [c31b0] | (simp only [i64_w, i32_w]; rw [c31b0]) | skip)
             have H' := Aside0.mk H
             clear H
             try go_wp2
             have n0_ : Aside0 (Kd.R k37 37 (((w28.setCell ⟨gb621, 0, none⟩ (.int .i64 ((rd_T37 t614 x9_3).f0))).setCell ⟨gb621, 1, none⟩ (.int .i64 ((rd_T37 t614 x9_3).f1))).setCell ⟨gb621, 2, none⟩ (.int .i64 ((rd_T37 t614 x9_3).f2))) w.heap.size (fun k_ => k_ ≠ gb621) (.slice (some ad620) t614.length co27) t614) := ⟨by (with_reducible repeat (first | apply Kd.R_alloc | apply Kd.R_drewN | apply Kd.R_drew)); exact Kd.R_mono (Kd.R_far (p := ⟨gb621, 2, none⟩) (Kd.R_far (p := ⟨gb621, 1, none⟩) (Kd.R_far (p := ⟨gb621, 0, none⟩) (Kd.R_mono HO_5.out (fun k_ hk => (⟨hk, hk.2⟩ : _ ∧ k_ ≠ gb621))) (fun _ hk => hk.2) (.int .i64 ((rd_T37 t614 x9_3).f0))) (fun _ hk => hk.2) (.int .i64 ((rd_T37 t614 x9_3).f1))) (fun _ hk => hk.2) (.int .i64 ((rd_T37 t614 x9_3).f2))) (fun _ hk => hk.1.2)⟩
             have n1_ : Aside0 (Kd.S (Kd.slice 3 (Kd.int .i64)) 31 (((w28.setCell ⟨gb621, 0, none⟩ (.int .i64 ((rd_T37 t614 x9_3).f0))).setCell ⟨gb621, 1, none⟩ (.int .i64 ((rd_T37 t614 x9_3).f1))).setCell ⟨gb621, 2, none⟩ (.int .i64 ((rd_T37 t614 x9_3).f2))) w.heap.size (fun k_ => some k_ ≠ (.slice Ao16 t606.length co16 : Value).ownBlock) (.slice Ao14 t603.length co14) t603) := ⟨by (with_reducible repeat (first | apply Kd.S_alloc | apply Kd.S_drewN | apply Kd.S_drew)); exact Kd.S_mono (Kd.S_far (p := ⟨gb621, 2, none⟩) (Kd.S_far (p := ⟨gb621, 1, none⟩) (Kd.S_far (p := ⟨gb621, 0, none⟩) (Kd.S_types HO_611000.out BK621.out (by decide)) (fun _ hk => hk.2) (.int .i64 ((rd_T37 t614 x9_3).f0))) (fun _ hk => hk.2) (.int .i64 ((rd_T37 t614 x9_3).f1))) (fun _ hk => hk.2) (.int .i64 ((rd_T37 t614 x9_3).f2))) (fun _ hk => hk.1)⟩
             have n2_ : Aside0 (Kd.S (Kd.slice 3 (Kd.int .i64)) 31 (((w28.setCell ⟨gb621, 0, none⟩ (.int .i64 ((rd_T37 t614 x9_3).f0))).setCell ⟨gb621, 1, none⟩ (.int .i64 ((rd_T37 t614 x9_3).f1))).setCell ⟨gb621, 2, none⟩ (.int .i64 ((rd_T37 t614 x9_3).f2))) w.heap.size (fun k_ => some k_ ≠ (.slice Ao14 t603.length co14 : Value).ownBlock) (.slice Ao16 t606.length co16) t606) := ⟨by (with_reducible repeat (first | apply Kd.S_alloc | apply Kd.S_drewN | apply Kd.S_drew)); exact Kd.S_mono (Kd.S_far (p := ⟨gb621, 2, none⟩) (Kd.S_far (p := ⟨gb621, 1, none⟩) (Kd.S_far (p := ⟨gb621, 0, none⟩) (Kd.S_types HO_611001.out BK621.out (by decide)) (fun _ hk => hk.2) (.int .i64 ((rd_T37 t614 x9_3).f0))) (fun _ hk => hk.2) (.int .i64 ((rd_T37 t614 x9_3).f1))) (fun _ hk => hk.2) (.int .i64 ((rd_T37 t614 x9_3).f2))) (fun _ hk => hk.1)⟩
             have n3_ : Aside0 ((((w28.setCell ⟨gb621, 0, none⟩ (.int .i64 ((rd_T37 t614 x9_3).f0))).setCell ⟨gb621, 1, none⟩ (.int .i64 ((rd_T37 t614 x9_3).f1))).setCell ⟨gb621, 2, none⟩ (.int .i64 ((rd_T37 t614 x9_3).f2))).heap[gb610]? = some (.cells #[.slice Ao14 t603.length co14, .slice Ao16 t606.length co16] 26 (0, 0))) := ⟨by (with_reducible repeat (first | refine blk_drewN ?_ _ | refine blk_drew ?_ | refine blk_alloc ?_ _)); refine blk_far ?_ NB610_621.out _; (with_reducible repeat (first | refine blk_drewN ?_ _ | refine blk_drew ?_ | refine blk_alloc ?_ _)); refine blk_far ?_ NB610_621.out _; (with_reducible repeat (first | refine blk_drewN ?_ _ | refine blk_drew ?_ | refine blk_alloc ?_ _)); refine blk_far ?_ NB610_621.out _; exact KX_ BK610.out⟩
             have n4_ : Aside0 ((((w28.setCell ⟨gb621, 0, none⟩ (.int .i64 ((rd_T37 t614 x9_3).f0))).setCell ⟨gb621, 1, none⟩ (.int .i64 ((rd_T37 t614 x9_3).f1))).setCell ⟨gb621, 2, none⟩ (.int .i64 ((rd_T37 t614 x9_3).f2))).heap[gb621]? = some (.cells #[.int .i64 ((rd_T37 t614 x9_3).f0), .int .i64 ((rd_T37 t614 x9_3).f1), .int .i64 ((rd_T37 t614 x9_3).f2)] 37 (0, 0))) := ⟨by (with_reducible repeat (first | refine blk_drewN ?_ _ | refine blk_drew ?_ | refine blk_alloc ?_ _)); refine blk_put (cs := #[.int .i64 ((rd_T37 t614 x9_3).f0), .int .i64 ((rd_T37 t614 x9_3).f1), .int .i64 0]) ?_ 2 _ rfl; (with_reducible repeat (first | refine blk_drewN ?_ _ | refine blk_drew ?_ | refine blk_alloc ?_ _)); refine blk_put (cs := #[.int .i64 ((rd_T37 t614 x9_3).f0), .int .i64 0, .int .i64 0]) ?_ 1 _ rfl; (with_reducible repeat (first | refine blk_drewN ?_ _ | refine blk_drew ?_ | refine blk_alloc ?_ _)); refine blk_put (cs := #[.int .i64 0, .int .i64 0, .int .i64 0]) ?_ 0 _ rfl; exact KX_ BK621.out⟩
             have n5_ : Aside0 (Below w.heap.size w (((w28.setCell ⟨gb621, 0, none⟩ (.int .i64 ((rd_T37 t614 x9_3).f0))).setCell ⟨gb621, 1, none⟩ (.int .i64 ((rd_T37 t614 x9_3).f1))).setCell ⟨gb621, 2, none⟩ (.int .i64 ((rd_T37 t614 x9_3).f2)))) := ⟨B1_⟩
             (try clear HO_5)
             (try clear HO_611000)
             (try clear HO_611001)
             (try clear BK610)
             (try clear BK621)
             (try clear HB)
             generalize (((w28.setCell ⟨gb621, 0, none⟩ (.int .i64 ((rd_T37 t614 x9_3).f0))).setCell ⟨gb621, 1, none⟩ (.int .i64 ((rd_T37 t614 x9_3).f1))).setCell ⟨gb621, 2, none⟩ (.int .i64 ((rd_T37 t614 x9_3).f2))) = w32 at n0_ n1_ n2_ n3_ n4_ n5_ ⊢
             have HO_5 := n0_
             have HO_611000 := n1_
             have HO_611001 := n2_
             have BK610 := n3_
             have BK621 := n4_
             have HB := n5_
             clear n0_ n1_ n2_ n3_ n4_ n5_
             have n0_ := A_ (Kd.R_drew HO_5.out)
             have n1_ := A_ (Kd.S_drew HO_611000.out)
             have n2_ := A_ (Kd.S_drew HO_611001.out)
             have n3_ := A_ (blk_drew BK610.out)
             have n4_ := A_ (blk_drew BK621.out)
             have n5_ := A_ (below_drew1 HB.out)
             clear HO_5
             clear HO_611000
             clear HO_611001
             clear BK610
             clear BK621
             clear HB
             have HO_5 := n0_
             have HO_611000 := n1_
             have HO_611001 := n2_
             have BK610 := n3_
             have BK621 := n4_
             have HB := n5_
             clear n0_ n1_ n2_ n3_ n4_ n5_
             as_aux_lemma =>
               refine start_ (n := 40) (S := fun w' => w'.cell? ⟨gb621, 0, none⟩ = some (.int .i64 ((rd_T37 t614 x9_3).f0)) ∧ w'.cell? ⟨gb621, 1, none⟩ = some (.int .i64 ((rd_T37 t614 x9_3).f1)) ∧ w'.cell? ⟨gb621, 2, none⟩ = some (.int .i64 ((rd_T37 t614 x9_3).f2))) (ds := []) m50_0 (by kernel_rfl) rfl rfl ⟨(blk_cell BK621.out 0).trans rfl, (blk_cell BK621.out 1).trans rfl, (blk_cell BK621.out 2).trans rfl⟩ (fun hHeld => ?_); refine with_tabW locksteplaw09_DepEnds.tab21 locksteplaw09_DepEnds.bits21 (fun HT_ HW_ => ?_)
               generalize w32.drew = w33 at HO_5 HO_611000 HO_611001 BK610 BK621 HB hHeld ⊢
               refine PU_ HT_ 0 71 m50_1 (h := ?_); refine TA_ HT_ HW_ 1 72 hHeld m50_2 (h := ?_); refine PU_ HT_ 2 73 m50_3 (h := ?_); refine PU_ HT_ 3 74 m50_4 (h := ?_); refine PO_ HT_ 4 75 m50_5 (h := ?_); refine PO_ HT_ 5 76 #[T_,T_,T_,T_,T_,T_,F_,F_,F_,F_,F_,F_,F_,F_,F_,F_,F_,F_,F_,F_,F_,F_,F_,F_,F_,F_,F_,F_,F_,F_,F_,F_,F_,F_,F_,F_,F_,F_,F_,F_] (h := ?_); refine PO_ HT_ 6 77 #[T_,T_,T_,T_,T_,T_,T_,F_,F_,F_,F_,F_,F_,F_,F_,F_,F_,F_,F_,F_,F_,F_,F_,F_,F_,F_,F_,F_,F_,F_,F_,F_,F_,F_,F_,F_,F_,F_,F_,F_] (h := ?_); refine PO_ HT_ 7 78 m50_6 (h := ?_); refine PO_ HT_ 8 79 m50_7 (h := ?_); refine PU_ HT_ 9 80 m50_8 (h := ?_); refine PU_ HT_ 10 81 m50_9 (h := ?_); refine PO_ HT_ 11 82 m50_10 (h := ?_); refine PO_ HT_ 12 83 m50_11 (h := ?_); refine PO_ HT_ 13 84 #[T_,T_,T_,T_,T_,T_,T_,T_,T_,T_,T_,T_,T_,T_,F_,F_,F_,F_,F_,F_,F_,F_,F_,F_,F_,F_,F_,F_,F_,F_,F_,F_,F_,F_,F_,F_,F_,F_,F_,F_] (h := ?_); refine PO_ HT_ 14 85 #[T_,T_,T_,T_,T_,T_,T_,T_,T_,T_,T_,T_,T_,T_,T_,F_,F_,F_,F_,F_,F_,F_,F_,F_,F_,F_,F_,F_,F_,F_,F_,F_,F_,F_,F_,F_,F_,F_,F_,F_] (h := ?_); refine PO_ HT_ 15 86 #[T_,T_,T_,T_,T_,T_,T_,T_,T_,T_,T_,T_,T_,T_,T_,T_,F_,F_,F_,F_,F_,F_,F_,F_,F_,F_,F_,F_,F_,F_,F_,F_,F_,F_,F_,F_,F_,F_,F_,F_] (h := ?_); refine PO_ HT_ 16 87 m50_12 (h := ?_); refine PO_ HT_ 17 88 m50_13 (h := ?_); refine PO_ HT_ 18 89 m50_14 (h := ?_); refine PO_ HT_ 19 90 m50_15 (h := ?_); refine PU_ HT_ 20 91 m50_16 (h := ?_); refine PU_ HT_ 21 92 m50_17 (h := ?_); refine PO_ HT_ 22 93 m50_18 (h := ?_); refine PO_ HT_ 23 94 m50_19 (h := ?_); refine PO_ HT_ 24 95 m50_20 (h := ?_); refine PO_ HT_ 25 96 m50_21 (h := ?_); refine PO_ HT_ 26 97 m50_22 (h := ?_); refine PO_ HT_ 27 98 m50_23 (h := ?_); refine PO_ HT_ 28 99 m50_24 (h := ?_); refine PO_ HT_ 29 100 m50_25 (h := ?_); refine PO_ HT_ 30 101 m50_26 (h := ?_); refine PO_ HT_ 31 102 m50_27 (h := ?_); refine PO_ HT_ 32 103 m50_28 (h := ?_); refine PO_ HT_ 33 104 m50_29 (h := ?_); refine PO_ HT_ 34 105 m50_30 (h := ?_); refine PO_ HT_ 35 106 m50_31 (h := ?_); refine PO_ HT_ 36 107 m50_32 (h := ?_); refine PO_ HT_ 37 108 m50_33 (h := ?_); refine PO_ HT_ 38 109 m50_34 (h := ?_); refine PU_ HT_ 39 110 m50_35 (h := ?_)
               refine done_ (done_of HT_.out (by kernel_rfl)) ?_
               try go_wp2
               go_meet
               case rel => exact ⟨_, (true), (by first | rfl | exact congrArg (fun b => Ending.returned (Value.bool b)) HR_.out | (simp; done) | (simp [*]; done)), H', ⟨by have := HJ3.out; have := HK2.out; have := HK3.out; first | omega | exact Nat.le_refl _⟩, ⟨by exact RM_ HO_5.out⟩, ⟨by exact SM_ HO_611000.out⟩, ⟨by exact SM_ HO_611001.out⟩, ⟨by exact KX_ BK610.out⟩, ⟨by exact KX_ BK621.out⟩, ⟨B1_⟩⟩
            rw [if_neg c31] at H
            have c31b0 : decide (((rd_T37 t614 x9_3).f1) < 0) = false := decide_eq_false c31
            clear c31
            (first | rw [c31b0] | (simp only [i64_w, i32_w]; rw [c31b0]) | skip)
            by_cases c34 : ((rd_T37 t614 x9_3).f1) ≥ (l0.length : Int)
            ·rw [if_pos c34] at H
             have c34b0 : decide ((l0.length : Int) ≤ ((rd_T37 t614 x9_3).f1)) = true := decide_eq_true c34
             clear c34
             have H' := Aside0.mk H
             clear H
             try go_wp2
             have n0_ : Aside0 (Kd.R k37 37 (((w28.setCell ⟨gb621, 0, none⟩ (.int .i64 ((rd_T37 t614 x9_3).f0))).setCell ⟨gb621, 1, none⟩ (.int .i64 ((rd_T37 t614 x9_3).f1))).setCell ⟨gb621, 2, none⟩ (.int .i64 ((rd_T37 t614 x9_3).f2))) w.heap.size (fun k_ => k_ ≠ gb621) (.slice (some ad620) t614.length co27) t614) := ⟨by (with_reducible repeat (first | apply Kd.R_alloc | apply Kd.R_drewN | apply Kd.R_drew)); exact Kd.R_mono (Kd.R_far (p := ⟨gb621, 2, none⟩) (Kd.R_far (p := ⟨gb621, 1, none⟩) (Kd.R_far (p := ⟨gb621, 0, none⟩) (Kd.R_mono HO_5.out (fun k_ hk => (⟨hk, hk.2⟩ : _ ∧ k_ ≠ gb621))) (fun _ hk => hk.2) (.int .i64 ((rd_T37 t614 x9_3).f0))) (fun _ hk => hk.2) (.int .i64 ((rd_T37 t614 x9_3).f1))) (fun _ hk => hk.2) (.int .i64 ((rd_T37 t614 x9_3).f2))) (fun _ hk => hk.1.2)⟩
             have n1_ : Aside0 (Kd.S (Kd.slice 3 (Kd.int .i64)) 31 (((w28.setCell ⟨gb621, 0, none⟩ (.int .i64 ((rd_T37 t614 x9_3).f0))).setCell ⟨gb621, 1, none⟩ (.int .i64 ((rd_T37 t614 x9_3).f1))).setCell ⟨gb621, 2, none⟩ (.int .i64 ((rd_T37 t614 x9_3).f2))) w.heap.size (fun k_ => some k_ ≠ (.slice Ao16 t606.length co16 : Value).ownBlock) (.slice Ao14 t603.length co14) t603) := ⟨by (with_reducible repeat (first | apply Kd.S_alloc | apply Kd.S_drewN | apply Kd.S_drew)); exact Kd.S_mono (Kd.S_far (p := ⟨gb621, 2, none⟩) (Kd.S_far (p := ⟨gb621, 1, none⟩) (Kd.S_far (p := ⟨gb621, 0, none⟩) (Kd.S_types HO_611000.out BK621.out (by decide)) (fun _ hk => hk.2) (.int .i64 ((rd_T37 t614 x9_3).f0))) (fun _ hk => hk.2) (.int .i64 ((rd_T37 t614 x9_3).f1))) (fun _ hk => hk.2) (.int .i64 ((rd_T37 t614 x9_3).f2))) (fun _ hk => hk.1)⟩
             have n2_ : Aside0 (Kd.S (Kd.slice 3 (Kd.int .i64)) 31 (((w28.setCell ⟨gb621, 0, none⟩ (.int .i64 ((rd_T37 t614 x9_3).f0))).setCell ⟨gb621, 1, none⟩ (.int .i64 ((rd_T37 t614 x9_3).f1))).setCell ⟨gb621, 2, none⟩ (.int .i64 ((rd_T37 t614 x9_3).f2))) w.heap.size (fun k_ => some k_ ≠ (.slice Ao14 t603.length co14 : Value).ownBlock) (.slice Ao16 t606.length co16) t606) := ⟨by (with_reducible repeat (first | apply Kd.S_alloc | apply Kd.S_drewN | apply Kd.S_drew)); exact Kd.S_mono (Kd.S_far (p := ⟨gb621, 2, none⟩) (Kd.S_far (p := ⟨gb621, 1, none⟩) (Kd.S_far (p := ⟨gb621, 0, none⟩) (Kd.S_types HO_611001.out BK621.out (by decide)) (fun _ hk => hk.2) (.int .i64 ((rd_T37 t614 x9_3).f0))) (fun _ hk => hk.2) (.int .i64 ((rd_T37 t614 x9_3).f1))) (fun _ hk => hk.2) (.int .i64 ((rd_T37 t614 x9_3).f2))) (fun _ hk => hk.1)⟩
             have n3_ : Aside0 ((((w28.setCell ⟨gb621, 0, none⟩ (.int .i64 ((rd_T37 t614 x9_3).f0))).setCell ⟨gb621, 1, none⟩ (.int .i64 ((rd_T37 t614 x9_3).f1))).setCell ⟨gb621, 2, none⟩ (.int .i64 ((rd_T37 t614 x9_3).f2))).heap[gb610]? = some (.cells #[.slice Ao14 t603.length co14, .slice Ao16 t606.length co16] 26 (0, 0))) := ⟨by (with_reducible repeat (first | refine blk_drewN ?_ _ | refine blk_drew ?_ | refine blk_alloc ?_ _)); refine blk_far ?_ NB610_621.out _; (with_reducible repeat (first | refine blk_drewN ?_ _ | refine blk_drew ?_ | refine blk_alloc ?_ _)); refine blk_far ?_ NB610_621.out _; (with_reducible repeat (first | refine blk_drewN ?_ _ | refine blk_drew ?_ | refine blk_alloc ?_ _)); refine blk_far ?_ NB610_621.out _; exact KX_ BK610.out⟩
             have n4_ : Aside0 ((((w28.setCell ⟨gb621, 0, none⟩ (.int .i64 ((rd_T37 t614 x9_3).f0))).setCell ⟨gb621, 1, none⟩ (.int .i64 ((rd_T37 t614 x9_3).f1))).setCell ⟨gb621, 2, none⟩ (.int .i64 ((rd_T37 t614 x9_3).f2))).heap[gb621]? = some (.cells #[.int .i64 ((rd_T37 t614 x9_3).f0), .int .i64 ((rd_T37 t614 x9_3).f1), .int .i64 ((rd_T37 t614 x9_3).f2)] 37 (0, 0))) := ⟨by (with_reducible repeat (first | refine blk_drewN ?_ _ | refine blk_drew ?_ | refine blk_alloc ?_ _)); refine blk_put (cs := #[.int .i64 ((rd_T37 t614 x9_3).f0), .int .i64 ((rd_T37 t614 x9_3).f1), .int .i64 0]) ?_ 2 _ rfl; (with_reducible repeat (first | refine blk_drewN ?_ _ | refine blk_drew ?_ | refine blk_alloc ?_ _)); refine blk_put (cs := #[.int .i64 ((rd_T37 t614 x9_3).f0), .int .i64 0, .int .i64 0]) ?_ 1 _ rfl; (with_reducible repeat (first | refine blk_drewN ?_ _ | refine blk_drew ?_ | refine blk_alloc ?_ _)); refine blk_put (cs := #[.int .i64 0, .int .i64 0, .int .i64 0]) ?_ 0 _ rfl; exact KX_ BK621.out⟩
             have n5_ : Aside0 (Below w.heap.size w (((w28.setCell ⟨gb621, 0, none⟩ (.int .i64 ((rd_T37 t614 x9_3).f0))).setCell ⟨gb621, 1, none⟩ (.int .i64 ((rd_T37 t614 x9_3).f1))).setCell ⟨gb621, 2, none⟩ (.int .i64 ((rd_T37 t614 x9_3).f2)))) := ⟨B1_⟩
             (try clear HO_5)
             (try clear HO_611000)
             (try clear HO_611001)
             (try clear BK610)
             (try clear BK621)
             (try clear HB)
             generalize (((w28.setCell ⟨gb621, 0, none⟩ (.int .i64 ((rd_T37 t614 x9_3).f0))).setCell ⟨gb621, 1, none⟩ (.int .i64 ((rd_T37 t614 x9_3).f1))).setCell ⟨gb621, 2, none⟩ (.int .i64 ((rd_T37 t614 x9_3).f2))) = w35 at n0_ n1_ n2_ n3_ n4_ n5_ ⊢
             have HO_5 := n0_
             have HO_611000 := n1_
             have HO_611001 := n2_
             have BK610 := n3_
             have BK621 := n4_
             have HB := n5_
             clear n0_ n1_ n2_ n3_ n4_ n5_
             have n0_ := A_ (Kd.R_drew HO_5.out)
             have n1_ := A_ (Kd.S_drew HO_611000.out)
             have n2_ := A_ (Kd.S_drew HO_611001.out)
             have n3_ := A_ (blk_drew BK610.out)
             have n4_ := A_ (blk_drew BK621.out)
             have n5_ := A_ (below_drew1 HB.out)
             clear HO_5
             clear HO_611000
             clear HO_611001
             clear BK610
             clear BK621
             clear HB
             have HO_5 := n0_
             have HO_611000 := n1_
             have HO_611001 := n2_
             have BK610 := n3_
             have BK621 := n4_
             have HB := n5_
             clear n0_ n1_ n2_ n3_ n4_ n5_
             as_aux_lemma =>
               refine start_ (n := 40) (S := fun w' => w'.cell? ⟨gb621, 0, none⟩ = some (.int .i64 ((rd_T37 t614 x9_3).f0)) ∧ w'.cell? ⟨gb621, 1, none⟩ = some (.int .i64 ((rd_T37 t614 x9_3).f1)) ∧ w'.cell? ⟨gb621, 2, none⟩ = some (.int .i64 ((rd_T37 t614 x9_3).f2))) (ds := []) m50_0 (by kernel_rfl) rfl rfl ⟨(blk_cell BK621.out 0).trans rfl, (blk_cell BK621.out 1).trans rfl, (blk_cell BK621.out 2).trans rfl⟩ (fun hHeld => ?_); refine with_tabW locksteplaw09_DepEnds.tab21 locksteplaw09_DepEnds.bits21 (fun HT_ HW_ => ?_)
               generalize w35.drew = w36 at HO_5 HO_611000 HO_611001 BK610 BK621 HB hHeld ⊢
               refine PU_ HT_ 0 71 m50_1 (h := ?_); refine TA_ HT_ HW_ 1 72 hHeld m50_2 (h := ?_); refine PU_ HT_ 2 73 m50_3 (h := ?_); refine PU_ HT_ 3 74 m50_4 (h := ?_); refine PU_ HT_ 4 75 m50_5 (h := ?_); refine PU_ HT_ 6 77 m50_36 (h := ?_); refine PU_ HT_ 7 78 m50_37 (h := ?_); refine TA_ HT_ HW_ 5 76 hHeld m50_6 (h := ?_); refine PU_ HT_ 8 79 m50_7 (h := ?_); refine PU_ HT_ 9 80 m50_8 (h := ?_); refine PU_ HT_ 10 81 m50_9 (h := ?_); refine PO_ HT_ 11 82 m50_10 (h := ?_); refine PO_ HT_ 12 83 m50_11 (h := ?_); refine PO_ HT_ 13 84 #[T_,T_,T_,T_,T_,T_,T_,T_,T_,T_,T_,T_,T_,T_,F_,F_,F_,F_,F_,F_,F_,F_,F_,F_,F_,F_,F_,F_,F_,F_,F_,F_,F_,F_,F_,F_,F_,F_,F_,F_] (h := ?_); refine PO_ HT_ 14 85 #[T_,T_,T_,T_,T_,T_,T_,T_,T_,T_,T_,T_,T_,T_,T_,F_,F_,F_,F_,F_,F_,F_,F_,F_,F_,F_,F_,F_,F_,F_,F_,F_,F_,F_,F_,F_,F_,F_,F_,F_] (h := ?_); refine PO_ HT_ 15 86 #[T_,T_,T_,T_,T_,T_,T_,T_,T_,T_,T_,T_,T_,T_,T_,T_,F_,F_,F_,F_,F_,F_,F_,F_,F_,F_,F_,F_,F_,F_,F_,F_,F_,F_,F_,F_,F_,F_,F_,F_] (h := ?_); refine PO_ HT_ 16 87 m50_12 (h := ?_); refine PO_ HT_ 17 88 m50_13 (h := ?_); refine PO_ HT_ 18 89 m50_14 (h := ?_); refine PO_ HT_ 19 90 m50_15 (h := ?_); refine PU_ HT_ 20 91 m50_16 (h := ?_); refine PU_ HT_ 21 92 m50_17 (h := ?_); refine PO_ HT_ 22 93 m50_18 (h := ?_); refine PO_ HT_ 23 94 m50_19 (h := ?_); refine PO_ HT_ 24 95 m50_20 (h := ?_); refine PO_ HT_ 25 96 m50_21 (h := ?_); refine PO_ HT_ 26 97 m50_22 (h := ?_); refine PO_ HT_ 27 98 m50_23 (h := ?_); refine PO_ HT_ 28 99 m50_24 (h := ?_); refine PO_ HT_ 29 100 m50_25 (h := ?_); refine PO_ HT_ 30 101 m50_26 (h := ?_); refine PO_ HT_ 31 102 m50_27 (h := ?_); refine PO_ HT_ 32 103 m50_28 (h := ?_); refine PO_ HT_ 33 104 m50_29 (h := ?_); refine PO_ HT_ 34 105 m50_30 (h := ?_); refine PO_ HT_ 35 106 m50_31 (h := ?_); refine PO_ HT_ 36 107 m50_32 (h := ?_); refine PO_ HT_ 37 108 m50_33 (h := ?_); refine PO_ HT_ 38 109 m50_34 (h := ?_); refine PU_ HT_ 39 110 m50_35 (h := ?_)
               refine done_ (done_of HT_.out (by kernel_rfl)) ?_
               try go_wp2
               go_meet
               case rel => exact ⟨_, (true), (by first | rfl | exact congrArg (fun b => Ending.returned (Value.bool b)) HR_.out | (simp; done) | (simp [*]; done)), H', ⟨by have := HJ3.out; have := HK2.out; have := HK3.out; first | omega | exact Nat.le_refl _⟩, ⟨by exact RM_ HO_5.out⟩, ⟨by exact SM_ HO_611000.out⟩, ⟨by exact SM_ HO_611001.out⟩, ⟨by exact KX_ BK610.out⟩, ⟨by exact KX_ BK621.out⟩, ⟨B1_⟩⟩
            rw [if_neg c34] at H
            have c34b0 : decide ((l0.length : Int) ≤ ((rd_T37 t614 x9_3).f1)) = false := decide_eq_false c34
            clear c34
            by_cases c37 : 0 ≤ ((rd_T37 t614 x9_3).f1)
            ·rw [if_pos c37] at H
             have c37b0 : decide (0 ≤ ((rd_T37 t614 x9_3).f1)) = true := decide_eq_true c37
             clear c37
             by_cases c38 : ((rd_T37 t614 x9_3).f1) < (l0.length : Int)
             ·rw [if_pos c38] at H
              have c38b0 : decide (((rd_T37 t614 x9_3).f1) < (l0.length : Int)) = true := decide_eq_true c38
              clear c38
              replace H := Option.bind_eq_some_iff.mp H
              obtain ⟨t623, A390, H⟩ := H
              try dsimp only at H
              have A39 := Aside0.mk A390
              clear A390
              by_cases c40 : t623 = true
              ·subst c40
               have H1 : (if x6_2 = true then (if ((rd_T37 t614 x9_3).f0) = ((rd_T37 t614 x9_3).f1) then (locksteplaw09_DepEnds.j4 k3 l0 t614 x6_2 x9_3 true ((rd_T37 t614 x9_3).f0) ((rd_T37 t614 x9_3).f1) ((rd_T37 t614 x9_3).f2)) else (locksteplaw09_DepEnds.j4 k3 l0 t614 x6_2 x9_3 (decide (((rd_L1 l0 ((rd_T37 t614 x9_3).f1)).length : Int) < 2)) ((rd_T37 t614 x9_3).f0) ((rd_T37 t614 x9_3).f1) ((rd_T37 t614 x9_3).f2))) else (locksteplaw09_DepEnds.j4 k3 l0 t614 x6_2 x9_3 false ((rd_T37 t614 x9_3).f0) ((rd_T37 t614 x9_3).f1) ((rd_T37 t614 x9_3).f2))) = some true := by rw [if_pos rfl] at H; exact H
               clear H
               have H := H1
               clear H1
               by_cases c41 : x6_2 = true
               ·subst c41
                have H1 : (if ((rd_T37 t614 x9_3).f0) = ((rd_T37 t614 x9_3).f1) then (locksteplaw09_DepEnds.j4 k3 l0 t614 true x9_3 true ((rd_T37 t614 x9_3).f0) ((rd_T37 t614 x9_3).f1) ((rd_T37 t614 x9_3).f2)) else (locksteplaw09_DepEnds.j4 k3 l0 t614 true x9_3 (decide (((rd_L1 l0 ((rd_T37 t614 x9_3).f1)).length : Int) < 2)) ((rd_T37 t614 x9_3).f0) ((rd_T37 t614 x9_3).f1) ((rd_T37 t614 x9_3).f2))) = some true := by rw [if_pos rfl] at H; exact H
                clear H
                have H := H1
                clear H1
                by_cases c42 : ((rd_T37 t614 x9_3).f0) = ((rd_T37 t614 x9_3).f1)
                ·rw [if_pos c42] at H
                 have c42b0 : (((rd_T37 t614 x9_3).f0) == ((rd_T37 t614 x9_3).f1)) = true := beq_iff_eq.mpr c42
                 have c42b1 : (((rd_T37 t614 x9_3).f0) != ((rd_T37 t614 x9_3).f1)) = false := bne_eq_false_iff_eq.mpr c42
                 clear c42
                 have H' := Aside0.mk H
                 clear H
                 try go_wp2
                 have n0_ : Aside0 (Kd.R k37 37 (((w28.setCell ⟨gb621, 0, none⟩ (.int .i64 ((rd_T37 t614 x9_3).f0))).setCell ⟨gb621, 1, none⟩ (.int .i64 ((rd_T37 t614 x9_3).f1))).setCell ⟨gb621, 2, none⟩ (.int .i64 ((rd_T37 t614 x9_3).f2))) w.heap.size (fun k_ => k_ ≠ gb621) (.slice (some ad620) t614.length co27) t614) := ⟨by (with_reducible repeat (first | apply Kd.R_alloc | apply Kd.R_drewN | apply Kd.R_drew)); exact Kd.R_mono (Kd.R_far (p := ⟨gb621, 2, none⟩) (Kd.R_far (p := ⟨gb621, 1, none⟩) (Kd.R_far (p := ⟨gb621, 0, none⟩) (Kd.R_mono HO_5.out (fun k_ hk => (⟨hk, hk.2⟩ : _ ∧ k_ ≠ gb621))) (fun _ hk => hk.2) (.int .i64 ((rd_T37 t614 x9_3).f0))) (fun _ hk => hk.2) (.int .i64 ((rd_T37 t614 x9_3).f1))) (fun _ hk => hk.2) (.int .i64 ((rd_T37 t614 x9_3).f2))) (fun _ hk => hk.1.2)⟩
                 have n1_ : Aside0 (Kd.S (Kd.slice 3 (Kd.int .i64)) 31 (((w28.setCell ⟨gb621, 0, none⟩ (.int .i64 ((rd_T37 t614 x9_3).f0))).setCell ⟨gb621, 1, none⟩ (.int .i64 ((rd_T37 t614 x9_3).f1))).setCell ⟨gb621, 2, none⟩ (.int .i64 ((rd_T37 t614 x9_3).f2))) w.heap.size (fun k_ => some k_ ≠ (.slice Ao16 t606.length co16 : Value).ownBlock) (.slice Ao14 t603.length co14) t603) := ⟨by (with_reducible repeat (first | apply Kd.S_alloc | apply Kd.S_drewN | apply Kd.S_drew)); exact Kd.S_mono (Kd.S_far (p := ⟨gb621, 2, none⟩) (Kd.S_far (p := ⟨gb621, 1, none⟩) (Kd.S_far (p := ⟨gb621, 0, none⟩) (Kd.S_types HO_611000.out BK621.out (by decide)) (fun _ hk => hk.2) (.int .i64 ((rd_T37 t614 x9_3).f0))) (fun _ hk => hk.2) (.int .i64 ((rd_T37 t614 x9_3).f1))) (fun _ hk => hk.2) (.int .i64 ((rd_T37 t614 x9_3).f2))) (fun _ hk => hk.1)⟩
                 have n2_ : Aside0 (Kd.S (Kd.slice 3 (Kd.int .i64)) 31 (((w28.setCell ⟨gb621, 0, none⟩ (.int .i64 ((rd_T37 t614 x9_3).f0))).setCell ⟨gb621, 1, none⟩ (.int .i64 ((rd_T37 t614 x9_3).f1))).setCell ⟨gb621, 2, none⟩ (.int .i64 ((rd_T37 t614 x9_3).f2))) w.heap.size (fun k_ => some k_ ≠ (.slice Ao14 t603.length co14 : Value).ownBlock) (.slice Ao16 t606.length co16) t606) := ⟨by (with_reducible repeat (first | apply Kd.S_alloc | apply Kd.S_drewN | apply Kd.S_drew)); exact Kd.S_mono (Kd.S_far (p := ⟨gb621, 2, none⟩) (Kd.S_far (p := ⟨gb621, 1, none⟩) (Kd.S_far (p := ⟨gb621, 0, none⟩) (Kd.S_types HO_611001.out BK621.out (by decide)) (fun _ hk => hk.2) (.int .i64 ((rd_T37 t614 x9_3).f0))) (fun _ hk => hk.2) (.int .i64 ((rd_T37 t614 x9_3).f1))) (fun _ hk => hk.2) (.int .i64 ((rd_T37 t614 x9_3).f2))) (fun _ hk => hk.1)⟩
                 have n3_ : Aside0 ((((w28.setCell ⟨gb621, 0, none⟩ (.int .i64 ((rd_T37 t614 x9_3).f0))).setCell ⟨gb621, 1, none⟩ (.int .i64 ((rd_T37 t614 x9_3).f1))).setCell ⟨gb621, 2, none⟩ (.int .i64 ((rd_T37 t614 x9_3).f2))).heap[gb610]? = some (.cells #[.slice Ao14 t603.length co14, .slice Ao16 t606.length co16] 26 (0, 0))) := ⟨by (with_reducible repeat (first | refine blk_drewN ?_ _ | refine blk_drew ?_ | refine blk_alloc ?_ _)); refine blk_far ?_ NB610_621.out _; (with_reducible repeat (first | refine blk_drewN ?_ _ | refine blk_drew ?_ | refine blk_alloc ?_ _)); refine blk_far ?_ NB610_621.out _; (with_reducible repeat (first | refine blk_drewN ?_ _ | refine blk_drew ?_ | refine blk_alloc ?_ _)); refine blk_far ?_ NB610_621.out _; exact KX_ BK610.out⟩
                 have n4_ : Aside0 ((((w28.setCell ⟨gb621, 0, none⟩ (.int .i64 ((rd_T37 t614 x9_3).f0))).setCell ⟨gb621, 1, none⟩ (.int .i64 ((rd_T37 t614 x9_3).f1))).setCell ⟨gb621, 2, none⟩ (.int .i64 ((rd_T37 t614 x9_3).f2))).heap[gb621]? = some (.cells #[.int .i64 ((rd_T37 t614 x9_3).f0), .int .i64 ((rd_T37 t614 x9_3).f1), .int .i64 ((rd_T37 t614 x9_3).f2)] 37 (0, 0))) := ⟨by (with_reducible repeat (first | refine blk_drewN ?_ _ | refine blk_drew ?_ | refine blk_alloc ?_ _)); refine blk_put (cs := #[.int .i64 ((rd_T37 t614 x9_3).f0), .int .i64 ((rd_T37 t614 x9_3).f1), .int .i64 0]) ?_ 2 _ rfl; (with_reducible repeat (first | refine blk_drewN ?_ _ | refine blk_drew ?_ | refine blk_alloc ?_ _)); refine blk_put (cs := #[.int .i64 ((rd_T37 t614 x9_3).f0), .int .i64 0, .int .i64 0]) ?_ 1 _ rfl; (with_reducible repeat (first | refine blk_drewN ?_ _ | refine blk_drew ?_ | refine blk_alloc ?_ _)); refine blk_put (cs := #[.int .i64 0, .int .i64 0, .int .i64 0]) ?_ 0 _ rfl; exact KX_ BK621.out⟩
                 have n5_ : Aside0 (Below w.heap.size w (((w28.setCell ⟨gb621, 0, none⟩ (.int .i64 ((rd_T37 t614 x9_3).f0))).setCell ⟨gb621, 1, none⟩ (.int .i64 ((rd_T37 t614 x9_3).f1))).setCell ⟨gb621, 2, none⟩ (.int .i64 ((rd_T37 t614 x9_3).f2)))) := ⟨B1_⟩
                 (try clear HO_5)
                 (try clear HO_611000)
                 (try clear HO_611001)
                 (try clear BK610)
                 (try clear BK621)
                 (try clear HB)
                 generalize (((w28.setCell ⟨gb621, 0, none⟩ (.int .i64 ((rd_T37 t614 x9_3).f0))).setCell ⟨gb621, 1, none⟩ (.int .i64 ((rd_T37 t614 x9_3).f1))).setCell ⟨gb621, 2, none⟩ (.int .i64 ((rd_T37 t614 x9_3).f2))) = w43 at n0_ n1_ n2_ n3_ n4_ n5_ ⊢
                 have HO_5 := n0_
                 have HO_611000 := n1_
                 have HO_611001 := n2_
                 have BK610 := n3_
                 have BK621 := n4_
                 have HB := n5_
                 clear n0_ n1_ n2_ n3_ n4_ n5_
                 have n0_ := A_ (Kd.R_drew HO_5.out)
                 have n1_ := A_ (Kd.S_drew HO_611000.out)
                 have n2_ := A_ (Kd.S_drew HO_611001.out)
                 have n3_ := A_ (blk_drew BK610.out)
                 have n4_ := A_ (blk_drew BK621.out)
                 have n5_ := A_ (below_drew1 HB.out)
                 clear HO_5
                 clear HO_611000
                 clear HO_611001
                 clear BK610
                 clear BK621
                 clear HB
                 have HO_5 := n0_
                 have HO_611000 := n1_
                 have HO_611001 := n2_
                 have BK610 := n3_
                 have BK621 := n4_
                 have HB := n5_
                 clear n0_ n1_ n2_ n3_ n4_ n5_
                 have p622 : 0 ≤ (((rd_T37 t614 x9_3).f1) : Int) := D_
                 have q622 : ((rd_T37 t614 x9_3).f1) < (l0.length : Int) := D_
                 obtain ⟨ad622, A622_0, c622_0, e622, hx622_0, hl622_0, hi622_0⟩ := at_L1 HR0.out ((rd_T37 t614 x9_3).f1) p622 q622
                 have hw622_0 := hx622_0
                 cases e622
                 replace hx622_0 := (HB.out.cell (World.block_lt_of_cell? w _ hx622_0)).trans hx622_0
                 have HR622_0 := Aside0.mk hi622_0
                 have HC622_0 := Aside0.mk hl622_0
                 clear hi622_0 hl622_0
                 replace p622 := eq_true p622
                 replace q622 := eq_true q622
                 as_aux_lemma =>
                   refine start_ (n := 40) (S := fun w' => w'.cell? ⟨gb621, 0, none⟩ = some (.int .i64 ((rd_T37 t614 x9_3).f0)) ∧ w'.cell? ⟨gb621, 1, none⟩ = some (.int .i64 ((rd_T37 t614 x9_3).f1)) ∧ w'.cell? ⟨gb621, 2, none⟩ = some (.int .i64 ((rd_T37 t614 x9_3).f2)) ∧ w'.cell? (ad622.add (((rd_T37 t614 x9_3).f1)).toNat) = some (.slice A622_0 (rd_L1 l0 ((rd_T37 t614 x9_3).f1)).length c622_0)) (ds := []) m50_0 (by kernel_rfl) rfl rfl ⟨(blk_cell BK621.out 0).trans rfl, (blk_cell BK621.out 1).trans rfl, (blk_cell BK621.out 2).trans rfl, ((HB.out.cell (World.block_lt_of_cell? w _ hw622_0)).trans hw622_0)⟩ (fun hHeld => ?_); refine with_tabW locksteplaw09_DepEnds.tab21 locksteplaw09_DepEnds.bits21 (fun HT_ HW_ => ?_)
                   generalize w43.drew = w44 at HO_5 HO_611000 HO_611001 BK610 BK621 HB HR622_0 hx622_0 hHeld ⊢
                   refine PU_ HT_ 0 71 m50_1 (h := ?_); refine TA_ HT_ HW_ 1 72 hHeld m50_2 (h := ?_); refine PU_ HT_ 2 73 m50_3 (h := ?_); refine PU_ HT_ 3 74 m50_4 (h := ?_); refine PU_ HT_ 4 75 m50_5 (h := ?_); refine PU_ HT_ 6 77 m50_36 (h := ?_); refine PU_ HT_ 7 78 m50_37 (h := ?_); refine TA_ HT_ HW_ 5 76 hHeld m50_6 (h := ?_); refine PU_ HT_ 8 79 m50_7 (h := ?_); refine PU_ HT_ 9 80 m50_8 (h := ?_); refine PU_ HT_ 10 81 m50_9 (h := ?_); refine PU_ HT_ 11 82 m50_10 (h := ?_); refine PU_ HT_ 12 83 m50_11 (h := ?_); refine PU_ HT_ 16 87 m50_38 (h := ?_); refine TA_ HT_ HW_ 13 84 hHeld m50_39 (h := ?_); refine PU_ HT_ 14 85 m50_40 (h := ?_); refine TA_ HT_ HW_ 15 86 hHeld m50_12 (h := ?_); refine TA_ HT_ HW_ 17 88 hHeld m50_13 (h := ?_)
                   refine one_ (i := 18) (N := some 89) m50_14 rfl rfl (one_of HT_.out (by kernel_rfl)) (by decide) (fun K hK => ?_)
                   refine goes_ Try.func18 (by kernel_rfl) rfl #[.slice A622_0 (rd_L1 l0 ((rd_T37 t614 x9_3).f1)).length c622_0, .int .i64 ((rd_T37 t614 x9_3).f2)] (by rfl) rfl rfl (by (try simp only [List.map_toArray, List.map_cons, List.map_nil]); first | done | rfl | (simp only [List.length_drop, List.length_take]; rfl)) ?_
                   with_reducible refine (lockstepref06_Has.calls k3 _ _ (rd_L1 l0 ((rd_T37 t614 x9_3).f1)) ((rd_T37 t614 x9_3).f2) true _ ?side1 ?side2 A39.out).mono ?_
                   (case side1 => exact CX_ (Kd.C_below HR622_0.out HB.out))
                   (case side2 => exact HC622_0.out)
                   rintro e w' ⟨rfl, ⟨nd, rfl⟩⟩
                   refine ⟨_, rfl, ?_⟩
                   refine hK.out _ _ ⟨(blk_cell BK621.out 0).trans rfl, (blk_cell BK621.out 1).trans rfl, (blk_cell BK621.out 2).trans rfl, ((HB.out.cell (World.block_lt_of_cell? w _ hw622_0)).trans hw622_0)⟩ (fun hHeld => ?_)
                   clear hK K
                   refine norm_ (a' := ?_) ?_ ?_
                   rotate_left
                   ·show Act.put _ (some 89) _ = _
                    simp only [Act.put, List.setIfInBounds_toArray, List.set_cons_zero, List.set_cons_succ, i64_w, i32_w]
                    rfl
                   refine PU_ HT_ 19 90 m50_15 (h := ?_); refine PU_ HT_ 20 91 m50_16 (h := ?_); refine PU_ HT_ 21 92 m50_17 (h := ?_); refine PU_ HT_ 22 93 m50_18 (h := ?_); refine PU_ HT_ 23 94 m50_19 (h := ?_); refine PU_ HT_ 24 95 m50_20 (h := ?_); refine PU_ HT_ 26 97 #[T_,T_,T_,T_,T_,T_,T_,T_,T_,T_,T_,T_,T_,T_,T_,T_,T_,T_,T_,T_,T_,T_,T_,T_,T_,F_,T_,F_,F_,F_,F_,F_,F_,F_,F_,F_,F_,F_,F_,F_] (h := ?_); refine TA_ HT_ HW_ 25 96 hHeld m50_22 (h := ?_); refine TA_ HT_ HW_ 27 98 hHeld m50_23 (h := ?_); refine PU_ HT_ 28 99 m50_24 (h := ?_); refine PU_ HT_ 29 100 m50_25 (h := ?_); refine PO_ HT_ 30 101 m50_26 (h := ?_); refine PO_ HT_ 31 102 m50_27 (h := ?_); refine PO_ HT_ 32 103 m50_28 (h := ?_); refine PO_ HT_ 33 104 m50_29 (h := ?_); refine PO_ HT_ 34 105 m50_30 (h := ?_); refine PO_ HT_ 35 106 m50_31 (h := ?_); refine PO_ HT_ 36 107 m50_32 (h := ?_); refine PU_ HT_ 37 108 m50_33 (h := ?_); refine PU_ HT_ 38 109 m50_34 (h := ?_); refine PU_ HT_ 39 110 m50_35 (h := ?_)
                   refine done_ (done_of HT_.out (by kernel_rfl)) ?_
                   try go_wp2
                   go_meet
                   case rel => exact ⟨_, (true), (by first | rfl | exact congrArg (fun b => Ending.returned (Value.bool b)) HR_.out | (simp; done) | (simp [*]; done)), H', ⟨by have := HJ3.out; have := HK2.out; have := HK3.out; first | omega | exact Nat.le_refl _⟩, ⟨by exact RM_ HO_5.out⟩, ⟨by exact SM_ HO_611000.out⟩, ⟨by exact SM_ HO_611001.out⟩, ⟨by exact KX_ BK610.out⟩, ⟨by exact KX_ BK621.out⟩, ⟨B1_⟩⟩
                rw [if_neg c42] at H
                have c42b0 : (((rd_T37 t614 x9_3).f0) == ((rd_T37 t614 x9_3).f1)) = false := beq_eq_false_iff_ne.mpr c42
                have c42b1 : (((rd_T37 t614 x9_3).f0) != ((rd_T37 t614 x9_3).f1)) = true := bne_iff_ne.mpr c42
                have H' := Aside0.mk H
                clear H
                try go_wp2
                have n0_ : Aside0 (Kd.R k37 37 (((w28.setCell ⟨gb621, 0, none⟩ (.int .i64 ((rd_T37 t614 x9_3).f0))).setCell ⟨gb621, 1, none⟩ (.int .i64 ((rd_T37 t614 x9_3).f1))).setCell ⟨gb621, 2, none⟩ (.int .i64 ((rd_T37 t614 x9_3).f2))) w.heap.size (fun k_ => k_ ≠ gb621) (.slice (some ad620) t614.length co27) t614) := ⟨by (with_reducible repeat (first | apply Kd.R_alloc | apply Kd.R_drewN | apply Kd.R_drew)); exact Kd.R_mono (Kd.R_far (p := ⟨gb621, 2, none⟩) (Kd.R_far (p := ⟨gb621, 1, none⟩) (Kd.R_far (p := ⟨gb621, 0, none⟩) (Kd.R_mono HO_5.out (fun k_ hk => (⟨hk, hk.2⟩ : _ ∧ k_ ≠ gb621))) (fun _ hk => hk.2) (.int .i64 ((rd_T37 t614 x9_3).f0))) (fun _ hk => hk.2) (.int .i64 ((rd_T37 t614 x9_3).f1))) (fun _ hk => hk.2) (.int .i64 ((rd_T37 t614 x9_3).f2))) (fun _ hk => hk.1.2)⟩
                have n1_ : Aside0 (Kd.S (Kd.slice 3 (Kd.int .i64)) 31 (((w28.setCell ⟨gb621, 0, none⟩ (.int .i64 ((rd_T37 t614 x9_3).f0))).setCell ⟨gb621, 1, none⟩ (.int .i64 ((rd_T37 t614 x9_3).f1))).setCell ⟨gb621, 2, none⟩ (.int .i64 ((rd_T37 t614 x9_3).f2))) w.heap.size (fun k_ => some k_ ≠ (.slice Ao16 t606.length co16 : Value).ownBlock) (.slice Ao14 t603.length co14) t603) := ⟨by (with_reducible repeat (first | apply Kd.S_alloc | apply Kd.S_drewN | apply Kd.S_drew)); exact Kd.S_mono (Kd.S_far (p := ⟨gb621, 2, none⟩) (Kd.S_far (p := ⟨gb621, 1, none⟩) (Kd.S_far (p := ⟨gb621, 0, none⟩) (Kd.S_types HO_611000.out BK621.out (by decide)) (fun _ hk => hk.2) (.int .i64 ((rd_T37 t614 x9_3).f0))) (fun _ hk => hk.2) (.int .i64 ((rd_T37 t614 x9_3).f1))) (fun _ hk => hk.2) (.int .i64 ((rd_T37 t614 x9_3).f2))) (fun _ hk => hk.1)⟩
                have n2_ : Aside0 (Kd.S (Kd.slice 3 (Kd.int .i64)) 31 (((w28.setCell ⟨gb621, 0, none⟩ (.int .i64 ((rd_T37 t614 x9_3).f0))).setCell ⟨gb621, 1, none⟩ (.int .i64 ((rd_T37 t614 x9_3).f1))).setCell ⟨gb621, 2, none⟩ (.int .i64 ((rd_T37 t614 x9_3).f2))) w.heap.size (fun k_ => some k_ ≠ (.slice Ao14 t603.length co14 : Value).ownBlock) (.slice Ao16 t606.length co16) t606) := ⟨by (with_reducible repeat (first | apply Kd.S_alloc | apply Kd.S_drewN | apply Kd.S_drew)); exact Kd.S_mono (Kd.S_far (p := ⟨gb621, 2, none⟩) (Kd.S_far (p := ⟨gb621, 1, none⟩) (Kd.S_far (p := ⟨gb621, 0, none⟩) (Kd.S_types HO_611001.out BK621.out (by decide)) (fun _ hk => hk.2) (.int .i64 ((rd_T37 t614 x9_3).f0))) (fun _ hk => hk.2) (.int .i64 ((rd_T37 t614 x9_3).f1))) (fun _ hk => hk.2) (.int .i64 ((rd_T37 t614 x9_3).f2))) (fun _ hk => hk.1)⟩
                have n3_ : Aside0 ((((w28.setCell ⟨gb621, 0, none⟩ (.int .i64 ((rd_T37 t614 x9_3).f0))).setCell ⟨gb621, 1, none⟩ (.int .i64 ((rd_T37 t614 x9_3).f1))).setCell ⟨gb621, 2, none⟩ (.int .i64 ((rd_T37 t614 x9_3).f2))).heap[gb610]? = some (.cells #[.slice Ao14 t603.length co14, .slice Ao16 t606.length co16] 26 (0, 0))) := ⟨by (with_reducible repeat (first | refine blk_drewN ?_ _ | refine blk_drew ?_ | refine blk_alloc ?_ _)); refine blk_far ?_ NB610_621.out _; (with_reducible repeat (first | refine blk_drewN ?_ _ | refine blk_drew ?_ | refine blk_alloc ?_ _)); refine blk_far ?_ NB610_621.out _; (with_reducible repeat (first | refine blk_drewN ?_ _ | refine blk_drew ?_ | refine blk_alloc ?_ _)); refine blk_far ?_ NB610_621.out _; exact KX_ BK610.out⟩
                have n4_ : Aside0 ((((w28.setCell ⟨gb621, 0, none⟩ (.int .i64 ((rd_T37 t614 x9_3).f0))).setCell ⟨gb621, 1, none⟩ (.int .i64 ((rd_T37 t614 x9_3).f1))).setCell ⟨gb621, 2, none⟩ (.int .i64 ((rd_T37 t614 x9_3).f2))).heap[gb621]? = some (.cells #[.int .i64 ((rd_T37 t614 x9_3).f0), .int .i64 ((rd_T37 t614 x9_3).f1), .int .i64 ((rd_T37 t614 x9_3).f2)] 37 (0, 0))) := ⟨by (with_reducible repeat (first | refine blk_drewN ?_ _ | refine blk_drew ?_ | refine blk_alloc ?_ _)); refine blk_put (cs := #[.int .i64 ((rd_T37 t614 x9_3).f0), .int .i64 ((rd_T37 t614 x9_3).f1), .int .i64 0]) ?_ 2 _ rfl; (with_reducible repeat (first | refine blk_drewN ?_ _ | refine blk_drew ?_ | refine blk_alloc ?_ _)); refine blk_put (cs := #[.int .i64 ((rd_T37 t614 x9_3).f0), .int .i64 0, .int .i64 0]) ?_ 1 _ rfl; (with_reducible repeat (first | refine blk_drewN ?_ _ | refine blk_drew ?_ | refine blk_alloc ?_ _)); refine blk_put (cs := #[.int .i64 0, .int .i64 0, .int .i64 0]) ?_ 0 _ rfl; exact KX_ BK621.out⟩
                have n5_ : Aside0 (Below w.heap.size w (((w28.setCell ⟨gb621, 0, none⟩ (.int .i64 ((rd_T37 t614 x9_3).f0))).setCell ⟨gb621, 1, none⟩ (.int .i64 ((rd_T37 t614 x9_3).f1))).setCell ⟨gb621, 2, none⟩ (.int .i64 ((rd_T37 t614 x9_3).f2)))) := ⟨B1_⟩
                (try clear HO_5)
                (try clear HO_611000)
                (try clear HO_611001)
                (try clear BK610)
                (try clear BK621)
                (try clear HB)
                generalize (((w28.setCell ⟨gb621, 0, none⟩ (.int .i64 ((rd_T37 t614 x9_3).f0))).setCell ⟨gb621, 1, none⟩ (.int .i64 ((rd_T37 t614 x9_3).f1))).setCell ⟨gb621, 2, none⟩ (.int .i64 ((rd_T37 t614 x9_3).f2))) = w45 at n0_ n1_ n2_ n3_ n4_ n5_ ⊢
                have HO_5 := n0_
                have HO_611000 := n1_
                have HO_611001 := n2_
                have BK610 := n3_
                have BK621 := n4_
                have HB := n5_
                clear n0_ n1_ n2_ n3_ n4_ n5_
                have n0_ := A_ (Kd.R_drew HO_5.out)
                have n1_ := A_ (Kd.S_drew HO_611000.out)
                have n2_ := A_ (Kd.S_drew HO_611001.out)
                have n3_ := A_ (blk_drew BK610.out)
                have n4_ := A_ (blk_drew BK621.out)
                have n5_ := A_ (below_drew1 HB.out)
                clear HO_5
                clear HO_611000
                clear HO_611001
                clear BK610
                clear BK621
                clear HB
                have HO_5 := n0_
                have HO_611000 := n1_
                have HO_611001 := n2_
                have BK610 := n3_
                have BK621 := n4_
                have HB := n5_
                clear n0_ n1_ n2_ n3_ n4_ n5_
                have p622 : 0 ≤ (((rd_T37 t614 x9_3).f1) : Int) := D_
                have q622 : ((rd_T37 t614 x9_3).f1) < (l0.length : Int) := D_
                obtain ⟨ad622, A622_0, c622_0, e622, hx622_0, hl622_0, hi622_0⟩ := at_L1 HR0.out ((rd_T37 t614 x9_3).f1) p622 q622
                have hw622_0 := hx622_0
                cases e622
                replace hx622_0 := (HB.out.cell (World.block_lt_of_cell? w _ hx622_0)).trans hx622_0
                have HR622_0 := Aside0.mk hi622_0
                have HC622_0 := Aside0.mk hl622_0
                clear hi622_0 hl622_0
                replace p622 := eq_true p622
                replace q622 := eq_true q622
                have p624 : 0 ≤ (((rd_T37 t614 x9_3).f1) : Int) := D_
                have q624 : ((rd_T37 t614 x9_3).f1) < (l0.length : Int) := D_
                obtain ⟨ad624, A624_0, c624_0, e624, hx624_0, hl624_0, hi624_0⟩ := at_L1 HR0.out ((rd_T37 t614 x9_3).f1) p624 q624
                have hw624_0 := hx624_0
                obtain rfl : ad622 = ad624 := (by injection e624)
                replace hx624_0 := (HB.out.cell (World.block_lt_of_cell? w _ hx624_0)).trans hx624_0
                have HR624_0 := Aside0.mk hi624_0
                have HC624_0 := Aside0.mk hl624_0
                clear hi624_0 hl624_0
                replace p624 := eq_true p624
                replace q624 := eq_true q624
                have ea_ := Option.some.inj (hx622_0.symm.trans hx624_0)
                injection ea_ with ea_ en_ ec_
                subst ea_
                subst ec_
                clear en_
                as_aux_lemma =>
                  refine start_ (n := 40) (S := fun w' => w'.cell? ⟨gb621, 0, none⟩ = some (.int .i64 ((rd_T37 t614 x9_3).f0)) ∧ w'.cell? ⟨gb621, 1, none⟩ = some (.int .i64 ((rd_T37 t614 x9_3).f1)) ∧ w'.cell? ⟨gb621, 2, none⟩ = some (.int .i64 ((rd_T37 t614 x9_3).f2)) ∧ w'.cell? (ad622.add (((rd_T37 t614 x9_3).f1)).toNat) = some (.slice A622_0 (rd_L1 l0 ((rd_T37 t614 x9_3).f1)).length c622_0) ∧ w'.cell? (ad622.add (((rd_T37 t614 x9_3).f1)).toNat) = some (.slice A622_0 (rd_L1 l0 ((rd_T37 t614 x9_3).f1)).length c622_0)) (ds := []) m50_0 (by kernel_rfl) rfl rfl ⟨(blk_cell BK621.out 0).trans rfl, (blk_cell BK621.out 1).trans rfl, (blk_cell BK621.out 2).trans rfl, ((HB.out.cell (World.block_lt_of_cell? w _ hw622_0)).trans hw622_0), ((HB.out.cell (World.block_lt_of_cell? w _ hw624_0)).trans hw624_0)⟩ (fun hHeld => ?_); refine with_tabW locksteplaw09_DepEnds.tab21 locksteplaw09_DepEnds.bits21 (fun HT_ HW_ => ?_)
                  generalize w45.drew = w46 at HO_5 HO_611000 HO_611001 BK610 BK621 HB HR622_0 HR624_0 hx622_0 hx624_0 hHeld ⊢
                  refine PU_ HT_ 0 71 m50_1 (h := ?_); refine TA_ HT_ HW_ 1 72 hHeld m50_2 (h := ?_); refine PU_ HT_ 2 73 m50_3 (h := ?_); refine PU_ HT_ 3 74 m50_4 (h := ?_); refine PU_ HT_ 4 75 m50_5 (h := ?_); refine PU_ HT_ 6 77 m50_36 (h := ?_); refine PU_ HT_ 7 78 m50_37 (h := ?_); refine TA_ HT_ HW_ 5 76 hHeld m50_6 (h := ?_); refine PU_ HT_ 8 79 m50_7 (h := ?_); refine PU_ HT_ 9 80 m50_8 (h := ?_); refine PU_ HT_ 10 81 m50_9 (h := ?_); refine PU_ HT_ 11 82 m50_10 (h := ?_); refine PU_ HT_ 12 83 m50_11 (h := ?_); refine PU_ HT_ 16 87 m50_38 (h := ?_); refine TA_ HT_ HW_ 13 84 hHeld m50_39 (h := ?_); refine PU_ HT_ 14 85 m50_40 (h := ?_); refine TA_ HT_ HW_ 15 86 hHeld m50_12 (h := ?_); refine TA_ HT_ HW_ 17 88 hHeld m50_13 (h := ?_)
                  refine one_ (i := 18) (N := some 89) m50_14 rfl rfl (one_of HT_.out (by kernel_rfl)) (by decide) (fun K hK => ?_)
                  refine goes_ Try.func18 (by kernel_rfl) rfl #[.slice A622_0 (rd_L1 l0 ((rd_T37 t614 x9_3).f1)).length c622_0, .int .i64 ((rd_T37 t614 x9_3).f2)] (by rfl) rfl rfl (by (try simp only [List.map_toArray, List.map_cons, List.map_nil]); first | done | rfl | (simp only [List.length_drop, List.length_take]; rfl)) ?_
                  with_reducible refine (lockstepref06_Has.calls k3 _ _ (rd_L1 l0 ((rd_T37 t614 x9_3).f1)) ((rd_T37 t614 x9_3).f2) true _ ?side1 ?side2 A39.out).mono ?_
                  (case side1 => exact CX_ (Kd.C_below HR622_0.out HB.out))
                  (case side2 => exact HC622_0.out)
                  rintro e w' ⟨rfl, ⟨nd, rfl⟩⟩
                  refine ⟨_, rfl, ?_⟩
                  refine hK.out _ _ ⟨(blk_cell BK621.out 0).trans rfl, (blk_cell BK621.out 1).trans rfl, (blk_cell BK621.out 2).trans rfl, ((HB.out.cell (World.block_lt_of_cell? w _ hw622_0)).trans hw622_0), ((HB.out.cell (World.block_lt_of_cell? w _ hw624_0)).trans hw624_0)⟩ (fun hHeld => ?_)
                  clear hK K
                  refine norm_ (a' := ?_) ?_ ?_
                  rotate_left
                  ·show Act.put _ (some 89) _ = _
                   simp only [Act.put, List.setIfInBounds_toArray, List.set_cons_zero, List.set_cons_succ, i64_w, i32_w]
                   rfl
                  refine PU_ HT_ 19 90 m50_15 (h := ?_); refine PU_ HT_ 20 91 m50_16 (h := ?_); refine PU_ HT_ 21 92 m50_17 (h := ?_); refine PU_ HT_ 22 93 m50_18 (h := ?_); refine PU_ HT_ 23 94 m50_19 (h := ?_); refine PU_ HT_ 24 95 m50_20 (h := ?_); refine PU_ HT_ 26 97 #[T_,T_,T_,T_,T_,T_,T_,T_,T_,T_,T_,T_,T_,T_,T_,T_,T_,T_,T_,T_,T_,T_,T_,T_,T_,F_,T_,F_,F_,F_,F_,F_,F_,F_,F_,F_,F_,F_,F_,F_] (h := ?_); refine TA_ HT_ HW_ 25 96 hHeld m50_22 (h := ?_); refine TA_ HT_ HW_ 27 98 hHeld m50_23 (h := ?_); refine PU_ HT_ 28 99 m50_24 (h := ?_); refine PU_ HT_ 29 100 m50_25 (h := ?_); refine PU_ HT_ 30 101 m50_26 (h := ?_); refine PU_ HT_ 31 102 m50_27 (h := ?_); refine TA_ HT_ HW_ 32 103 hHeld m50_28 (h := ?_); refine PU_ HT_ 33 104 m50_29 (h := ?_); refine TA_ HT_ HW_ 34 105 hHeld m50_30 (h := ?_); refine PU_ HT_ 35 106 m50_31 (h := ?_); refine PU_ HT_ 36 107 m50_32 (h := ?_); refine PU_ HT_ 37 108 m50_33 (h := ?_); refine PU_ HT_ 38 109 m50_34 (h := ?_); refine PU_ HT_ 39 110 m50_35 (h := ?_)
                  refine done_ (done_of HT_.out (by kernel_rfl)) ?_
                  try go_wp2
                  go_meet
                  case rel => exact ⟨_, (decide (((rd_L1 l0 ((rd_T37 t614 x9_3).f1)).length : Int) < 2)), (by first | rfl | exact congrArg (fun b => Ending.returned (Value.bool b)) HR_.out | (simp; done) | (simp [*]; done)), H', ⟨by have := HJ3.out; have := HK2.out; have := HK3.out; first | omega | exact Nat.le_refl _⟩, ⟨by exact RM_ HO_5.out⟩, ⟨by exact SM_ HO_611000.out⟩, ⟨by exact SM_ HO_611001.out⟩, ⟨by exact KX_ BK610.out⟩, ⟨by exact KX_ BK621.out⟩, ⟨B1_⟩⟩
               replace c41 := Bool.eq_false_iff.mpr c41
               subst c41
               have H1 : (locksteplaw09_DepEnds.j4 k3 l0 t614 false x9_3 false ((rd_T37 t614 x9_3).f0) ((rd_T37 t614 x9_3).f1) ((rd_T37 t614 x9_3).f2)) = some true := by rw [if_neg (show ¬ (false = true) by decide)] at H; exact H
               clear H
               have H := H1
               clear H1
               have H' := Aside0.mk H
               clear H
               try go_wp2
               have n0_ : Aside0 (Kd.R k37 37 (((w28.setCell ⟨gb621, 0, none⟩ (.int .i64 ((rd_T37 t614 x9_3).f0))).setCell ⟨gb621, 1, none⟩ (.int .i64 ((rd_T37 t614 x9_3).f1))).setCell ⟨gb621, 2, none⟩ (.int .i64 ((rd_T37 t614 x9_3).f2))) w.heap.size (fun k_ => k_ ≠ gb621) (.slice (some ad620) t614.length co27) t614) := ⟨by (with_reducible repeat (first | apply Kd.R_alloc | apply Kd.R_drewN | apply Kd.R_drew)); exact Kd.R_mono (Kd.R_far (p := ⟨gb621, 2, none⟩) (Kd.R_far (p := ⟨gb621, 1, none⟩) (Kd.R_far (p := ⟨gb621, 0, none⟩) (Kd.R_mono HO_5.out (fun k_ hk => (⟨hk, hk.2⟩ : _ ∧ k_ ≠ gb621))) (fun _ hk => hk.2) (.int .i64 ((rd_T37 t614 x9_3).f0))) (fun _ hk => hk.2) (.int .i64 ((rd_T37 t614 x9_3).f1))) (fun _ hk => hk.2) (.int .i64 ((rd_T37 t614 x9_3).f2))) (fun _ hk => hk.1.2)⟩
               have n1_ : Aside0 (Kd.S (Kd.slice 3 (Kd.int .i64)) 31 (((w28.setCell ⟨gb621, 0, none⟩ (.int .i64 ((rd_T37 t614 x9_3).f0))).setCell ⟨gb621, 1, none⟩ (.int .i64 ((rd_T37 t614 x9_3).f1))).setCell ⟨gb621, 2, none⟩ (.int .i64 ((rd_T37 t614 x9_3).f2))) w.heap.size (fun k_ => some k_ ≠ (.slice Ao16 t606.length co16 : Value).ownBlock) (.slice Ao14 t603.length co14) t603) := ⟨by (with_reducible repeat (first | apply Kd.S_alloc | apply Kd.S_drewN | apply Kd.S_drew)); exact Kd.S_mono (Kd.S_far (p := ⟨gb621, 2, none⟩) (Kd.S_far (p := ⟨gb621, 1, none⟩) (Kd.S_far (p := ⟨gb621, 0, none⟩) (Kd.S_types HO_611000.out BK621.out (by decide)) (fun _ hk => hk.2) (.int .i64 ((rd_T37 t614 x9_3).f0))) (fun _ hk => hk.2) (.int .i64 ((rd_T37 t614 x9_3).f1))) (fun _ hk => hk.2) (.int .i64 ((rd_T37 t614 x9_3).f2))) (fun _ hk => hk.1)⟩
               have n2_ : Aside0 (Kd.S (Kd.slice 3 (Kd.int .i64)) 31 (((w28.setCell ⟨gb621, 0, none⟩ (.int .i64 ((rd_T37 t614 x9_3).f0))).setCell ⟨gb621, 1, none⟩ (.int .i64 ((rd_T37 t614 x9_3).f1))).setCell ⟨gb621, 2, none⟩ (.int .i64 ((rd_T37 t614 x9_3).f2))) w.heap.size (fun k_ => some k_ ≠ (.slice Ao14 t603.length co14 : Value).ownBlock) (.slice Ao16 t606.length co16) t606) := ⟨by (with_reducible repeat (first | apply Kd.S_alloc | apply Kd.S_drewN | apply Kd.S_drew)); exact Kd.S_mono (Kd.S_far (p := ⟨gb621, 2, none⟩) (Kd.S_far (p := ⟨gb621, 1, none⟩) (Kd.S_far (p := ⟨gb621, 0, none⟩) (Kd.S_types HO_611001.out BK621.out (by decide)) (fun _ hk => hk.2) (.int .i64 ((rd_T37 t614 x9_3).f0))) (fun _ hk => hk.2) (.int .i64 ((rd_T37 t614 x9_3).f1))) (fun _ hk => hk.2) (.int .i64 ((rd_T37 t614 x9_3).f2))) (fun _ hk => hk.1)⟩
               have n3_ : Aside0 ((((w28.setCell ⟨gb621, 0, none⟩ (.int .i64 ((rd_T37 t614 x9_3).f0))).setCell ⟨gb621, 1, none⟩ (.int .i64 ((rd_T37 t614 x9_3).f1))).setCell ⟨gb621, 2, none⟩ (.int .i64 ((rd_T37 t614 x9_3).f2))).heap[gb610]? = some (.cells #[.slice Ao14 t603.length co14, .slice Ao16 t606.length co16] 26 (0, 0))) := ⟨by (with_reducible repeat (first | refine blk_drewN ?_ _ | refine blk_drew ?_ | refine blk_alloc ?_ _)); refine blk_far ?_ NB610_621.out _; (with_reducible repeat (first | refine blk_drewN ?_ _ | refine blk_drew ?_ | refine blk_alloc ?_ _)); refine blk_far ?_ NB610_621.out _; (with_reducible repeat (first | refine blk_drewN ?_ _ | refine blk_drew ?_ | refine blk_alloc ?_ _)); refine blk_far ?_ NB610_621.out _; exact KX_ BK610.out⟩
               have n4_ : Aside0 ((((w28.setCell ⟨gb621, 0, none⟩ (.int .i64 ((rd_T37 t614 x9_3).f0))).setCell ⟨gb621, 1, none⟩ (.int .i64 ((rd_T37 t614 x9_3).f1))).setCell ⟨gb621, 2, none⟩ (.int .i64 ((rd_T37 t614 x9_3).f2))).heap[gb621]? = some (.cells #[.int .i64 ((rd_T37 t614 x9_3).f0), .int .i64 ((rd_T37 t614 x9_3).f1), .int .i64 ((rd_T37 t614 x9_3).f2)] 37 (0, 0))) := ⟨by (with_reducible repeat (first | refine blk_drewN ?_ _ | refine blk_drew ?_ | refine blk_alloc ?_ _)); refine blk_put (cs := #[.int .i64 ((rd_T37 t614 x9_3).f0), .int .i64 ((rd_T37 t614 x9_3).f1), .int .i64 0]) ?_ 2 _ rfl; (with_reducible repeat (first | refine blk_drewN ?_ _ | refine blk_drew ?_ | refine blk_alloc ?_ _)); refine blk_put (cs := #[.int .i64 ((rd_T37 t614 x9_3).f0), .int .i64 0, .int .i64 0]) ?_ 1 _ rfl; (with_reducible repeat (first | refine blk_drewN ?_ _ | refine blk_drew ?_ | refine blk_alloc ?_ _)); refine blk_put (cs := #[.int .i64 0, .int .i64 0, .int .i64 0]) ?_ 0 _ rfl; exact KX_ BK621.out⟩
               have n5_ : Aside0 (Below w.heap.size w (((w28.setCell ⟨gb621, 0, none⟩ (.int .i64 ((rd_T37 t614 x9_3).f0))).setCell ⟨gb621, 1, none⟩ (.int .i64 ((rd_T37 t614 x9_3).f1))).setCell ⟨gb621, 2, none⟩ (.int .i64 ((rd_T37 t614 x9_3).f2)))) := ⟨B1_⟩
               (try clear HO_5)
               (try clear HO_611000)
               (try clear HO_611001)
               (try clear BK610)
               (try clear BK621)
               (try clear HB)
               generalize (((w28.setCell ⟨gb621, 0, none⟩ (.int .i64 ((rd_T37 t614 x9_3).f0))).setCell ⟨gb621, 1, none⟩ (.int .i64 ((rd_T37 t614 x9_3).f1))).setCell ⟨gb621, 2, none⟩ (.int .i64 ((rd_T37 t614 x9_3).f2))) = w47 at n0_ n1_ n2_ n3_ n4_ n5_ ⊢
               have HO_5 := n0_
               have HO_611000 := n1_
               have HO_611001 := n2_
               have BK610 := n3_
               have BK621 := n4_
               have HB := n5_
               clear n0_ n1_ n2_ n3_ n4_ n5_
               have n0_ := A_ (Kd.R_drew HO_5.out)
               have n1_ := A_ (Kd.S_drew HO_611000.out)
               have n2_ := A_ (Kd.S_drew HO_611001.out)
               have n3_ := A_ (blk_drew BK610.out)
               have n4_ := A_ (blk_drew BK621.out)
               have n5_ := A_ (below_drew1 HB.out)
               clear HO_5
               clear HO_611000
               clear HO_611001
               clear BK610
               clear BK621
               clear HB
               have HO_5 := n0_
               have HO_611000 := n1_
               have HO_611001 := n2_
               have BK610 := n3_
               have BK621 := n4_
               have HB := n5_
               clear n0_ n1_ n2_ n3_ n4_ n5_
               have p622 : 0 ≤ (((rd_T37 t614 x9_3).f1) : Int) := D_
               have q622 : ((rd_T37 t614 x9_3).f1) < (l0.length : Int) := D_
               obtain ⟨ad622, A622_0, c622_0, e622, hx622_0, hl622_0, hi622_0⟩ := at_L1 HR0.out ((rd_T37 t614 x9_3).f1) p622 q622
               have hw622_0 := hx622_0
               cases e622
               replace hx622_0 := (HB.out.cell (World.block_lt_of_cell? w _ hx622_0)).trans hx622_0
               have HR622_0 := Aside0.mk hi622_0
               have HC622_0 := Aside0.mk hl622_0
               clear hi622_0 hl622_0
               replace p622 := eq_true p622
               replace q622 := eq_true q622
               as_aux_lemma =>
                 refine start_ (n := 40) (S := fun w' => w'.cell? ⟨gb621, 0, none⟩ = some (.int .i64 ((rd_T37 t614 x9_3).f0)) ∧ w'.cell? ⟨gb621, 1, none⟩ = some (.int .i64 ((rd_T37 t614 x9_3).f1)) ∧ w'.cell? ⟨gb621, 2, none⟩ = some (.int .i64 ((rd_T37 t614 x9_3).f2)) ∧ w'.cell? (ad622.add (((rd_T37 t614 x9_3).f1)).toNat) = some (.slice A622_0 (rd_L1 l0 ((rd_T37 t614 x9_3).f1)).length c622_0)) (ds := []) m50_0 (by kernel_rfl) rfl rfl ⟨(blk_cell BK621.out 0).trans rfl, (blk_cell BK621.out 1).trans rfl, (blk_cell BK621.out 2).trans rfl, ((HB.out.cell (World.block_lt_of_cell? w _ hw622_0)).trans hw622_0)⟩ (fun hHeld => ?_); refine with_tabW locksteplaw09_DepEnds.tab21 locksteplaw09_DepEnds.bits21 (fun HT_ HW_ => ?_)
                 generalize w47.drew = w48 at HO_5 HO_611000 HO_611001 BK610 BK621 HB HR622_0 hx622_0 hHeld ⊢
                 refine PU_ HT_ 0 71 m50_1 (h := ?_); refine TA_ HT_ HW_ 1 72 hHeld m50_2 (h := ?_); refine PU_ HT_ 2 73 m50_3 (h := ?_); refine PU_ HT_ 3 74 m50_4 (h := ?_); refine PU_ HT_ 4 75 m50_5 (h := ?_); refine PU_ HT_ 6 77 m50_36 (h := ?_); refine PU_ HT_ 7 78 m50_37 (h := ?_); refine TA_ HT_ HW_ 5 76 hHeld m50_6 (h := ?_); refine PU_ HT_ 8 79 m50_7 (h := ?_); refine PU_ HT_ 9 80 m50_8 (h := ?_); refine PU_ HT_ 10 81 m50_9 (h := ?_); refine PU_ HT_ 11 82 m50_10 (h := ?_); refine PU_ HT_ 12 83 m50_11 (h := ?_); refine PU_ HT_ 16 87 m50_38 (h := ?_); refine TA_ HT_ HW_ 13 84 hHeld m50_39 (h := ?_); refine PU_ HT_ 14 85 m50_40 (h := ?_); refine TA_ HT_ HW_ 15 86 hHeld m50_12 (h := ?_); refine TA_ HT_ HW_ 17 88 hHeld m50_13 (h := ?_)
                 refine one_ (i := 18) (N := some 89) m50_14 rfl rfl (one_of HT_.out (by kernel_rfl)) (by decide) (fun K hK => ?_)
                 refine goes_ Try.func18 (by kernel_rfl) rfl #[.slice A622_0 (rd_L1 l0 ((rd_T37 t614 x9_3).f1)).length c622_0, .int .i64 ((rd_T37 t614 x9_3).f2)] (by rfl) rfl rfl (by (try simp only [List.map_toArray, List.map_cons, List.map_nil]); first | done | rfl | (simp only [List.length_drop, List.length_take]; rfl)) ?_
                 with_reducible refine (lockstepref06_Has.calls k3 _ _ (rd_L1 l0 ((rd_T37 t614 x9_3).f1)) ((rd_T37 t614 x9_3).f2) true _ ?side1 ?side2 A39.out).mono ?_
                 (case side1 => exact CX_ (Kd.C_below HR622_0.out HB.out))
                 (case side2 => exact HC622_0.out)
                 rintro e w' ⟨rfl, ⟨nd, rfl⟩⟩
                 refine ⟨_, rfl, ?_⟩
                 refine hK.out _ _ ⟨(blk_cell BK621.out 0).trans rfl, (blk_cell BK621.out 1).trans rfl, (blk_cell BK621.out 2).trans rfl, ((HB.out.cell (World.block_lt_of_cell? w _ hw622_0)).trans hw622_0)⟩ (fun hHeld => ?_)
                 clear hK K
                 refine norm_ (a' := ?_) ?_ ?_
                 rotate_left
                 ·show Act.put _ (some 89) _ = _
                  simp only [Act.put, List.setIfInBounds_toArray, List.set_cons_zero, List.set_cons_succ, i64_w, i32_w]
                  rfl
                 refine PU_ HT_ 19 90 m50_15 (h := ?_); refine PU_ HT_ 20 91 m50_16 (h := ?_); refine PU_ HT_ 21 92 m50_17 (h := ?_); refine PU_ HT_ 22 93 m50_18 (h := ?_); refine PU_ HT_ 23 94 m50_19 (h := ?_); refine PO_ HT_ 24 95 m50_20 (h := ?_); refine PO_ HT_ 25 96 m50_21 (h := ?_); refine PO_ HT_ 26 97 m50_22 (h := ?_); refine PO_ HT_ 27 98 m50_23 (h := ?_); refine PO_ HT_ 28 99 m50_24 (h := ?_); refine PO_ HT_ 29 100 m50_25 (h := ?_); refine PO_ HT_ 30 101 m50_26 (h := ?_); refine PO_ HT_ 31 102 m50_27 (h := ?_); refine PO_ HT_ 32 103 m50_28 (h := ?_); refine PO_ HT_ 33 104 m50_29 (h := ?_); refine PO_ HT_ 34 105 m50_30 (h := ?_); refine PO_ HT_ 35 106 m50_31 (h := ?_); refine PO_ HT_ 36 107 m50_32 (h := ?_); refine PO_ HT_ 37 108 m50_33 (h := ?_); refine PU_ HT_ 38 109 m50_34 (h := ?_); refine PU_ HT_ 39 110 m50_35 (h := ?_)
                 refine done_ (done_of HT_.out (by kernel_rfl)) ?_
                 try go_wp2
                 go_meet
                 case rel => exact ⟨_, (false), (by first | rfl | exact congrArg (fun b => Ending.returned (Value.bool b)) HR_.out | (simp; done) | (simp [*]; done)), H', ⟨by have := HJ3.out; have := HK2.out; have := HK3.out; first | omega | exact Nat.le_refl _⟩, ⟨by exact RM_ HO_5.out⟩, ⟨by exact SM_ HO_611000.out⟩, ⟨by exact SM_ HO_611001.out⟩, ⟨by exact KX_ BK610.out⟩, ⟨by exact KX_ BK621.out⟩, ⟨B1_⟩⟩
              replace c40 := Bool.eq_false_iff.mpr c40
              subst c40
              have H1 : (locksteplaw09_DepEnds.j4 k3 l0 t614 x6_2 x9_3 true ((rd_T37 t614 x9_3).f0) ((rd_T37 t614 x9_3).f1) ((rd_T37 t614 x9_3).f2)) = some true := by rw [if_neg (show ¬ (false = true) by decide)] at H; exact H
              clear H
              have H := H1
              clear H1
              have H' := Aside0.mk H
              clear H
              try go_wp2
              have n0_ : Aside0 (Kd.R k37 37 (((w28.setCell ⟨gb621, 0, none⟩ (.int .i64 ((rd_T37 t614 x9_3).f0))).setCell ⟨gb621, 1, none⟩ (.int .i64 ((rd_T37 t614 x9_3).f1))).setCell ⟨gb621, 2, none⟩ (.int .i64 ((rd_T37 t614 x9_3).f2))) w.heap.size (fun k_ => k_ ≠ gb621) (.slice (some ad620) t614.length co27) t614) := ⟨by (with_reducible repeat (first | apply Kd.R_alloc | apply Kd.R_drewN | apply Kd.R_drew)); exact Kd.R_mono (Kd.R_far (p := ⟨gb621, 2, none⟩) (Kd.R_far (p := ⟨gb621, 1, none⟩) (Kd.R_far (p := ⟨gb621, 0, none⟩) (Kd.R_mono HO_5.out (fun k_ hk => (⟨hk, hk.2⟩ : _ ∧ k_ ≠ gb621))) (fun _ hk => hk.2) (.int .i64 ((rd_T37 t614 x9_3).f0))) (fun _ hk => hk.2) (.int .i64 ((rd_T37 t614 x9_3).f1))) (fun _ hk => hk.2) (.int .i64 ((rd_T37 t614 x9_3).f2))) (fun _ hk => hk.1.2)⟩
              have n1_ : Aside0 (Kd.S (Kd.slice 3 (Kd.int .i64)) 31 (((w28.setCell ⟨gb621, 0, none⟩ (.int .i64 ((rd_T37 t614 x9_3).f0))).setCell ⟨gb621, 1, none⟩ (.int .i64 ((rd_T37 t614 x9_3).f1))).setCell ⟨gb621, 2, none⟩ (.int .i64 ((rd_T37 t614 x9_3).f2))) w.heap.size (fun k_ => some k_ ≠ (.slice Ao16 t606.length co16 : Value).ownBlock) (.slice Ao14 t603.length co14) t603) := ⟨by (with_reducible repeat (first | apply Kd.S_alloc | apply Kd.S_drewN | apply Kd.S_drew)); exact Kd.S_mono (Kd.S_far (p := ⟨gb621, 2, none⟩) (Kd.S_far (p := ⟨gb621, 1, none⟩) (Kd.S_far (p := ⟨gb621, 0, none⟩) (Kd.S_types HO_611000.out BK621.out (by decide)) (fun _ hk => hk.2) (.int .i64 ((rd_T37 t614 x9_3).f0))) (fun _ hk => hk.2) (.int .i64 ((rd_T37 t614 x9_3).f1))) (fun _ hk => hk.2) (.int .i64 ((rd_T37 t614 x9_3).f2))) (fun _ hk => hk.1)⟩
              have n2_ : Aside0 (Kd.S (Kd.slice 3 (Kd.int .i64)) 31 (((w28.setCell ⟨gb621, 0, none⟩ (.int .i64 ((rd_T37 t614 x9_3).f0))).setCell ⟨gb621, 1, none⟩ (.int .i64 ((rd_T37 t614 x9_3).f1))).setCell ⟨gb621, 2, none⟩ (.int .i64 ((rd_T37 t614 x9_3).f2))) w.heap.size (fun k_ => some k_ ≠ (.slice Ao14 t603.length co14 : Value).ownBlock) (.slice Ao16 t606.length co16) t606) := ⟨by (with_reducible repeat (first | apply Kd.S_alloc | apply Kd.S_drewN | apply Kd.S_drew)); exact Kd.S_mono (Kd.S_far (p := ⟨gb621, 2, none⟩) (Kd.S_far (p := ⟨gb621, 1, none⟩) (Kd.S_far (p := ⟨gb621, 0, none⟩) (Kd.S_types HO_611001.out BK621.out (by decide)) (fun _ hk => hk.2) (.int .i64 ((rd_T37 t614 x9_3).f0))) (fun _ hk => hk.2) (.int .i64 ((rd_T37 t614 x9_3).f1))) (fun _ hk => hk.2) (.int .i64 ((rd_T37 t614 x9_3).f2))) (fun _ hk => hk.1)⟩
              have n3_ : Aside0 ((((w28.setCell ⟨gb621, 0, none⟩ (.int .i64 ((rd_T37 t614 x9_3).f0))).setCell ⟨gb621, 1, none⟩ (.int .i64 ((rd_T37 t614 x9_3).f1))).setCell ⟨gb621, 2, none⟩ (.int .i64 ((rd_T37 t614 x9_3).f2))).heap[gb610]? = some (.cells #[.slice Ao14 t603.length co14, .slice Ao16 t606.length co16] 26 (0, 0))) := ⟨by (with_reducible repeat (first | refine blk_drewN ?_ _ | refine blk_drew ?_ | refine blk_alloc ?_ _)); refine blk_far ?_ NB610_621.out _; (with_reducible repeat (first | refine blk_drewN ?_ _ | refine blk_drew ?_ | refine blk_alloc ?_ _)); refine blk_far ?_ NB610_621.out _; (with_reducible repeat (first | refine blk_drewN ?_ _ | refine blk_drew ?_ | refine blk_alloc ?_ _)); refine blk_far ?_ NB610_621.out _; exact KX_ BK610.out⟩
              have n4_ : Aside0 ((((w28.setCell ⟨gb621, 0, none⟩ (.int .i64 ((rd_T37 t614 x9_3).f0))).setCell ⟨gb621, 1, none⟩ (.int .i64 ((rd_T37 t614 x9_3).f1))).setCell ⟨gb621, 2, none⟩ (.int .i64 ((rd_T37 t614 x9_3).f2))).heap[gb621]? = some (.cells #[.int .i64 ((rd_T37 t614 x9_3).f0), .int .i64 ((rd_T37 t614 x9_3).f1), .int .i64 ((rd_T37 t614 x9_3).f2)] 37 (0, 0))) := ⟨by (with_reducible repeat (first | refine blk_drewN ?_ _ | refine blk_drew ?_ | refine blk_alloc ?_ _)); refine blk_put (cs := #[.int .i64 ((rd_T37 t614 x9_3).f0), .int .i64 ((rd_T37 t614 x9_3).f1), .int .i64 0]) ?_ 2 _ rfl; (with_reducible repeat (first | refine blk_drewN ?_ _ | refine blk_drew ?_ | refine blk_alloc ?_ _)); refine blk_put (cs := #[.int .i64 ((rd_T37 t614 x9_3).f0), .int .i64 0, .int .i64 0]) ?_ 1 _ rfl; (with_reducible repeat (first | refine blk_drewN ?_ _ | refine blk_drew ?_ | refine blk_alloc ?_ _)); refine blk_put (cs := #[.int .i64 0, .int .i64 0, .int .i64 0]) ?_ 0 _ rfl; exact KX_ BK621.out⟩
              have n5_ : Aside0 (Below w.heap.size w (((w28.setCell ⟨gb621, 0, none⟩ (.int .i64 ((rd_T37 t614 x9_3).f0))).setCell ⟨gb621, 1, none⟩ (.int .i64 ((rd_T37 t614 x9_3).f1))).setCell ⟨gb621, 2, none⟩ (.int .i64 ((rd_T37 t614 x9_3).f2)))) := ⟨B1_⟩
              (try clear HO_5)
              (try clear HO_611000)
              (try clear HO_611001)
              (try clear BK610)
              (try clear BK621)
              (try clear HB)
              generalize (((w28.setCell ⟨gb621, 0, none⟩ (.int .i64 ((rd_T37 t614 x9_3).f0))).setCell ⟨gb621, 1, none⟩ (.int .i64 ((rd_T37 t614 x9_3).f1))).setCell ⟨gb621, 2, none⟩ (.int .i64 ((rd_T37 t614 x9_3).f2))) = w49 at n0_ n1_ n2_ n3_ n4_ n5_ ⊢
              have HO_5 := n0_
              have HO_611000 := n1_
              have HO_611001 := n2_
              have BK610 := n3_
              have BK621 := n4_
              have HB := n5_
              clear n0_ n1_ n2_ n3_ n4_ n5_
              have n0_ := A_ (Kd.R_drew HO_5.out)
              have n1_ := A_ (Kd.S_drew HO_611000.out)
              have n2_ := A_ (Kd.S_drew HO_611001.out)
              have n3_ := A_ (blk_drew BK610.out)
              have n4_ := A_ (blk_drew BK621.out)
              have n5_ := A_ (below_drew1 HB.out)
              clear HO_5
              clear HO_611000
              clear HO_611001
              clear BK610
              clear BK621
              clear HB
              have HO_5 := n0_
              have HO_611000 := n1_
              have HO_611001 := n2_
              have BK610 := n3_
              have BK621 := n4_
              have HB := n5_
              clear n0_ n1_ n2_ n3_ n4_ n5_
              have p622 : 0 ≤ (((rd_T37 t614 x9_3).f1) : Int) := D_
              have q622 : ((rd_T37 t614 x9_3).f1) < (l0.length : Int) := D_
              obtain ⟨ad622, A622_0, c622_0, e622, hx622_0, hl622_0, hi622_0⟩ := at_L1 HR0.out ((rd_T37 t614 x9_3).f1) p622 q622
              have hw622_0 := hx622_0
              cases e622
              replace hx622_0 := (HB.out.cell (World.block_lt_of_cell? w _ hx622_0)).trans hx622_0
              have HR622_0 := Aside0.mk hi622_0
              have HC622_0 := Aside0.mk hl622_0
              clear hi622_0 hl622_0
              replace p622 := eq_true p622
              replace q622 := eq_true q622
              as_aux_lemma =>
                refine start_ (n := 40) (S := fun w' => w'.cell? ⟨gb621, 0, none⟩ = some (.int .i64 ((rd_T37 t614 x9_3).f0)) ∧ w'.cell? ⟨gb621, 1, none⟩ = some (.int .i64 ((rd_T37 t614 x9_3).f1)) ∧ w'.cell? ⟨gb621, 2, none⟩ = some (.int .i64 ((rd_T37 t614 x9_3).f2)) ∧ w'.cell? (ad622.add (((rd_T37 t614 x9_3).f1)).toNat) = some (.slice A622_0 (rd_L1 l0 ((rd_T37 t614 x9_3).f1)).length c622_0)) (ds := []) m50_0 (by kernel_rfl) rfl rfl ⟨(blk_cell BK621.out 0).trans rfl, (blk_cell BK621.out 1).trans rfl, (blk_cell BK621.out 2).trans rfl, ((HB.out.cell (World.block_lt_of_cell? w _ hw622_0)).trans hw622_0)⟩ (fun hHeld => ?_); refine with_tabW locksteplaw09_DepEnds.tab21 locksteplaw09_DepEnds.bits21 (fun HT_ HW_ => ?_)
                generalize w49.drew = w50 at HO_5 HO_611000 HO_611001 BK610 BK621 HB HR622_0 hx622_0 hHeld ⊢
                refine PU_ HT_ 0 71 m50_1 (h := ?_); refine TA_ HT_ HW_ 1 72 hHeld m50_2 (h := ?_); refine PU_ HT_ 2 73 m50_3 (h := ?_); refine PU_ HT_ 3 74 m50_4 (h := ?_); refine PU_ HT_ 4 75 m50_5 (h := ?_); refine PU_ HT_ 6 77 m50_36 (h := ?_); refine PU_ HT_ 7 78 m50_37 (h := ?_); refine TA_ HT_ HW_ 5 76 hHeld m50_6 (h := ?_); refine PU_ HT_ 8 79 m50_7 (h := ?_); refine PU_ HT_ 9 80 m50_8 (h := ?_); refine PU_ HT_ 10 81 m50_9 (h := ?_); refine PU_ HT_ 11 82 m50_10 (h := ?_); refine PU_ HT_ 12 83 m50_11 (h := ?_); refine PU_ HT_ 16 87 m50_38 (h := ?_); refine TA_ HT_ HW_ 13 84 hHeld m50_39 (h := ?_); refine PU_ HT_ 14 85 m50_40 (h := ?_); refine TA_ HT_ HW_ 15 86 hHeld m50_12 (h := ?_); refine TA_ HT_ HW_ 17 88 hHeld m50_13 (h := ?_)
                refine one_ (i := 18) (N := some 89) m50_14 rfl rfl (one_of HT_.out (by kernel_rfl)) (by decide) (fun K hK => ?_)
                refine goes_ Try.func18 (by kernel_rfl) rfl #[.slice A622_0 (rd_L1 l0 ((rd_T37 t614 x9_3).f1)).length c622_0, .int .i64 ((rd_T37 t614 x9_3).f2)] (by rfl) rfl rfl (by (try simp only [List.map_toArray, List.map_cons, List.map_nil]); first | done | rfl | (simp only [List.length_drop, List.length_take]; rfl)) ?_
                with_reducible refine (lockstepref06_Has.calls k3 _ _ (rd_L1 l0 ((rd_T37 t614 x9_3).f1)) ((rd_T37 t614 x9_3).f2) false _ ?side1 ?side2 A39.out).mono ?_
                (case side1 => exact CX_ (Kd.C_below HR622_0.out HB.out))
                (case side2 => exact HC622_0.out)
                rintro e w' ⟨rfl, ⟨nd, rfl⟩⟩
                refine ⟨_, rfl, ?_⟩
                refine hK.out _ _ ⟨(blk_cell BK621.out 0).trans rfl, (blk_cell BK621.out 1).trans rfl, (blk_cell BK621.out 2).trans rfl, ((HB.out.cell (World.block_lt_of_cell? w _ hw622_0)).trans hw622_0)⟩ (fun hHeld => ?_)
                clear hK K
                refine norm_ (a' := ?_) ?_ ?_
                rotate_left
                ·show Act.put _ (some 89) _ = _
                 simp only [Act.put, List.setIfInBounds_toArray, List.set_cons_zero, List.set_cons_succ, i64_w, i32_w]
                 rfl
                refine PU_ HT_ 19 90 m50_15 (h := ?_); refine PU_ HT_ 20 91 m50_16 (h := ?_); refine PU_ HT_ 21 92 m50_17 (h := ?_); refine PO_ HT_ 22 93 m50_18 (h := ?_); refine PO_ HT_ 23 94 m50_19 (h := ?_); refine PO_ HT_ 24 95 m50_20 (h := ?_); refine PO_ HT_ 25 96 m50_21 (h := ?_); refine PO_ HT_ 26 97 m50_22 (h := ?_); refine PO_ HT_ 27 98 m50_23 (h := ?_); refine PO_ HT_ 28 99 m50_24 (h := ?_); refine PO_ HT_ 29 100 m50_25 (h := ?_); refine PO_ HT_ 30 101 m50_26 (h := ?_); refine PO_ HT_ 31 102 m50_27 (h := ?_); refine PO_ HT_ 32 103 m50_28 (h := ?_); refine PO_ HT_ 33 104 m50_29 (h := ?_); refine PO_ HT_ 34 105 m50_30 (h := ?_); refine PO_ HT_ 35 106 m50_31 (h := ?_); refine PO_ HT_ 36 107 m50_32 (h := ?_); refine PO_ HT_ 37 108 m50_33 (h := ?_); refine PO_ HT_ 38 109 m50_34 (h := ?_); refine PU_ HT_ 39 110 m50_35 (h := ?_)
                refine done_ (done_of HT_.out (by kernel_rfl)) ?_
                try go_wp2
                go_meet
                case rel => exact ⟨_, (true), (by first | rfl | exact congrArg (fun b => Ending.returned (Value.bool b)) HR_.out | (simp; done) | (simp [*]; done)), H', ⟨by have := HJ3.out; have := HK2.out; have := HK3.out; first | omega | exact Nat.le_refl _⟩, ⟨by exact RM_ HO_5.out⟩, ⟨by exact SM_ HO_611000.out⟩, ⟨by exact SM_ HO_611001.out⟩, ⟨by exact KX_ BK610.out⟩, ⟨by exact KX_ BK621.out⟩, ⟨B1_⟩⟩
             rw [if_neg c38] at H
             exact absurd H (by simp)
            rw [if_neg c37] at H
            exact absurd H (by simp)
           case rest =>
            clear HC26
            obtain ⟨kq, x110_25, rfl, HA, HJ25, HO_5, HO_611000, HO_611001, BK610, BK621, HB⟩ := hcut
            cases kq with
            | zero => exact absurd HA.out (by simp [locksteplaw09_DepEnds.j4])
            | succ kj25 =>
             have H := HA.out
             clear HA
             simp only [locksteplaw09_DepEnds.j4] at H
             by_cases c51 : x110_25 = true
             ·subst c51
              have H1 : (some false) = some true := by rw [if_pos rfl] at H; exact H
              clear H
              have H := H1
              clear H1
              exact absurd H (by simp)
             replace c51 := Bool.eq_false_iff.mpr c51
             subst c51
             have H1 : (if x9_3 > 0 then (if 0 ≤ (wrap64 (x9_3 - 1)) then (if (wrap64 (x9_3 - 1)) < (t614.length : Int) then (if ((rd_T37 t614 (wrap64 (x9_3 - 1))).f0) > ((rd_T37 t614 x9_3).f0) then (some false) else (if ((rd_T37 t614 (wrap64 (x9_3 - 1))).f0) = ((rd_T37 t614 x9_3).f0) then (if ((rd_T37 t614 (wrap64 (x9_3 - 1))).f1) > ((rd_T37 t614 x9_3).f1) then (some false) else (if ((rd_T37 t614 (wrap64 (x9_3 - 1))).f1) = ((rd_T37 t614 x9_3).f1) then (if ((rd_T37 t614 (wrap64 (x9_3 - 1))).f2) ≥ ((rd_T37 t614 x9_3).f2) then (some false) else (locksteplaw09_DepEnds.l2 kj25 l0 t614 x6_2 (wrap64 (x9_3 + 1)))) else (locksteplaw09_DepEnds.l2 kj25 l0 t614 x6_2 (wrap64 (x9_3 + 1))))) else (locksteplaw09_DepEnds.l2 kj25 l0 t614 x6_2 (wrap64 (x9_3 + 1))))) else (none)) else (none)) else (locksteplaw09_DepEnds.l2 kj25 l0 t614 x6_2 (wrap64 (x9_3 + 1)))) = some true := by rw [if_neg (show ¬ (false = true) by decide)] at H; exact H
             clear H
             have H := H1
             clear H1
             by_cases c52 : x9_3 > 0
             ·rw [if_pos c52] at H
              have c52b0 : decide (0 < x9_3) = true := decide_eq_true c52
              clear c52
              obtain ⟨ji53, hji53⟩ : ∃ j_ : Int, (wrap64 (x9_3 - 1)) = j_ := ⟨_, rfl⟩
              replace H : (if 0 ≤ (ji53) then (if (ji53) < (t614.length : Int) then (if ((rd_T37 t614 (ji53)).f0) > ((rd_T37 t614 x9_3).f0) then (some false) else (if ((rd_T37 t614 (ji53)).f0) = ((rd_T37 t614 x9_3).f0) then (if ((rd_T37 t614 (ji53)).f1) > ((rd_T37 t614 x9_3).f1) then (some false) else (if ((rd_T37 t614 (ji53)).f1) = ((rd_T37 t614 x9_3).f1) then (if ((rd_T37 t614 (ji53)).f2) ≥ ((rd_T37 t614 x9_3).f2) then (some false) else (locksteplaw09_DepEnds.l2 kj25 l0 t614 x6_2 (wrap64 (x9_3 + 1)))) else (locksteplaw09_DepEnds.l2 kj25 l0 t614 x6_2 (wrap64 (x9_3 + 1))))) else (locksteplaw09_DepEnds.l2 kj25 l0 t614 x6_2 (wrap64 (x9_3 + 1))))) else (none)) else (none)) = some true := by first | (rw [hji53] at H; exact H) | (simp only [hji53] at H ⊢; exact H)
              have hji53w : (IntKind.i64.wrap (x9_3 - 1)) = ji53 := (i64_w _).trans hji53
              by_cases c54 : 0 ≤ (ji53)
              ·rw [if_pos c54] at H
               have c54b0 : decide (0 ≤ (ji53)) = true := decide_eq_true c54
               clear c54
               by_cases c55 : (ji53) < (t614.length : Int)
               ·rw [if_pos c55] at H
                have c55b0 : decide ((ji53) < (t614.length : Int)) = true := decide_eq_true c55
                clear c55
                by_cases c56 : ((rd_T37 t614 (ji53)).f0) > ((rd_T37 t614 x9_3).f0)
                ·rw [if_pos c56] at H
                 have c56b0 : decide (((rd_T37 t614 x9_3).f0) < ((rd_T37 t614 (ji53)).f0)) = true := decide_eq_true c56
                 clear c56
                 exact absurd H (by simp)
                rw [if_neg c56] at H
                have c56b0 : decide (((rd_T37 t614 x9_3).f0) < ((rd_T37 t614 (ji53)).f0)) = false := decide_eq_false c56
                clear c56
                by_cases c57 : ((rd_T37 t614 (ji53)).f0) = ((rd_T37 t614 x9_3).f0)
                ·rw [if_pos c57] at H
                 have c57b0 : (((rd_T37 t614 (ji53)).f0) == ((rd_T37 t614 x9_3).f0)) = true := beq_iff_eq.mpr c57
                 have c57b1 : (((rd_T37 t614 (ji53)).f0) != ((rd_T37 t614 x9_3).f0)) = false := bne_eq_false_iff_eq.mpr c57
                 clear c57
                 by_cases c58 : ((rd_T37 t614 (ji53)).f1) > ((rd_T37 t614 x9_3).f1)
                 ·rw [if_pos c58] at H
                  have c58b0 : decide (((rd_T37 t614 x9_3).f1) < ((rd_T37 t614 (ji53)).f1)) = true := decide_eq_true c58
                  clear c58
                  exact absurd H (by simp)
                 rw [if_neg c58] at H
                 have c58b0 : decide (((rd_T37 t614 x9_3).f1) < ((rd_T37 t614 (ji53)).f1)) = false := decide_eq_false c58
                 clear c58
                 by_cases c59 : ((rd_T37 t614 (ji53)).f1) = ((rd_T37 t614 x9_3).f1)
                 ·rw [if_pos c59] at H
                  have c59b0 : (((rd_T37 t614 (ji53)).f1) == ((rd_T37 t614 x9_3).f1)) = true := beq_iff_eq.mpr c59
                  have c59b1 : (((rd_T37 t614 (ji53)).f1) != ((rd_T37 t614 x9_3).f1)) = false := bne_eq_false_iff_eq.mpr c59
                  clear c59
                  by_cases c60 : ((rd_T37 t614 (ji53)).f2) ≥ ((rd_T37 t614 x9_3).f2)
                  ·rw [if_pos c60] at H
                   have c60b0 : decide (((rd_T37 t614 x9_3).f2) ≤ ((rd_T37 t614 (ji53)).f2)) = true := decide_eq_true c60
                   clear c60
                   exact absurd H (by simp)
                  rw [if_neg c60] at H
                  have c60b0 : decide (((rd_T37 t614 x9_3).f2) ≤ ((rd_T37 t614 (ji53)).f2)) = false := decide_eq_false c60
                  clear c60
                  have H' := Aside0.mk H
                  clear H
                  try go_wp2
                  have n0_ := A_ (Kd.R_drew HO_5.out)
                  have n1_ := A_ (Kd.S_drew HO_611000.out)
                  have n2_ := A_ (Kd.S_drew HO_611001.out)
                  have n3_ := A_ (blk_drew BK610.out)
                  have n4_ := A_ (blk_drew BK621.out)
                  have n5_ := A_ (below_drew1 HB.out)
                  clear HO_5
                  clear HO_611000
                  clear HO_611001
                  clear BK610
                  clear BK621
                  clear HB
                  have HO_5 := n0_
                  have HO_611000 := n1_
                  have HO_611001 := n2_
                  have BK610 := n3_
                  have BK621 := n4_
                  have HB := n5_
                  clear n0_ n1_ n2_ n3_ n4_ n5_
                  have p625 : 0 ≤ ((ji53) : Int) := D_
                  have q625 : (ji53) < (t614.length : Int) := D_
                  obtain ⟨ad625, e625, hx625_0, hx625_1, hx625_2⟩ := at_T37 (Kd.R_reads' HO_5.out).2.2 (ji53) p625 q625
                  obtain rfl : ad620 = ad625 := (by injection e625)
                  replace p625 := eq_true p625
                  replace q625 := eq_true q625
                  have p626 : 0 ≤ ((ji53) : Int) := D_
                  have q626 : (ji53) < (t614.length : Int) := D_
                  obtain ⟨ad626, e626, hx626_0, hx626_1, hx626_2⟩ := at_T37 (Kd.R_reads' HO_5.out).2.2 (ji53) p626 q626
                  obtain rfl : ad620 = ad626 := (by injection e626)
                  replace p626 := eq_true p626
                  replace q626 := eq_true q626
                  have p627 : 0 ≤ ((ji53) : Int) := D_
                  have q627 : (ji53) < (t614.length : Int) := D_
                  obtain ⟨ad627, e627, hx627_0, hx627_1, hx627_2⟩ := at_T37 (Kd.R_reads' HO_5.out).2.2 (ji53) p627 q627
                  obtain rfl : ad620 = ad627 := (by injection e627)
                  replace p627 := eq_true p627
                  replace q627 := eq_true q627
                  have p628 : 0 ≤ ((ji53) : Int) := D_
                  have q628 : (ji53) < (t614.length : Int) := D_
                  obtain ⟨ad628, e628, hx628_0, hx628_1, hx628_2⟩ := at_T37 (Kd.R_reads' HO_5.out).2.2 (ji53) p628 q628
                  obtain rfl : ad620 = ad628 := (by injection e628)
                  replace p628 := eq_true p628
                  replace q628 := eq_true q628
                  have p629 : 0 ≤ ((ji53) : Int) := D_
                  have q629 : (ji53) < (t614.length : Int) := D_
                  obtain ⟨ad629, e629, hx629_0, hx629_1, hx629_2⟩ := at_T37 (Kd.R_reads' HO_5.out).2.2 (ji53) p629 q629
                  obtain rfl : ad620 = ad629 := (by injection e629)
                  replace p629 := eq_true p629
                  replace q629 := eq_true q629
                  as_aux_lemma =>
                    refine start_ (n := 57) (S := fun w' => w'.cell? ⟨gb621, 0, none⟩ = some (.int .i64 ((rd_T37 t614 x9_3).f0)) ∧ w'.cell? ⟨gb621, 1, none⟩ = some (.int .i64 ((rd_T37 t614 x9_3).f1)) ∧ w'.cell? ⟨gb621, 2, none⟩ = some (.int .i64 ((rd_T37 t614 x9_3).f2)) ∧ w'.cell? (ad620.add (((ji53)).toNat * 3)) = some (.int .i64 ((rd_T37 t614 (ji53)).f0)) ∧ w'.cell? ⟨(ad620.add (((ji53)).toNat * 3)).block, (ad620.add (((ji53)).toNat * 3)).off + 1, none⟩ = some (.int .i64 ((rd_T37 t614 (ji53)).f1)) ∧ w'.cell? ⟨(ad620.add (((ji53)).toNat * 3)).block, (ad620.add (((ji53)).toNat * 3)).off + 2, none⟩ = some (.int .i64 ((rd_T37 t614 (ji53)).f2)) ∧ w'.cell? (ad620.add (((ji53)).toNat * 3)) = some (.int .i64 ((rd_T37 t614 (ji53)).f0)) ∧ w'.cell? ⟨(ad620.add (((ji53)).toNat * 3)).block, (ad620.add (((ji53)).toNat * 3)).off + 1, none⟩ = some (.int .i64 ((rd_T37 t614 (ji53)).f1)) ∧ w'.cell? ⟨(ad620.add (((ji53)).toNat * 3)).block, (ad620.add (((ji53)).toNat * 3)).off + 2, none⟩ = some (.int .i64 ((rd_T37 t614 (ji53)).f2)) ∧ w'.cell? (ad620.add (((ji53)).toNat * 3)) = some (.int .i64 ((rd_T37 t614 (ji53)).f0)) ∧ w'.cell? ⟨(ad620.add (((ji53)).toNat * 3)).block, (ad620.add (((ji53)).toNat * 3)).off + 1, none⟩ = some (.int .i64 ((rd_T37 t614 (ji53)).f1)) ∧ w'.cell? ⟨(ad620.add (((ji53)).toNat * 3)).block, (ad620.add (((ji53)).toNat * 3)).off + 2, none⟩ = some (.int .i64 ((rd_T37 t614 (ji53)).f2)) ∧ w'.cell? (ad620.add (((ji53)).toNat * 3)) = some (.int .i64 ((rd_T37 t614 (ji53)).f0)) ∧ w'.cell? ⟨(ad620.add (((ji53)).toNat * 3)).block, (ad620.add (((ji53)).toNat * 3)).off + 1, none⟩ = some (.int .i64 ((rd_T37 t614 (ji53)).f1)) ∧ w'.cell? ⟨(ad620.add (((ji53)).toNat * 3)).block, (ad620.add (((ji53)).toNat * 3)).off + 2, none⟩ = some (.int .i64 ((rd_T37 t614 (ji53)).f2)) ∧ w'.cell? (ad620.add (((ji53)).toNat * 3)) = some (.int .i64 ((rd_T37 t614 (ji53)).f0)) ∧ w'.cell? ⟨(ad620.add (((ji53)).toNat * 3)).block, (ad620.add (((ji53)).toNat * 3)).off + 1, none⟩ = some (.int .i64 ((rd_T37 t614 (ji53)).f1)) ∧ w'.cell? ⟨(ad620.add (((ji53)).toNat * 3)).block, (ad620.add (((ji53)).toNat * 3)).off + 2, none⟩ = some (.int .i64 ((rd_T37 t614 (ji53)).f2))) (ds := []) m50_41 (by kernel_rfl) rfl rfl ⟨(blk_cell BK621.out 0).trans rfl, (blk_cell BK621.out 1).trans rfl, (blk_cell BK621.out 2).trans rfl, hx625_0, hx625_1, hx625_2, hx626_0, hx626_1, hx626_2, hx627_0, hx627_1, hx627_2, hx628_0, hx628_1, hx628_2, hx629_0, hx629_1, hx629_2⟩ (fun hHeld => ?_); refine with_tabW locksteplaw09_DepEnds.tab23 locksteplaw09_DepEnds.bits23 (fun HT_ HW_ => ?_)
                    generalize wc.drew = w61 at HO_5 HO_611000 HO_611001 BK610 BK621 HB hx625_0 hx625_1 hx625_2 hx626_0 hx626_1 hx626_2 hx627_0 hx627_1 hx627_2 hx628_0 hx628_1 hx628_2 hx629_0 hx629_1 hx629_2 hHeld ⊢
                    refine PU_ HT_ 0 111 m50_42 (h := ?_); refine PU_ HT_ 1 112 m50_43 (h := ?_); refine PU_ HT_ 2 113 m50_44 (h := ?_); refine PU_ HT_ 3 114 m50_45 (h := ?_); refine PU_ HT_ 4 115 m50_46 (h := ?_); refine PU_ HT_ 5 116 m50_47 (h := ?_); refine PU_ HT_ 6 117 m50_48 (h := ?_); refine PU_ HT_ 7 118 m50_49 (h := ?_); refine PU_ HT_ 9 120 m50_50 (h := ?_); refine TA_ HT_ HW_ 8 119 hHeld m50_51 (h := ?_); refine TA_ HT_ HW_ 10 121 hHeld m50_52 (h := ?_); refine PU_ HT_ 11 122 m50_53 (h := ?_); refine PU_ HT_ 12 123 m50_54 (h := ?_); refine PU_ HT_ 13 124 m50_55 (h := ?_); refine PU_ HT_ 14 125 m50_56 (h := ?_); refine PU_ HT_ 15 126 m50_57 (h := ?_); refine PU_ HT_ 16 127 m50_58 (h := ?_); refine PU_ HT_ 17 128 m50_59 (h := ?_); refine PU_ HT_ 19 130 m50_60 (h := ?_); refine TA_ HT_ HW_ 18 129 hHeld m50_61 (h := ?_); refine TA_ HT_ HW_ 20 131 hHeld m50_62 (h := ?_); refine PU_ HT_ 21 132 m50_63 (h := ?_); refine PU_ HT_ 22 133 m50_64 (h := ?_); refine PU_ HT_ 23 134 m50_65 (h := ?_); refine PU_ HT_ 24 135 m50_66 (h := ?_); refine PU_ HT_ 25 136 m50_67 (h := ?_); refine PU_ HT_ 26 137 m50_68 (h := ?_); refine PU_ HT_ 27 138 m50_69 (h := ?_); refine PU_ HT_ 29 140 #[T_,T_,T_,T_,T_,T_,T_,T_,T_,T_,T_,T_,T_,T_,T_,T_,T_,T_,T_,T_,T_,T_,T_,T_,T_,T_,T_,T_,F_,T_,F_,F_,F_,F_,F_,F_,F_,F_,F_,F_,F_,F_,F_,F_,F_,F_,F_,F_,F_,F_,F_,F_,F_,F_,F_,F_,F_] (h := ?_); refine TA_ HT_ HW_ 28 139 hHeld m50_70 (h := ?_); refine TA_ HT_ HW_ 30 141 hHeld m50_71 (h := ?_); refine PU_ HT_ 31 142 m50_72 (h := ?_); refine PU_ HT_ 32 143 m50_73 (h := ?_); refine PU_ HT_ 33 144 m50_74 (h := ?_); refine PU_ HT_ 34 145 m50_75 (h := ?_); refine PU_ HT_ 35 146 m50_76 (h := ?_); refine PU_ HT_ 36 147 m50_77 (h := ?_); refine PU_ HT_ 37 148 m50_78 (h := ?_); refine PU_ HT_ 39 150 #[T_,T_,T_,T_,T_,T_,T_,T_,T_,T_,T_,T_,T_,T_,T_,T_,T_,T_,T_,T_,T_,T_,T_,T_,T_,T_,T_,T_,T_,T_,T_,T_,T_,T_,T_,T_,T_,T_,F_,T_,F_,F_,F_,F_,F_,F_,F_,F_,F_,F_,F_,F_,F_,F_,F_,F_,F_] (h := ?_); refine TA_ HT_ HW_ 38 149 hHeld m50_79 (h := ?_); refine TA_ HT_ HW_ 40 151 hHeld m50_80 (h := ?_); refine PU_ HT_ 41 152 m50_81 (h := ?_); refine PU_ HT_ 42 153 m50_82 (h := ?_); refine PU_ HT_ 43 154 m50_83 (h := ?_); refine PU_ HT_ 44 155 m50_84 (h := ?_); refine PU_ HT_ 45 156 m50_85 (h := ?_); refine PU_ HT_ 46 157 m50_86 (h := ?_); refine PU_ HT_ 47 158 m50_87 (h := ?_); refine PU_ HT_ 49 160 #[T_,T_,T_,T_,T_,T_,T_,T_,T_,T_,T_,T_,T_,T_,T_,T_,T_,T_,T_,T_,T_,T_,T_,T_,T_,T_,T_,T_,T_,T_,T_,T_,T_,T_,T_,T_,T_,T_,T_,T_,T_,T_,T_,T_,T_,T_,T_,T_,F_,T_,F_,F_,F_,F_,F_,F_,F_] (h := ?_); refine TA_ HT_ HW_ 48 159 hHeld m50_88 (h := ?_); refine TA_ HT_ HW_ 50 161 hHeld m50_89 (h := ?_); refine PU_ HT_ 51 162 m50_90 (h := ?_); refine PU_ HT_ 52 163 m50_91 (h := ?_); refine PU_ HT_ 53 164 m50_92 (h := ?_); refine PU_ HT_ 54 165 m50_93 (h := ?_); refine PU_ HT_ 55 166 m50_94 (h := ?_); refine PU_ HT_ 56 167 m50_95 (h := ?_)
                    refine done_ (done_of HT_.out (by kernel_rfl)) ?_
                    try go_wp2
                    go_roundg kj25
                    case measure => have := HJ3.out; have := HK2.out; have := HK3.out; have := HJ25.out; omega
                    case rel => exact ⟨(wrap64 (x9_3 + 1)), (by first | rfl | exact congrArg (fun b => Ending.returned (Value.bool b)) HR_.out | (simp; done) | (simp [*]; done)), H', ⟨by have := HJ3.out; have := HK2.out; have := HK3.out; have := HJ25.out; omega⟩, ⟨by (with_reducible repeat (first | apply Kd.R_alloc | apply Kd.R_drewN | apply Kd.R_drew)); exact Kd.R_mono HO_5.out (fun _ hk => trivial)⟩, ⟨by exact SM_ HO_611000.out⟩, ⟨by exact SM_ HO_611001.out⟩, ⟨by exact KX_ BK610.out⟩, ⟨B1_⟩⟩
                 rw [if_neg c59] at H
                 have c59b0 : (((rd_T37 t614 (ji53)).f1) == ((rd_T37 t614 x9_3).f1)) = false := beq_eq_false_iff_ne.mpr c59
                 have c59b1 : (((rd_T37 t614 (ji53)).f1) != ((rd_T37 t614 x9_3).f1)) = true := bne_iff_ne.mpr c59
                 have H' := Aside0.mk H
                 clear H
                 try go_wp2
                 have n0_ := A_ (Kd.R_drew HO_5.out)
                 have n1_ := A_ (Kd.S_drew HO_611000.out)
                 have n2_ := A_ (Kd.S_drew HO_611001.out)
                 have n3_ := A_ (blk_drew BK610.out)
                 have n4_ := A_ (blk_drew BK621.out)
                 have n5_ := A_ (below_drew1 HB.out)
                 clear HO_5
                 clear HO_611000
                 clear HO_611001
                 clear BK610
                 clear BK621
                 clear HB
                 have HO_5 := n0_
                 have HO_611000 := n1_
                 have HO_611001 := n2_
                 have BK610 := n3_
                 have BK621 := n4_
                 have HB := n5_
                 clear n0_ n1_ n2_ n3_ n4_ n5_
                 have p625 : 0 ≤ ((ji53) : Int) := D_
                 have q625 : (ji53) < (t614.length : Int) := D_
                 obtain ⟨ad625, e625, hx625_0, hx625_1, hx625_2⟩ := at_T37 (Kd.R_reads' HO_5.out).2.2 (ji53) p625 q625
                 obtain rfl : ad620 = ad625 := (by injection e625)
                 replace p625 := eq_true p625
                 replace q625 := eq_true q625
                 have p626 : 0 ≤ ((ji53) : Int) := D_
                 have q626 : (ji53) < (t614.length : Int) := D_
                 obtain ⟨ad626, e626, hx626_0, hx626_1, hx626_2⟩ := at_T37 (Kd.R_reads' HO_5.out).2.2 (ji53) p626 q626
                 obtain rfl : ad620 = ad626 := (by injection e626)
                 replace p626 := eq_true p626
                 replace q626 := eq_true q626
                 have p627 : 0 ≤ ((ji53) : Int) := D_
                 have q627 : (ji53) < (t614.length : Int) := D_
                 obtain ⟨ad627, e627, hx627_0, hx627_1, hx627_2⟩ := at_T37 (Kd.R_reads' HO_5.out).2.2 (ji53) p627 q627
                 obtain rfl : ad620 = ad627 := (by injection e627)
                 replace p627 := eq_true p627
                 replace q627 := eq_true q627
                 have p628 : 0 ≤ ((ji53) : Int) := D_
                 have q628 : (ji53) < (t614.length : Int) := D_
                 obtain ⟨ad628, e628, hx628_0, hx628_1, hx628_2⟩ := at_T37 (Kd.R_reads' HO_5.out).2.2 (ji53) p628 q628
                 obtain rfl : ad620 = ad628 := (by injection e628)
                 replace p628 := eq_true p628
                 replace q628 := eq_true q628
                 as_aux_lemma =>
                   refine start_ (n := 57) (S := fun w' => w'.cell? ⟨gb621, 0, none⟩ = some (.int .i64 ((rd_T37 t614 x9_3).f0)) ∧ w'.cell? ⟨gb621, 1, none⟩ = some (.int .i64 ((rd_T37 t614 x9_3).f1)) ∧ w'.cell? ⟨gb621, 2, none⟩ = some (.int .i64 ((rd_T37 t614 x9_3).f2)) ∧ w'.cell? (ad620.add (((ji53)).toNat * 3)) = some (.int .i64 ((rd_T37 t614 (ji53)).f0)) ∧ w'.cell? ⟨(ad620.add (((ji53)).toNat * 3)).block, (ad620.add (((ji53)).toNat * 3)).off + 1, none⟩ = some (.int .i64 ((rd_T37 t614 (ji53)).f1)) ∧ w'.cell? ⟨(ad620.add (((ji53)).toNat * 3)).block, (ad620.add (((ji53)).toNat * 3)).off + 2, none⟩ = some (.int .i64 ((rd_T37 t614 (ji53)).f2)) ∧ w'.cell? (ad620.add (((ji53)).toNat * 3)) = some (.int .i64 ((rd_T37 t614 (ji53)).f0)) ∧ w'.cell? ⟨(ad620.add (((ji53)).toNat * 3)).block, (ad620.add (((ji53)).toNat * 3)).off + 1, none⟩ = some (.int .i64 ((rd_T37 t614 (ji53)).f1)) ∧ w'.cell? ⟨(ad620.add (((ji53)).toNat * 3)).block, (ad620.add (((ji53)).toNat * 3)).off + 2, none⟩ = some (.int .i64 ((rd_T37 t614 (ji53)).f2)) ∧ w'.cell? (ad620.add (((ji53)).toNat * 3)) = some (.int .i64 ((rd_T37 t614 (ji53)).f0)) ∧ w'.cell? ⟨(ad620.add (((ji53)).toNat * 3)).block, (ad620.add (((ji53)).toNat * 3)).off + 1, none⟩ = some (.int .i64 ((rd_T37 t614 (ji53)).f1)) ∧ w'.cell? ⟨(ad620.add (((ji53)).toNat * 3)).block, (ad620.add (((ji53)).toNat * 3)).off + 2, none⟩ = some (.int .i64 ((rd_T37 t614 (ji53)).f2)) ∧ w'.cell? (ad620.add (((ji53)).toNat * 3)) = some (.int .i64 ((rd_T37 t614 (ji53)).f0)) ∧ w'.cell? ⟨(ad620.add (((ji53)).toNat * 3)).block, (ad620.add (((ji53)).toNat * 3)).off + 1, none⟩ = some (.int .i64 ((rd_T37 t614 (ji53)).f1)) ∧ w'.cell? ⟨(ad620.add (((ji53)).toNat * 3)).block, (ad620.add (((ji53)).toNat * 3)).off + 2, none⟩ = some (.int .i64 ((rd_T37 t614 (ji53)).f2))) (ds := []) m50_41 (by kernel_rfl) rfl rfl ⟨(blk_cell BK621.out 0).trans rfl, (blk_cell BK621.out 1).trans rfl, (blk_cell BK621.out 2).trans rfl, hx625_0, hx625_1, hx625_2, hx626_0, hx626_1, hx626_2, hx627_0, hx627_1, hx627_2, hx628_0, hx628_1, hx628_2⟩ (fun hHeld => ?_); refine with_tabW locksteplaw09_DepEnds.tab23 locksteplaw09_DepEnds.bits23 (fun HT_ HW_ => ?_)
                   generalize wc.drew = w62 at HO_5 HO_611000 HO_611001 BK610 BK621 HB hx625_0 hx625_1 hx625_2 hx626_0 hx626_1 hx626_2 hx627_0 hx627_1 hx627_2 hx628_0 hx628_1 hx628_2 hHeld ⊢
                   refine PU_ HT_ 0 111 m50_42 (h := ?_); refine PU_ HT_ 1 112 m50_43 (h := ?_); refine PU_ HT_ 2 113 m50_44 (h := ?_); refine PU_ HT_ 3 114 m50_45 (h := ?_); refine PU_ HT_ 4 115 m50_46 (h := ?_); refine PU_ HT_ 5 116 m50_47 (h := ?_); refine PU_ HT_ 6 117 m50_48 (h := ?_); refine PU_ HT_ 7 118 m50_49 (h := ?_); refine PU_ HT_ 9 120 m50_50 (h := ?_); refine TA_ HT_ HW_ 8 119 hHeld m50_51 (h := ?_); refine TA_ HT_ HW_ 10 121 hHeld m50_52 (h := ?_); refine PU_ HT_ 11 122 m50_53 (h := ?_); refine PU_ HT_ 12 123 m50_54 (h := ?_); refine PU_ HT_ 13 124 m50_55 (h := ?_); refine PU_ HT_ 14 125 m50_56 (h := ?_); refine PU_ HT_ 15 126 m50_57 (h := ?_); refine PU_ HT_ 16 127 m50_58 (h := ?_); refine PU_ HT_ 17 128 m50_59 (h := ?_); refine PU_ HT_ 19 130 m50_60 (h := ?_); refine TA_ HT_ HW_ 18 129 hHeld m50_61 (h := ?_); refine TA_ HT_ HW_ 20 131 hHeld m50_62 (h := ?_); refine PU_ HT_ 21 132 m50_63 (h := ?_); refine PU_ HT_ 22 133 m50_64 (h := ?_); refine PU_ HT_ 23 134 m50_65 (h := ?_); refine PU_ HT_ 24 135 m50_66 (h := ?_); refine PU_ HT_ 25 136 m50_67 (h := ?_); refine PU_ HT_ 26 137 m50_68 (h := ?_); refine PU_ HT_ 27 138 m50_69 (h := ?_); refine PU_ HT_ 29 140 #[T_,T_,T_,T_,T_,T_,T_,T_,T_,T_,T_,T_,T_,T_,T_,T_,T_,T_,T_,T_,T_,T_,T_,T_,T_,T_,T_,T_,F_,T_,F_,F_,F_,F_,F_,F_,F_,F_,F_,F_,F_,F_,F_,F_,F_,F_,F_,F_,F_,F_,F_,F_,F_,F_,F_,F_,F_] (h := ?_); refine TA_ HT_ HW_ 28 139 hHeld m50_70 (h := ?_); refine TA_ HT_ HW_ 30 141 hHeld m50_71 (h := ?_); refine PU_ HT_ 31 142 m50_72 (h := ?_); refine PU_ HT_ 32 143 m50_73 (h := ?_); refine PU_ HT_ 33 144 m50_74 (h := ?_); refine PU_ HT_ 34 145 m50_75 (h := ?_); refine PU_ HT_ 35 146 m50_76 (h := ?_); refine PU_ HT_ 36 147 m50_77 (h := ?_); refine PU_ HT_ 37 148 m50_78 (h := ?_); refine PU_ HT_ 39 150 #[T_,T_,T_,T_,T_,T_,T_,T_,T_,T_,T_,T_,T_,T_,T_,T_,T_,T_,T_,T_,T_,T_,T_,T_,T_,T_,T_,T_,T_,T_,T_,T_,T_,T_,T_,T_,T_,T_,F_,T_,F_,F_,F_,F_,F_,F_,F_,F_,F_,F_,F_,F_,F_,F_,F_,F_,F_] (h := ?_); refine TA_ HT_ HW_ 38 149 hHeld m50_79 (h := ?_); refine TA_ HT_ HW_ 40 151 hHeld m50_80 (h := ?_); refine PU_ HT_ 41 152 m50_81 (h := ?_); refine PU_ HT_ 42 153 m50_82 (h := ?_); refine PO_ HT_ 43 154 m50_83 (h := ?_); refine PO_ HT_ 44 155 m50_84 (h := ?_); refine PO_ HT_ 45 156 m50_85 (h := ?_); refine PO_ HT_ 46 157 m50_86 (h := ?_); refine PO_ HT_ 47 158 m50_87 (h := ?_); refine PO_ HT_ 48 159 m50_96 (h := ?_); refine PO_ HT_ 49 160 m50_88 (h := ?_); refine PO_ HT_ 50 161 m50_89 (h := ?_); refine PO_ HT_ 51 162 m50_90 (h := ?_); refine PU_ HT_ 52 163 m50_91 (h := ?_); refine PU_ HT_ 53 164 m50_92 (h := ?_); refine PU_ HT_ 54 165 m50_93 (h := ?_); refine PU_ HT_ 55 166 m50_94 (h := ?_); refine PU_ HT_ 56 167 m50_95 (h := ?_)
                   refine done_ (done_of HT_.out (by kernel_rfl)) ?_
                   try go_wp2
                   go_roundg kj25
                   case measure => have := HJ3.out; have := HK2.out; have := HK3.out; have := HJ25.out; omega
                   case rel => exact ⟨(wrap64 (x9_3 + 1)), (by first | rfl | exact congrArg (fun b => Ending.returned (Value.bool b)) HR_.out | (simp; done) | (simp [*]; done)), H', ⟨by have := HJ3.out; have := HK2.out; have := HK3.out; have := HJ25.out; omega⟩, ⟨by (with_reducible repeat (first | apply Kd.R_alloc | apply Kd.R_drewN | apply Kd.R_drew)); exact Kd.R_mono HO_5.out (fun _ hk => trivial)⟩, ⟨by exact SM_ HO_611000.out⟩, ⟨by exact SM_ HO_611001.out⟩, ⟨by exact KX_ BK610.out⟩, ⟨B1_⟩⟩
                rw [if_neg c57] at H
                have c57b0 : (((rd_T37 t614 (ji53)).f0) == ((rd_T37 t614 x9_3).f0)) = false := beq_eq_false_iff_ne.mpr c57
                have c57b1 : (((rd_T37 t614 (ji53)).f0) != ((rd_T37 t614 x9_3).f0)) = true := bne_iff_ne.mpr c57
                have H' := Aside0.mk H
                clear H
                try go_wp2
                have n0_ := A_ (Kd.R_drew HO_5.out)
                have n1_ := A_ (Kd.S_drew HO_611000.out)
                have n2_ := A_ (Kd.S_drew HO_611001.out)
                have n3_ := A_ (blk_drew BK610.out)
                have n4_ := A_ (blk_drew BK621.out)
                have n5_ := A_ (below_drew1 HB.out)
                clear HO_5
                clear HO_611000
                clear HO_611001
                clear BK610
                clear BK621
                clear HB
                have HO_5 := n0_
                have HO_611000 := n1_
                have HO_611001 := n2_
                have BK610 := n3_
                have BK621 := n4_
                have HB := n5_
                clear n0_ n1_ n2_ n3_ n4_ n5_
                have p625 : 0 ≤ ((ji53) : Int) := D_
                have q625 : (ji53) < (t614.length : Int) := D_
                obtain ⟨ad625, e625, hx625_0, hx625_1, hx625_2⟩ := at_T37 (Kd.R_reads' HO_5.out).2.2 (ji53) p625 q625
                obtain rfl : ad620 = ad625 := (by injection e625)
                replace p625 := eq_true p625
                replace q625 := eq_true q625
                have p626 : 0 ≤ ((ji53) : Int) := D_
                have q626 : (ji53) < (t614.length : Int) := D_
                obtain ⟨ad626, e626, hx626_0, hx626_1, hx626_2⟩ := at_T37 (Kd.R_reads' HO_5.out).2.2 (ji53) p626 q626
                obtain rfl : ad620 = ad626 := (by injection e626)
                replace p626 := eq_true p626
                replace q626 := eq_true q626
                as_aux_lemma =>
                  refine start_ (n := 57) (S := fun w' => w'.cell? ⟨gb621, 0, none⟩ = some (.int .i64 ((rd_T37 t614 x9_3).f0)) ∧ w'.cell? ⟨gb621, 1, none⟩ = some (.int .i64 ((rd_T37 t614 x9_3).f1)) ∧ w'.cell? ⟨gb621, 2, none⟩ = some (.int .i64 ((rd_T37 t614 x9_3).f2)) ∧ w'.cell? (ad620.add (((ji53)).toNat * 3)) = some (.int .i64 ((rd_T37 t614 (ji53)).f0)) ∧ w'.cell? ⟨(ad620.add (((ji53)).toNat * 3)).block, (ad620.add (((ji53)).toNat * 3)).off + 1, none⟩ = some (.int .i64 ((rd_T37 t614 (ji53)).f1)) ∧ w'.cell? ⟨(ad620.add (((ji53)).toNat * 3)).block, (ad620.add (((ji53)).toNat * 3)).off + 2, none⟩ = some (.int .i64 ((rd_T37 t614 (ji53)).f2)) ∧ w'.cell? (ad620.add (((ji53)).toNat * 3)) = some (.int .i64 ((rd_T37 t614 (ji53)).f0)) ∧ w'.cell? ⟨(ad620.add (((ji53)).toNat * 3)).block, (ad620.add (((ji53)).toNat * 3)).off + 1, none⟩ = some (.int .i64 ((rd_T37 t614 (ji53)).f1)) ∧ w'.cell? ⟨(ad620.add (((ji53)).toNat * 3)).block, (ad620.add (((ji53)).toNat * 3)).off + 2, none⟩ = some (.int .i64 ((rd_T37 t614 (ji53)).f2))) (ds := []) m50_41 (by kernel_rfl) rfl rfl ⟨(blk_cell BK621.out 0).trans rfl, (blk_cell BK621.out 1).trans rfl, (blk_cell BK621.out 2).trans rfl, hx625_0, hx625_1, hx625_2, hx626_0, hx626_1, hx626_2⟩ (fun hHeld => ?_); refine with_tabW locksteplaw09_DepEnds.tab23 locksteplaw09_DepEnds.bits23 (fun HT_ HW_ => ?_)
                  generalize wc.drew = w63 at HO_5 HO_611000 HO_611001 BK610 BK621 HB hx625_0 hx625_1 hx625_2 hx626_0 hx626_1 hx626_2 hHeld ⊢
                  refine PU_ HT_ 0 111 m50_42 (h := ?_); refine PU_ HT_ 1 112 m50_43 (h := ?_); refine PU_ HT_ 2 113 m50_44 (h := ?_); refine PU_ HT_ 3 114 m50_45 (h := ?_); refine PU_ HT_ 4 115 m50_46 (h := ?_); refine PU_ HT_ 5 116 m50_47 (h := ?_); refine PU_ HT_ 6 117 m50_48 (h := ?_); refine PU_ HT_ 7 118 m50_49 (h := ?_); refine PU_ HT_ 9 120 m50_50 (h := ?_); refine TA_ HT_ HW_ 8 119 hHeld m50_51 (h := ?_); refine TA_ HT_ HW_ 10 121 hHeld m50_52 (h := ?_); refine PU_ HT_ 11 122 m50_53 (h := ?_); refine PU_ HT_ 12 123 m50_54 (h := ?_); refine PU_ HT_ 13 124 m50_55 (h := ?_); refine PU_ HT_ 14 125 m50_56 (h := ?_); refine PU_ HT_ 15 126 m50_57 (h := ?_); refine PU_ HT_ 16 127 m50_58 (h := ?_); refine PU_ HT_ 17 128 m50_59 (h := ?_); refine PU_ HT_ 19 130 m50_60 (h := ?_); refine TA_ HT_ HW_ 18 129 hHeld m50_61 (h := ?_); refine TA_ HT_ HW_ 20 131 hHeld m50_62 (h := ?_); refine PU_ HT_ 21 132 m50_63 (h := ?_); refine PU_ HT_ 22 133 m50_64 (h := ?_); refine PO_ HT_ 23 134 m50_65 (h := ?_); refine PO_ HT_ 24 135 m50_66 (h := ?_); refine PO_ HT_ 25 136 m50_67 (h := ?_); refine PO_ HT_ 26 137 m50_68 (h := ?_); refine PO_ HT_ 27 138 m50_69 (h := ?_); refine PO_ HT_ 28 139 #[T_,T_,T_,T_,T_,T_,T_,T_,T_,T_,T_,T_,T_,T_,T_,T_,T_,T_,T_,T_,T_,T_,T_,T_,T_,T_,T_,T_,T_,F_,F_,F_,F_,F_,F_,F_,F_,F_,F_,F_,F_,F_,F_,F_,F_,F_,F_,F_,F_,F_,F_,F_,F_,F_,F_,F_,F_] (h := ?_); refine PO_ HT_ 29 140 m50_70 (h := ?_); refine PO_ HT_ 30 141 m50_71 (h := ?_); refine PO_ HT_ 31 142 m50_72 (h := ?_); refine PO_ HT_ 32 143 m50_73 (h := ?_); refine PO_ HT_ 33 144 m50_74 (h := ?_); refine PO_ HT_ 34 145 m50_75 (h := ?_); refine PO_ HT_ 35 146 m50_76 (h := ?_); refine PO_ HT_ 36 147 m50_77 (h := ?_); refine PO_ HT_ 37 148 m50_78 (h := ?_); refine PO_ HT_ 38 149 #[T_,T_,T_,T_,T_,T_,T_,T_,T_,T_,T_,T_,T_,T_,T_,T_,T_,T_,T_,T_,T_,T_,T_,T_,T_,T_,T_,T_,T_,T_,T_,T_,T_,T_,T_,T_,T_,T_,T_,F_,F_,F_,F_,F_,F_,F_,F_,F_,F_,F_,F_,F_,F_,F_,F_,F_,F_] (h := ?_); refine PO_ HT_ 39 150 m50_79 (h := ?_); refine PO_ HT_ 40 151 m50_80 (h := ?_); refine PO_ HT_ 41 152 m50_81 (h := ?_); refine PO_ HT_ 42 153 m50_82 (h := ?_); refine PO_ HT_ 43 154 m50_83 (h := ?_); refine PO_ HT_ 44 155 m50_84 (h := ?_); refine PO_ HT_ 45 156 m50_85 (h := ?_); refine PO_ HT_ 46 157 m50_86 (h := ?_); refine PO_ HT_ 47 158 m50_87 (h := ?_); refine PO_ HT_ 48 159 m50_96 (h := ?_); refine PO_ HT_ 49 160 m50_88 (h := ?_); refine PO_ HT_ 50 161 m50_89 (h := ?_); refine PO_ HT_ 51 162 m50_90 (h := ?_); refine PO_ HT_ 52 163 m50_91 (h := ?_); refine PO_ HT_ 53 164 m50_92 (h := ?_); refine PU_ HT_ 54 165 m50_93 (h := ?_); refine PU_ HT_ 55 166 m50_94 (h := ?_); refine PU_ HT_ 56 167 m50_95 (h := ?_)
                  refine done_ (done_of HT_.out (by kernel_rfl)) ?_
                  try go_wp2
                  go_roundg kj25
                  case measure => have := HJ3.out; have := HK2.out; have := HK3.out; have := HJ25.out; omega
                  case rel => exact ⟨(wrap64 (x9_3 + 1)), (by first | rfl | exact congrArg (fun b => Ending.returned (Value.bool b)) HR_.out | (simp; done) | (simp [*]; done)), H', ⟨by have := HJ3.out; have := HK2.out; have := HK3.out; have := HJ25.out; omega⟩, ⟨by (with_reducible repeat (first | apply Kd.R_alloc | apply Kd.R_drewN | apply Kd.R_drew)); exact Kd.R_mono HO_5.out (fun _ hk => trivial)⟩, ⟨by exact SM_ HO_611000.out⟩, ⟨by exact SM_ HO_611001.out⟩, ⟨by exact KX_ BK610.out⟩, ⟨B1_⟩⟩
               rw [if_neg c55] at H
               exact absurd H (by simp)
              rw [if_neg c54] at H
              exact absurd H (by simp)
             rw [if_neg c52] at H
             have c52b0 : decide (0 < x9_3) = false := decide_eq_false c52
             clear c52
             have H' := Aside0.mk H
             clear H
             try go_wp2
             have n0_ := A_ (Kd.R_drew HO_5.out)
             have n1_ := A_ (Kd.S_drew HO_611000.out)
             have n2_ := A_ (Kd.S_drew HO_611001.out)
             have n3_ := A_ (blk_drew BK610.out)
             have n4_ := A_ (blk_drew BK621.out)
             have n5_ := A_ (below_drew1 HB.out)
             clear HO_5
             clear HO_611000
             clear HO_611001
             clear BK610
             clear BK621
             clear HB
             have HO_5 := n0_
             have HO_611000 := n1_
             have HO_611001 := n2_
             have BK610 := n3_
             have BK621 := n4_
             have HB := n5_
             clear n0_ n1_ n2_ n3_ n4_ n5_
             as_aux_lemma =>
               refine start_ (n := 57) (S := fun w' => True) (ds := []) m50_41 (by kernel_rfl) rfl rfl trivial (fun hHeld => ?_); refine with_tabW locksteplaw09_DepEnds.tab23 locksteplaw09_DepEnds.bits23 (fun HT_ HW_ => ?_)
               generalize wc.drew = w64 at HO_5 HO_611000 HO_611001 BK610 BK621 HB hHeld ⊢
               refine PU_ HT_ 0 111 m50_42 (h := ?_); refine PU_ HT_ 1 112 m50_43 (h := ?_); refine PU_ HT_ 2 113 m50_44 (h := ?_); refine PO_ HT_ 3 114 m50_45 (h := ?_); refine PO_ HT_ 4 115 m50_46 (h := ?_); refine PO_ HT_ 5 116 m50_47 (h := ?_); refine PO_ HT_ 6 117 m50_48 (h := ?_); refine PO_ HT_ 7 118 m50_49 (h := ?_); refine PO_ HT_ 8 119 #[T_,T_,T_,T_,T_,T_,T_,T_,T_,F_,F_,F_,F_,F_,F_,F_,F_,F_,F_,F_,F_,F_,F_,F_,F_,F_,F_,F_,F_,F_,F_,F_,F_,F_,F_,F_,F_,F_,F_,F_,F_,F_,F_,F_,F_,F_,F_,F_,F_,F_,F_,F_,F_,F_,F_,F_,F_] (h := ?_); refine PO_ HT_ 9 120 m50_51 (h := ?_); refine PO_ HT_ 10 121 m50_52 (h := ?_); refine PO_ HT_ 11 122 m50_53 (h := ?_); refine PO_ HT_ 12 123 m50_54 (h := ?_); refine PO_ HT_ 13 124 m50_55 (h := ?_); refine PO_ HT_ 14 125 m50_56 (h := ?_); refine PO_ HT_ 15 126 m50_57 (h := ?_); refine PO_ HT_ 16 127 m50_58 (h := ?_); refine PO_ HT_ 17 128 m50_59 (h := ?_); refine PO_ HT_ 18 129 #[T_,T_,T_,T_,T_,T_,T_,T_,T_,T_,T_,T_,T_,T_,T_,T_,T_,T_,T_,F_,F_,F_,F_,F_,F_,F_,F_,F_,F_,F_,F_,F_,F_,F_,F_,F_,F_,F_,F_,F_,F_,F_,F_,F_,F_,F_,F_,F_,F_,F_,F_,F_,F_,F_,F_,F_,F_] (h := ?_); refine PO_ HT_ 19 130 m50_61 (h := ?_); refine PO_ HT_ 20 131 m50_62 (h := ?_); refine PO_ HT_ 21 132 m50_63 (h := ?_); refine PO_ HT_ 22 133 m50_64 (h := ?_); refine PO_ HT_ 23 134 m50_65 (h := ?_); refine PO_ HT_ 24 135 m50_66 (h := ?_); refine PO_ HT_ 25 136 m50_67 (h := ?_); refine PO_ HT_ 26 137 m50_68 (h := ?_); refine PO_ HT_ 27 138 m50_69 (h := ?_); refine PO_ HT_ 28 139 #[T_,T_,T_,T_,T_,T_,T_,T_,T_,T_,T_,T_,T_,T_,T_,T_,T_,T_,T_,T_,T_,T_,T_,T_,T_,T_,T_,T_,T_,F_,F_,F_,F_,F_,F_,F_,F_,F_,F_,F_,F_,F_,F_,F_,F_,F_,F_,F_,F_,F_,F_,F_,F_,F_,F_,F_,F_] (h := ?_); refine PO_ HT_ 29 140 m50_70 (h := ?_); refine PO_ HT_ 30 141 m50_71 (h := ?_); refine PO_ HT_ 31 142 m50_72 (h := ?_); refine PO_ HT_ 32 143 m50_73 (h := ?_); refine PO_ HT_ 33 144 m50_74 (h := ?_); refine PO_ HT_ 34 145 m50_75 (h := ?_); refine PO_ HT_ 35 146 m50_76 (h := ?_); refine PO_ HT_ 36 147 m50_77 (h := ?_); refine PO_ HT_ 37 148 m50_78 (h := ?_); refine PO_ HT_ 38 149 #[T_,T_,T_,T_,T_,T_,T_,T_,T_,T_,T_,T_,T_,T_,T_,T_,T_,T_,T_,T_,T_,T_,T_,T_,T_,T_,T_,T_,T_,T_,T_,T_,T_,T_,T_,T_,T_,T_,T_,F_,F_,F_,F_,F_,F_,F_,F_,F_,F_,F_,F_,F_,F_,F_,F_,F_,F_] (h := ?_); refine PO_ HT_ 39 150 m50_79 (h := ?_); refine PO_ HT_ 40 151 m50_80 (h := ?_); refine PO_ HT_ 41 152 m50_81 (h := ?_); refine PO_ HT_ 42 153 m50_82 (h := ?_); refine PO_ HT_ 43 154 m50_83 (h := ?_); refine PO_ HT_ 44 155 m50_84 (h := ?_); refine PO_ HT_ 45 156 m50_85 (h := ?_); refine PO_ HT_ 46 157 m50_86 (h := ?_); refine PO_ HT_ 47 158 m50_87 (h := ?_); refine PO_ HT_ 48 159 m50_96 (h := ?_); refine PO_ HT_ 49 160 m50_88 (h := ?_); refine PO_ HT_ 50 161 m50_89 (h := ?_); refine PO_ HT_ 51 162 m50_90 (h := ?_); refine PO_ HT_ 52 163 m50_91 (h := ?_); refine PO_ HT_ 53 164 m50_92 (h := ?_); refine PO_ HT_ 54 165 m50_93 (h := ?_); refine PO_ HT_ 55 166 m50_94 (h := ?_); refine PU_ HT_ 56 167 m50_95 (h := ?_)
               refine done_ (done_of HT_.out (by kernel_rfl)) ?_
               try go_wp2
               go_roundg kj25
               case measure => have := HJ3.out; have := HK2.out; have := HK3.out; have := HJ25.out; omega
               case rel => exact ⟨(wrap64 (x9_3 + 1)), (by first | rfl | exact congrArg (fun b => Ending.returned (Value.bool b)) HR_.out | (simp; done) | (simp [*]; done)), H', ⟨by have := HJ3.out; have := HK2.out; have := HK3.out; have := HJ25.out; omega⟩, ⟨by (with_reducible repeat (first | apply Kd.R_alloc | apply Kd.R_drewN | apply Kd.R_drew)); exact Kd.R_mono HO_5.out (fun _ hk => trivial)⟩, ⟨by exact SM_ HO_611000.out⟩, ⟨by exact SM_ HO_611001.out⟩, ⟨by exact KX_ BK610.out⟩, ⟨B1_⟩⟩
          rw [if_neg c25] at H
          exact absurd H (by simp)
         rw [if_neg c24] at H
         have c24b0 : decide (x9_3 < (t614.length : Int)) = false := decide_eq_false c24
         clear c24
         clear H
         obtain ⟨Ao65, co65, eo65⟩ := Kd.R_slice HO_5.out
         subst eo65
         go_wp2
         go_ret
         exact ⟨by first | rfl | exact congrArg (fun b => Ending.returned (Value.bool b)) HR_.out | (simp [errW_none, errW_some] <;> rfl) | (simp [*, errW_none, errW_some] <;> rfl), B1_⟩
    rw [if_neg c10] at H
    have c10b0 : (t609 == 0) = false := beq_eq_false_iff_ne.mpr c10
    have c10b1 : (t609 != 0) = true := bne_iff_ne.mpr c10
    replace H := Option.bind_eq_some_iff.mp H
    obtain ⟨t611, A660, H⟩ := H
    try dsimp only at H
    have A66 := Aside0.mk A660
    clear A660
    have HR_ := A_ (Option.some.inj H)
    clear H
    go_wp2_with (first | ((with_reducible refine gate_callee (f := 15) rfl ?_); refine goesL_ (some 23) rfl rfl Try.func15 (by kernel_rfl) rfl #[.slice A0 l0.length c0] rfl (by (try simp only [List.map_toArray, List.map_cons, List.map_nil]); first | done | rfl | (simp only [List.length_drop, List.length_take]; rfl)) ?_; (with_reducible refine (graph_Make.calls kj3 _ _ l0 t603 t606 t609 _ ?side1 ?side2 A9.out).mono ?_); (case side1 => exact CX_ (Kd.C_below HR0.out HB.out)); (case side2 => exact HC0.out); rintro e w67 ⟨v604, v607, rfl, ho0, ho1, hb⟩; refine ⟨_, rfl, ?_⟩; have HO605 := A_ (Kd.S_lower ho0 (below_size (B_))); have HO608 := A_ (Kd.S_lower ho1 (below_size (B_))); replace HB := A_ (below_step (B_) hb); (try clear hb); (try clear hb2); (try clear hk); (try clear hi); (try clear ho0); (try clear ho1)) | ((with_reducible refine gate_dst (N := 3) rfl ?_); (try (refine gate_guard (by rfl) ?_; dsimp only)); refine box_event ?hg (N := 3) ?hd (cs := #[.slice none 0 0, .slice none 0 0]) (t := 26) ?hr ?_; (case hd => rfl); (case hg => rfl); (case hr => first | (go_simp; done) | (go_simp; rfl)); intro gb610 hg w68 hbox hb; replace HO605 := A_ (Kd.S_below (by exact SX_ HO605.out) hb); replace HO608 := A_ (Kd.S_below (by exact SX_ HO608.out) hb); have BK610 := A_ (hbox); have GW610 := A_ ((by rw [hg]; exact (below_size (B_)) : w.heap.size ≤ gb610)); have GE610 := A_ ((by rw [hg]; exact (below_size (B_)) : w.heap.size ≤ gb610)); replace HB := A_ (below_step (B_) hb); clear hb hbox hg; obtain ⟨Ao69, co69, eo69⟩ := Kd.S_slice HO605.out; subst eo69; have hcz70_0 : w68.cell? ⟨gb610, 0, none⟩ = some (.slice none 0 0) := (blk_cell BK610.out 0).trans rfl; have hcz70_1 : w68.cell? ⟨gb610, 1, none⟩ = some (.slice none 0 0) := (blk_cell BK610.out 1).trans rfl; have hfz70_0 := blk_frozen BK610.out 0; have hfz70_1 := blk_frozen BK610.out 1; obtain ⟨Ao71, co71, eo71⟩ := Kd.S_slice HO608.out; subst eo71) | ((with_reducible refine gate_callee (f := 10) rfl ?_); refine goesL_ (some 29) rfl rfl Try.func10 (by kernel_rfl) rfl #[.agg #[.slice Ao69 t603.length co69, .slice Ao71 t606.length co71]] rfl (by (try simp only [List.map_toArray, List.map_cons, List.map_nil]); first | done | rfl | (simp only [List.length_drop, List.length_take]; rfl)) ?_; (with_reducible refine (dep_All.calls kj3 _ _ t603 _ _ t606 t611 _ ?side1 ?side2 ?side3 ?side4 A66.out).mono ?_); (case side1 => refine (Kd.S_reads' (e := 31) (base := w.heap.size) (ok := fun k_ => some k_ ≠ (.slice Ao71 t606.length co71 : Value).ownBlock) (n := t603.length) (c := co69) ?_).2.2; exact (by (with_reducible repeat (first | apply Kd.S_alloc | apply Kd.S_drewN | apply Kd.S_drew)); exact (Kd.S_mono (Kd.S_far (p := ⟨gb610, 1, none⟩) (Kd.S_far (p := ⟨gb610, 0, none⟩) (Kd.S_types HO605.out BK610.out (by decide)) (fun _ hk => hk.2) (.slice Ao69 t603.length co69)) (fun _ hk => hk.2) (.slice Ao71 t606.length co71)) (fun _ h_ => h_.1)))); (case side2 => exact (Kd.S_reads' HO605.out).2.1); (case side3 => refine (Kd.S_reads' (e := 31) (base := w.heap.size) (ok := fun k_ => some k_ ≠ (.slice Ao69 t603.length co69 : Value).ownBlock) (n := t606.length) (c := co71) ?_).2.2; exact (by (with_reducible repeat (first | apply Kd.S_alloc | apply Kd.S_drewN | apply Kd.S_drew)); exact (Kd.S_mono (Kd.S_far (p := ⟨gb610, 1, none⟩) (Kd.S_far (p := ⟨gb610, 0, none⟩) (Kd.S_types HO608.out BK610.out (by decide)) (fun _ hk => hk.2) (.slice Ao69 t603.length co69)) (fun _ hk => hk.2) (.slice Ao71 t606.length co71)) (fun _ h_ => h_.1)))); (case side4 => exact (Kd.S_reads' HO608.out).2.1); rintro e w72 ⟨v612, rfl, ho0, hb⟩; refine ⟨_, rfl, ?_⟩; replace HO605 := A_ (Kd.S_below (by (with_reducible repeat (first | apply Kd.S_alloc | apply Kd.S_drewN | apply Kd.S_drew)); exact (Kd.S_mono (Kd.S_far (p := ⟨gb610, 1, none⟩) (Kd.S_far (p := ⟨gb610, 0, none⟩) (Kd.S_types HO605.out BK610.out (by decide)) (fun _ hk => hk.2) (.slice Ao69 t603.length co69)) (fun _ hk => hk.2) (.slice Ao71 t606.length co71)) (fun _ h_ => h_.1))) hb); replace HO608 := A_ (Kd.S_below (by (with_reducible repeat (first | apply Kd.S_alloc | apply Kd.S_drewN | apply Kd.S_drew)); exact (Kd.S_mono (Kd.S_far (p := ⟨gb610, 1, none⟩) (Kd.S_far (p := ⟨gb610, 0, none⟩) (Kd.S_types HO608.out BK610.out (by decide)) (fun _ hk => hk.2) (.slice Ao69 t603.length co69)) (fun _ hk => hk.2) (.slice Ao71 t606.length co71)) (fun _ h_ => h_.1))) hb); have HO613 := A_ (Kd.R_lower ho0 (below_size (B1_))); replace BK610 := A_ (blk_below (g := gb610) (o := .cells #[.slice Ao69 t603.length co69, .slice Ao71 t606.length co71] 26 (0, 0)) (by (with_reducible repeat (first | refine blk_drewN ?_ _ | refine blk_drew ?_ | refine blk_alloc ?_ _)); refine blk_put (cs := #[.slice Ao69 t603.length co69, .slice none 0 0]) ?_ 1 _ rfl; (with_reducible repeat (first | refine blk_drewN ?_ _ | refine blk_drew ?_ | refine blk_alloc ?_ _)); refine blk_put (cs := #[.slice none 0 0, .slice none 0 0]) ?_ 0 _ rfl; exact KX_ BK610.out) hb); replace HB := A_ (below_step (B1_) hb); (try clear hb); (try clear hb2); (try clear hk); (try clear hi); (try clear ho0); obtain ⟨Ao73, co73, eo73⟩ := Kd.R_slice HO613.out; subst eo73))
    go_ret
    exact ⟨by first | rfl | exact congrArg (fun b => Ending.returned (Value.bool b)) HR_.out | (simp [errW_none, errW_some] <;> rfl) | (simp [*, errW_none, errW_some] <;> rfl), B1_⟩
 replace c3 := Bool.eq_false_iff.mpr c3
 subst c3
 have H1 : (some false) = some true := by rw [if_neg (show ¬ (false = true) by decide)] at H; exact H
 clear H
 have H := H1
 clear H1
 exact absurd H (by simp)

/-- THE ONE PURE STATEMENT of locksteplaw09_DepEnds: yours. -/
def locksteplaw09_DepEnds.Pure : Prop := ∀ (l0 : List (List Int)), RowsOk .i64 l0 → ∃ k, locksteplaw09_DepEnds.f k l0 = some true
theorem locksteplaw09_DepEnds.walk (P : locksteplaw09_DepEnds.Pure) (a0 : Option Addr) (cap0 : Nat) (l0 : List (List Int)) (w : World) (w0 : Kd.C (Kd.slice 3 (Kd.int .i64)) w a0 l0.length l0) (y0 : l0.length ≤ cap0) (m0 : RowsOk .i64 l0) :
 Calls Try.prog 5 #[.slice a0 l0.length cap0] w fun e w' => e = .returned (.bool true) ∧ Below w.heap.size w w' := by
 obtain ⟨k, h⟩ := P l0 m0
 refine (locksteplaw09_DepEnds.calls k _ _ l0 w w0 y0 h).mono ?_
 rintro e w' ⟨rfl, hd⟩
 exact ⟨rfl, hd⟩

end Go.Proofs.Ytheillkpgmpnlaa.G
namespace Go.Proofs.Ytheillkpgmpnlaa.GP
open Go.RowKit Go.Proofs.Ytheillkpgmpnlaa.G Go.Proofs.YtheillkpgmpnlaaW.PrintWords

/-- With enough rounds the answer is v. -/
def Ev {α : Type} (f : Nat → Option α) (v : α) : Prop := ∃ K, ∀ k, K ≤ k → f k = some v
theorem Ev.succ {α : Type} {f : Nat → Option α} {v : α} (h : Ev (fun k => f (k + 1)) v) : Ev f v := by
  obtain ⟨K, h⟩ := h
  refine ⟨K + 1, fun k hk => ?_⟩
  obtain ⟨m, rfl⟩ : ∃ m, k = m + 1 := ⟨k - 1, by omega⟩
  exact h m (by omega)
theorem Ev.bind {α β : Type} {g : Nat → Option α} {h : Nat → α → Option β} {a : α} {r : β} (h1 : Ev g a) (h2 : Ev (fun k => h k a) r) : Ev (fun k => (g k).bind (fun t => h k t)) r := by
  obtain ⟨K1, h1⟩ := h1
  obtain ⟨K2, h2⟩ := h2
  refine ⟨K1 + K2, fun k hk => ?_⟩
  simp only [h1 k (by omega), Option.bind_some]
  exact h2 k (by omega)
theorem Ev.pure {α : Type} {v : α} : Ev (fun _ => some v) v := ⟨0, fun _ _ => rfl⟩
theorem Ev.ifp {α : Type} {c : Prop} [Decidable c] {a b : Nat → Option α} {v : α} (h : c) (H : Ev a v) : Ev (fun k => if c then a k else b k) v := by
  simp only [if_pos h]; exact H
theorem Ev.ifn {α : Type} {c : Prop} [Decidable c] {a b : Nat → Option α} {v : α} (h : ¬ c) (H : Ev b v) : Ev (fun k => if c then a k else b k) v := by
  simp only [if_neg h]; exact H
theorem Ev.at {α : Type} {f : Nat → Option α} {v : α} (h : Ev f v) : ∃ k, f k = some v := by
  obtain ⟨K, h⟩ := h; exact ⟨K, h K (Nat.le_refl _)⟩
theorem Ev.of_eq {α : Type} {f : Nat → Option α} {v w : α} (h : Ev f v) (e : v = w) : Ev f w := e ▸ h
theorem Ev.of_at {α : Type} {f : Nat → Option α} {v : α} (m : ∀ k, LeO (f k) (f (k + 1))) {K : Nat} (h : f K = some v) : Ev f v := by
  refine ⟨K, fun k hk => ?_⟩
  obtain ⟨d, rfl⟩ : ∃ d, k = K + d := ⟨k - K, by omega⟩
  clear hk
  induction d with
  | zero => exact h
  | succ d ih => exact m _ _ ih

theorem wrap_nat {i : Nat} (h : i < 9223372036854775807) : wrap64 ((i : Int) + 1) = ((i + 1 : Nat) : Int) := by unfold wrap64; omega
theorem wrap_id {x : Int} (h : -9223372036854775808 ≤ x) (h' : x ≤ 9223372036854775807) : wrap64 x = x := by unfold wrap64; omega

/-- Numbers as blocks' numbers. -/
def up (l : List Nat) : List Int := l.map (fun n : Nat => (n : Int))
def up2 (S : List (List Nat)) : List (List Int) := S.map up
@[simp] theorem up_length (l : List Nat) : (up l).length = l.length := by simp [up]
@[simp] theorem up2_length (S : List (List Nat)) : (up2 S).length = S.length := by simp [up2]
@[simp] theorem up_nil : up [] = [] := rfl
@[simp] theorem up2_nil : up2 [] = [] := rfl
theorem up_append (a b : List Nat) : up (a ++ b) = up a ++ up b := by simp [up]
theorem up_inj {a b : List Nat} (h : up a = up b) : a = b := by
  induction a generalizing b with
  | nil => cases b with
    | nil => rfl
    | cons y b => simp [up] at h
  | cons x a ih => cases b with
    | nil => simp [up] at h
    | cons y b =>
      simp only [up, List.map_cons, List.cons.injEq] at h
      rw [show x = y by omega, ih h.2]
theorem up2_inj {a b : List (List Nat)} (h : up2 a = up2 b) : a = b := by
  induction a generalizing b with
  | nil => cases b with
    | nil => rfl
    | cons y b => simp [up2] at h
  | cons x a ih => cases b with
    | nil => simp [up2] at h
    | cons y b =>
      simp only [up2, List.map_cons, List.cons.injEq] at h
      rw [up_inj h.1, ih h.2]
theorem rd_up (l : List Nat) (i : Nat) : rd (up l) (i : Int) = ((l.getD i 0 : Nat) : Int) := by
  simp only [rd, up, Int.toNat_natCast, List.getD_eq_getElem?_getD, List.getElem?_map]
  cases l[i]? <;> rfl
theorem rdL_up (S : List (List Nat)) (i : Nat) : rd_L1 (up2 S) (i : Int) = up (S.getD i []) := by
  simp only [rd_L1, up2, Int.toNat_natCast, List.getD_eq_getElem?_getD, List.getElem?_map]
  cases S[i]? <;> rfl
theorem getD_mem {α : Type} {l : List α} {i : Nat} {d : α} (h : i < l.length) : l.getD i d ∈ l := by
  rw [List.getD_eq_getElem?_getD, List.getElem?_eq_getElem h]; exact List.getElem_mem h
theorem drop_getD {α : Type} (l : List α) (i : Nat) (d : α) (h : i < l.length) : l.drop i = l.getD i d :: l.drop (i + 1) := by
  rw [List.drop_eq_getElem_cons h, List.getD_eq_getElem?_getD, List.getElem?_eq_getElem h]; rfl
theorem take_getD {α : Type} (l : List α) (i : Nat) (d : α) (h : i < l.length) : l.take (i + 1) = l.take i ++ [l.getD i d] := by
  rw [List.take_succ_eq_append_getElem h, List.getD_eq_getElem?_getD, List.getElem?_eq_getElem h]; rfl
theorem getD_map_range {α : Type} (n : Nat) (f : Nat → α) (i : Nat) (d : α) (h : i < n) : ((List.range n).map f).getD i d = f i := by
  rw [List.getD_eq_getElem?_getD, List.getElem?_map, List.getElem?_range h]; rfl
theorem set_map_range {α : Type} (n : Nat) (f g : Nat → α) (i : Nat) (v : α) (hv : g i = v) (he : ∀ j, j ≠ i → g j = f j) : ((List.range n).map f).set i v = (List.range n).map g := by
  apply List.ext_getElem
  · simp
  · intro j h1 h2
    simp only [List.getElem_set, List.getElem_map, List.getElem_range]
    split
    · next e => rw [← e, hv]
    · next e => rw [he j (fun h => e h.symm)]
theorem self_map_range {α : Type} (l : List α) (d : α) : l = (List.range l.length).map (fun i => l.getD i d) := by
  apply List.ext_getElem
  · simp
  · intro j h1 h2
    simp only [List.getElem_map, List.getElem_range, List.getD_eq_getElem?_getD, List.getElem?_eq_getElem h1]; rfl
theorem ext_getD {α : Type} {a b : List α} (d : α) (hl : a.length = b.length) (h : ∀ i, i < a.length → a.getD i d = b.getD i d) : a = b := by
  rw [self_map_range a d, self_map_range b d, hl]
  exact List.map_congr_left (fun i hi => h i (by have := List.mem_range.mp hi; omega))

/-- Each number greater than the one ahead, and below n. -/
def rsg (n : Int) : Int → List Int → Bool
  | _, [] => true
  | last, x :: xs => if x ≤ last then false else if x ≥ n then false else rsg n x xs

def big : Nat := 9223372036854775807

theorem rising_l0 (d : Nat) : ∀ (i : Nat) (n last : Int) (l : List Int), l.length ≤ big → i ≤ l.length → l.length - i = d → Ev (fun k => graph_rising.l0 k n last l (l.length : Int) (i : Int)) (rsg n last (l.drop i)) := by
  induction d with
  | zero =>
    intro i n last l hb hi hd
    refine Ev.succ ?_; simp only [graph_rising.l0]
    rw [List.drop_of_length_le (by omega)]
    exact Ev.ifn (by omega) Ev.pure
  | succ d ih =>
    intro i n last l hb hi hd
    have h1 : i < l.length := by omega
    have hbb : big = 9223372036854775807 := rfl
    refine Ev.succ ?_; simp only [graph_rising.l0]
    refine Ev.ifp (by omega) (Ev.ifp (by omega) (Ev.ifp (by omega) ?_))
    rw [drop_getD l i 0 h1, show rd l (i : Int) = l.getD i 0 by simp [rd]]
    simp only [rsg]
    split
    · exact Ev.pure
    · split
      · exact Ev.pure
      · rw [wrap_nat (by omega)]
        exact ih (i + 1) _ _ l hb (by omega) (by omega)
theorem make1_ok (l : List Int) (n : Int) (h : l.length ≤ big) : Ev (fun k => graph_Make_1.f k l n) (!rsg n (-1) l) := by
  unfold graph_Make_1.f graph_rising.f
  exact Ev.bind (a := rsg n (-1) l) (by simpa using rising_l0 l.length 0 n (-1) l h (by omega) (by omega)) Ev.pure
theorem index_l0 (d : Nat) : ∀ (i : Nat) (n : Int) (s : List (List Int)), s.length ≤ big → (∀ l ∈ s, l.length ≤ big) → i ≤ s.length → s.length - i = d →
    ∃ v, Ev (fun k => slices_IndexFunc_int_int_graph_Make_1.l0 k s (s.length : Int) (i : Int) n) v ∧ decide (v ≥ 0) = (s.drop i).any (fun l => !rsg n (-1) l) := by
  induction d with
  | zero =>
    intro i n s hb hr hi hd
    refine ⟨-1, Ev.succ ?_, by rw [List.drop_of_length_le (by omega)]; rfl⟩
    simp only [slices_IndexFunc_int_int_graph_Make_1.l0]
    exact Ev.ifn (by omega) Ev.pure
  | succ d ih =>
    intro i n s hb hr hi hd
    have h1 : i < s.length := by omega
    have hbb : big = 9223372036854775807 := rfl
    have hrd : rd_L1 s (i : Int) = s.getD i [] := by simp [rd_L1]
    rw [drop_getD s i [] h1, List.any_cons]
    cases hv : rsg n (-1) (s.getD i []) with
    | false =>
      refine ⟨(i : Int), Ev.succ ?_, by simp⟩
      simp only [slices_IndexFunc_int_int_graph_Make_1.l0]
      refine Ev.ifp (by omega) (Ev.ifp (by omega) (Ev.ifp (by omega) ?_))
      refine Ev.bind (make1_ok _ n (by rw [hrd]; exact hr _ (getD_mem h1))) ?_
      rw [hrd, hv]
      exact Ev.ifp rfl Ev.pure
    | true =>
      obtain ⟨v, he, hd'⟩ := ih (i + 1) n s hb hr (by omega) (by omega)
      refine ⟨v, Ev.succ ?_, by simpa using hd'⟩
      simp only [slices_IndexFunc_int_int_graph_Make_1.l0]
      refine Ev.ifp (by omega) (Ev.ifp (by omega) (Ev.ifp (by omega) ?_))
      refine Ev.bind (make1_ok _ n (by rw [hrd]; exact hr _ (getD_mem h1))) ?_
      rw [hrd, hv]
      refine Ev.ifn (by decide) ?_
      rw [wrap_nat (by omega)]; exact he
theorem contains_ok (s : List (List Int)) (n : Int) (hb : s.length ≤ big) (hr : ∀ l ∈ s, l.length ≤ big) : Ev (fun k => slices_ContainsFunc_int_int_graph_Make_1.f k s n) (s.any (fun l => !rsg n (-1) l)) := by
  obtain ⟨v, he, hd⟩ := index_l0 s.length 0 n s hb hr (by omega) (by omega)
  unfold slices_ContainsFunc_int_int_graph_Make_1.f slices_IndexFunc_int_int_graph_Make_1.f
  have hd' : decide (v ≥ 0) = s.any (fun l => !rsg n (-1) l) := by simpa using hd
  exact (Ev.bind (h := fun _ t => some (decide (t ≥ 0))) (by simpa using he) Ev.pure).of_eq hd'

/-- May these lists be a graph's ways on? -/
def goodb (s : List (List Int)) : Bool := decide (1 ≤ s.length) && (decide (s.length ≤ 64) && s.all (rsg (s.length : Int) (-1)))
/-- A graph's ways on. -/
structure Gr (S : List (List Nat)) : Prop where
  pos : 0 < S.length
  le : S.length ≤ 64
  row : ∀ i, i < S.length → (S.getD i []).Pairwise (· < ·) ∧ ∀ y ∈ S.getD i [], y < S.length
/-- Where blocks come from. -/
def pr (S : List (List Nat)) : List (List Nat) := (List.range S.length).map fun j => (List.range S.length).filter fun i => decide (j ∈ S.getD i [])

theorem rsg_spec : ∀ (l : List Int) (n last : Int), rsg n last l = true → l.Pairwise (· < ·) ∧ (∀ x ∈ l, last < x ∧ x < n) := by
  intro l
  induction l with
  | nil => intro n last _; simp
  | cons x l ih =>
    intro n last h
    simp only [rsg] at h
    split at h
    · cases h
    · split at h
      · cases h
      · obtain ⟨h1, h2⟩ := ih n x h
        refine ⟨List.pairwise_cons.mpr ⟨fun y hy => (h2 y hy).1, h1⟩, fun y hy => ?_⟩
        rcases List.mem_cons.mp hy with rfl | hy
        · omega
        · have := h2 y hy; omega
theorem rsg_of : ∀ (l : List Int) (n last : Int), l.Pairwise (· < ·) → (∀ x ∈ l, last < x ∧ x < n) → rsg n last l = true := by
  intro l
  induction l with
  | nil => intro n last _ _; rfl
  | cons x l ih =>
    intro n last h h2
    have h3 := h2 x (List.mem_cons_self ..)
    simp only [rsg]
    rw [if_neg (by omega), if_neg (by omega)]
    obtain ⟨h4, h5⟩ := List.pairwise_cons.mp h
    exact ih n x h5 (fun y hy => ⟨h4 y hy, (h2 y (List.mem_cons_of_mem _ hy)).2⟩)
theorem good_gr {s : List (List Int)} (h : goodb s = true) : ∃ S, Gr S ∧ s = up2 S := by
  simp only [goodb, Bool.and_eq_true, decide_eq_true_eq, List.all_eq_true] at h
  obtain ⟨h1, h2, h3⟩ := h
  have hr : ∀ l ∈ s, up (l.map Int.toNat) = l := by
    intro l hl
    have := rsg_spec l _ _ (h3 l hl)
    simp only [up, List.map_map]
    conv => rhs; rw [← List.map_id l]
    exact List.map_congr_left (fun x hx => by have := (this.2 x hx).1; simp; omega)
  have hs : up2 (s.map (fun l => l.map Int.toNat)) = s := by
    simp only [up2, List.map_map]
    conv => rhs; rw [← List.map_id s]
    exact List.map_congr_left (fun l hl => hr l hl)
  refine ⟨s.map (fun l => l.map Int.toNat), ⟨by simp; omega, by simpa using h2, fun i hi => ?_⟩, hs.symm⟩
  have hi' : i < s.length := by simpa using hi
  have hl := getD_mem (d := []) hi'
  have hq : (s.map (fun l => l.map Int.toNat)).getD i [] = (s.getD i []).map Int.toNat := by
    simp only [List.getD_eq_getElem?_getD, List.getElem?_map, List.getElem?_eq_getElem hi']; rfl
  have h4 := rsg_spec _ _ _ (h3 _ hl)
  rw [hq]
  refine ⟨List.pairwise_map.mpr (h4.1.imp_of_mem (fun ha hb hab => by have := h4.2 _ ha; have := h4.2 _ hb; omega)), fun y hy => ?_⟩
  obtain ⟨x, hx, rfl⟩ := List.mem_map.mp hy
  have := h4.2 x hx
  simp; omega
theorem gr_good {S : List (List Nat)} (h : Gr S) : goodb (up2 S) = true := by
  simp only [goodb, Bool.and_eq_true, decide_eq_true_eq, List.all_eq_true, up2_length]
  refine ⟨h.pos, h.le, fun l hl => ?_⟩
  obtain ⟨r, hr, rfl⟩ := List.mem_map.mp hl
  obtain ⟨i, hi, hri⟩ := List.getElem_of_mem hr
  have h2 := h.row i hi
  rw [List.getD_eq_getElem?_getD, List.getElem?_eq_getElem hi, hri] at h2
  simp only [Option.getD_some] at h2
  refine rsg_of _ _ _ (List.pairwise_map.mpr (h2.1.imp (fun h => by omega))) (fun x hx => ?_)
  obtain ⟨y, hy, rfl⟩ := List.mem_map.mp hx
  have := h2.2 y hy; omega

theorem pw_len (n : Nat) : ∀ (l : List Nat) (lo : Nat), l.Pairwise (· < ·) → (∀ x ∈ l, lo ≤ x ∧ x < n) → lo ≤ n → l.length + lo ≤ n := by
  intro l
  induction l with
  | nil => intro lo _ _ h; simpa using h
  | cons x l ih =>
    intro lo h h2 hlo
    obtain ⟨h4, h5⟩ := List.pairwise_cons.mp h
    have h3 := h2 x (List.mem_cons_self ..)
    have := ih (x + 1) h5 (fun y hy => ⟨h4 y hy, (h2 y (List.mem_cons_of_mem _ hy)).2⟩) (by omega)
    simp only [List.length_cons]; omega
theorem gr_len {S : List (List Nat)} (h : Gr S) {i : Nat} (hi : i < S.length) : (S.getD i []).length ≤ 64 := by
  have := pw_len S.length _ 0 (h.row i hi).1 (fun x hx => ⟨Nat.zero_le _, (h.row i hi).2 x hx⟩) (Nat.zero_le _)
  have := h.le; omega
/-! #### the ways back -/
theorem gr_nodup {S : List (List Nat)} (h : Gr S) {i : Nat} (hi : i < S.length) : (S.getD i []).Nodup := (h.row i hi).1.imp (fun h => Nat.ne_of_lt h)
/-- The ways back when i rows are gone through, and m of row i. -/
def prAt (S : List (List Nat)) (i m j : Nat) : List Nat := (List.range i).filter (fun i => decide (j ∈ S.getD i [])) ++ if j ∈ (S.getD i []).take m then [i] else []
def prI (S : List (List Nat)) (i m : Nat) : List (List Int) := (List.range S.length).map fun j => up (prAt S i m j)
theorem prI_succ (S : List (List Nat)) (i : Nat) : prI S i (S.getD i []).length = prI S (i + 1) 0 := by
  unfold prI
  refine List.map_congr_left (fun j _ => ?_)
  simp only [prAt, List.take_length, List.take_zero, List.range_succ, List.filter_append, List.not_mem_nil, if_false, List.append_nil]
  congr 2
  by_cases hj : j ∈ S.getD i []
  · rw [if_pos hj, List.filter_cons_of_pos (by simpa using hj)]; rfl
  · rw [if_neg hj, List.filter_cons_of_neg (by simpa using hj)]; rfl
theorem preds_end {S : List (List Nat)} : prI S S.length 0 = up2 (pr S) := by
  simp only [prI, pr, up2, List.map_map]
  refine List.map_congr_left (fun j _ => ?_)
  simp [prAt]
theorem preds_l1 {S : List (List Nat)} (h : Gr S) (i : Nat) (hi : i < S.length) (v : List (List Int)) (H : Ev (fun k => graph_preds.l0 k (prI S (i + 1) 0) (up2 S) (S.length : Int) ((i + 1 : Nat) : Int)) v) (d : Nat) :
    ∀ m, m ≤ (S.getD i []).length → (S.getD i []).length - m = d → Ev (fun k => graph_preds.l1 k (prI S i m) (i : Int) (up2 S) (S.length : Int) (i : Int) (up (S.getD i [])) ((S.getD i []).length : Int) (m : Int)) v := by
  have hle := h.le
  have hlen := gr_len h hi
  induction d with
  | zero =>
    intro m hm hd
    refine Ev.succ ?_; simp only [graph_preds.l1]
    refine Ev.ifn (by omega) ?_
    rw [wrap_nat (by omega), show m = (S.getD i []).length by omega, prI_succ]
    exact H
  | succ d ih =>
    intro m hm hd
    have h1 : m < (S.getD i []).length := by omega
    refine Ev.succ ?_; simp only [graph_preds.l1]
    rw [rd_up]
    have hy := (h.row i hi).2 _ (getD_mem (d := 0) h1)
    have hyn : (S.getD i []).getD m 0 ∉ (S.getD i []).take m := by
      intro hc
      have h3 : (S.getD i []).Nodup := gr_nodup h hi
      have h2 := take_getD _ m 0 h1
      have h4 : ((S.getD i []).take (m + 1)).Nodup := h3.sublist (List.take_sublist _ _)
      rw [h2, List.nodup_append] at h4
      exact h4.2.2 _ hc _ (List.mem_singleton.mpr rfl) rfl
    generalize hyv : (S.getD i []).getD m 0 = y at hy hyn
    have hrow : rd_L1 (prI S i m) (y : Int) = up (prAt S i m y) := by
      simp only [rd_L1, Int.toNat_natCast, prI]
      exact getD_map_range _ _ _ _ hy
    have hpl : (prAt S i m y).length ≤ 65 := by
      simp only [prAt, List.length_append]
      have := List.length_filter_le (fun i => decide (y ∈ S.getD i [])) (List.range i)
      simp only [List.length_range] at this
      split
      · rw [List.length_singleton]; omega
      · rw [List.length_nil]; omega
    refine Ev.ifp (by omega) (Ev.ifp (by omega) (Ev.ifp (by rw [up_length]; omega) (Ev.ifp (by omega) (Ev.ifp (by simp [prI]; omega) ?_))))
    rw [hrow]
    refine Ev.ifp (by rw [up_length]; omega) ?_
    have hset : (prI S i m).set y (up (prAt S i m y) ++ [(i : Int)]) = prI S i (m + 1) := by
      refine set_map_range _ _ _ _ _ ?_ (fun j hj => ?_)
      · simp only [prAt]
        rw [take_getD _ m 0 h1, hyv, if_neg hyn, if_pos (by simp)]
        simp [up]
      · simp only [prAt]
        rw [take_getD _ m 0 h1, hyv]
        congr 2
        simp [hj]
    rw [Int.toNat_natCast, hset, wrap_nat (by omega)]
    exact ih (m + 1) (by omega) (by omega)
theorem preds_l0 {S : List (List Nat)} (h : Gr S) (d : Nat) : ∀ i, i ≤ S.length → S.length - i = d → Ev (fun k => graph_preds.l0 k (prI S i 0) (up2 S) (S.length : Int) (i : Int)) (up2 (pr S)) := by
  have hle := h.le
  induction d with
  | zero =>
    intro i hi hd
    refine Ev.succ ?_; simp only [graph_preds.l0]
    refine Ev.ifn (by omega) ?_
    rw [show i = S.length by omega, preds_end]
    exact Ev.pure
  | succ d ih =>
    intro i hi hd
    refine Ev.succ ?_; simp only [graph_preds.l0]
    refine Ev.ifp (by omega) (Ev.ifp (by omega) (Ev.ifp (by simp; omega) ?_))
    rw [rdL_up, up_length]
    exact preds_l1 h i (by omega) _ (ih (i + 1) (by omega) (by omega)) _ 0 (by omega) rfl
theorem preds_ok {S : List (List Nat)} (h : Gr S) : Ev (fun k => graph_preds.f k (up2 S)) (up2 (pr S)) := by
  have hle := h.le
  unfold graph_preds.f
  refine Ev.ifp (by omega) (Ev.ifp (by simp; omega) ?_)
  have h0 := preds_l0 h S.length 0 (by omega) (by omega)
  have e : List.replicate (((up2 S).length : Int)).toNat ([] : List Int) = prI S 0 0 := by
    simp only [up2_length, Int.toNat_natCast, prI]
    apply List.ext_getElem
    · simp
    · intro j h1 h2; simp [prAt]
  rw [e, up2_length]
  exact h0

/-! #### graph.Make -/
theorem clone_ok (l : List Int) (h : l.length < 17592186044416) : slices_Clone_int_int.f l = some l := by
  simp [slices_Clone_int_int.f, h]
theorem make_l0 {S : List (List Nat)} (h : Gr S) (d : Nat) : ∀ i, i ≤ S.length → S.length - i = d → Ev (fun k => graph_Make.l0 k (up2 (S.take i)) (up2 S) (S.length : Int) (i : Int)) (up2 S, up2 (pr S), 0) := by
  have hle := h.le
  induction d with
  | zero =>
    intro i hi hd
    refine Ev.succ ?_; simp only [graph_Make.l0]
    refine Ev.ifn (by omega) ?_
    rw [List.take_of_length_le (by omega)]
    exact Ev.bind (preds_ok h) Ev.pure
  | succ d ih =>
    intro i hi hd
    have h1 : i < S.length := by omega
    have hlen := gr_len h h1
    refine Ev.succ ?_; simp only [graph_Make.l0]
    refine Ev.ifp (by omega) (Ev.ifp (by omega) (Ev.ifp (by simp; omega) ?_))
    rw [rdL_up, clone_ok _ (by rw [up_length]; omega)]
    simp only [Option.bind_some]
    refine Ev.ifp (by simp; omega) ?_
    have e : up2 (S.take i) ++ [up (S.getD i [])] = up2 (S.take (i + 1)) := by rw [take_getD S i [] h1]; simp [up2]
    rw [e, wrap_nat (by omega)]
    exact ih (i + 1) (by omega) (by omega)
theorem make_ok {S : List (List Nat)} (h : Gr S) : Ev (fun k => graph_Make.f k (up2 S)) (up2 S, up2 (pr S), 0) := by
  have hle := h.le; have hpos := h.pos
  have hg := gr_good h
  simp only [goodb, Bool.and_eq_true, decide_eq_true_eq, List.all_eq_true] at hg
  unfold graph_Make.f
  refine Ev.ifn (by simp; omega) (Ev.ifn (by simp; omega) ?_)
  have hrow : ∀ l ∈ up2 S, l.length ≤ big := by
    intro l hl
    obtain ⟨r, hr, rfl⟩ := List.mem_map.mp hl
    obtain ⟨i, hi, hri⟩ := List.getElem_of_mem hr
    have hsub := gr_len h hi
    rw [List.getD_eq_getElem?_getD, List.getElem?_eq_getElem hi, hri, Option.getD_some] at hsub
    rw [up_length]; simp only [big]; omega
  refine Ev.bind (contains_ok (up2 S) _ (by simp [big]; omega) hrow) ?_
  have e : (up2 S).any (fun l => !rsg ((up2 S).length : Int) (-1) l) = false := by
    rw [List.any_eq_false]
    intro l hl; rw [hg.2.2 l hl]; decide
  rw [e]
  refine Ev.succ ?_; simp only [graph_Make.j0]
  refine Ev.ifn (by decide) (Ev.ifp (by omega) (Ev.ifp (by simp; omega) ?_))
  simpa using make_l0 h S.length 0 (by omega) (by omega)
theorem make_bad {s : List (List Int)} (hb : s.length ≤ big) (hr : ∀ l ∈ s, l.length ≤ big) (h : goodb s = false) : Ev (fun k => graph_Make.f k s) ([], [], 5) := by
  unfold graph_Make.f
  have hj : ∀ n, Ev (fun k => graph_Make.j0 k s true n) (([] : List (List Int)), ([] : List (List Int)), (5 : Int)) := by
    intro n; refine Ev.succ ?_; simp only [graph_Make.j0]; exact Ev.ifp trivial Ev.pure
  by_cases h1 : (s.length : Int) < 1
  · exact Ev.ifp h1 (hj _)
  · refine Ev.ifn h1 ?_
    by_cases h2 : (s.length : Int) > 64
    · exact Ev.ifp h2 (hj _)
    · refine Ev.ifn h2 (Ev.bind (contains_ok s _ hb hr) ?_)
      have e : s.any (fun l => !rsg (s.length : Int) (-1) l) = true := by
        simp only [goodb] at h
        rw [decide_eq_true (by omega), decide_eq_true (by omega), Bool.true_and, Bool.true_and] at h
        rw [← Bool.not_eq_false, List.any_eq_false]
        intro hc
        have : s.all (rsg (s.length : Int) (-1)) = true := List.all_eq_true.mpr (fun l hl => by have := hc l hl; simpa using this)
        rw [h] at this; cases this
      rw [e]; exact hj _

theorem equal_l0 (d : Nat) : ∀ (i : Nat) (a b : List Int), a.length = b.length → a.length ≤ big → i ≤ a.length → a.length - i = d → Ev (fun k => slices_Equal_int_int.l0 k a b (a.length : Int) (i : Int)) (decide (a.drop i = b.drop i)) := by
  induction d with
  | zero =>
    intro i a b hl hb hi hd
    refine Ev.succ ?_; simp only [slices_Equal_int_int.l0]
    refine Ev.ifn (by omega) ?_
    rw [List.drop_of_length_le (by omega), List.drop_of_length_le (by omega)]
    exact Ev.pure.of_eq (by simp)
  | succ d ih =>
    intro i a b hl hb hi hd
    have hbb : big = 9223372036854775807 := rfl
    refine Ev.succ ?_; simp only [slices_Equal_int_int.l0]
    refine Ev.ifp (by omega) (Ev.ifp (by omega) (Ev.ifp (by omega) (Ev.ifp (by omega) ?_)))
    rw [show rd a (i : Int) = a.getD i 0 by simp [rd], show rd b (i : Int) = b.getD i 0 by simp [rd]]
    rw [drop_getD a i 0 (by omega), drop_getD b i 0 (by omega)]
    by_cases h : a.getD i 0 = b.getD i 0
    · refine Ev.ifp h ?_
      rw [wrap_nat (by omega)]
      exact (ih (i + 1) a b hl hb (by omega) (by omega)).of_eq (by rw [h]; simp)
    · refine Ev.ifn h (Ev.pure.of_eq ?_)
      rw [decide_eq_false]
      intro he; injection he with h1 _; exact h h1
theorem equal_ok (a b : List Int) (hb : a.length ≤ big) : Ev (fun k => slices_Equal_int_int.f k a b) (decide (a = b)) := by
  unfold slices_Equal_int_int.f
  by_cases h : a.length = b.length
  · refine Ev.ifp (by omega) ?_
    simpa using equal_l0 a.length 0 a b h hb (by omega) (by omega)
  · refine Ev.ifn (by omega) (Ev.pure.of_eq ?_)
    rw [decide_eq_false]
    intro he; exact h (by rw [he])
theorem eqf_l0 (d : Nat) : ∀ (i : Nat) (a b : List (List Int)), a.length = b.length → a.length ≤ big → (∀ l ∈ a, l.length ≤ big) → i ≤ a.length → a.length - i = d → Ev (fun k => slices_EqualFunc_int_int_int_int_slices_Equal_int_int.l0 k b a (a.length : Int) (i : Int)) (decide (a.drop i = b.drop i)) := by
  induction d with
  | zero =>
    intro i a b hl hb hr hi hd
    refine Ev.succ ?_; simp only [slices_EqualFunc_int_int_int_int_slices_Equal_int_int.l0]
    refine Ev.ifn (by omega) ?_
    rw [List.drop_of_length_le (by omega), List.drop_of_length_le (by omega)]
    exact Ev.pure.of_eq (by simp)
  | succ d ih =>
    intro i a b hl hb hr hi hd
    have hbb : big = 9223372036854775807 := rfl
    refine Ev.succ ?_; simp only [slices_EqualFunc_int_int_int_int_slices_Equal_int_int.l0]
    refine Ev.ifp (by omega) (Ev.ifp (by omega) (Ev.ifp (by omega) (Ev.ifp (by omega) ?_)))
    rw [show rd_L1 a (i : Int) = a.getD i [] by simp [rd_L1], show rd_L1 b (i : Int) = b.getD i [] by simp [rd_L1]]
    refine Ev.bind (equal_ok _ _ (hr _ (getD_mem (by omega)))) ?_
    rw [drop_getD a i [] (by omega), drop_getD b i [] (by omega)]
    by_cases h : a.getD i [] = b.getD i []
    · refine Ev.ifp (by rw [decide_eq_true h]) ?_
      rw [wrap_nat (by omega)]
      exact (ih (i + 1) a b hl hb hr (by omega) (by omega)).of_eq (by rw [h]; simp)
    · refine Ev.ifn (by rw [decide_eq_false h]; decide) (Ev.pure.of_eq ?_)
      rw [decide_eq_false]
      intro he; injection he with h1 _; exact h h1
theorem eqf_ok (a b : List (List Int)) (hb : a.length ≤ big) (hr : ∀ l ∈ a, l.length ≤ big) : Ev (fun k => slices_EqualFunc_int_int_int_int_slices_Equal_int_int.f k a b) (decide (a = b)) := by
  unfold slices_EqualFunc_int_int_int_int_slices_Equal_int_int.f
  by_cases h : a.length = b.length
  · refine Ev.ifp (by omega) ?_
    simpa using eqf_l0 a.length 0 a b h hb hr (by omega) (by omega)
  · refine Ev.ifn (by omega) (Ev.pure.of_eq ?_)
    rw [decide_eq_false]
    intro he; exact h (by rw [he])

theorem pr_length (S : List (List Nat)) : (pr S).length = S.length := by simp [pr]
theorem pr_getD {S : List (List Nat)} {j : Nat} (hj : j < S.length) : (pr S).getD j [] = (List.range S.length).filter fun i => decide (j ∈ S.getD i []) := getD_map_range _ _ _ _ hj
theorem mem_pr {S : List (List Nat)} {i j : Nat} (hj : j < S.length) : i ∈ (pr S).getD j [] ↔ i < S.length ∧ j ∈ S.getD i [] := by
  rw [pr_getD hj]; simp
theorem gr_pr {S : List (List Nat)} (h : Gr S) : Gr (pr S) := by
  refine ⟨by rw [pr_length]; exact h.pos, by rw [pr_length]; exact h.le, fun i hi => ?_⟩
  rw [pr_length] at hi ⊢
  refine ⟨?_, fun y hy => ((mem_pr hi).mp hy).1⟩
  rw [pr_getD hi]
  exact List.pairwise_lt_range.filter _
theorem sorted_ext : ∀ (a b : List Nat), a.Pairwise (· < ·) → b.Pairwise (· < ·) → (∀ x, x ∈ a ↔ x ∈ b) → a = b := by
  intro a
  induction a with
  | nil =>
    intro b _ _ h
    cases b with
    | nil => rfl
    | cons y b => exact absurd ((h y).mpr (List.mem_cons_self ..)) (by simp)
  | cons x a ih =>
    intro b ha hb h
    cases b with
    | nil => exact absurd ((h x).mp (List.mem_cons_self ..)) (by simp)
    | cons y b =>
      obtain ⟨ha1, ha2⟩ := List.pairwise_cons.mp ha
      obtain ⟨hb1, hb2⟩ := List.pairwise_cons.mp hb
      have e : x = y := by
        rcases List.mem_cons.mp ((h x).mp (List.mem_cons_self ..)) with e | e
        · exact e
        · rcases List.mem_cons.mp ((h y).mpr (List.mem_cons_self ..)) with e' | e'
          · exact e'.symm
          · have := hb1 x e; have := ha1 y e'; omega
      subst e
      rw [ih b ha2 hb2 (fun z => ⟨fun hz => ?_, fun hz => ?_⟩)]
      · rcases List.mem_cons.mp ((h z).mp (List.mem_cons_of_mem _ hz)) with e | e
        · have := ha1 z hz; omega
        · exact e
      · rcases List.mem_cons.mp ((h z).mpr (List.mem_cons_of_mem _ hz)) with e | e
        · have := hb1 z hz; omega
        · exact e
theorem pr_pr {S : List (List Nat)} (h : Gr S) : pr (pr S) = S := by
  have h1 := gr_pr h; have h2 := gr_pr h1
  refine ext_getD [] (by rw [pr_length, pr_length]) (fun i hi => ?_)
  rw [pr_length, pr_length] at hi
  refine sorted_ext _ _ (h2.row i (by rw [pr_length, pr_length]; exact hi)).1 (h.row i hi).1 (fun x => ?_)
  rw [mem_pr (by rw [pr_length]; exact hi), pr_length]
  constructor
  · rintro ⟨hx, hm⟩; exact ((mem_pr hx).mp hm).2
  · intro hm
    have hx := (h.row i hi).2 x hm
    exact ⟨hx, (mem_pr hx).mpr ⟨hi, hm⟩⟩
theorem gr_rows {S : List (List Nat)} (h : Gr S) : ∀ l ∈ up2 S, l.length ≤ 64 := by
  intro l hl
  obtain ⟨r, hr, rfl⟩ := List.mem_map.mp hl
  obtain ⟨i, hi, hri⟩ := List.getElem_of_mem hr
  have hsub := gr_len h hi
  rw [List.getD_eq_getElem?_getD, List.getElem?_eq_getElem hi, hri, Option.getD_some] at hsub
  rw [up_length]; exact hsub

theorem may_ok {S : List (List Nat)} (h : Gr S) (p : List (List Int)) : Ev (fun k => graph_May.f k (up2 S) p) (decide (up2 (pr S) = p)) := by
  unfold graph_May.f
  refine Ev.bind (make_ok h) ?_
  refine Ev.ifp rfl ?_
  have hle := (gr_pr h).le
  exact Ev.bind (eqf_ok _ _ (by rw [up2_length]; simp only [big]; omega) (fun l hl => by have := gr_rows (gr_pr h) l hl; simp only [big]; omega)) Ev.pure
theorem may_bad {s : List (List Int)} (hb : s.length ≤ big) (hr : ∀ l ∈ s, l.length ≤ big) (h : goodb s = false) (p : List (List Int)) : Ev (fun k => graph_May.f k s p) false := by
  unfold graph_May.f
  refine Ev.bind (make_bad hb hr h) ?_
  exact Ev.ifn (by decide) Ev.pure
end Go.Proofs.Ytheillkpgmpnlaa.GP
namespace Go.Proofs.Ytheillkpgmpnlaa.GP

abbrev Sn := Nat → Bool
def upd (s : Sn) (x : Nat) : Sn := fun z => if z = x then true else s z
theorem upd_self (s : Sn) (x : Nat) : upd s x x = true := by simp [upd]
theorem upd_true {s : Sn} {x z : Nat} : upd s x z = true ↔ z = x ∨ s z = true := by unfold upd; split <;> simp_all
/-- How many of the first n are not seen. -/
def cnt (n : Nat) (s : Sn) : Nat := ((List.range n).filter (fun z => !s z)).length
theorem filter_le {α : Type} (l : List α) (p q : α → Bool) (h : ∀ x ∈ l, p x = true → q x = true) : (l.filter p).length ≤ (l.filter q).length := by
  induction l with
  | nil => simp
  | cons x l ih =>
    have h1 := ih (fun y hy => h y (List.mem_cons_of_mem _ hy))
    have h2 := h x (List.mem_cons_self ..)
    cases hp : p x with
    | false => rw [List.filter_cons_of_neg (by simp [hp])]; by_cases hq : q x = true
               · rw [List.filter_cons_of_pos hq, List.length_cons]; omega
               · rw [List.filter_cons_of_neg hq]; exact h1
    | true => rw [List.filter_cons_of_pos hp, List.filter_cons_of_pos (h2 hp), List.length_cons, List.length_cons]; omega
theorem filter_lt {α : Type} (l : List α) (p q : α → Bool) (h : ∀ x ∈ l, p x = true → q x = true) (y : α) (hy : y ∈ l) (h1 : p y = false) (h2 : q y = true) : (l.filter p).length < (l.filter q).length := by
  induction l with
  | nil => simp at hy
  | cons x l ih =>
    have hl := filter_le l p q (fun y hy => h y (List.mem_cons_of_mem _ hy))
    by_cases hx : p x = true
    · have hne : y ≠ x := by rintro rfl; rw [hx] at h1; cases h1
      have hyl : y ∈ l := by rcases List.mem_cons.mp hy with e | e; exact absurd e hne; exact e
      have := ih (fun y hy => h y (List.mem_cons_of_mem _ hy)) hyl
      rw [List.filter_cons_of_pos hx, List.filter_cons_of_pos (h x (List.mem_cons_self ..) hx), List.length_cons, List.length_cons]; omega
    · rw [List.filter_cons_of_neg hx]
      rcases List.mem_cons.mp hy with e | e
      · subst e; rw [List.filter_cons_of_pos h2, List.length_cons]; omega
      · have := ih (fun y hy => h y (List.mem_cons_of_mem _ hy)) e
        by_cases hq : q x = true
        · rw [List.filter_cons_of_pos hq, List.length_cons]; omega
        · rw [List.filter_cons_of_neg hq]; exact this
theorem cnt_le {n : Nat} {s t : Sn} (h : ∀ z, s z = true → t z = true) : cnt n t ≤ cnt n s :=
  filter_le _ _ _ (fun x _ hx => by cases hs : s x; rfl; rw [h x hs] at hx; cases hx)
theorem cnt_lt {n : Nat} {s t : Sn} (h : ∀ z, s z = true → t z = true) {y : Nat} (hy : y < n) (h1 : s y = false) (h2 : t y = true) : cnt n t < cnt n s :=
  filter_lt _ _ _ (fun x _ hx => by cases hs : s x; rfl; rw [h x hs] at hx; cases hx) y (List.mem_range.mpr hy) (by rw [h2]; rfl) (by rw [h1]; rfl)
theorem filter_upd (l : List Nat) (hn : l.Nodup) (s : Sn) (x : Nat) (hx : x ∈ l) (hs : s x = false) : (l.filter (fun z => !upd s x z)).length + 1 = (l.filter (fun z => !s z)).length := by
  induction l with
  | nil => simp at hx
  | cons y l ih =>
    obtain ⟨hy, hl⟩ := List.nodup_cons.mp hn
    by_cases e : y = x
    · subst e
      have e2 : l.filter (fun z => !upd s y z) = l.filter (fun z => !s z) := List.filter_congr (fun z hz => by unfold upd; rw [if_neg (by rintro rfl; exact hy hz)])
      rw [List.filter_cons_of_neg (by simp [upd]), List.filter_cons_of_pos (by simp [hs]), e2]; rfl
    · have hx' : x ∈ l := by rcases List.mem_cons.mp hx with e' | e'; exact absurd e'.symm e; exact e'
      have e3 : upd s x y = s y := by unfold upd; rw [if_neg e]
      have := ih hl hx'
      cases hsy : s y with
      | true => rw [List.filter_cons_of_neg (by simp [e3, hsy]), List.filter_cons_of_neg (by simp [hsy])]; exact this
      | false => rw [List.filter_cons_of_pos (by simp [e3, hsy]), List.filter_cons_of_pos (by simp [hsy]), List.length_cons, List.length_cons]; omega
theorem cnt_upd {n : Nat} {s : Sn} {x : Nat} (hx : x < n) (hs : s x = false) : cnt n (upd s x) + 1 = cnt n s :=
  filter_upd _ List.nodup_range s x (List.mem_range.mpr hx) hs
theorem cnt_pos {n : Nat} {s : Sn} {x : Nat} (hx : x < n) (hs : s x = false) : 0 < cnt n s := by have := cnt_upd hx hs; omega

/-- On from a block: what is seen, and what was left, the first one first. -/
def visit (S : List (List Nat)) : Nat → Nat → Sn × List Nat → Sn × List Nat
  | 0, _, st => st
  | f + 1, x, st =>
    let r := (S.getD x []).foldl (fun st y => if st.1 y = true then st else visit S f y st) (upd st.1 x, st.2)
    (r.1, r.2 ++ [x])
def steps (S : List (List Nat)) (f : Nat) (l : List Nat) (st : Sn × List Nat) : Sn × List Nat := l.foldl (fun st y => if st.1 y = true then st else visit S f y st) st
theorem visit_succ (S : List (List Nat)) (f x : Nat) (st : Sn × List Nat) : visit S (f + 1) x st = ((steps S f (S.getD x []) (upd st.1 x, st.2)).1, (steps S f (S.getD x []) (upd st.1 x, st.2)).2 ++ [x]) := rfl
theorem steps_cons (S : List (List Nat)) (f y : Nat) (l : List Nat) (st : Sn × List Nat) : steps S f (y :: l) st = steps S f l (if st.1 y = true then st else visit S f y st) := rfl

/-- What can be reached. -/
inductive Rch (S : List (List Nat)) (w : Int) (r : Nat) : Nat → Prop
  | base : (r : Int) ≠ w → Rch S w r r
  | step {a y : Nat} : Rch S w r a → y ∈ S.getD a [] → (y : Int) ≠ w → Rch S w r y
theorem Rch.lt {S : List (List Nat)} (h : Gr S) {w : Int} {r : Nat} (hr : r < S.length) {x : Nat} (hx : Rch S w r x) : x < S.length := by
  induction hx with
  | base _ => exact hr
  | @step a y _ hy _ ih => exact (h.row a ih).2 y hy
theorem Rch.trans {S : List (List Nat)} {w : Int} {r a b : Nat} (h1 : Rch S w r a) (h2 : Rch S w a b) : Rch S w r b := by
  induction h2 with
  | base _ => exact h1
  | step _ hy hw ih => exact .step ih hy hw

/-- What a way through comes to. -/
structure Vis (S : List (List Nat)) (n : Nat) (st r : Sn × List Nat) : Prop where
  new : ∃ l, r.2 = st.2 ++ l ∧ (∀ z, r.1 z = true ↔ st.1 z = true ∨ z ∈ l) ∧ l.Nodup ∧ (∀ z ∈ l, st.1 z = false ∧ z < n) ∧ l.length + cnt n r.1 = cnt n st.1
theorem Vis.mono {S : List (List Nat)} {n : Nat} {st r : Sn × List Nat} (h : Vis S n st r) {z : Nat} (hz : st.1 z = true) : r.1 z = true := by
  obtain ⟨l, _, h2, _⟩ := h.new; exact (h2 z).mpr (.inl hz)
theorem Vis.refl (S : List (List Nat)) (n : Nat) (st : Sn × List Nat) : Vis S n st st := ⟨⟨[], by simp, by simp, by simp, by simp, by simp⟩⟩
theorem Vis.trans {S : List (List Nat)} {n : Nat} {a b c : Sn × List Nat} (h1 : Vis S n a b) (h2 : Vis S n b c) : Vis S n a c := by
  obtain ⟨l1, e1, s1, n1, u1, c1⟩ := h1.new
  obtain ⟨l2, e2, s2, n2, u2, c2⟩ := h2.new
  refine ⟨⟨l1 ++ l2, by rw [e2, e1, List.append_assoc], fun z => ?_, ?_, fun z hz => ?_, by rw [List.length_append]; omega⟩⟩
  · rw [s2, s1, List.mem_append, or_assoc]
  · rw [List.nodup_append]
    refine ⟨n1, n2, fun x hx y hy e => ?_⟩
    subst e
    have := (u2 _ hy).1
    rw [(s1 x).mpr (.inr hx)] at this; cases this
  · rcases List.mem_append.mp hz with hz | hz
    · exact u1 z hz
    · refine ⟨?_, (u2 z hz).2⟩
      cases ha : a.1 z with
      | false => rfl
      | true => have := (u2 z hz).1; rw [(s1 z).mpr (.inl ha)] at this; cases this

mutual
theorem visit_vis {S : List (List Nat)} (h : Gr S) : ∀ (f x : Nat) (st : Sn × List Nat), x < S.length → st.1 x = false → cnt S.length st.1 ≤ f → Vis S S.length st (visit S f x st) ∧ (visit S f x st).1 x = true
  | 0, x, st, hx, hs, hc => by have := cnt_pos hx hs; omega
  | f + 1, x, st, hx, hs, hc => by
    have hu := cnt_upd hx hs
    have h1 := steps_vis h f (S.getD x []) (upd st.1 x, st.2) (h.row x hx).2 (by show cnt _ (upd st.1 x) ≤ f; omega)
    rw [visit_succ]
    obtain ⟨l, e, s, nd, u, c⟩ := h1.new
    have hxl : x ∉ l := fun hm => by have := (u x hm).1; simp [upd] at this
    refine ⟨⟨⟨l ++ [x], by (show (steps S f (S.getD x []) (upd st.1 x, st.2)).2 ++ [x] = _); rw [e, List.append_assoc], fun z => ?_, ?_, fun z hz => ?_, ?_⟩⟩, (s x).mpr (.inl (upd_self _ _))⟩
    · show _ = true ↔ _
      rw [s]
      show upd st.1 x z = true ∨ _ ↔ _
      rw [upd_true, List.mem_append, List.mem_singleton]
      constructor
      · rintro ((e | e) | e)
        · exact .inr (.inr e)
        · exact .inl e
        · exact .inr (.inl e)
      · rintro (e | e | e)
        · exact .inl (.inr e)
        · exact .inr e
        · exact .inl (.inl e)
    · rw [List.nodup_append]
      refine ⟨nd, by simp, fun a ha b hb e' => ?_⟩
      rw [List.mem_singleton] at hb; rw [e', hb] at ha; exact hxl ha
    · rcases List.mem_append.mp hz with hz | hz
      · refine ⟨?_, (u z hz).2⟩
        have h2 := (u z hz).1
        cases ha : st.1 z with
        | false => rfl
        | true => have : upd st.1 x z = true := upd_true.mpr (.inr ha)
                  have h3 : upd st.1 x z = false := h2
                  rw [this] at h3; cases h3
      · rw [List.mem_singleton] at hz; subst hz; exact ⟨hs, hx⟩
    · rw [List.length_append, List.length_singleton]
      have c' : l.length + cnt S.length (steps S f (S.getD x []) (upd st.1 x, st.2)).1 = cnt S.length (upd st.1 x) := c
      show _ + cnt S.length (steps S f (S.getD x []) (upd st.1 x, st.2)).1 = _
      omega
theorem steps_vis {S : List (List Nat)} (h : Gr S) : ∀ (f : Nat) (l : List Nat) (st : Sn × List Nat), (∀ y ∈ l, y < S.length) → cnt S.length st.1 ≤ f → Vis S S.length st (steps S f l st)
  | _, [], st, _, _ => Vis.refl _ _ _
  | f, y :: l, st, hl, hc => by
    rw [steps_cons]
    by_cases hy : st.1 y = true
    · rw [if_pos hy]; exact steps_vis h f l st (fun z hz => hl z (List.mem_cons_of_mem _ hz)) hc
    · rw [if_neg hy]
      have h1 := (visit_vis h f y st (hl y (List.mem_cons_self ..)) (by simpa using hy) hc).1
      have h2 := steps_vis h f l (visit S f y st) (fun z hz => hl z (List.mem_cons_of_mem _ hz)) (Nat.le_trans (cnt_le (fun z hz => h1.mono hz)) hc)
      exact h1.trans h2
end
theorem steps_seen {S : List (List Nat)} (h : Gr S) (f : Nat) : ∀ (l : List Nat) (st : Sn × List Nat), (∀ y ∈ l, y < S.length) → cnt S.length st.1 ≤ f → ∀ y ∈ l, (steps S f l st).1 y = true := by
  intro l
  induction l with
  | nil => intro st _ _ y hy; simp at hy
  | cons x l ih =>
    intro st hl hc y hy
    rw [steps_cons]
    have hl' : ∀ z ∈ l, z < S.length := fun z hz => hl z (List.mem_cons_of_mem _ hz)
    by_cases hx : st.1 x = true
    · rw [if_pos hx]
      rcases List.mem_cons.mp hy with e | e
      · subst e; exact (steps_vis h f l st hl' hc).mono hx
      · exact ih st hl' hc y e
    · rw [if_neg hx]
      obtain ⟨h1, h2⟩ := visit_vis h f x st (hl x (List.mem_cons_self ..)) (by simpa using hx) hc
      have hc' : cnt S.length (visit S f x st).1 ≤ f := Nat.le_trans (cnt_le (fun z hz => h1.mono hz)) hc
      rcases List.mem_cons.mp hy with e | e
      · subst e; exact (steps_vis h f l _ hl' hc').mono h2
      · exact ih _ hl' hc' y e


/-! #### what is reached -/
mutual
theorem visit_rch {S : List (List Nat)} (r : Nat) : ∀ (f x : Nat) (st : Sn × List Nat), Rch S (-1) r x → ∀ z, (visit S f x st).1 z = true → st.1 z = true ∨ Rch S (-1) r z
  | 0, _, _, _, z, hz => .inl hz
  | f + 1, x, st, hx, z, hz => by
    rw [visit_succ] at hz
    rcases steps_rch r f (S.getD x []) (upd st.1 x, st.2) (fun y hy => .step hx hy (by omega)) z hz with e | e
    · rcases upd_true.mp e with e | e
      · subst e; exact .inr hx
      · exact .inl e
    · exact .inr e
theorem steps_rch {S : List (List Nat)} (r : Nat) : ∀ (f : Nat) (l : List Nat) (st : Sn × List Nat), (∀ y ∈ l, Rch S (-1) r y) → ∀ z, (steps S f l st).1 z = true → st.1 z = true ∨ Rch S (-1) r z
  | _, [], _, _, z, hz => .inl hz
  | f, y :: l, st, hl, z, hz => by
    rw [steps_cons] at hz
    have hl' : ∀ y ∈ l, Rch S (-1) r y := fun z hz => hl z (List.mem_cons_of_mem _ hz)
    by_cases hy : st.1 y = true
    · rw [if_pos hy] at hz; exact steps_rch r f l st hl' z hz
    · rw [if_neg hy] at hz
      rcases steps_rch r f l _ hl' z hz with e | e
      · exact visit_rch r f y st (hl y (List.mem_cons_self ..)) z e
      · exact .inr e
end
mutual
theorem visit_closed {S : List (List Nat)} (h : Gr S) : ∀ (f x : Nat) (st : Sn × List Nat), x < S.length → st.1 x = false → cnt S.length st.1 ≤ f → ∀ z, (visit S f x st).1 z = true → st.1 z = true ∨ ∀ y ∈ S.getD z [], (visit S f x st).1 y = true
  | 0, x, st, hx, hs, hc, _, _ => by have := cnt_pos hx hs; omega
  | f + 1, x, st, hx, hs, hc, z, hz => by
    have hu := cnt_upd hx hs
    have hcu : cnt S.length (upd st.1 x) ≤ f := by omega
    rw [visit_succ] at hz ⊢
    rcases steps_closed h f (S.getD x []) (upd st.1 x, st.2) (h.row x hx).2 hcu z hz with e | e
    · rcases upd_true.mp e with e | e
      · subst e; exact .inr (steps_seen h f _ _ (h.row z hx).2 hcu)
      · exact .inl e
    · exact .inr e
theorem steps_closed {S : List (List Nat)} (h : Gr S) : ∀ (f : Nat) (l : List Nat) (st : Sn × List Nat), (∀ y ∈ l, y < S.length) → cnt S.length st.1 ≤ f → ∀ z, (steps S f l st).1 z = true → st.1 z = true ∨ ∀ y ∈ S.getD z [], (steps S f l st).1 y = true
  | _, [], _, _, _, z, hz => .inl hz
  | f, y :: l, st, hl, hc, z, hz => by
    rw [steps_cons] at hz ⊢
    have hl' : ∀ y ∈ l, y < S.length := fun z hz => hl z (List.mem_cons_of_mem _ hz)
    by_cases hy : st.1 y = true
    · rw [if_pos hy] at hz ⊢; exact steps_closed h f l st hl' hc z hz
    · rw [if_neg hy] at hz ⊢
      have hy' : st.1 y = false := by simpa using hy
      have h1 := (visit_vis h f y st (hl y (List.mem_cons_self ..)) hy' hc).1
      have hc' : cnt S.length (visit S f y st).1 ≤ f := Nat.le_trans (cnt_le (fun z hz => h1.mono hz)) hc
      rcases steps_closed h f l _ hl' hc' z hz with e | e
      · rcases visit_closed h f y st (hl y (List.mem_cons_self ..)) hy' hc z e with e | e
        · exact .inl e
        · exact .inr (fun w hw => (steps_vis h f l _ hl' hc').mono (e w hw))
      · exact .inr e
end

/-! #### where all ways go up -/
/-- Each block ahead of which all those at which it goes on are left. -/
def Ord (S : List (List Nat)) (o : List Nat) : Prop := ∀ l a t, o = l ++ a :: t → ∀ y ∈ S.getD a [], y ∈ l
theorem ord_snoc {S : List (List Nat)} {o : List Nat} {x : Nat} (h : Ord S o) (hx : ∀ y ∈ S.getD x [], y ∈ o) : Ord S (o ++ [x]) := by
  intro l a t e y hy
  rcases List.append_eq_append_iff.mp e with ⟨m, hm1, hm2⟩ | ⟨m, hm1, hm2⟩
  · cases m with
    | nil =>
      have e2 : x :: [] = a :: t := by simpa using hm2
      injection e2 with e3 e4
      subst e3
      rw [List.append_nil] at hm1; subst hm1
      exact hx y hy
    | cons b m =>
      have e2 : [x] = (b :: m) ++ a :: t := hm2
      have := congrArg List.length e2
      simp only [List.length_append, List.length_cons, List.length_nil] at this; omega
  · cases m with
    | nil =>
      have e2 : a :: t = [x] := by simpa using hm2
      injection e2 with e3 e4
      subst e3
      rw [List.append_nil] at hm1; subst hm1
      exact hx y hy
    | cons b m =>
      have e2 : a :: t = (b :: m) ++ [x] := hm2
      injection e2 with e3 e4
      subst e3
      exact h l a m hm1 y hy
mutual
theorem visit_ord {S : List (List Nat)} (h : Gr S) (up : ∀ i, ∀ y ∈ S.getD i [], i < y) : ∀ (f x : Nat) (st : Sn × List Nat), x < S.length → st.1 x = false → cnt S.length st.1 ≤ f → Ord S st.2 → (∀ z, st.1 z = true → z ∈ st.2 ∨ z < x) → Ord S (visit S f x st).2
  | 0, x, st, hx, hs, hc, _, _ => by have := cnt_pos hx hs; omega
  | f + 1, x, st, hx, hs, hc, ho, hlt => by
    have hu := cnt_upd hx hs
    have hcu : cnt S.length (upd st.1 x) ≤ f := by omega
    rw [visit_succ]
    have hy := up x
    obtain ⟨h1, h2⟩ := steps_ord h up f x (S.getD x []) (upd st.1 x, st.2) (fun y hm => ⟨(h.row x hx).2 y hm, hy y hm⟩) hcu ho (fun z hz => by
      rcases upd_true.mp hz with e | e
      · exact .inr (Nat.le_of_eq e)
      · rcases hlt z e with e | e
        · exact .inl e
        · exact .inr (Nat.le_of_lt e))
    refine ord_snoc h1 (fun y hm => ?_)
    rcases h2 y (steps_seen h f _ _ (h.row x hx).2 hcu y hm) with e | e
    · exact e
    · have := hy y hm; omega
theorem steps_ord {S : List (List Nat)} (h : Gr S) (up : ∀ i, ∀ y ∈ S.getD i [], i < y) : ∀ (f x : Nat) (l : List Nat) (st : Sn × List Nat), (∀ y ∈ l, y < S.length ∧ x < y) → cnt S.length st.1 ≤ f → Ord S st.2 → (∀ z, st.1 z = true → z ∈ st.2 ∨ z ≤ x) → Ord S (steps S f l st).2 ∧ ∀ z, (steps S f l st).1 z = true → z ∈ (steps S f l st).2 ∨ z ≤ x
  | _, _, [], _, _, _, ho, hlt => ⟨ho, hlt⟩
  | f, x, y :: l, st, hl, hc, ho, hlt => by
    rw [steps_cons]
    have hl' : ∀ y ∈ l, y < S.length ∧ x < y := fun z hz => hl z (List.mem_cons_of_mem _ hz)
    by_cases hy : st.1 y = true
    · rw [if_pos hy]; exact steps_ord h up f x l st hl' hc ho hlt
    · rw [if_neg hy]
      have hy' : st.1 y = false := by simpa using hy
      obtain ⟨hyn, hyx⟩ := hl y (List.mem_cons_self ..)
      have h1 := (visit_vis h f y st hyn hy' hc).1
      have hc' : cnt S.length (visit S f y st).1 ≤ f := Nat.le_trans (cnt_le (fun z hz => h1.mono hz)) hc
      refine steps_ord h up f x l _ hl' hc' (visit_ord h up f y st hyn hy' hc ho (fun z hz => ?_)) (fun z hz => ?_)
      · rcases hlt z hz with e | e
        · exact .inl e
        · exact .inr (by omega)
      · obtain ⟨n, e1, e2, _⟩ := h1.new
        rw [e1]
        rcases (e2 z).mp hz with e | e
        · rcases hlt z e with e | e
          · exact .inl (List.mem_append.mpr (.inl e))
          · exact .inr e
        · exact .inl (List.mem_append.mpr (.inr e))
end

/-! #### the order from a root -/
def none' : Sn := fun _ => false
theorem cnt_none (n : Nat) : cnt n none' = n := by
  show ((List.range n).filter (fun z => !none' z)).length = n
  rw [show (List.range n).filter (fun z => !none' z) = List.range n from List.filter_eq_self.mpr (fun _ _ => rfl), List.length_range]
def dfs (S : List (List Nat)) (r : Nat) : List Nat := (visit S S.length r (none', [])).2.reverse
theorem dfs_vis {S : List (List Nat)} (h : Gr S) {r : Nat} (hr : r < S.length) : Vis S S.length (none', []) (visit S S.length r (none', [])) ∧ (visit S S.length r (none', [])).1 r = true :=
  visit_vis h S.length r (none', []) hr rfl (Nat.le_of_eq (cnt_none _))
theorem dfs_seen {S : List (List Nat)} (h : Gr S) {r : Nat} (hr : r < S.length) (z : Nat) : z ∈ dfs S r ↔ (visit S S.length r (none', [])).1 z = true := by
  obtain ⟨l, e1, e2, _⟩ := (dfs_vis h hr).1.new
  rw [dfs, List.mem_reverse, e1, e2, List.nil_append]
  constructor
  · exact .inr
  · rintro (e | e)
    · cases e
    · exact e
theorem dfs_mem {S : List (List Nat)} (h : Gr S) {r : Nat} (hr : r < S.length) (z : Nat) : z ∈ dfs S r ↔ Rch S (-1) r z := by
  rw [dfs_seen h hr]
  constructor
  · intro hz
    rcases visit_rch r S.length r (none', []) (.base (by omega)) z hz with e | e
    · cases e
    · exact e
  · intro hz
    induction hz with
    | base _ => exact (dfs_vis h hr).2
    | @step a y _ hy _ ih =>
      rcases visit_closed h S.length r (none', []) hr rfl (Nat.le_of_eq (cnt_none _)) a ih with e | e
      · cases e
      · exact e y hy
theorem dfs_nodup {S : List (List Nat)} (h : Gr S) {r : Nat} (hr : r < S.length) : (dfs S r).Nodup := by
  obtain ⟨l, e1, _, e3, _⟩ := (dfs_vis h hr).1.new
  rw [dfs, e1, List.nil_append]
  exact (List.reverse_perm l).nodup_iff.mpr e3
theorem dfs_lt {S : List (List Nat)} (h : Gr S) {r : Nat} (hr : r < S.length) : ∀ z ∈ dfs S r, z < S.length := by
  intro z hz
  exact ((dfs_mem h hr z).mp hz).lt h hr
theorem dfs_head {S : List (List Nat)} (h : Gr S) (r : Nat) : ∃ l, dfs S r = r :: l := by
  obtain ⟨f, hf⟩ : ∃ f, S.length = f + 1 := ⟨S.length - 1, by have := h.pos; omega⟩
  refine ⟨(steps S f (S.getD r []) (upd none' r, [])).2.reverse, ?_⟩
  rw [dfs, hf, visit_succ]
  simp
theorem dfs_len {S : List (List Nat)} (h : Gr S) {r : Nat} (hr : r < S.length) : (dfs S r).length ≤ S.length := by
  obtain ⟨l, e1, _, _, _, e5⟩ := (dfs_vis h hr).1.new
  have : cnt S.length none' = S.length := cnt_none _
  have e6 : l.length + cnt S.length (visit S S.length r (none', [])).1 = cnt S.length none' := e5
  rw [dfs, e1, List.length_reverse, List.nil_append]; omega
theorem dfs_ord {S : List (List Nat)} (h : Gr S) (hup : ∀ i, ∀ y ∈ S.getD i [], i < y) {r : Nat} (hr : r < S.length) : ∀ l a t, dfs S r = t ++ a :: l → ∀ y ∈ S.getD a [], y ∈ l := by
  intro l a t e y hy
  have h1 := visit_ord h hup S.length r (none', []) hr rfl (Nat.le_of_eq (cnt_none _)) (fun l a t e => by simp at e) (fun z hz => by cases hz)
  have e2 : (visit S S.length r (none', [])).2 = l.reverse ++ a :: t.reverse := by
    have := congrArg List.reverse e
    rw [dfs, List.reverse_reverse] at this
    rw [this]; simp
  exact List.mem_reverse.mp (h1 _ _ _ e2 y hy)
end Go.Proofs.Ytheillkpgmpnlaa.GP
namespace Go.Proofs.Ytheillkpgmpnlaa.GP
open Go.RowKit Go.Proofs.Ytheillkpgmpnlaa.G Go.Proofs.YtheillkpgmpnlaaW.PrintWords

/-! #### slices.Reverse -/
def rv (l : List Int) (n i t : Nat) : Int := if t < i ∨ n ≤ t + i then l.getD (n - 1 - t) 0 else l.getD t 0
theorem rv_end (l : List Int) (n i : Nat) (hn : l.length = n) (hi : n ≤ 2 * i + 1) : (List.range n).map (rv l n i) = l.reverse := by
  apply ext_getD 0
  · simp [hn]
  · intro t ht
    rw [List.length_map, List.length_range] at ht
    rw [getD_map_range _ _ _ _ ht]
    have e1 : l.reverse.getD t 0 = l.getD (n - 1 - t) 0 := by
      rw [List.getD_eq_getElem?_getD, List.getD_eq_getElem?_getD, List.getElem?_reverse (by omega), hn]
    rw [e1]
    unfold rv
    split
    · rfl
    · next hc => rw [show n - 1 - t = t by omega]
theorem reverse_l0 (l : List Int) (n : Nat) (hn : l.length = n) (hb : n ≤ big) (d : Nat) : ∀ i, 2 * i ≤ n + 1 → n + 1 - 2 * i ≤ d → Ev (fun k => slices_Reverse_int_int.l0 k ((List.range n).map (rv l n i)) (i : Int) ((n : Int) - 1 - (i : Int))) l.reverse := by
  have hbb : big = 9223372036854775807 := rfl
  induction d with
  | zero =>
    intro i hi hd
    refine Ev.succ ?_; simp only [slices_Reverse_int_int.l0]
    refine Ev.ifn (by omega) ?_
    rw [rv_end l n i hn (by omega)]; exact Ev.pure
  | succ d ih =>
    intro i hi hd
    refine Ev.succ ?_; simp only [slices_Reverse_int_int.l0]
    by_cases hc : (i : Int) < (n : Int) - 1 - (i : Int)
    · refine Ev.ifp hc (Ev.ifp (by omega) (Ev.ifp (by simp; omega) (Ev.ifp (by omega) (Ev.ifp (by simp; omega) ?_))))
      have ej : (n : Int) - 1 - (i : Int) = ((n - 1 - i : Nat) : Int) := by omega
      rw [ej]
      have r1 : rd ((List.range n).map (rv l n i)) ((n - 1 - i : Nat) : Int) = l.getD (n - 1 - i) 0 := by
        simp only [rd, Int.toNat_natCast]
        rw [getD_map_range _ _ _ _ (by omega)]
        unfold rv; rw [if_neg (by omega)]
      have r2 : rd ((List.range n).map (rv l n i)) ((i : Nat) : Int) = l.getD i 0 := by
        simp only [rd, Int.toNat_natCast]
        rw [getD_map_range _ _ _ _ (by omega)]
        unfold rv; rw [if_neg (by omega)]
      rw [r1, r2, Int.toNat_natCast, Int.toNat_natCast]
      have s1 : ((List.range n).map (rv l n i)).set i (l.getD (n - 1 - i) 0) = (List.range n).map (fun t => if t = i then l.getD (n - 1 - i) 0 else rv l n i t) :=
        set_map_range _ _ _ _ _ (by simp) (fun j hj => by simp [hj])
      have s2 : ((List.range n).map (fun t => if t = i then l.getD (n - 1 - i) 0 else rv l n i t)).set (n - 1 - i) (l.getD i 0) = (List.range n).map (rv l n (i + 1)) := by
        refine set_map_range _ _ _ _ _ ?_ (fun j hj => ?_)
        · unfold rv; rw [if_pos (by omega), show n - 1 - (n - 1 - i) = i by omega]
        · by_cases e : j = i
          · subst e; rw [if_pos rfl]; unfold rv; rw [if_pos (by omega)]
          · rw [if_neg e]; unfold rv
            by_cases hq : j < i ∨ n ≤ j + i
            · rw [if_pos hq, if_pos (by omega)]
            · rw [if_neg hq, if_neg (by omega)]
      rw [s1, s2, wrap_nat (by omega), wrap_id (by omega) (by omega), show ((n - 1 - i : Nat) : Int) - 1 = (n : Int) - 1 - ((i + 1 : Nat) : Int) by omega]
      exact ih (i + 1) (by omega) (by omega)
    · refine Ev.ifn hc ?_
      rw [rv_end l n i hn (by omega)]; exact Ev.pure
theorem reverse_ok (l : List Int) (hb : l.length ≤ big) : Ev (fun k => slices_Reverse_int_int.f k l) l.reverse := by
  have hbb : big = 9223372036854775807 := rfl
  unfold slices_Reverse_int_int.f
  have e : l = (List.range l.length).map (rv l l.length 0) := by
    apply ext_getD 0
    · simp
    · intro t ht
      rw [getD_map_range _ _ _ _ ht]
      unfold rv; rw [if_neg (by omega)]
  have h := reverse_l0 l l.length rfl hb (l.length + 1) 0 (by omega) (by omega)
  rw [← e] at h
  rw [wrap_id (by omega) (by omega)]
  simpa using h

/-! #### the machine's state -/
def rb (s : Sn) : List Bool := (List.range 64).map s
def ri (nx : Nat → Nat) : List Int := (List.range 64).map (fun z => ((nx z : Nat) : Int))
def updn (nx : Nat → Nat) (x m : Nat) : Nat → Nat := fun z => if z = x then m else nx z
theorem rd_rb (s : Sn) {y : Nat} (h : y < 64) : rdOf false (rb s) (y : Int) = s y := by
  simp only [rdOf, Int.toNat_natCast, rb]; exact getD_map_range _ _ _ _ h
theorem rd_ri (nx : Nat → Nat) {y : Nat} (h : y < 64) : rd (ri nx) (y : Int) = ((nx y : Nat) : Int) := by
  simp only [rd, Int.toNat_natCast, ri]; exact getD_map_range 64 (fun z => ((nx z : Nat) : Int)) _ _ h
theorem set_rb (s : Sn) (y : Nat) : (rb s).set y true = rb (upd s y) :=
  set_map_range _ _ _ _ _ (by simp [upd]) (fun j hj => by simp [upd, hj])
theorem set_ri (nx : Nat → Nat) (x m : Nat) : (ri nx).set x (m : Int) = ri (updn nx x m) :=
  set_map_range _ _ _ _ _ (by simp [updn]) (fun j hj => by simp [updn, hj])
theorem up_snoc (l : List Nat) (x : Nat) : up (l ++ [x]) = up l ++ [(x : Int)] := by simp [up]
theorem rd_snoc (l : List Nat) (x : Nat) : rd (up (l ++ [x])) (l.length : Int) = (x : Int) := by
  rw [rd_up, List.getD_eq_getElem?_getD, List.getElem?_append_right (Nat.le_refl _)]; simp

def After (S : List (List Nat)) (P : List (List Int)) (sn : Sn) (nx : Nat → Nat) (o st : List Nat) (v : List Int) : Prop :=
  Ev (fun k => if ((up st).length : Int) > 0 then graph_Order.l0 k (rb sn) (ri nx) (up o) (up st) (up2 S) P else (slices_Reverse_int_int.f k (up o)).bind fun t => some t) v
theorem order_l0 {S : List (List Nat)} {P : List (List Int)} {sn : Sn} {nx : Nat → Nat} {o st : List Nat} {x : Nat} {v : List Int} (hb : st.length ≤ 64)
    (h : Ev (fun k => graph_Order.l1 k (rb sn) (ri nx) (up o) (up (st ++ [x])) (x : Int) (up2 S) P) v) : Ev (fun k => graph_Order.l0 k (rb sn) (ri nx) (up o) (up (st ++ [x])) (up2 S) P) v := by
  refine Ev.succ ?_; simp only [graph_Order.l0]
  have e : wrap64 (((up (st ++ [x])).length : Int) - 1) = (st.length : Int) := by
    rw [up_length, List.length_append, List.length_singleton, wrap_id (by omega) (by omega)]; omega
  rw [e, rd_snoc]
  exact Ev.ifp (by omega) (Ev.ifp (by rw [up_length, List.length_append, List.length_singleton]; omega) h)

theorem sim {S : List (List Nat)} (h : Gr S) (P : List (List Int)) (v : List Int) : ∀ (f x : Nat) (sn : Sn) (nx : Nat → Nat) (o st : List Nat), x < S.length → sn x = false → cnt S.length sn ≤ f → (∀ z, sn z = false → nx z = 0) →
    o.length + st.length + cnt S.length sn ≤ 64 →
    (∀ nx', (∀ z, (visit S f x (sn, o)).1 z = false → nx' z = 0) → (∀ z, sn z = true → nx' z = nx z) → After S P (visit S f x (sn, o)).1 nx' (visit S f x (sn, o)).2 st v) →
    Ev (fun k => graph_Order.l1 k (rb (upd sn x)) (ri nx) (up o) (up (st ++ [x])) (x : Int) (up2 S) P) v := by
  have hle := h.le
  intro f
  induction f with
  | zero => intro x sn nx o st hx hs hc; have := cnt_pos hx hs; omega
  | succ f ihf =>
    intro x sn nx o st hx hs hc hz0 hB hK
    have hu := cnt_upd hx hs
    have hdeg := gr_len h hx
    rw [visit_succ] at hK
    have inner : ∀ (m j : Nat) (sn1 : Sn) (nx1 : Nat → Nat) (o1 : List Nat), (S.getD x []).length - j = m → j ≤ (S.getD x []).length → nx1 x = j → sn1 x = true → (∀ z, sn1 z = false → nx1 z = 0) → cnt S.length sn1 ≤ f →
        o1.length + (st.length + 1) + cnt S.length sn1 ≤ 64 → (∀ z, sn z = true → sn1 z = true ∧ nx1 z = nx z) → steps S f ((S.getD x []).drop j) (sn1, o1) = steps S f (S.getD x []) (upd sn x, o) →
        Ev (fun k => graph_Order.l1 k (rb sn1) (ri nx1) (up o1) (up (st ++ [x])) (x : Int) (up2 S) P) v := by
      intro m
      induction m with
      | zero =>
        intro j sn1 nx1 o1 hm hj hnx hsx hzz hcc hbb hkeep heq
        refine Ev.succ ?_; simp only [graph_Order.l1]
        rw [rdL_up, up_length, rd_ri nx1 (by omega), hnx]
        refine Ev.ifp (by omega) (Ev.ifp (by omega) (Ev.ifp (by rw [up2_length]; omega) (Ev.ifn (by omega) (Ev.ifp (by rw [up_length]; omega) ?_))))
        simp only [Option.bind_some]
        have e : wrap64 (((up (st ++ [x])).length : Int) - 1) = (st.length : Int) := by
          rw [up_length, List.length_append, List.length_singleton, wrap_id (by omega) (by omega)]; omega
        rw [e, Int.toNat_natCast]
        refine Ev.ifp (by omega) (Ev.ifp (by rw [up_length, List.length_append, List.length_singleton]; omega) ?_)
        have e2 : (up (st ++ [x])).take st.length = up st := by rw [up_snoc]; simp [up]
        rw [e2, ← up_snoc]
        rw [List.drop_of_length_le (by omega)] at heq
        have e3 : steps S f (S.getD x []) (upd sn x, o) = (sn1, o1) := heq.symm
        rw [e3] at hK
        exact hK nx1 hzz (fun z hz => (hkeep z hz).2)
      | succ m ihm =>
        intro j sn1 nx1 o1 hm hj hnx hsx hzz hcc hbb hkeep heq
        have hj1 : j < (S.getD x []).length := by omega
        have hy := (h.row x hx).2 _ (getD_mem (d := 0) hj1)
        have hxS : sn x = false := hs
        rw [drop_getD _ j 0 hj1, steps_cons] at heq
        refine Ev.succ ?_; simp only [graph_Order.l1]
        rw [rdL_up, up_length, rd_ri nx1 (by omega), hnx, rd_up]
        generalize (S.getD x []).getD j 0 = y at hy heq
        refine Ev.ifp (by omega) (Ev.ifp (by omega) (Ev.ifp (by rw [up2_length]; omega) (Ev.ifp (by omega) (Ev.ifp (by omega) ?_))))
        rw [wrap_nat (by omega), Int.toNat_natCast, set_ri]
        simp only [Option.bind_some]
        refine Ev.ifp (by omega) (Ev.ifp (by omega) ?_)
        rw [rd_rb sn1 (by omega)]
        have hkeep2 : ∀ z, sn z = true → sn1 z = true ∧ updn nx1 x (j + 1) z = nx z := fun z hz => by
          refine ⟨(hkeep z hz).1, ?_⟩
          unfold updn; rw [if_neg (by rintro rfl; rw [hz] at hxS; cases hxS)]; exact (hkeep z hz).2
        have hzz2 : ∀ z, sn1 z = false → updn nx1 x (j + 1) z = 0 := fun z hz => by
          unfold updn; rw [if_neg (by rintro rfl; rw [hz] at hsx; cases hsx)]; exact hzz z hz
        by_cases hys : sn1 y = true
        · refine Ev.ifp hys ?_
          rw [if_pos hys] at heq
          exact ihm (j + 1) sn1 (updn nx1 x (j + 1)) o1 (by omega) (by omega) (by simp [updn]) hsx hzz2 hcc hbb hkeep2 heq
        · refine Ev.ifn hys (Ev.ifp (by rw [up_length, List.length_append, List.length_singleton]; omega) ?_)
          rw [if_neg hys] at heq
          have hys' : sn1 y = false := by simpa using hys
          rw [Int.toNat_natCast, set_rb, ← up_snoc]
          refine order_l0 (by rw [List.length_append, List.length_singleton]; omega) ?_
          refine ihf y sn1 (updn nx1 x (j + 1)) o1 (st ++ [x]) hy hys' hcc hzz2 (by rw [List.length_append, List.length_singleton]; omega) (fun nx' hn1 hn2 => ?_)
          have hvis := (visit_vis h f y (sn1, o1) hy hys' hcc).1
          obtain ⟨l, e1, e2, _, _, e5⟩ := hvis.new
          have hmono : ∀ z, sn1 z = true → (visit S f y (sn1, o1)).1 z = true := fun z hz => hvis.mono hz
          unfold After
          refine Ev.ifp (by rw [up_length, List.length_append, List.length_singleton]; omega) ?_
          refine order_l0 (by omega) ?_
          have e5' : l.length + cnt S.length (visit S f y (sn1, o1)).1 = cnt S.length sn1 := e5
          have e1' : (visit S f y (sn1, o1)).2 = o1 ++ l := e1
          refine ihm (j + 1) _ nx' _ (by omega) (by omega) (by rw [hn2 x hsx]; simp [updn]) (hmono x hsx) hn1 (Nat.le_trans (cnt_le hmono) hcc) ?_ (fun z hz => ⟨hmono z (hkeep z hz).1, by rw [hn2 z (hkeep z hz).1]; exact (hkeep2 z hz).2⟩) heq
          rw [e1', List.length_append]; omega
    exact inner _ 0 (upd sn x) nx o rfl (by omega) (hz0 x hs) (upd_self _ _) (fun z hz => hz0 z (by
      cases hq : sn z with
      | false => rfl
      | true => rw [upd_true.mpr (.inr hq)] at hz; cases hz)) (by omega) (by omega) (fun z hz => ⟨upd_true.mpr (.inr hz), rfl⟩) rfl

theorem order_ok {S : List (List Nat)} (h : Gr S) {r : Nat} (hr : r < S.length) : Ev (fun k => graph_Order.f k (up2 S) (up2 (pr S)) (r : Int)) (up (dfs S r)) := by
  have hle := h.le
  unfold graph_Order.f
  refine Ev.bind (may_ok h _) ?_
  refine Ev.ifp (by simp) (Ev.ifn (by omega) ?_)
  refine Ev.succ ?_; simp only [graph_Order.j0]
  refine Ev.ifn (by rw [up2_length]; simp; omega) (Ev.ifp (by omega) (Ev.ifp (by omega) ?_))
  have e1 : (List.replicate 64 false).set ((r : Int)).toNat true = rb (upd none' r) := by
    rw [Int.toNat_natCast, ← set_rb]; rfl
  have e2 : List.replicate 64 (0 : Int) = ri (fun _ => 0) := rfl
  rw [e1, e2]
  have hl := dfs_len h hr
  have := sim h (up2 (pr S)) (up (dfs S r)) S.length r none' (fun _ => 0) [] [] hr rfl (Nat.le_of_eq (cnt_none _)) (fun _ _ => rfl) (by rw [cnt_none]; simp; exact hle) (fun nx' _ _ => by
    unfold After
    refine Ev.ifn (by simp) ?_
    refine Ev.bind (reverse_ok _ ?_) (Ev.pure.of_eq ?_)
    · rw [up_length]
      have e : (dfs S r).length = (visit S S.length r (none', [])).2.length := by rw [dfs, List.length_reverse]
      simp only [big]; omega
    · rw [dfs, up, up, List.map_reverse])
  exact order_l0 (st := []) (by simp) this
theorem order_out {S : List (List Nat)} (h : Gr S) (p : List (List Int)) (r : Int) (hr : r < 0 ∨ (S.length : Int) ≤ r) : Ev (fun k => graph_Order.f k (up2 S) p r) [] := by
  unfold graph_Order.f
  refine Ev.bind (may_ok h _) ?_
  have hj : Ev (fun k => graph_Order.j0 k r true (up2 S) p) ([] : List Int) := by
    refine Ev.succ ?_; simp only [graph_Order.j0]; exact Ev.ifp trivial Ev.pure
  by_cases hp : up2 (pr S) = p
  · refine Ev.ifp (by simp [hp]) ?_
    by_cases h0 : r < 0
    · exact Ev.ifp h0 hj
    · refine Ev.ifn h0 ?_
      rw [decide_eq_true (by rw [up2_length]; omega)]; exact hj
  · exact Ev.ifn (by simp [hp]) hj
theorem order_no {s p : List (List Int)} (r : Int) (hm : Ev (fun k => graph_May.f k s p) false) : Ev (fun k => graph_Order.f k s p r) [] := by
  unfold graph_Order.f
  refine Ev.bind hm (Ev.ifn (by decide) ?_)
  refine Ev.succ ?_; simp only [graph_Order.j0]; exact Ev.ifp trivial Ev.pure

/-! #### ways, the other way about -/
theorem Rch.ne {S : List (List Nat)} {w : Int} {r x : Nat} (h : Rch S w r x) : (x : Int) ≠ w := by cases h <;> assumption
theorem Rch.ne0 {S : List (List Nat)} {w : Int} {r x : Nat} (h : Rch S w r x) : (r : Int) ≠ w := by
  induction h with
  | base h => exact h
  | step _ _ _ ih => exact ih
theorem getD_lt {S : List (List Nat)} {a y : Nat} (h : y ∈ S.getD a []) : a < S.length := by
  by_cases h1 : a < S.length
  · exact h1
  · rw [List.getD_eq_getElem?_getD, List.getElem?_eq_none (by omega)] at h; simp at h
theorem Rch.dual {S : List (List Nat)} (hG : Gr S) {w : Int} {a b : Nat} (h : Rch S w a b) : Rch (pr S) w b a := by
  induction h with
  | base h => exact .base h
  | @step c y hc hy hw ih =>
    have hcl := getD_lt hy
    have hyl := (hG.row c hcl).2 y hy
    exact Rch.trans (.step (.base hw) ((mem_pr hyl).mpr ⟨hcl, hy⟩) hc.ne) ih
theorem rch_dual {S : List (List Nat)} (hG : Gr S) {w : Int} {a b : Nat} : Rch (pr S) w b a ↔ Rch S w a b :=
  ⟨fun h => by have := h.dual (gr_pr hG); rwa [pr_pr hG] at this, fun h => h.dual hG⟩
theorem Rch.head {S : List (List Nat)} {w : Int} {a y b : Nat} (ha : (a : Int) ≠ w) (hy : y ∈ S.getD a []) (h : Rch S w y b) : Rch S w a b := Rch.trans (.step (.base ha) hy h.ne0) h
theorem Rch.cases_head {S : List (List Nat)} {w : Int} {a b : Nat} (h : Rch S w a b) : a = b ∨ ∃ y ∈ S.getD a [], Rch S w y b := by
  induction h with
  | base _ => exact .inl rfl
  | @step c y _ hy hw ih =>
    rcases ih with rfl | ⟨z, hz, hr⟩
    · exact .inr ⟨y, hy, .base hw⟩
    · exact .inr ⟨z, hz, .step hr hy hw⟩

/-! #### ends -/
def endb (S : List (List Nat)) : Sn := fun i => decide (i < S.length) && (S.getD i []).isEmpty
theorem endb_true {S : List (List Nat)} {i : Nat} : endb S i = true ↔ i < S.length ∧ S.getD i [] = [] := by simp [endb]
theorem ends_l0 {S : List (List Nat)} (h : Gr S) (d : Nat) : ∀ i, i ≤ S.length → S.length - i = d →
    Ev (fun k => pdom_ends.l0 k (up2 S) (rb (fun j => decide (j < i) && endb S j)) (i : Int)) (rb (endb S)) := by
  have hle := h.le
  induction d with
  | zero =>
    intro i hi hd
    refine Ev.succ ?_; simp only [pdom_ends.l0]
    refine Ev.ifn (by rw [up2_length]; omega) (Ev.pure.of_eq ?_)
    congr 1; funext j
    by_cases hj : j < i
    · simp [hj]
    · have : endb S j = false := by simp [endb]; omega
      simp [this]
  | succ d ih =>
    intro i hi hd
    refine Ev.succ ?_; simp only [pdom_ends.l0]
    refine Ev.ifp (by rw [up2_length]; omega) (Ev.ifp (by omega) (Ev.ifp (by omega) ?_))
    rw [wrap_nat (by omega), rdL_up, up_length, Int.toNat_natCast]
    have e : (rb (fun j => decide (j < i) && endb S j)).set i (((S.getD i []).length : Int) == 0) = rb (fun j => decide (j < i + 1) && endb S j) := by
      refine set_map_range _ _ _ _ _ ?_ (fun j hj => ?_)
      · rw [show decide (i < i + 1) = true by simp, Bool.true_and, endb, show decide (i < S.length) = true by simp; omega, Bool.true_and]
        cases S.getD i [] with
        | nil => rfl
        | cons a l => simp; omega
      · rw [show decide (j < i + 1) = decide (j < i) from decide_eq_decide.mpr (by omega)]
    rw [e]
    exact ih (i + 1) (by omega) (by omega)
theorem ends_ok {S : List (List Nat)} (h : Gr S) (P : List (List Int)) : Ev (fun k => pdom_ends.f k (up2 S) P) (rb (endb S)) := by
  unfold pdom_ends.f
  have e : List.replicate 64 false = rb (fun j => decide (j < 0) && endb S j) := by
    apply List.ext_getElem
    · simp [rb]
    · intro j h1 h2; rw [List.getElem_replicate]; simp [rb]
  rw [e]
  exact ends_l0 h S.length 0 (by omega) (by omega)

/-! #### missing -/
theorem missing_l0 {S : List (List Nat)} (h : Gr S) (m : Sn) (d : Nat) : ∀ i, i ≤ S.length → S.length - i = d → (∀ j, j < i → m j = true) →
    ∃ r : Nat, Ev (fun k => pdom_missing.l0 k (up2 S) (rb m) (i : Int)) (r : Int) ∧ r ≤ S.length ∧ (r < S.length → m r = false) ∧ (r = S.length → ∀ j, j < S.length → m j = true) := by
  have hle := h.le
  induction d with
  | zero =>
    intro i hi hd hm
    refine ⟨S.length, Ev.succ ?_, Nat.le_refl _, fun h => by omega, fun _ j hj => hm j (by omega)⟩
    simp only [pdom_missing.l0]
    exact Ev.ifn (by rw [up2_length]; omega) (Ev.pure.of_eq (by rw [up2_length]))
  | succ d ih =>
    intro i hi hd hm
    cases e : m i with
    | true =>
      obtain ⟨r, h1, h2⟩ := ih (i + 1) (by omega) (by omega) (fun j hj => by by_cases e' : j = i; rw [e', e]; exact hm j (by omega))
      refine ⟨r, Ev.succ ?_, h2⟩
      simp only [pdom_missing.l0]
      refine Ev.ifp (by rw [up2_length]; omega) (Ev.ifp (by omega) (Ev.ifp (by omega) (Ev.ifp (by rw [rd_rb _ (by omega)]; exact e) ?_)))
      rw [wrap_nat (by omega)]; exact h1
    | false =>
      refine ⟨i, Ev.succ ?_, by omega, fun _ => e, fun hc => by omega⟩
      simp only [pdom_missing.l0]
      exact Ev.ifp (by rw [up2_length]; omega) (Ev.ifp (by omega) (Ev.ifp (by omega) (Ev.ifn (by rw [rd_rb _ (by omega), e]; decide) Ev.pure)))
theorem missing_ok {S : List (List Nat)} (h : Gr S) (P : List (List Int)) (m : Sn) :
    ∃ r : Nat, Ev (fun k => pdom_missing.f k (up2 S) P (rb m)) (r : Int) ∧ r ≤ S.length ∧ (r < S.length → m r = false) ∧ (r = S.length → ∀ j, j < S.length → m j = true) := by
  unfold pdom_missing.f
  exact missing_l0 h m S.length 0 (by omega) (by omega) (fun j hj => by omega)

/-! #### back -/
open Classical in
/-- Who reaches some, the marked ones. -/
noncomputable def bk (S : List (List Nat)) (s : Sn) : Sn := fun x => decide (∃ y, s y = true ∧ Rch S (-1) x y)
theorem bk_true {S : List (List Nat)} {s : Sn} {x : Nat} : bk S s x = true ↔ ∃ y, s y = true ∧ Rch S (-1) x y := by simp [bk]
theorem bk_self {S : List (List Nat)} {s : Sn} {x : Nat} (h : s x = true) : bk S s x = true := bk_true.mpr ⟨x, h, .base (by omega)⟩
theorem bk_lt {S : List (List Nat)} {s : Sn} (hs : ∀ y, s y = true → y < S.length) {x : Nat} (h : bk S s x = true) : x < S.length := by
  obtain ⟨y, h1, h2⟩ := bk_true.mp h
  rcases h2.cases_head with rfl | ⟨z, hz, _⟩
  · exact hs _ h1
  · exact getD_lt hz
/-- What going back through a graph has come to: st are the ones still to be looked at, x the one that is looked at, j of whose forerunners are seen. -/
structure Bk (S : List (List Nat)) (s m : Sn) (st : List Nat) (x j : Nat) : Prop where
  lt : ∀ y, m y = true → y < S.length
  stk : ∀ y ∈ st, m y = true
  sub : ∀ y, s y = true → m y = true
  sound : ∀ y, m y = true → bk S s y = true
  clo : ∀ a, m a = true → a ∉ st → a ≠ x → ∀ p ∈ (pr S).getD a [], m p = true
  at_ : x < S.length → ∀ p ∈ ((pr S).getD x []).take j, m p = true
theorem Bk.all {S : List (List Nat)} {s m : Sn} {j : Nat} (h : Bk S s m [] S.length j) : m = bk S s := by
  funext x
  have hh : m x = true ↔ bk S s x = true := by
    refine ⟨h.sound x, fun hx => ?_⟩
    obtain ⟨y, h1, h2⟩ := bk_true.mp hx
    have hy := h.sub y h1
    clear h1 hx
    induction h2 with
    | base _ => exact hy
    | @step a y _ hya _ ih =>
      have hal := getD_lt hya
      exact ih (h.clo y hy (by simp) (by have := h.lt y hy; omega) a ((mem_pr (h.lt y hy)).mpr ⟨hal, hya⟩))
  cases e : m x with
  | true => exact (hh.mp e).symm
  | false => cases e2 : bk S s x with
    | true => rw [hh.mpr e2] at e; cases e
    | false => rfl
theorem back_l2 {S : List (List Nat)} (hG : Gr S) (s : Sn) (v : List Bool) (x : Nat) (hx : x < S.length) (M : Nat)
    (H : ∀ m st, Bk S s m st S.length 0 → st.length + 2 * cnt S.length m ≤ M → st.length + cnt S.length m ≤ 64 * 64 → Ev (fun k => pdom_back.l1 k (up2 (pr S)) (rb m) (up st)) v) (d : Nat) :
    ∀ (j : Nat) (m : Sn) (st : List Nat), ((pr S).getD x []).length - j = d → j ≤ ((pr S).getD x []).length → Bk S s m st x j → m x = true → st.length + 2 * cnt S.length m ≤ M → st.length + cnt S.length m ≤ 64 * 64 →
      Ev (fun k => pdom_back.l2 k (up2 (pr S)) (rb m) (up st) (up ((pr S).getD x [])) (j : Int)) v := by
  have hle := hG.le
  have hrl := gr_len (gr_pr hG) (i := x) (by rw [pr_length]; exact hx)
  induction d with
  | zero =>
    intro j m st hd hj hB hmx hM hC
    refine Ev.succ ?_; simp only [pdom_back.l2]
    refine Ev.ifn (by rw [up_length]; omega) (H m st ?_ hM hC)
    refine ⟨hB.lt, hB.stk, hB.sub, hB.sound, fun a ha hs hne => ?_, fun hc => absurd hc (Nat.lt_irrefl _)⟩
    by_cases e : a = x
    · subst e
      have := hB.at_ hx
      rwa [List.take_of_length_le (by omega)] at this
    · exact hB.clo a ha hs e
  | succ d ih =>
    intro j m st hd hj hB hmx hM hC
    have hjl : j < ((pr S).getD x []).length := by omega
    have hmem : ((pr S).getD x []).getD j 0 ∈ (pr S).getD x [] := getD_mem hjl
    obtain ⟨hpl, hpS⟩ := (mem_pr hx).mp hmem
    refine Ev.succ ?_; simp only [pdom_back.l2]
    rw [rd_up]
    refine Ev.ifp (by rw [up_length]; omega) (Ev.ifp (by omega) (Ev.ifp (by omega) (Ev.ifp (by omega) ?_)))
    rw [wrap_nat (by omega), rd_rb _ (by omega)]
    have htk := take_getD ((pr S).getD x []) j 0 hjl
    cases e : m (((pr S).getD x []).getD j 0) with
    | true =>
      refine Ev.ifp rfl (ih (j + 1) m st (by omega) (by omega) ?_ hmx hM hC)
      refine ⟨hB.lt, hB.stk, hB.sub, hB.sound, hB.clo, fun _ p hp => ?_⟩
      rw [htk] at hp
      rcases List.mem_append.mp hp with hp | hp
      · exact hB.at_ hx p hp
      · rw [List.mem_singleton.mp hp]; exact e
    | false =>
      refine Ev.ifn (by decide) (Ev.ifp (by rw [up_length]; omega) ?_)
      rw [Int.toNat_natCast, set_rb, ← up_snoc]
      have hc := cnt_upd (n := S.length) hpl e
      refine ih (j + 1) _ _ (by omega) (by omega) ?_ (by rw [upd_true]; exact .inr hmx) (by rw [List.length_append, List.length_singleton]; omega) (by rw [List.length_append, List.length_singleton]; omega)
      refine ⟨fun y hy => ?_, fun y hy => ?_, fun y hy => upd_true.mpr (.inr (hB.sub y hy)), fun y hy => ?_, fun a ha hs hne p hp => ?_, fun _ p hp => ?_⟩
      · rcases upd_true.mp hy with rfl | h
        · exact hpl
        · exact hB.lt y h
      · rcases List.mem_append.mp hy with h | h
        · exact upd_true.mpr (.inr (hB.stk y h))
        · exact upd_true.mpr (.inl (List.mem_singleton.mp h))
      · rcases upd_true.mp hy with rfl | h
        · obtain ⟨z, h1, h2⟩ := bk_true.mp (hB.sound x hmx)
          exact bk_true.mpr ⟨z, h1, Rch.head (by omega) hpS h2⟩
        · exact hB.sound y h
      · rcases upd_true.mp ha with rfl | h
        · exact absurd (List.mem_append.mpr (.inr (List.mem_singleton.mpr rfl))) hs
        · exact upd_true.mpr (.inr (hB.clo a h (fun hc => hs (List.mem_append.mpr (.inl hc))) hne p hp))
      · rw [htk] at hp
        rcases List.mem_append.mp hp with hp | hp
        · exact upd_true.mpr (.inr (hB.at_ hx p hp))
        · exact upd_true.mpr (.inl (List.mem_singleton.mp hp))
theorem back_l1 {S : List (List Nat)} (hG : Gr S) (s : Sn) (M : Nat) : ∀ (m : Sn) (st : List Nat), Bk S s m st S.length 0 → st.length + 2 * cnt S.length m ≤ M → st.length + cnt S.length m ≤ 64 * 64 →
    Ev (fun k => pdom_back.l1 k (up2 (pr S)) (rb m) (up st)) (rb (bk S s)) := by
  have hle := hG.le
  induction M with
  | zero =>
    intro m st hB hM _
    have e : st = [] := List.length_eq_zero_iff.mp (by omega)
    subst e
    refine Ev.succ ?_; simp only [pdom_back.l1]
    exact Ev.ifn (by simp) (Ev.pure.of_eq (by rw [hB.all]))
  | succ M ih =>
    intro m st hB hM hC
    rcases List.eq_nil_or_concat st with rfl | ⟨st0, x, rfl⟩
    · refine Ev.succ ?_; simp only [pdom_back.l1]
      exact Ev.ifn (by simp) (Ev.pure.of_eq (by rw [hB.all]))
    · rw [List.concat_eq_append] at *
      have hl : (st0 ++ [x]).length = st0.length + 1 := by simp
      have hmx := hB.stk x (by simp)
      have hx := hB.lt x hmx
      have e1 : wrap64 (((up (st0 ++ [x])).length : Int) - 1) = (st0.length : Int) := by rw [up_length, hl, wrap_id (by omega) (by omega)]; omega
      refine Ev.succ ?_; simp only [pdom_back.l1]
      rw [e1, rd_snoc]
      refine Ev.ifp (by rw [up_length]; omega) (Ev.ifp (by omega) (Ev.ifp (by rw [up_length]; omega) (Ev.ifp (by omega) (Ev.ifp (by rw [up2_length, pr_length]; omega) ?_))))
      rw [rdL_up, up_snoc, Int.toNat_natCast, List.take_left' (by simp)]
      rw [hl] at hM hC
      refine back_l2 hG s _ x hx M (fun m' st' hB' hM' hC' => ih m' st' hB' hM' hC') _ 0 m st0 rfl (by omega) ⟨hB.lt, fun y hy => hB.stk y (List.mem_append.mpr (.inl hy)), hB.sub, hB.sound, fun a ha hs hne => hB.clo a ha (fun hc => ?_) (by have := hB.lt a ha; omega), fun _ p hp => by simp at hp⟩ hmx (by omega) (by omega)
      rcases List.mem_append.mp hc with h | h
      · exact hs h
      · exact hne (List.mem_singleton.mp h)
theorem back_l0 {S : List (List Nat)} (hG : Gr S) (s : Sn) (hs : ∀ y, s y = true → y < S.length) (d : Nat) : ∀ i, i ≤ S.length → S.length - i = d →
    Ev (fun k => pdom_back.l0 k (up2 S) (up2 (pr S)) (rb s) (up ((List.range i).filter s)) (i : Int)) (rb (bk S s)) := by
  have hle := hG.le
  induction d with
  | zero =>
    intro i hi hd
    have e : i = S.length := by omega
    subst e
    refine Ev.succ ?_; simp only [pdom_back.l0]
    refine Ev.ifn (by rw [up2_length]; omega) (back_l1 hG s _ _ _ ⟨hs, fun y hy => (List.mem_filter.mp hy).2, fun _ h => h, fun _ h => bk_self h, fun a ha hn => ?_, fun h => absurd h (Nat.lt_irrefl _)⟩ (Nat.le_refl _) ?_)
    · exact absurd (List.mem_filter.mpr ⟨List.mem_range.mpr (hs a ha), ha⟩) hn
    · have h1 := List.length_filter_le s (List.range S.length)
      have h2 := List.length_filter_le (fun z => !s z) (List.range S.length)
      rw [List.length_range] at h1 h2
      unfold cnt; omega
  | succ d ih =>
    intro i hi hd
    have h1 := List.length_filter_le s (List.range i)
    rw [List.length_range] at h1
    refine Ev.succ ?_; simp only [pdom_back.l0]
    refine Ev.ifp (by rw [up2_length]; omega) (Ev.ifp (by omega) (Ev.ifp (by omega) ?_))
    rw [rd_rb _ (by omega), wrap_nat (by omega), ← up_snoc]
    have h2 := ih (i + 1) (by omega) (by omega)
    rw [List.range_succ, List.filter_append] at h2
    cases e : s i with
    | true =>
      refine Ev.ifp rfl (Ev.ifp (by rw [up_length]; omega) ?_)
      rw [List.filter_cons_of_pos e] at h2
      exact h2
    | false =>
      refine Ev.ifn (by decide) ?_
      rw [List.filter_cons_of_neg (by simp [e]), List.filter_nil, List.append_nil] at h2
      exact h2
theorem back_ok {S : List (List Nat)} (hG : Gr S) (s : Sn) (hs : ∀ y, s y = true → y < S.length) : Ev (fun k => pdom_back.f k (up2 S) (up2 (pr S)) (rb s)) (rb (bk S s)) := by
  unfold pdom_back.f
  exact back_l0 hG s hs S.length 0 (by omega) (by omega)
theorem turned_ok {S : List (List Nat)} (h : Gr S) : Ev (fun k => graph_Turned.f k (up2 S) (up2 (pr S))) (up2 (pr S), up2 S) := by
  unfold graph_Turned.f
  refine Ev.bind (may_ok h _) ?_
  refine Ev.ifp (by simp) ?_
  refine Ev.bind (make_ok (gr_pr h)) ?_
  rw [pr_pr h]; exact Ev.pure
end Go.Proofs.Ytheillkpgmpnlaa.GP
namespace Go.Proofs.Ytheillkpgmpnlaa.GP

/-! #### dominance -/
/-- Blocks' places, and from where each is come to from ahead. -/
structure Pl (S : List (List Nat)) (r : Nat) (at_ par : Nat → Nat) : Prop where
  inj : ∀ x y, Rch S (-1) r x → Rch S (-1) r y → at_ x = at_ y → x = y
  par : ∀ x, Rch S (-1) r x → x ≠ r → Rch S (-1) r (par x) ∧ x ∈ S.getD (par x) [] ∧ at_ (par x) < at_ x
/-- A block dominates another one. -/
def Dm (S : List (List Nat)) (r d x : Nat) : Prop := Rch S (-1) r x ∧ ¬ Rch S (d : Int) r x
section
variable {S : List (List Nat)} {r : Nat}
theorem rch_no {d : Nat} : ¬ Rch S (d : Int) r d := fun h => by
  cases h with
  | base h => exact h rfl
  | step _ _ h => exact h rfl
theorem rch_all {w : Int} {x : Nat} (h : Rch S w r x) : Rch S (-1) r x := by
  induction h with
  | base _ => exact .base (by omega)
  | step _ hy _ ih => exact .step ih hy (by omega)
theorem rch_root {w : Int} {x : Nat} (h : Rch S w r x) : Rch S w r r := by
  induction h with
  | base h => exact .base h
  | step _ _ _ ih => exact ih
theorem Dm.rch {d x : Nat} (h : Dm S r d x) : Rch S (-1) r x := h.1
theorem dm_refl {x : Nat} (h : Rch S (-1) r x) : Dm S r x x := ⟨h, rch_no⟩
theorem dm_root {x : Nat} (h : Rch S (-1) r x) : Dm S r r x := ⟨h, fun h' => rch_no (rch_root h')⟩
theorem dm_of_root {d : Nat} (h : Dm S r d r) : d = r := by
  refine Classical.byContradiction (fun hn => h.2 (.base (by omega)))
theorem dm_pred {d x p : Nat} (h : Dm S r d x) (hd : d ≠ x) (hp : Rch S (-1) r p) (hx : x ∈ S.getD p []) : Dm S r d p :=
  ⟨hp, fun h' => h.2 (.step h' hx (by omega))⟩
theorem dm_past {a b c : Nat} (h : Rch S (a : Int) r c) : Dm S r b c → Rch S (a : Int) r b := by
  induction h with
  | base h => intro hb; rw [dm_of_root hb]; exact .base h
  | @step q y hq hy hw ih =>
    intro hb
    by_cases e : b = y
    · subst e; exact .step hq hy hw
    · exact ih (dm_pred hb e (rch_all hq) hy)
theorem dm_trans {a b c : Nat} (h1 : Dm S r a b) (h2 : Dm S r b c) : Dm S r a c := ⟨h2.1, fun h => h1.2 (dm_past h h2)⟩
theorem dm_rch {d x : Nat} (h : Dm S r d x) : Rch S (-1) r d := by
  refine Classical.byContradiction (fun hn => h.2 ?_)
  have : ∀ y, Rch S (-1) r y → Rch S (d : Int) r y := by
    intro y hy
    induction hy with
    | base h0 => exact .base (fun e => hn (by rw [← Int.ofNat_inj.mp e]; exact .base h0))
    | @step a y ha hya _ ih => exact .step ih hya (fun e => hn (by rw [← Int.ofNat_inj.mp e]; exact .step ha hya (by omega)))
  exact this x h.1
variable {at_ par : Nat → Nat}
theorem dm_le (hP : Pl S r at_ par) {d : Nat} : ∀ (n x : Nat), at_ x ≤ n → Dm S r d x → at_ d ≤ at_ x := by
  intro n
  induction n with
  | zero =>
    intro x hx h
    by_cases e : d = x
    · subst e; omega
    · by_cases er : x = r
      · subst er; exact absurd (dm_of_root h) e
      · have := (hP.par x h.1 er).2.2; omega
  | succ n ih =>
    intro x hx h
    by_cases e : d = x
    · subst e; omega
    · by_cases er : x = r
      · subst er; exact absurd (dm_of_root h) e
      · obtain ⟨h1, h2, h3⟩ := hP.par x h.1 er
        have := ih (par x) (by omega) (dm_pred h e h1 h2); omega
theorem dm_antisymm (hP : Pl S r at_ par) {a b : Nat} (h1 : Dm S r a b) (h2 : Dm S r b a) : a = b :=
  hP.inj a b h2.1 h1.1 (Nat.le_antisymm (dm_le hP _ _ (Nat.le_refl _) h1) (dm_le hP _ _ (Nat.le_refl _) h2))
/-- The nearest of those that dominate a block. -/
def Idm (S : List (List Nat)) (r z x : Nat) : Prop := Dm S r z x ∧ z ≠ x ∧ ∀ d, Dm S r d x → d ≠ x → Dm S r d z
theorem idm_unique (hP : Pl S r at_ par) {z z' x : Nat} (h : Idm S r z x) (h' : Idm S r z' x) : z = z' :=
  dm_antisymm hP (h'.2.2 z h.1 h.2.1) (h.2.2 z' h'.1 h'.2.1)

/-! #### trees that are being made -/
abbrev Tr := Nat → Option Nat
/-- One is got to from another one, going up. -/
inductive An (T : Tr) (r c : Nat) : Nat → Prop
  | refl {y : Nat} : T c = some y → An T r c c
  | up {x y : Nat} : T x = some y → x ≠ r → An T r c y → An T r c x
inductive Pa (r z : Nat) (par : Nat → Nat) : Nat → Prop
  | refl : Pa r z par z
  | step {x : Nat} : x ≠ r → Pa r z par (par x) → Pa r z par x
theorem Pa.trans {a b c : Nat} (h1 : Pa r a par b) (h2 : Pa r b par c) : Pa r a par c := by
  induction h2 with
  | refl => exact h1
  | step h _ ih => exact .step h ih
structure Inv (S : List (List Nat)) (r : Nat) (at_ par : Nat → Nat) (T : Tr) : Prop where
  root : T r = some r
  rch : ∀ x y, T x = some y → Rch S (-1) r x
  lt : ∀ x y, T x = some y → x ≠ r → at_ y < at_ x ∧ ∃ z, T y = some z
  pa : ∀ x y, T x = some y → x ≠ r → Pa r y par x
  dom : ∀ x y, T x = some y → x ≠ r → ∀ d, Dm S r d x → d ≠ x → Dm S r d y
  low : ∀ x y, T x = some y → x ≠ r → ∀ c, (∀ p z, x ∈ S.getD p [] → T p = some z → An T r c p) → at_ c ≤ at_ y
theorem An.has {T : Tr} {c x : Nat} (h : An T r c x) : ∃ y, T x = some y := by
  cases h with
  | refl h => exact ⟨_, h⟩
  | up h _ _ => exact ⟨_, h⟩
theorem An.top {T : Tr} {c x : Nat} (h : An T r c x) : ∃ y, T c = some y := by
  induction h with
  | refl h => exact ⟨_, h⟩
  | up _ _ _ ih => exact ih
theorem An.trans {T : Tr} {a b c : Nat} (h1 : An T r a b) (h2 : An T r b c) : An T r a c := by
  induction h2 with
  | refl h => exact h1
  | up h hr _ ih => exact .up h hr ih
theorem An.le {T : Tr} (hI : Inv S r at_ par T) {c x : Nat} (h : An T r c x) : at_ c ≤ at_ x := by
  induction h with
  | refl h => exact Nat.le_refl _
  | up h hr _ ih => have := (hI.lt _ _ h hr).1; omega
theorem An.lt {T : Tr} (hI : Inv S r at_ par T) {c x : Nat} (h : An T r c x) (hc : c ≠ x) : at_ c < at_ x := by
  cases h with
  | refl h => exact absurd rfl hc
  | up h hr h2 => have := (hI.lt _ _ h hr).1; have := h2.le hI; omega
theorem An.pa {T : Tr} (hI : Inv S r at_ par T) {c x : Nat} (h : An T r c x) : Pa r c par x := by
  induction h with
  | refl h => exact .refl
  | up h hr _ ih => exact ih.trans (hI.pa _ _ h hr)
theorem dm_an {T : Tr} (hI : Inv S r at_ par T) {d : Nat} : ∀ (n x y : Nat), at_ x ≤ n → T x = some y → Dm S r d x → An T r d x := by
  intro n
  induction n with
  | zero =>
    intro x y hn hx h
    by_cases e : d = x
    · subst e; exact .refl hx
    · by_cases er : x = r
      · subst er; exact absurd (dm_of_root h) e
      · have := (hI.lt x y hx er).1; omega
  | succ n ih =>
    intro x y hn hx h
    by_cases e : d = x
    · subst e; exact .refl hx
    · by_cases er : x = r
      · subst er; exact absurd (dm_of_root h) e
      · obtain ⟨h1, z, h2⟩ := hI.lt x y hx er
        exact .up hx er (ih y z (by omega) h2 (hI.dom x y hx er d h e))
theorem an_dm {T : Tr} (hI : Inv S r at_ par T) {d m q : Nat} (h : An T r m q) : Dm S r d q → at_ d ≤ at_ m → Dm S r d m := by
  induction h with
  | refl h => exact fun h _ => h
  | @up x y h hr h2 ih =>
    intro hd hl
    have h3 := (hI.lt _ _ h hr).1
    have h4 := h2.le hI
    exact ih (hI.dom _ _ h hr d hd (by rintro rfl; omega)) hl
/-- What is right as it is: it is over all from which one comes. -/
def Fx (S : List (List Nat)) (r : Nat) (T : Tr) (x : Nat) : Prop := ∃ z, T x = some z ∧ ∀ p y, x ∈ S.getD p [] → T p = some y → An T r z p
def put (T : Tr) (x m : Nat) : Tr := fun y => if y = x then some m else T y
theorem put_self (T : Tr) (x m : Nat) : put T x m x = some m := by simp [put]
theorem put_ne {T : Tr} {x m y : Nat} (h : y ≠ x) : put T x m y = T y := by simp [put, h]
/-- The nearest one to which one comes from all. -/
def Best (S : List (List Nat)) (r : Nat) (T : Tr) (x m : Nat) : Prop :=
  (∀ p y, x ∈ S.getD p [] → T p = some y → An T r m p) ∧ ∀ c, (∀ p y, x ∈ S.getD p [] → T p = some y → An T r c p) → An T r c m
theorem best_at (hP : Pl S r at_ par) {T : Tr} (hI : Inv S r at_ par T) {x m : Nat} (hx : Rch S (-1) r x) (hr : x ≠ r) (hF : ∀ y, Rch S (-1) r y → at_ y < at_ x → y ≠ r → Fx S r T y) (hB : Best S r T x m) :
    An T r m (par x) ∧ at_ m < at_ x ∧ Pa r m par x := by
  obtain ⟨h1, h2, h3⟩ := hP.par x hx hr
  have h4 : ∃ y, T (par x) = some y := by
    by_cases e : par x = r
    · rw [e]; exact ⟨_, hI.root⟩
    · obtain ⟨z, hz, _⟩ := hF _ h1 h3 e; exact ⟨z, hz⟩
  obtain ⟨y, h4⟩ := h4
  have h5 := hB.1 _ _ h2 h4
  have h6 := h5.le hI
  exact ⟨h5, by omega, .step hr (h5.pa hI)⟩
theorem best_up (hP : Pl S r at_ par) {T : Tr} (hI : Inv S r at_ par T) {x m y : Nat} (hF : ∀ y, Rch S (-1) r y → at_ y < at_ x → y ≠ r → Fx S r T y) (hm : at_ m ≤ at_ y) {v : Nat} (hpa : Pa r y par v) :
    Rch S (-1) r v → at_ v < at_ x → An T r m v → An T r m y := by
  induction hpa with
  | refl => exact fun _ _ h => h
  | @step v hv hp ih =>
    intro hR hv2 ha
    obtain ⟨h1, h2, h3⟩ := hP.par v hR hv
    have hle : at_ y ≤ at_ (par v) := by
      have : ∀ {w : Nat}, Pa r y par w → Rch S (-1) r w → at_ y ≤ at_ w := by
        intro w hw
        induction hw with
        | refl => exact fun _ => Nat.le_refl _
        | @step w hw _ ih => intro hR'; obtain ⟨g1, _, g3⟩ := hP.par w hR' hw; have := ih g1; omega
      exact this hp h1
    obtain ⟨z, hz, hf⟩ := hF v hR hv2 hv
    have hz2 : ∃ y, T (par v) = some y := by
      by_cases e : par v = r
      · rw [e]; exact ⟨_, hI.root⟩
      · obtain ⟨z, hz, _⟩ := hF _ h1 (by omega) e; exact ⟨z, hz⟩
    obtain ⟨z2, hz2⟩ := hz2
    refine ih h1 (by omega) ?_
    cases ha with
    | refl _ => omega
    | @up _ y' h _ h5 =>
      rw [hz] at h; cases h
      exact h5.trans (hf _ _ h2 hz2)
/-- One more step keeps all of it, and goes up. -/
theorem step_inv (hP : Pl S r at_ par) {T : Tr} (hI : Inv S r at_ par T) {x m : Nat} (hx : Rch S (-1) r x) (hr : x ≠ r) (hF : ∀ y, Rch S (-1) r y → at_ y < at_ x → y ≠ r → Fx S r T y) (hB : Best S r T x m) :
    Inv S r at_ par (put T x m) ∧ ∀ y, T x = some y → m ≠ y → at_ m < at_ y := by
  obtain ⟨h1, h2, h3⟩ := best_at hP hI hx hr hF hB
  obtain ⟨p1, p2, p3⟩ := hP.par x hx hr
  obtain ⟨mz, hmz⟩ := h1.top
  have hmx : m ≠ x := by rintro rfl; omega
  have hup : ∀ y, T x = some y → An T r m y := by
    intro y hy
    have hl := hI.low x y hy hr m hB.1
    have hpa := hI.pa x y hy hr
    cases hpa with
    | refl => have := (hI.lt x x hy hr).1; omega
    | step _ hpa => exact best_up hP hI hF hl hpa p1 p3 h1
  have hdown : ∀ {c v : Nat}, An (put T x m) r c v → ∀ z, T v = some z → An T r c v := by
    intro c v h
    induction h with
    | @refl y h => intro z hz; exact .refl hz
    | @up v y h hv h5 ih =>
      intro z hz
      by_cases e : v = x
      · subst e
        rw [put_self] at h; cases h
        exact .up hz hv ((ih _ hmz).trans (hup _ hz))
      · rw [put_ne e, hz] at h; cases h
        obtain ⟨_, z2, h6⟩ := hI.lt v _ hz hv
        exact .up hz hv (ih _ h6)
  have hthere : ∀ v z, T v = some z → ∃ z', put T x m v = some z' := by
    intro v z hz
    by_cases e : v = x
    · subst e; exact ⟨_, put_self _ _ _⟩
    · exact ⟨z, by rw [put_ne e]; exact hz⟩
  refine ⟨⟨?_, ?_, ?_, ?_, ?_, ?_⟩, ?_⟩
  · rw [put_ne (fun e => hr e.symm)]; exact hI.root
  · intro v y hv
    by_cases e : v = x
    · subst e; exact hx
    · rw [put_ne e] at hv; exact hI.rch _ _ hv
  · intro v y hv hvr
    by_cases e : v = x
    · subst e
      rw [put_self] at hv; cases hv
      exact ⟨h2, mz, by rw [put_ne hmx]; exact hmz⟩
    · rw [put_ne e] at hv
      obtain ⟨h6, z, h7⟩ := hI.lt v y hv hvr
      exact ⟨h6, hthere _ _ h7⟩
  · intro v y hv hvr
    by_cases e : v = x
    · subst e
      rw [put_self] at hv; cases hv; exact h3
    · rw [put_ne e] at hv; exact hI.pa v y hv hvr
  · intro v y hv hvr d hd hdv
    by_cases e : v = x
    · subst e
      rw [put_self] at hv; cases hv
      have hall : ∀ p y, v ∈ S.getD p [] → T p = some y → An T r d p := fun p y hp hy => dm_an hI _ p y (Nat.le_refl _) hy (dm_pred hd hdv (hI.rch _ _ hy) hp)
      exact an_dm hI h1 (dm_pred hd hdv p1 p2) ((hB.2 d hall).le hI)
    · rw [put_ne e] at hv; exact hI.dom v y hv hvr d hd hdv
  · intro v y hv hvr c hc
    have hc' : ∀ p z, v ∈ S.getD p [] → T p = some z → An T r c p := by
      intro p z hp hz
      obtain ⟨z', hz'⟩ := hthere p z hz
      exact hdown (hc p z' hp hz') z hz
    by_cases e : v = x
    · subst e
      rw [put_self] at hv; cases hv
      exact (hB.2 c hc').le hI
    · rw [put_ne e] at hv; exact hI.low v y hv hvr c hc'
  · intro y hy hne
    exact (hup y hy).lt hI hne
/-- Where all is right, each entry is the nearest one that dominates. -/
theorem fix_idm {T : Tr} (hI : Inv S r at_ par T) (hF : ∀ y, Rch S (-1) r y → y ≠ r → Fx S r T y) : ∀ x z, T x = some z → x ≠ r → Idm S r z x := by
  have key : ∀ (c x : Nat), Rch S (c : Int) r x → An T r c x → False := by
    intro c x h
    induction h with
    | base h =>
      intro ha
      cases ha with
      | refl _ => exact h rfl
      | up _ h2 _ => exact h2 rfl
    | @step a x ha hx hw ih =>
      intro hA
      have haR := rch_all ha
      cases hA with
      | refl _ => exact hw rfl
      | @up _ z h2 hr h3 =>
        obtain ⟨z', hz', hf⟩ := hF x (.step haR hx (by omega)) hr
        rw [h2] at hz'; cases hz'
        have : ∃ y, T a = some y := by
          by_cases e : a = r
          · rw [e]; exact ⟨_, hI.root⟩
          · obtain ⟨y, hy, _⟩ := hF a haR e; exact ⟨y, hy⟩
        obtain ⟨y, hy⟩ := this
        exact ih (h3.trans (hf a y hx hy))
  intro x z hx hr
  have hR := hI.rch _ _ hx
  obtain ⟨h1, z2, h2⟩ := hI.lt x z hx hr
  refine ⟨⟨hR, fun h => key z x h (.up hx hr (.refl h2))⟩, by rintro rfl; omega, hI.dom x z hx hr⟩
end
end Go.Proofs.Ytheillkpgmpnlaa.GP
