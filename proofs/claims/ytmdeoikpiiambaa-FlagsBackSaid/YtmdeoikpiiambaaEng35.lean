/- The engine, part 35: the walk's equations, as the set that the kit's word go_sem names, for short texts. -/
import Derived.Test.YtmdeoikpiiambaaEng26
import Derived.Test.YtmdeoikpiiambaaEng34
import Derived.Attr
namespace Go.Eng
open Go
attribute [go_sem] renA renL renM renO evx evs evp Eng.look cst cst1 putd dstOk params loadx partx loI hiI bltx mmI boxx srcx calx nilx upd del resv fillA setMany if_true if_false ite_true ite_false eq_self forall_const implies_true ne_eq beq_self_eq_true bne_self_eq_false wrD engS0 engS1 engS2 engS3 engS4 engS5 engS6 engS7 engS8 engS9 engU0 engT0 engT1 engT2
end Go.Eng
