/- The walks together of the law IsaRegisters. -/
import Derived.Test.YtankanmggeimkaaDoorIsaU0
import Derived.Test.YtankanmggeimkaaDoorIsaU1
import Derived.Test.YtankanmggeimkaaDoorIsaU2
import Derived.Test.YtankanmggeimkaaDoorIsaU3
import Derived.Test.YtankanmggeimkaaDoorIsaU4
import Derived.Test.YtankanmggeimkaaDoorIsaU5
import Derived.Test.YtankanmggeimkaaDoorIsaU6
import Derived.Test.YtankanmggeimkaaDoorIsaU7
import Derived.Test.YtankanmggeimkaaDoorIsaU8
set_option linter.unusedVariables false
set_option linter.unusedSimpArgs false
namespace Go.Proofs.YtankanmggeimkaaDoor
open Go.RowKit Go.Sort

theorem registers_any (n : Nat) (a b c i : Int) (w : World) (hT : Tab w) :
    Calls Tryd.prog 11 #[.agg #[.int .u8 n, .int .i64 a, .int .i64 b, .int .i64 c, .int .i64 i]] w fun e w' => e = .returned (.bool true) ∧ Below w.heap.size w w' := by
  have HW := Lib.hid (wr_ways n a b c i)
  have HWR := Lib.hid (fun w hT => writes_any n a b c i w hT)
  rcases rdl_shape n a b c i with h | ⟨hv, ⟨x, h, hx⟩ | ⟨x, y, h, hx, hy, hxy⟩⟩
  all_goals have HR := Lib.hid (fun w hT => reads_any n a b c i w hT)
  all_goals rw [h] at HR
  · cases hv : vld n a b c i
    · exact regs_0f n a b c i w hT hv HR HW HWR
    · exact regs_0t n a b c i w hT hv HR HW HWR
  · rcases G_ways hx with p | ⟨p, q⟩ | ⟨p, q, r⟩
    · exact regs_10 n a b c i x w hT hx.1 hx.2.1 p hv HR HW HWR
    · exact regs_11 n a b c i x w hT hx.1 hx.2.1 p q hv HR HW HWR
    · exact regs_12 n a b c i x w hT hx.1 hx.2.1 p q r hv HR HW HWR
  · rcases G_ways hx with p | ⟨p, q⟩ | ⟨p, q, r⟩ <;> rcases G_ways hy with p' | ⟨p', q'⟩ | ⟨p', q', r'⟩
    · exact regs_200 n a b c i x y w hT hx.1 hx.2.1 p hy.1 hy.2.1 p' hxy hv HR HW HWR
    · exact regs_201 n a b c i x y w hT hx.1 hx.2.1 p hy.1 hy.2.1 p' q' hxy hv HR HW HWR
    · exact regs_202 n a b c i x y w hT hx.1 hx.2.1 p hy.1 hy.2.1 p' q' r' hxy hv HR HW HWR
    · exact regs_210 n a b c i x y w hT hx.1 hx.2.1 p q hy.1 hy.2.1 p' hxy hv HR HW HWR
    · exact regs_211 n a b c i x y w hT hx.1 hx.2.1 p q hy.1 hy.2.1 p' q' hxy hv HR HW HWR
    · exact regs_212 n a b c i x y w hT hx.1 hx.2.1 p q hy.1 hy.2.1 p' q' r' hxy hv HR HW HWR
    · exact regs_220 n a b c i x y w hT hx.1 hx.2.1 p q r hy.1 hy.2.1 p' hxy hv HR HW HWR
    · exact regs_221 n a b c i x y w hT hx.1 hx.2.1 p q r hy.1 hy.2.1 p' q' hxy hv HR HW HWR
    · exact regs_222 n a b c i x y w hT hx.1 hx.2.1 p q r hy.1 hy.2.1 p' q' r' hxy hv HR HW HWR

end Go.Proofs.YtankanmggeimkaaDoor
