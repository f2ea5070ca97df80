/-
  The three laws over the plain facts. No program.
-/
import Derived.Test.YtabljieejnhefaaPureW3
import Derived.Test.YtabljieejnhefaaPBx1
import Derived.Test.YtabljieejnhefaaPBx2
import Derived.Test.YtabljieejnhefaaPBx3
namespace Go.Proofs.Ytabljieejnhefaa.Hand
open Go.RowKit Go.Proofs.YtabljieejnhefaaW.PrintWords Go.Proofs.YtabljieejnhefaaW.PrintLast Go.Proofs.YtabljieejnhefaaW.PrintMore Go.Proofs.Ytabljieejnhefaa.PA Go.Proofs.Ytabljieejnhefaa.PB

theorem numbers_any (a0 : Int) (l1 : List Int) (a2 : Int) (h0 : 0 ≤ a0) (h1 : a0 < 18446744073709551616) (hb : Bytes255 l1) : tiklaw2_WireNumbers.f 30000 a0 l1 a2 = some true := by
  have e1 : tiklaw2_first.f = some true := rfl
  have e5 := bytes_same (varL 9 a0)
  have e6 := bytes_same ([((a0) % 4294967296 / 16777216) % 256, ((a0) % 4294967296 / 65536) % 256, ((a0) % 4294967296 / 256) % 256, ((a0) % 4294967296) % 256] : List Int)
  unfold tiklaw2_WireNumbers.f
  simp only [e1, Option.bind_some, if_true]
  by_cases q : (l1.length : Int) > 2000
  · rw [if_pos q]
  · rw [if_neg q]
    have hl : l1.length ≤ 2000 := by omega
    have e2 : wire_Get.f l1 a2 = some (getV l1 a2) := rfl
    have e3 := refGet_any l1 (by omega) hb a2 30000 (by omega)
    have e4 := wireVar_any 30000 (by omega) a0 h0 h1
    have e4' := refVar_any 30000 (by omega) a0 h0 h1
    have e7 := wireCrc_any 30000 l1 (by omega) hb (by omega)
    have e7' := refCrc_any 30000 l1 (by omega) hb (by omega)
    have e8 : wire_Four.f ((a0) % 4294967296) = some [((a0) % 4294967296 / 16777216) % 256, ((a0) % 4294967296 / 65536) % 256, ((a0) % 4294967296 / 256) % 256, ((a0) % 4294967296) % 256] := rfl
    have e8' : tikref2_Four.f ((a0) % 4294967296) = some [((a0) % 4294967296 / 16777216) % 256, ((a0) % 4294967296 / 65536) % 256, ((a0) % 4294967296 / 256) % 256, ((a0) % 4294967296) % 256] := rfl
    simp only [e2, e3, e4, e4', e5, e6, e7, e7', e8, e8', Option.bind_some, if_true]
end Go.Proofs.Ytabljieejnhefaa.Hand
