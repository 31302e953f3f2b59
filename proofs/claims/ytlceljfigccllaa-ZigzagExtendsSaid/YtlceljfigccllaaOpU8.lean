/- An argument of type uint8 (the theorem lies in LibC too, unless that is shrunk). -/
import Derived.Test.YtlceljfigccllaaLawEnd
set_option linter.unusedSimpArgs false
set_option linter.unusedVariables false
namespace Go.Mine
open Go.RowKit Go.ChangeShapes Go.WideShapes Go.ChangeAt
section
variable {H : Type} {enc : TypeId × Value → H} {P : Program} {t e : TypeId} {w : World} {r : Reach} {b0 : Nat} {v : Value} {d : DataW H} {ps : List MemPlace}
theorem argU8 (ht : P.underlying t = some (.int .u8)) (hval : Value.okWide P w r b0 t v) (hd : DataW.Trod enc P w 0 (fun _ => true) true t v d ps) : ∃ n, v = .int .u8 n ∧ U8 n := by
  obtain ⟨n, h, _, _, hw⟩ := open_int ht hval hd; exact ⟨n, h, U8.of hw⟩
end
end Go.Mine
