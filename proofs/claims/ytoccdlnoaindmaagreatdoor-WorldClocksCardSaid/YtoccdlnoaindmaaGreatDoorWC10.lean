/- Texts of one proof, laid together: ZZ. No condition. -/
import Derived.Calls
namespace Go.Proofs.YtoccdlnoaindmaaGreatDoor
theorem oM {p:Prop} (h:p:=by omega):p:=h
theorem aS {p:Prop} (h:p:=by assumption):p:=h
theorem kH {p:Prop} (h:p:=by (repeat' (first|exact trivial|refine And.intro ?_ ?_))<;>(first|rfl|(congr 2;omega))):p:=h
end Go.Proofs.YtoccdlnoaindmaaGreatDoor
