/- Short names of some lemmas of the library, for room in a claim's folder. -/
import Derived.Lib.Hide
namespace Go.RowKit
theorem Hid.o{p:Prop}(h:Hid p):p:=h
end Go.RowKit
namespace Go.Proofs.YtegjgjgoodekiaaGreatDoor
theorem Lh{p:Prop}(h:p):RowKit.Hid p:=h
theorem qT{α:Type _}{xs:List α}{i:Nat}:xs.toArray[i]?=xs[i]?:=List.getElem?_toArray
theorem qZ{α:Type _}{a:α}{l:List α}:(a::l)[0]?=some a:=List.getElem?_cons_zero
theorem qS{α:Type _}{a:α}{l:List α}{i:Nat}:(a::l)[i+1]?=l[i]?:=List.getElem?_cons_succ
theorem eT{α:Type _}{xs:List α}{i:Nat}(h:i<xs.toArray.size):xs.toArray[i]=xs[i]'(by simpa using h):=List.getElem_toArray h
theorem eZ{α:Type _}(a:α)(w:List α)(h:0<(a::w).length):(a::w)[0]=a:=List.getElem_cons_zero a w h
theorem eS{α:Type _}(a:α)(w:List α)(i:Nat)(h:i+1<(a::w).length):(a::w)[i+1]=w[i]'(by simpa using h):=List.getElem_cons_succ a w i h

end Go.Proofs.YtegjgjgoodekiaaGreatDoor
