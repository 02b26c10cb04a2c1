/- ShipBytes -/
import Derived.Test.YtbkdlibbcepppaaGreatDoorShipBytesP14
import Derived.Test.YtbkdlibbcepppaaGreatDoorShipBytesP15
import Derived.Test.YtbkdlibbcepppaaGreatDoorTie
import Derived.Test.YtbkdlibbcepppaaGreatDoorCards
set_option maxHeartbeats 4000000
set_option maxRecDepth 100000
namespace Go.Proofs.YtbkdlibbcepppaaGreatDoor
open Go Go.ChangeShapes Go.WideShapes Go.ChangeAt Go.RowKit Go.Vx
set_option maxRecDepth 100000
theorem shipBytes_card:Rows.ShipBytesCardSaid :=
 Claim7.holds_tied_plain_at .later [] [.data,.data,.data,.data] true (true,"d6bdb7d35544cf25454e2603c04e01289706e178d8832005985fc6ed600fbad3") true
  shipBytes_holds (fun _ h=>by cases h) shipBytes_k1 (fun _ h=>by cases h) shipBytes_row_tie rfl ⟨rfl,rfl⟩ shipBytes_k2 rfl
  (fun f fn hf hfn=>by
   obtain rfl:f=5:=Option.some.inj (shipBytes_k3.symm.trans hf) |>.symm
   obtain rfl:fn=Tryz.f5:=(Option.some.inj (Tryz.func5.symm.trans hfn)).symm
   exact ⟨shipBytes_k4,fun j t ht=>by
    rw [Tryz.params5] at ht
    have h3:t=86∨t=30:=by
     rcases j with _|_|j
     ·left;simpa using ht.symm
     ·right;simpa using ht.symm
     ·simp at ht
    rcases h3 with rfl|rfl
    ·exact shipBytes_w86
    ·exact shipBytes_w30⟩)
  shipBytes_k5
end Go.Proofs.YtbkdlibbcepppaaGreatDoor
