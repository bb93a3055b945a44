/- Several texts as one. -/
import Derived.Test.YtnblmhfgmehnnaaGreatDoorPeMv
import Derived.Test.YtnblmhfgmehnnaaGreatDoorPeAA
namespace Go.Proofs.YtnblmhfgmehnnaaGreatDoor
def aX (x:Ex) (la:OA_) (lc:Nat) (ma:OA_) (mc:Nat) (sa:OA_) (sc:Nat) (aa:OA_) (ac:Nat):Array Value:=#[.int .i64 x.kind,.int .i64 x.val.kind,.bool x.val.bool,.int .i64 x.val.int,.string x.val.str,.slice la x.val.list.length lc,.slice ma x.val.map.length mc,.string x.name,.slice sa x.steps.length sc,.slice aa x.args.length ac]
def aN (x:Nd) (la:OA_) (lc:Nat) (ma:OA_) (mc:Nat) (sa:OA_) (sc:Nat) (aa:OA_) (ac:Nat) (ba:OA_) (bc:Nat) (ea:OA_) (ec:Nat):Array Value:=#[.int .i64 x.kind,.string x.text,.int .i64 x.x.kind,.int .i64 x.x.val.kind,.bool x.x.val.bool,.int .i64 x.x.val.int,.string x.x.val.str,.slice la x.x.val.list.length lc,.slice ma x.x.val.map.length mc,.string x.x.name,.slice sa x.x.steps.length sc,.slice aa x.x.args.length ac,.string x.key,.string x.name,.slice ba x.body.length bc,.slice ea x.els.length ec]
def zN (k:Int):Array Value:=#[.int .i64 k,.string ⟨#[]⟩,.int .i64 0,.int .i64 0,.bool false,.int .i64 0,.string ⟨#[]⟩,.slice none 0 0,.slice none 0 0,.string ⟨#[]⟩,.slice none 0 0,.slice none 0 0,.string ⟨#[]⟩,.string ⟨#[]⟩,.slice none 0 0,.slice none 0 0]
def zX:Array Value:=#[.int .i64 0,.int .i64 0,.bool false,.int .i64 0,.string ⟨#[]⟩,.slice none 0 0,.slice none 0 0,.string ⟨#[]⟩,.slice none 0 0,.slice none 0 0]
end Go.Proofs.YtnblmhfgmehnnaaGreatDoor
