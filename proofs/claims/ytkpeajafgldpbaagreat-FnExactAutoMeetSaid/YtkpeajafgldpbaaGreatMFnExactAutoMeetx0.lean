import Derived.Test.YtkpeajafgldpbaaGreatProg
import Derived.Below
import Derived.Deep.Draws
import Derived.Deep.AppendLies
import Derived.Maps.AppendAt
import Derived.OwnWalk
import Derived.Laws.BytesArg
import Derived.Laws.MakeOwn
import Derived.Laws.OwnMore
import Derived.Deep.OwnRows
import Derived.Tactics
import Derived.Lib.ConvBytes
import Derived.Laws.Slices
import Derived.WalkKit
import Derived.KernelRfl
import Derived.RowKit3
import Derived.Deep.LoopGhost
import Derived.Deep.QuietTactic
import Derived.BigQuiet
import Derived.WideLaws
import Derived.Deep.DeepCutAuto
import Derived.Deep.CutBlock
import Derived.Deep.RegionHeld3
import Derived.Laws.Rows
import Derived.Lib.AppendStr
import Derived.ArgAppend
import Derived.Laws.IdiomCopy
import Derived.OrdersHeld
import Derived.Laws.BitsLemmas
import Derived.RowKit
import Derived.Deep.RegionLaw
import Derived.DeepKeys4
import Derived.Lib.SliceRun
import Derived.Maps.OwnOps
import Derived.Maps.OwnSet
import Derived.Maps.Views
import Derived.Test.YtkpeajafgldpbaaGreatShort2
import Derived.Test.YtkpeajafgldpbaaGreatShort6
import Derived.Test.YtkpeajafgldpbaaGreatShort8
import Derived.Test.YtkpeajafgldpbaaGreatWWords
import Derived.Test.YtkpeajafgldpbaaGreatWLast
import Derived.Test.YtkpeajafgldpbaaGreatWTab
import Derived.Test.YtkpeajafgldpbaaGreatWApart
import Derived.Test.YtkpeajafgldpbaaGreatWFoot
import Derived.Test.YtkpeajafgldpbaaGreatWKept
import Derived.Test.YtkpeajafgldpbaaGreatWShare
import Derived.Test.YtkpeajafgldpbaaGreatWN
import Derived.Laws.StructEq
import Derived.Test.YtkpeajafgldpbaaGreatWRepsOne
import Derived.Test.YtkpeajafgldpbaaGreatWGuard
import Derived.Test.YtkpeajafgldpbaaGreatWMore
namespace Go.Proofs.YtkpeajafgldpbaaGreat.MFnExactAutoMeet
open Go.RowKit Go.Proofs.YtkpeajafgldpbaaGreatW.PrintWords Go.Proofs.YtkpeajafgldpbaaGreatW.PrintLast Go.Proofs.YtkpeajafgldpbaaGreatW.PrintMore
attribute [local go_sem] max2_int min2_int max_two min_two max_three min_three max_four min_four
set_option linter.unusedVariables false
set_option linter.unusedSimpArgs false
def errW:Option Int→Value
  | none=>.nilIface
  | some c=>.iface 0 (.int .i64 c)
theorem errW_none:errW none=.nilIface:=rfl
theorem errW_some (c:Int):errW (some c)=.iface 0 (.int .i64 c):=rfl
theorem info3:(Tryz.prog.info? 3).map (fun i=>(i.zero,i.size,i.bytes))=some (some (.int .i64 0),1,8):=by kernel_rfl
theorem info4:(Tryz.prog.info? 4).map (fun i=>(i.zero,i.size,i.bytes))=some (some (.bool false),1,1):=by kernel_rfl
theorem info50:(Tryz.prog.info? 50).map (fun i=>(i.zero,i.size,i.bytes))=some (some (.agg #[(.int .i64 0),(.int .i64 0),(.int .i64 0),(.bool false)]),4,32):=by kernel_rfl
theorem info58:(Tryz.prog.info? 58).map (fun i=>(i.zero,i.size,i.bytes))=some (some (.agg #[(.int .i64 0),(.int .i64 0),(.int .i64 0),(.int .i64 0)]),4,32):=by kernel_rfl
structure S63 where
  f0:Int
  f1:Int
  f2:Int
  f3:Bool
def z63:S63:=⟨(0:Int),(0:Int),(0:Int),false⟩
def k63:Kd S63:=Kd.iso (Kd.pair (Kd.int .i64) (Kd.pair (Kd.int .i64) (Kd.pair (Kd.int .i64) Kd.bool))) (fun x:S63=>(x.f0,x.f1,x.f2,x.f3))
theorem k63_open {w:World} {x:S63} {cs:List Value} (h:k63.K w x cs):cs=[.int .i64 x.f0,.int .i64 x.f1,.int .i64 x.f2,.bool x.f3]:=by
 obtain ⟨_,_,rfl,rfl,⟨_,_,rfl,rfl,⟨_,_,rfl,rfl,rfl⟩⟩⟩:=h;exact rfl
def rd_T63 (xs:List S63) (i:Int):S63:=xs.getD i.toNat z63
theorem at_T63 {w:World} {A:Option Addr} {n:Nat} {xs:List S63} (h:Kd.C k63 w A n xs) (i:Int) (h0:0≤i) (h1:i<n):∃ ad ,A=some ad∧w.cell? (ad.add (i.toNat * 4))=some (.int .i64 (rd_T63 xs i).f0)∧w.cell? ⟨(ad.add (i.toNat * 4)).block,(ad.add (i.toNat * 4)).off+1,none⟩=some (.int .i64 (rd_T63 xs i).f1)∧w.cell? ⟨(ad.add (i.toNat * 4)).block,(ad.add (i.toNat * 4)).off+2,none⟩=some (.int .i64 (rd_T63 xs i).f2)∧w.cell? ⟨(ad.add (i.toNat * 4)).block,(ad.add (i.toNat * 4)).off+3,none⟩=some (.bool (rd_T63 xs i).f3):=by
 obtain ⟨ad,c,e,_,hK,hc0⟩:=Kd.C_get h z63 i h0 h1;have hc:∀ j u,c[j]?=some u→w.cell? (ad.add (i.toNat * 4+j))=some u:=hc0;obtain rfl:=k63_open hK;exact ⟨ad,e,hc 0 _ rfl,by rw[← add_field _ _ 1 (by omega)];exact hc 1 _ rfl,by rw[← add_field _ _ 2 (by omega)];exact hc 2 _ rfl,by rw[← add_field _ _ 3 (by omega)];exact hc 3 _ rfl⟩
structure S50 where
  f0:Int
  f1:Int
  f2:Int
  f3:Bool
def z50:S50:=⟨(0:Int),(0:Int),(0:Int),false⟩
def k50:Kd S50:=Kd.iso (Kd.pair (Kd.int .i64) (Kd.pair (Kd.int .i64) (Kd.pair (Kd.int .i64) Kd.bool))) (fun x:S50=>(x.f0,x.f1,x.f2,x.f3))
theorem k50_open {w:World} {x:S50} {cs:List Value} (h:k50.K w x cs):cs=[.int .i64 x.f0,.int .i64 x.f1,.int .i64 x.f2,.bool x.f3]:=by
 obtain ⟨_,_,rfl,rfl,⟨_,_,rfl,rfl,⟨_,_,rfl,rfl,rfl⟩⟩⟩:=h;exact rfl
theorem k50_openM {w:World} {base:Nat} {ok:Nat→Prop} {x:S50} {cs:List Value} (h:k50.M w base ok x cs):cs=[.int .i64 x.f0,.int .i64 x.f1,.int .i64 x.f2,.bool x.f3]:=by
 obtain ⟨_,_,rfl,rfl,⟨_,_,rfl,rfl,⟨_,_,rfl,rfl,rfl⟩⟩⟩:=h;exact rfl
theorem k50_mkM (w:World) (base:Nat) (ok:Nat→Prop) (x:S50)  : k50.M w base ok x [.int .i64 x.f0,.int .i64 x.f1,.int .i64 x.f2,.bool x.f3]:=⟨[.int .i64 x.f0],[.int .i64 x.f1,.int .i64 x.f2,.bool x.f3],rfl,rfl,⟨[.int .i64 x.f1],[.int .i64 x.f2,.bool x.f3],rfl,rfl,⟨[.int .i64 x.f2],[.bool x.f3],rfl,rfl,rfl⟩⟩⟩
def rd_T50 (xs:List S50) (i:Int):S50:=xs.getD i.toNat z50
theorem at_T50 {w:World} {A:Option Addr} {n:Nat} {xs:List S50} (h:Kd.C k50 w A n xs) (i:Int) (h0:0≤i) (h1:i<n):∃ ad ,A=some ad∧w.cell? (ad.add (i.toNat * 4))=some (.int .i64 (rd_T50 xs i).f0)∧w.cell? ⟨(ad.add (i.toNat * 4)).block,(ad.add (i.toNat * 4)).off+1,none⟩=some (.int .i64 (rd_T50 xs i).f1)∧w.cell? ⟨(ad.add (i.toNat * 4)).block,(ad.add (i.toNat * 4)).off+2,none⟩=some (.int .i64 (rd_T50 xs i).f2)∧w.cell? ⟨(ad.add (i.toNat * 4)).block,(ad.add (i.toNat * 4)).off+3,none⟩=some (.bool (rd_T50 xs i).f3):=by
 obtain ⟨ad,c,e,_,hK,hc0⟩:=Kd.C_get h z50 i h0 h1;have hc:∀ j u,c[j]?=some u→w.cell? (ad.add (i.toNat * 4+j))=some u:=hc0;obtain rfl:=k50_open hK;exact ⟨ad,e,hc 0 _ rfl,by rw[← add_field _ _ 1 (by omega)];exact hc 1 _ rfl,by rw[← add_field _ _ 2 (by omega)];exact hc 2 _ rfl,by rw[← add_field _ _ 3 (by omega)];exact hc 3 _ rfl⟩
structure S58 where
  f0:Int
  f1:Int
  f2:Int
  f3:Int
def z58:S58:=⟨(0:Int),(0:Int),(0:Int),(0:Int)⟩
def k58:Kd S58:=Kd.iso (Kd.pair (Kd.int .i64) (Kd.pair (Kd.int .i64) (Kd.pair (Kd.int .i64) (Kd.int .i64)))) (fun x:S58=>(x.f0,x.f1,x.f2,x.f3))
theorem k58_open {w:World} {x:S58} {cs:List Value} (h:k58.K w x cs):cs=[.int .i64 x.f0,.int .i64 x.f1,.int .i64 x.f2,.int .i64 x.f3]:=by
 obtain ⟨_,_,rfl,rfl,⟨_,_,rfl,rfl,⟨_,_,rfl,rfl,rfl⟩⟩⟩:=h;exact rfl
theorem k58_openM {w:World} {base:Nat} {ok:Nat→Prop} {x:S58} {cs:List Value} (h:k58.M w base ok x cs):cs=[.int .i64 x.f0,.int .i64 x.f1,.int .i64 x.f2,.int .i64 x.f3]:=by
 obtain ⟨_,_,rfl,rfl,⟨_,_,rfl,rfl,⟨_,_,rfl,rfl,rfl⟩⟩⟩:=h;exact rfl
theorem k58_mkM (w:World) (base:Nat) (ok:Nat→Prop) (x:S58)  : k58.M w base ok x [.int .i64 x.f0,.int .i64 x.f1,.int .i64 x.f2,.int .i64 x.f3]:=⟨[.int .i64 x.f0],[.int .i64 x.f1,.int .i64 x.f2,.int .i64 x.f3],rfl,rfl,⟨[.int .i64 x.f1],[.int .i64 x.f2,.int .i64 x.f3],rfl,rfl,⟨[.int .i64 x.f2],[.int .i64 x.f3],rfl,rfl,rfl⟩⟩⟩
def rd_T58 (xs:List S58) (i:Int):S58:=xs.getD i.toNat z58
theorem at_T58 {w:World} {A:Option Addr} {n:Nat} {xs:List S58} (h:Kd.C k58 w A n xs) (i:Int) (h0:0≤i) (h1:i<n):∃ ad ,A=some ad∧w.cell? (ad.add (i.toNat * 4))=some (.int .i64 (rd_T58 xs i).f0)∧w.cell? ⟨(ad.add (i.toNat * 4)).block,(ad.add (i.toNat * 4)).off+1,none⟩=some (.int .i64 (rd_T58 xs i).f1)∧w.cell? ⟨(ad.add (i.toNat * 4)).block,(ad.add (i.toNat * 4)).off+2,none⟩=some (.int .i64 (rd_T58 xs i).f2)∧w.cell? ⟨(ad.add (i.toNat * 4)).block,(ad.add (i.toNat * 4)).off+3,none⟩=some (.int .i64 (rd_T58 xs i).f3):=by
 obtain ⟨ad,c,e,_,hK,hc0⟩:=Kd.C_get h z58 i h0 h1;have hc:∀ j u,c[j]?=some u→w.cell? (ad.add (i.toNat * 4+j))=some u:=hc0;obtain rfl:=k58_open hK;exact ⟨ad,e,hc 0 _ rfl,by rw[← add_field _ _ 1 (by omega)];exact hc 1 _ rfl,by rw[← add_field _ _ 2 (by omega)];exact hc 2 _ rfl,by rw[← add_field _ _ 3 (by omega)];exact hc 3 _ rfl⟩
structure S68 where
  f0:Int
  f1:Int
def z68:S68:=⟨(0:Int),(0:Int)⟩
def k68:Kd S68:=Kd.iso (Kd.pair (Kd.int .i64) (Kd.int .i64)) (fun x:S68=>(x.f0,x.f1))
theorem k68_open {w:World} {x:S68} {cs:List Value} (h:k68.K w x cs):cs=[.int .i64 x.f0,.int .i64 x.f1]:=by
 obtain ⟨_,_,rfl,rfl,rfl⟩:=h;exact rfl
theorem k68_openM {w:World} {base:Nat} {ok:Nat→Prop} {x:S68} {cs:List Value} (h:k68.M w base ok x cs):cs=[.int .i64 x.f0,.int .i64 x.f1]:=by
 obtain ⟨_,_,rfl,rfl,rfl⟩:=h;exact rfl
theorem k68_mkM (w:World) (base:Nat) (ok:Nat→Prop) (x:S68)  : k68.M w base ok x [.int .i64 x.f0,.int .i64 x.f1]:=⟨[.int .i64 x.f0],[.int .i64 x.f1],rfl,rfl,rfl⟩
def rd_T68 (xs:List S68) (i:Int):S68:=xs.getD i.toNat z68
theorem at_T68 {w:World} {A:Option Addr} {n:Nat} {xs:List S68} (h:Kd.C k68 w A n xs) (i:Int) (h0:0≤i) (h1:i<n):∃ ad ,A=some ad∧w.cell? (ad.add (i.toNat * 2))=some (.int .i64 (rd_T68 xs i).f0)∧w.cell? ⟨(ad.add (i.toNat * 2)).block,(ad.add (i.toNat * 2)).off+1,none⟩=some (.int .i64 (rd_T68 xs i).f1):=by
 obtain ⟨ad,c,e,_,hK,hc0⟩:=Kd.C_get h z68 i h0 h1;have hc:∀ j u,c[j]?=some u→w.cell? (ad.add (i.toNat * 2+j))=some u:=hc0;obtain rfl:=k68_open hK;exact ⟨ad,e,hc 0 _ rfl,by rw[← add_field _ _ 1 (by omega)];exact hc 1 _ rfl⟩
end Go.Proofs.YtkpeajafgldpbaaGreat.MFnExactAutoMeet
