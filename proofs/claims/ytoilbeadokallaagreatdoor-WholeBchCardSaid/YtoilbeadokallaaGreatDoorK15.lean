/- Lemmas on the way to the row. Conditions: each lemma's own, stated with it. -/
import Derived.Test.YtoilbeadokallaaGreatDoorK01
import Derived.Test.YtoilbeadokallaaGreatDoorK02
import Derived.Test.YtoilbeadokallaaGreatDoorK03
import Derived.Test.YtoilbeadokallaaGreatDoorK05
import Derived.Test.YtoilbeadokallaaGreatDoorK07
import Derived.Test.YtoilbeadokallaaGreatDoorK09
import Derived.Test.YtoilbeadokallaaGreatDoorK10
import Derived.Test.YtoilbeadokallaaGreatDoorK13
import Derived.Test.YtoilbeadokallaaGreatDoorK14
import Derived.Test.YtoilbeadokallaaGreatDoorRows
import Derived.ProofKit
import Derived.Lib.SmallJoins
import Derived.Laws.IdiomArrays
import Derived.Shelf.LaysM
import Derived.Shelf.Strconv.Itoa3
import Derived.Shelf.Bits.Mul64
import Derived.Test.YtoilbeadokallaaGreatDoorProg
import Derived.Shelf.Sort.Plain
import Derived.Shelf.Slices.In.SortNone
import Derived.Deep.RegionHeld3
import Derived.WalkLawsBesides
import Derived.Deep.RegionLawGrows
import Derived.RangeFuncNested
import Derived.RangeFuncBound
import Derived.RangeFuncCalls
import Derived.RangeFuncLeaves
import Derived.RangeFuncFrom
import Derived.Shelf.Abstract
import Derived.Shelf.RegionOpen
import Derived.OwnWalkIn
import Derived.TacticsInMore
import Derived.LoopNIn
import Derived.LoopIn
set_option maxHeartbeats 4000000
namespace Go.Proofs.YtoilbeadokallaaGreatDoor
open Go.ChangeShapes Go.WideShapes Go.ChangeAt Go.RowKit Go.Joins Cw
set_option maxRecDepth 100000
theorem Tryz.own:ownKnob Tryz.prog.godebug=none:=by kernel_rfl
theorem Tryz.laidOut:laidOutB Tryz.prog=true:=by kernel_rfl
theorem Tryz.cellsF:Tryz.prog.cellsOf 24=3:=by kernel_rfl
theorem Tryz.cellsI:Tryz.prog.cellsOf 3=1:=by kernel_rfl
theorem Tt {w:World} {a:Addr} {v:Value} (h:w.cell? a=some v):a.spot=none/\a.block<w.heap.size:=by
 unfold World.cell? at h;cases e:w.heap[a.block]? with
 |none=>rw[e] at h;simp at h
 |some o=>
  have hlt:a.block<w.heap.size:=by
   rcases zL.1 e with⟨h1,_⟩
   exact h1
  rw[e] at h;cases o with
  |cells c t f=>
   cases e2:a.spot with
   |none=>exact⟨rfl,hlt⟩
   |some k=>simp[e2] at h
  |_=>simp at h
theorem OW {H:Type} {enc:TypeId×Value->H} {W:World} {n:Nat} {v:Value} {y:DataW H×List MemPlace} (h:DataW.trod enc Tryz.prog W 0 (fun _=>true) true n 22 [v]=some y):∃ xs,Sl W v xs:=by
 rcases open_ints Tryz.underlying22 Tryz.underlying3 Tryz.cellsI h with⟨hcs,_⟩|⟨a,len,cap,zs,hcs,_,hl,hm,hz,_,hcell,_⟩
 ·simp at hcs;subst hcs;exact⟨[],none,0,rfl,by simp,⟨by unfold maxLen;omega,fun _=>rfl⟩,fun e=>absurd rfl e⟩
 ·simp at hcs;subst hcs;simp only[if_true] at hz;have hlen:(zs.take len).length=len:=by simp;omega
  refine⟨zs.take len,some a,cap,by rw[hlen],by omega,⟨hm,fun e=>by cases e⟩,fun hne=>?_⟩;have h0:0<len:=by
   rcases xR len with e|e
   ·exact absurd (zO (by rw[hlen,e])) hne
   ·exact e
  obtain⟨g1,g2⟩:=Tt (hcell 0 (by omega));obtain⟨b,off,s⟩:=a;have g3:s=none:=g1;subst g3;refine⟨b,off,rfl,g2,fun i hi=>?_⟩;rw[hlen] at hi;have:=hcell i (by omega);rw[Addr.add_lit] at this;rw[this];simp[List.getD,hi]
theorem NC {H:Type} {enc:TypeId×Value->H} {W:World} {base:Nat} {v:Value} {d:DataW H} {p:List MemPlace} (hv:Value.okWide Tryz.prog W .any base 24 v) (h:DataW.Trod enc Tryz.prog W 0 (fun _=>true) true 24 v d p):
  ∃ (P M:Int) (vm:Value) (mod:List Int),v=.agg #[.int .i64 P,.int .i64 M,vm]/\Sl W vm mod:=by
 obtain⟨c0,c1,c2,y0,y1,y2,m,rfl,rfl,rfl,hy0,hy1,hy2⟩:=open_agg3 Tryz.underlying24 (by kernel_rfl) Tryz.cellsF hv h;obtain⟨P,e0,_,wP⟩:=DataW.trod_int Tryz.underlying3 hy0;obtain⟨M,e1,_,wM⟩:=DataW.trod_int Tryz.underlying3 hy1;simp at e0 e1;subst e0 e1;obtain⟨mod,hs⟩:=OW hy2;exact⟨P,M,c2,mod,rfl,hs⟩
end Go.Proofs.YtoilbeadokallaaGreatDoor
namespace Go.Proofs.YtoilbeadokallaaGreatDoor
open Go.ChangeShapes Go.WideShapes Go.ChangeAt Go.RowKit Go.Joins Cw
set_option maxRecDepth 100000
end Go.Proofs.YtoilbeadokallaaGreatDoor
namespace Go.Proofs.YtoilbeadokallaaGreatDoor
open Go.ChangeShapes Go.WideShapes Go.ChangeAt Go.RowKit Go.Joins Cw
set_option maxRecDepth 100000
end Go.Proofs.YtoilbeadokallaaGreatDoor
namespace Go.Proofs.YtoilbeadokallaaGreatDoor
section
set_option maxRecDepth 100000
open Go.ChangeShapes Go.WideShapes Go.ChangeAt Go.RowKit Go.Joins Cw
theorem band {a b:Bool} (h:a=true) (k:b=true):(a&&b)=true:=by rw[h,k];rfl
set_option maxHeartbeats 4000000
theorem Tryz.fLaid:laidOutB Tryz.pinned.checked.prog=true:=by as_aux_lemma=>kernel_rfl
theorem Tryz.fMaps:mapsRowed Tryz.pinned.checked.prog=true:=by as_aux_lemma=>kernel_rfl
theorem Tryz.fHeard:(Tryz.pinned.checked.prog).stopsHeard=true:=by as_aux_lemma=>kernel_rfl
theorem Tryz.fEnter:(Tryz.pinned.checked.prog).mayEnter=true:=by as_aux_lemma=>kernel_rfl
end
end Go.Proofs.YtoilbeadokallaaGreatDoor
namespace Go.Proofs
open Go.Shelf
def Tryz.lays171_ren:Go.Shelf.Ren:=⟨fun|171=>194|243=>298|246=>356|283=>383|284=>384|285=>385|286=>386|129=>283|317=>399|318=>400|319=>401|320=>402|337=>404|338=>405|n=>n,fun|3=>3|9=>9|2=>2|4=>4|171=>360|0=>0|53=>236|37=>195|5=>5|173=>362|212=>377|51=>288|20=>20|213=>378|46=>220|232=>379|233=>380|n=>n,fun|17=>3|18=>4|19=>5|n=>n⟩
theorem Tryz.lays171:Go.Proofs.Lays.n171 Tryz.prog Tryz.lays171_ren:={
 mixed:=by kernel_rfl
 f129:=Tryz.func283.trans (congrArg some (by kernel_rfl))
 f171:=Tryz.func194.trans (congrArg some (by kernel_rfl))
 f243:=Tryz.func298.trans (congrArg some (by kernel_rfl))
 f246:=Tryz.func356.trans (congrArg some (by kernel_rfl))
 f283:=Tryz.func383.trans (congrArg some (by kernel_rfl))
 f284:=Tryz.func384.trans (congrArg some (by kernel_rfl))
 f285:=Tryz.func385.trans (congrArg some (by kernel_rfl))
 f286:=Tryz.func386.trans (congrArg some (by kernel_rfl))
 f317:=Tryz.func399.trans (congrArg some (by kernel_rfl))
 f318:=Tryz.func400.trans (congrArg some (by kernel_rfl))
 f319:=Tryz.func401.trans (congrArg some (by kernel_rfl))
 f320:=Tryz.func402.trans (congrArg some (by kernel_rfl))
 f337:=Tryz.func404.trans (congrArg some (by kernel_rfl))
 f338:=Tryz.func405.trans (congrArg some (by kernel_rfl))
 t0:=Tryz.underlying0
 a0:=Tryz.isAgg0
 z0:=Tryz.sizeOf0
 v0:=Tryz.zeroValue0
 t2:=Tryz.underlying2
 a2:=Tryz.isAgg2
 z2:=Tryz.sizeOf2
 v2:=Tryz.zeroValue2
 t3:=Tryz.underlying3
 a3:=Tryz.isAgg3
 z3:=Tryz.sizeOf3
 v3:=Tryz.zeroValue3
 t4:=Tryz.underlying4
 a4:=Tryz.isAgg4
 z4:=Tryz.sizeOf4
 v4:=Tryz.zeroValue4
 t5:=Tryz.underlying5
 a5:=Tryz.isAgg5
 z5:=Tryz.sizeOf5
 v5:=Tryz.zeroValue5
 t9:=Tryz.underlying9
 a9:=Tryz.isAgg9
 z9:=Tryz.sizeOf9
 v9:=Tryz.zeroValue9
 t20:=Tryz.underlying20
 a20:=Tryz.isAgg20
 z20:=Tryz.sizeOf20
 v20:=Tryz.zeroValue20
 t37:=Tryz.underlying195
 a37:=Tryz.isAgg195
 z37:=Tryz.sizeOf195
 v37:=Tryz.zeroValue195
 t46:=Tryz.underlying220
 a46:=Tryz.isAgg220
 z46:=Tryz.sizeOf220
 v46:=Tryz.zeroValue220
 t51:=Tryz.underlying288
 a51:=Tryz.isAgg288
 z51:=Tryz.sizeOf288
 v51:=Tryz.zeroValue288
 t53:=Tryz.underlying236
 a53:=Tryz.isAgg236
 z53:=Tryz.sizeOf236
 v53:=Tryz.zeroValue236
 t171:=Tryz.underlying360
 a171:=Tryz.isAgg360
 z171:=Tryz.sizeOf360
 v171:=Tryz.zeroValue360
 t173:=Tryz.underlying362
 a173:=Tryz.isAgg362
 z173:=Tryz.sizeOf362
 v173:=Tryz.zeroValue362
 t212:=Tryz.underlying377
 a212:=Tryz.isAgg377
 z212:=Tryz.sizeOf377
 v212:=Tryz.zeroValue377
 t213:=Tryz.underlying378
 a213:=Tryz.isAgg378
 z213:=Tryz.sizeOf378
 t232:=Tryz.underlying379
 a232:=Tryz.isAgg379
 z232:=Tryz.sizeOf379
 v232:=Tryz.zeroValue379
 t233:=Tryz.underlying380
 a233:=Tryz.isAgg380
 z233:=Tryz.sizeOf380
 v233:=Tryz.zeroValue380
 g17:=by kernel_rfl
 g18:=by kernel_rfl
 g19:=by kernel_rfl}
open Go.RowKit Go.Sort Go.Lib in
theorem Tryz.strconv_Itoa_small (i:Nat) (hi:i<100) (w:World):
  Calls Tryz.prog 194 #[.int .i64 i] w fun e w'=>e=.returned (.string ⟨(Lib.decDigits i).toArray⟩)/\w'=w:=Any.strconv_Itoa_small Tryz.lays171 i hi w
def Tryz.lays264_ren:Go.Shelf.Ren:=⟨fun|264=>174|n=>n,fun|53=>236|46=>220|n=>n,fun|n=>n⟩
theorem Tryz.lays264:Go.Proofs.Lays.n264 Tryz.prog Tryz.lays264_ren:={
 mixed:=by kernel_rfl
 f264:=Tryz.func174.trans (congrArg some (by kernel_rfl))
 t46:=Tryz.underlying220
 a46:=Tryz.isAgg220
 z46:=Tryz.sizeOf220
 v46:=Tryz.zeroValue220
 t53:=Tryz.underlying236
 a53:=Tryz.isAgg236
 z53:=Tryz.sizeOf236
 v53:=Tryz.zeroValue236}
open Go.RowKit Go.Lib in
theorem Tryz.bits_Mul64 (x y:Nat) (hx:x<18446744073709551616) (hy:y<18446744073709551616) (w:World):
  Calls Tryz.prog 174 #[.int .u64 x,.int .u64 y] w fun e w'=>e=.returned (.tuple #[.int .u64 ((x*y/18446744073709551616:Nat):Int),.int .u64 ((x*y%18446744073709551616:Nat):Int)])/\w'=w:=Any.bits_Mul64 Tryz.lays264 x y hx hy w
end Go.Proofs
namespace Go.Proofs
open Go.Shelf
def Tryz.laysSort_ren:Go.Shelf.Ren:=⟨fun|189=>103|125=>156|257=>155|128=>282|129=>283|294=>273|295=>274|296=>275|297=>276|298=>277|299=>278|216=>279|300=>280|301=>281|328=>345|329=>346|330=>347|331=>348|332=>349|215=>350|343=>381|n=>n,fun|28=>22|3=>3|46=>220|0=>0|51=>288|53=>236|4=>4|183=>282|182=>281|131=>191|5=>5|9=>9|218=>329|222=>81|228=>358|229=>153|n=>n,fun|n=>n⟩
theorem Tryz.laysSort:Go.Proofs.Lays.n189 Tryz.prog Tryz.laysSort_ren:={
 mixed:=by kernel_rfl
 f125:=Tryz.func156.trans (congrArg some (by kernel_rfl))
 f128:=Tryz.func282.trans (congrArg some (by kernel_rfl))
 f129:=Tryz.func283.trans (congrArg some (by kernel_rfl))
 f189:=Tryz.func103.trans (congrArg some (by kernel_rfl))
 f215:=Tryz.func350.trans (congrArg some (by kernel_rfl))
 f216:=Tryz.func279.trans (congrArg some (by kernel_rfl))
 f257:=Tryz.func155.trans (congrArg some (by kernel_rfl))
 f294:=Tryz.func273.trans (congrArg some (by kernel_rfl))
 f295:=Tryz.func274.trans (congrArg some (by kernel_rfl))
 f296:=Tryz.func275.trans (congrArg some (by kernel_rfl))
 f297:=Tryz.func276.trans (congrArg some (by kernel_rfl))
 f298:=Tryz.func277.trans (congrArg some (by kernel_rfl))
 f299:=Tryz.func278.trans (congrArg some (by kernel_rfl))
 f300:=Tryz.func280.trans (congrArg some (by kernel_rfl))
 f301:=Tryz.func281.trans (congrArg some (by kernel_rfl))
 f328:=Tryz.func345.trans (congrArg some (by kernel_rfl))
 f329:=Tryz.func346.trans (congrArg some (by kernel_rfl))
 f330:=Tryz.func347.trans (congrArg some (by kernel_rfl))
 f331:=Tryz.func348.trans (congrArg some (by kernel_rfl))
 f332:=Tryz.func349.trans (congrArg some (by kernel_rfl))
 f343:=Tryz.func381.trans (congrArg some (by kernel_rfl))
 t0:=Tryz.underlying0
 a0:=Tryz.isAgg0
 z0:=Tryz.sizeOf0
 v0:=Tryz.zeroValue0
 t3:=Tryz.underlying3
 a3:=Tryz.isAgg3
 z3:=Tryz.sizeOf3
 v3:=Tryz.zeroValue3
 t4:=Tryz.underlying4
 a4:=Tryz.isAgg4
 z4:=Tryz.sizeOf4
 v4:=Tryz.zeroValue4
 t5:=Tryz.underlying5
 a5:=Tryz.isAgg5
 z5:=Tryz.sizeOf5
 v5:=Tryz.zeroValue5
 t9:=Tryz.underlying9
 a9:=Tryz.isAgg9
 z9:=Tryz.sizeOf9
 v9:=Tryz.zeroValue9
 t28:=Tryz.underlying22
 a28:=Tryz.isAgg22
 z28:=Tryz.sizeOf22
 v28:=Tryz.zeroValue22
 t46:=Tryz.underlying220
 a46:=Tryz.isAgg220
 z46:=Tryz.sizeOf220
 v46:=Tryz.zeroValue220
 t51:=Tryz.underlying288
 a51:=Tryz.isAgg288
 z51:=Tryz.sizeOf288
 v51:=Tryz.zeroValue288
 t53:=Tryz.underlying236
 a53:=Tryz.isAgg236
 z53:=Tryz.sizeOf236
 v53:=Tryz.zeroValue236
 t131:=Tryz.underlying191
 a131:=Tryz.isAgg191
 z131:=Tryz.sizeOf191
 v131:=Tryz.zeroValue191
 t182:=Tryz.underlying281
 a182:=Tryz.isAgg281
 z182:=Tryz.sizeOf281
 v182:=Tryz.zeroValue281
 t183:=Tryz.underlying282
 a183:=Tryz.isAgg282
 z183:=Tryz.sizeOf282
 v183:=Tryz.zeroValue282
 t218:=Tryz.underlying329
 a218:=Tryz.isAgg329
 z218:=Tryz.sizeOf329
 v218:=Tryz.zeroValue329
 t222:=Tryz.underlying81
 a222:=Tryz.isAgg81
 z222:=Tryz.sizeOf81
 v222:=Tryz.zeroValue81
 t228:=Tryz.underlying358
 a228:=Tryz.isAgg358
 z228:=Tryz.sizeOf358
 v228:=Tryz.zeroValue358
 t229:=Tryz.underlying153
 a229:=Tryz.isAgg153
 z229:=Tryz.sizeOf153
 v229:=Tryz.zeroValue153}
end Go.Proofs
namespace Go.Proofs.YtoilbeadokallaaGreatDoor
section
set_option maxRecDepth 100000
open Go.RowKit Cw Cw.Gj
theorem OX (x n:Int) (hn:0<n):(x.tmod n+n).tmod n=x%n:=by
 have h1:=vV x hn;have h2:-n<x.tmod n:=by
  rcases Int.le_total 0 x with h|h
  ·have:=Int.tmod_nonneg n h;omega
  ·have h3:=vV (-x) hn;rw[rJ] at h3;omega
 rw[yS (by omega),Int.add_emod_right];rcases Int.le_total 0 x with h|h
 ·rw[yS h,Int.emod_emod]
 ·have e:x.tmod n=-((-x)%n):=by
   rw[<-yS (show 0<=-x by omega),rJ];omega
  rw[e];have h4:(-((-x)%n))%n=x%n:=by
   have h5:-((-x)%n)=x+n*((-x) /n):=by
    have:=Int.emod_add_mul_ediv (-x) n;omega
   rw[h5,wY]
  exact h4
theorem EK (x n:Int) (w:World) (hn:1<=n) (hn2:n<=65536):
  Calls Tryz.prog 116 #[.int .i64 x,.int .i64 n] w fun e w'=>e=.returned (.int .i64 (x%n))/\w=w':=by
 have t0:(n==0)=false:=by simp;omega
 have t1:¬ n=0:=by omega
 have b1:=vV x (show 0<n by omega);have b2:-n<x.tmod n:=by
  rcases Int.le_total 0 x with h|h
  ·have:=Int.tmod_nonneg n h;omega
  ·have h3:=vV (-x) (show 0<n by omega);rw[rJ] at h3;omega
 have e1:=OX x n (by omega);have b3:=zK x t1;have b4:=zQ x (show 0<n by omega);obtain⟨r,hr⟩:∃ r,x.tmod n=r:=⟨_,rfl⟩
 rw[hr] at b1 b2 e1;obtain⟨s,hs⟩:∃ s,s=x%n:=⟨_,rfl⟩
 rw[<-hs] at e1 b3 b4 ⊢;have w1:IntKind.i64.wrap r=r:=IntWalk.i64_in _ (by omega);have w2:IntKind.i64.wrap (r+n)=r+n:=IntWalk.i64_in _ (by omega);have w3:IntKind.i64.wrap s=s:=IntWalk.i64_in _ (by omega);clear hs;go_enter Tryz.func116,Tryz.ntmps116;go_wp2_with(fail)
 go_ret;exact⟨rfl,rfl⟩
theorem Tv (x lo:Int) (w:World) (h1:lo<=x) (h2:x<=2147483647):Calls Tryz.prog 290 #[.int .i64 x,.int .i64 lo] w fun e w'=>e=.returned (.bool true)/\w=w':=by
 have t1:decide (lo<=x)=true:=xG h1;have t2:decide (x<=2147483647)=true:=xG h2;clear h1 h2;go_enter Tryz.func290,Tryz.ntmps290;go_wp2_with(fail)
 go_ret;exact⟨rfl,rfl⟩
theorem Tz (x y:Int) (w:World) (h1:-2147483647<=x) (h2:x<=2147483647) (h3:-2147483647<=y) (h4:y<=2147483647):Calls Tryz.prog 166 #[.int .i64 x,.int .i64 y] w fun e w'=>e=.returned (.bool true)/\w=w':=by
 have HX:=hid (Tv x (-2147483647) w h1 h2);have HY:=hid (Tv y (-2147483647) w h3 h4);clear h1 h2 h3 h4;go_enter Tryz.func166,Tryz.ntmps166;go_wp2_with(go_at_call 290;first|((with_reducible refine HX.out.mono ?_);rintro e w' ⟨rfl,rfl⟩)|((with_reducible refine HY.out.mono ?_);rintro e w' ⟨rfl,rfl⟩))
 go_ret;exact⟨rfl,rfl⟩
theorem TA (x:Nat) (w:World) (h:x<=2147483647):Calls Tryz.prog 168 #[.int .i64 x] w fun e w'=>e=.returned (.int .i64 x)/\w=w':=by
 have w1:IntKind.i64.wrap (-(x:Int))=-(x:Int):=IntWalk.i64_in _ (by omega);have w2:max (x:Int) (-(x:Int))=x:=by omega
 go_enter Tryz.func168,Tryz.ntmps168;go_wp2_with(fail)
 go_ret;exact⟨rfl,rfl⟩
theorem XF (a b:Nat) (w:World) (ha:a<=2147483647) (hb:b<=2147483647):Calls Tryz.prog 167 #[.int .i64 a,.int .i64 b] w fun e w'=>e=.returned (.int .i64 (Nat.gcd a b:Nat))/\ay w w':=by
 go_enter Tryz.func167,Tryz.ntmps167;go_wp2_with(fail)
 go_loopw [0,1] (fun va vb wr=>∃ x y:Nat,va=.int .i64 x/\vb=.int .i64 y/\x<=2147483647/\y<=2147483647/\Hid (Nat.gcd x y=Nat.gcd a b)/\ay w wr) (fun _ vb _=>(intOf vb).toNat)
 case atStart=>exact⟨a,b,rfl,rfl,ha,hb,hid rfl,ay.rfl' _⟩
 case round=>
  obtain⟨x,y,rfl,rfl,hx,hy,hg,hk⟩:=hrel;by_cases h:y=0
  ·have t0:(((y:Nat):Int) != 0)=false:=by simp;omega
   have hr:Hid (x=Nat.gcd a b):=hid (by rw[<-hg.out,h,Nat.gcd_zero_right]);clear h;go_wp2_with(fail)
   go_ret;exact⟨aW (by rw[hr.out]),hk⟩
  ·have t0:(((y:Nat):Int) != 0)=true:=by simp;omega
   have t1:(((y:Nat):Int)==0)=false:=by simp;omega
   have t2:¬ ((y:Nat):Int)=0:=by omega
   have hm:((x:Int)).tmod (y:Int)=((x%y:Nat):Int):=by rw[yS (by omega)];simp
   have hlt:x%y<y:=vU _ (by omega);obtain⟨r,hr⟩:∃ r,r=x%y:=⟨_,rfl⟩
   rw[<-hr] at hm hlt;have w1:IntKind.i64.wrap (r:Int)=(r:Int):=IntWalk.i64_in _ (by omega);have hg2:Hid (Nat.gcd y r=Nat.gcd a b):=hid (by rw[<-hg.out,hr,rF x y,Nat.gcd_rec y x,rF]);have HK:=hid hk;clear hr h hk;go_upto_region 2 with(fail)
   go_quiet(fail);go_wp2_with(fail)
   go_roundw;case rel=>exact⟨y,r,rfl,rfl,by omega,by omega,hg2,HK.out.drewN _⟩
   case measure=>simp[intOf];omega
theorem ND (a b:Nat) (w:World) (ha:a<=2147483647) (hb:b<=2147483647):Calls Tryz.prog 117 #[.int .i64 a,.int .i64 b] w fun e w'=>e=.returned (.tuple #[.int .i64 (Nat.gcd a b:Nat),.int .i64 0])/\ay w w':=by
 obtain⟨g,hg⟩:∃ g,g=Nat.gcd a b:=⟨_,rfl⟩
 have HG:=hid (XF a b w ha hb);rw[<-hg] at HG ⊢;have HB:=hid (Tz (a:Int) (b:Int) w (by omega) (by omega) (by omega) (by omega));have HA1:=hid (TA a w ha);have HA2:=hid (TA b w hb);clear hg;go_enter Tryz.func117,Tryz.ntmps117;go_upto_region 3 with(go_at_call 166;(with_reducible refine HB.out.mono ?_);rintro e w' ⟨rfl,rfl⟩)
 go_wp2_with(first|(go_at_call 168;first|((with_reducible refine HA1.out.mono ?_);rintro e w' ⟨rfl,rfl⟩)|((with_reducible refine HA2.out.mono ?_);rintro e w' ⟨rfl,rfl⟩))|(go_at_call 167;(with_reducible refine HG.out.mono ?_);rintro e w2 ⟨rfl,hk⟩))
 refine bodyPost_ret (v:=.tuple #[.int .i64 g,.int .i64 0]) ?_ rfl ⟨rfl,hk⟩;simp[results,Tryz.results117,go_sem]
theorem qF (x:Int) (n:Nat) (w:World) (hn:1<=n) (hn2:n<=65536):
  Calls Tryz.prog 62 #[.int .i64 x,.int .i64 n] w fun e w'=>e=.returned (.int .i64 (Nat.gcd (x%(n:Int)).toNat n:Nat))/\ay w w':=by
 have HM:=hid (EK x (n:Int) w (by omega) (by omega));have b3:=zK x (show(n:Int)≠0 by omega);have b4:=zQ x (show(0:Int)< (n:Int) by omega);obtain⟨r,hr⟩:∃ r:Nat,x%(n:Int)=(r:Int):=⟨(x%(n:Int)).toNat,by omega⟩
 rw[hr] at HM b4 ⊢;rw[show((r:Int)).toNat=r by omega];have HG:=hid (ND r n w (by omega) (by omega));obtain⟨g,hg⟩:∃ g,g=Nat.gcd r n:=⟨_,rfl⟩
 rw[<-hg] at HG ⊢;clear hg hr;go_enter Tryz.func62,Tryz.ntmps62;go_wp2_with(first|(go_at_call 116;(with_reducible refine HM.out.mono ?_);rintro e w' ⟨rfl,rfl⟩)|(go_at_call 117;(with_reducible refine HG.out.mono ?_);rintro e w2 ⟨rfl,hk⟩))
 go_ret;exact⟨rfl,hk⟩
def fJ (n:Nat) (l:List Int):List Bool:=(List.range n).map fun(j:Nat)=>l.any fun x=>x%(n:Int)==(j:Int)
theorem IV (n:Nat) (l:List Int):(fJ n l).length=n:=by simp[fJ]
theorem IW {n j:Nat} (l:List Int) (h:j<n):(fJ n l).getD j false=l.any fun x=>x%(n:Int)==(j:Int):=by simp[fJ,List.getD,h]
theorem OY {n i r:Nat} {l:List Int} (h:i<l.length) (hr:l.getD i 0%(n:Int)=(r:Int)):fJ n (l.take (i+1))=(fJ n (l.take i)).set r true:=by
 have e:l.getD i 0=l[i]:=by simp[List.getD,h]
 refine zM (by simp[fJ]) fun j h1 h2=>?_;have hj:j<n:=by simpa[fJ] using h1
 rw[xO];by_cases q:r=j
 ·subst q;simp[fJ,yV h,<-e];exact .inr hr
 ·have q2:¬ (r:Int)=(j:Int):=by omega
  simp[fJ,yV h,<-e,q];intro q3;have hr':=hr;rw[zW] at hr';exact absurd (hr'.symm.trans q3) q2
theorem CV (n:Nat) (v:Value) (l:List Int) (w:World) (hv:Sl w v l) (hn:1<=n) (hn2:n<=64):
  Calls Tryz.prog 61 #[.int .i64 n,v] w fun e w'=>∃ g,e=.returned (.slice (some ⟨g,0,none⟩) n n)/\lG w' w.heap.size (.slice (some ⟨g,0,none⟩) n n) (fJ n l)/\ay w w':=by
 obtain⟨a,cap,rfl,hcap,⟨hcm,hc0⟩,hc⟩:=hv;unfold maxLen at hcm;have HC:=hid hc;clear hc hc0;go_enter Tryz.func61,Tryz.ntmps61;go_wp2_with(at_make;refine iK rfl _ _ rfl n _ _ rfl rfl rfl rfl (by omega) ?_;intro w1 ho1 hk1)
 obtain⟨g,hg⟩:∃ g,g=w.heap.size:=⟨_,rfl⟩
 rw[<-hg] at ho1 ⊢;have HG:=hid hg;have HO1:=hid ho1;have HK1:=hid hk1;clear ho1 hk1 hg
 go_loopw [12] (fun vi wr=>∃ k:Nat,k<=l.length/\vi=.int .i64 k/\lG wr g (.slice (some ⟨g,0,none⟩) n n) (fJ n (l.take k))/\ay w wr) (fun vi _=>l.length- (intOf vi).toNat)
 case atStart=>exact⟨0,by omega,rfl,by rw[List.take_zero,show fJ n []=List.replicate n false by(refine zM (by simp[fJ]) fun j h1 h2=>?_;simp[fJ])];exact HO1.out,HK1.out⟩
 case round=>
  obtain⟨k,hk,rfl,ho,hkr⟩:=hrel;by_cases hlt:k<l.length
  ·have hlt':(k:Int)< (l.length:Int):=by omega
   have hk0:(0:Int)<=(k:Int):=by omega
   obtain⟨b,off,rfl,hb,hcell⟩:=HC.out (fun e=>by subst e;simp at hlt);have hck:=(hkr.cell' hb).trans (hcell k hlt);obtain⟨x,hxx⟩:∃ x,x=l.getD k 0:=⟨_,rfl⟩
   rw[<-hxx] at hck;have HM:=hid (EK x (n:Int) wr (by omega) (by omega));have b3:=zK x (show(n:Int)≠0 by omega);have b4:=zQ x (show(0:Int)< (n:Int) by omega);obtain⟨r,hr⟩:∃ r:Nat,x%(n:Int)=(r:Int):=⟨(x%(n:Int)).toNat,by omega⟩
   rw[hr] at HM b4;have HN:Hid (fJ n (l.take (k+1))=(fJ n (l.take k)).set r true):=hid (OY hlt (by rw[<-hxx];exact hr));have hr0:(0:Int)<=(r:Int):=by omega
   have hcg:=ho.cell (i:=r) (by rw[IV];omega);have hfg:=ho.frozen r;have hgl:g<wr.heap.size:=ho.lt.2;have HO:=hid ho;have HKR:=hid hkr;clear hcell hxx hr b3 ho hkr;go_wp2_with(go_at_call 116;(with_reducible refine HM.out.mono ?_);rintro e w' ⟨rfl,rfl⟩)
   go_roundw;case rel=>exact⟨k+1,by omega,by go_num,by rw[HN.out];exact HO.out.set r true,aA _ HKR.out (xK HG.out.symm)⟩
   case measure=>simp[intOf];omega
  ·have hkn:k=l.length:=by omega
   subst hkn;rw[wu] at ho;have HO:=hid ho;have HKR:=hid hkr;clear ho hkr hlt hk;go_wp2_with(fail)
   go_ret;exact⟨g,rfl,by rw[<-HG.out];exact HO.out,HKR.out⟩
end
section
open Go.RowKit Cw Cw.Gj
def pY (bs:List Bool) (n start step:Nat):Nat:=((List.range n).takeWhile fun k=>bs.getD ((start+k*step)%n) false).length
def D8 (bs:List Bool) (n step:Nat):List Int:=(List.range n).map fun(s:Nat)=>((pY bs n s step:Nat):Int)
theorem FZ {p:Nat->Bool}:∀ {m k:Nat},k<=m->(∀ j,j<k->p j=true)->(k=m∨p k=false)->((List.range m).takeWhile p).length=k:=by
 intro m k hk h1 h2;have e:List.range m=List.range k++(List.range' k (m-k)):=by
  rw[sN,sN,show m=k+(m-k) by omega,<-List.range'_append_1];simp
 rw[e,List.takeWhile_append_of_pos (by intro a ha;exact h1 a (yT.1 ha)),zX,vN];rcases h2 with h2|h2
 ·rw[h2];simp
 ·cases q:m-k with
  |zero=>simp
  |succ n=>rw[List.range'_succ,List.takeWhile_cons_of_neg (by rw[h2];simp)];simp
theorem CX {bs:List Bool} {n start step k:Nat} (hk:k<=n) (h1:∀ j,j<k->bs.getD ((start+j*step)%n) false=true) (h2:k=n∨bs.getD ((start+k*step)%n) false=false):pY bs n start step=k:=FZ hk h1 h2
theorem abS (bs:List Bool) (n start step:Nat):pY bs n start step<=n:=by
 unfold pY;have:=(List.takeWhile_sublist (l:=List.range n) fun k=>bs.getD ((start+k*step)%n) false).length_le;rw[vN] at this;exact this
theorem NG {bs:List Bool} {n start step j:Nat} (h:j<pY bs n start step):bs.getD ((start+j*step)%n) false=true:=by
 have hle:=abS bs n start step;have h1:((List.range n).takeWhile fun k=>bs.getD ((start+k*step)%n) false)[j]'h=j:=by
  have:=List.IsPrefix.getElem (List.takeWhile_prefix (l:=List.range n) fun k=>bs.getD ((start+k*step)%n) false) h;rw[this];simp
 have h2:=sZ.1 (List.all_takeWhile (l:=List.range n) (p:=fun k=>bs.getD ((start+k*step)%n) false)) _ (zF h);rw[h1] at h2;exact h2
def iR (bs:List Bool) (n step k:Nat):List Int:=(List.range n).map fun(s:Nat)=>if s<k then((pY bs n s step:Nat):Int) else 0
theorem OZ (bs:List Bool) (n step:Nat):iR bs n step 0=List.replicate n 0:=by
 refine zM (by simp[iR]) fun j h1 h2=>?_;simp[iR]
theorem O1 (bs:List Bool) (n step:Nat):iR bs n step n=D8 bs n step:=by
 refine zM (by simp[iR,D8]) fun j h1 h2=>?_;have:j<n:=by simpa[iR] using h1
 simp[iR,D8,this]
theorem oD (bs:List Bool) (n step k:Nat):(iR bs n step k).length=n:=by simp[iR]
theorem IX {bs:List Bool} {n step k:Nat}:(iR bs n step k).set k ((pY bs n k step:Nat):Int)=iR bs n step (k+1):=by
 refine zM (by simp[iR]) fun j h1 h2=>?_;rw[xO];by_cases e:k=j
 ·subst e;simp[iR]
 ·have:(j<k)=(j<k+1):=by rw[eq_iff_iff];omega
  simp[iR,e,this]
theorem XG {bs:List Bool} {n step k:Nat} (h:k<n):(iR bs n step k).getD k 0=0:=by simp[iR,List.getD,h]
def O5 (w:World) (a:Addr):Nat:=match w.cell? a with|some v=>(intOf v).toNat|none=>0
theorem NH {w:World} {a:Addr} {x:Nat} (h:w.cell? a=some (.int .i64 (x:Int))):O5 w a=x:=by simp[O5,h,intOf]
set_option maxRecDepth 100000 in
theorem CY (n step:Nat) (g0:Nat) (bs:List Bool) (B:Nat) (w:World) (hb:lG w B (.slice (some ⟨g0,0,none⟩) n n) bs) (hl:bs.length=n) (hn:1<=n) (hn2:n<=64) (hs:step<=64):
  Calls Tryz.prog 63 #[.slice (some ⟨g0,0,none⟩) n n,.int .i64 step] w fun e w'=>∃ g,e=.returned (.slice (some ⟨g,0,none⟩) n n)/\Own w' w.heap.size (.slice (some ⟨g,0,none⟩) n n) (D8 bs n step)/\ay w w':=by
 have HB:=hid hb;have HL:=hid hl;have hg0:g0<w.heap.size:=hb.lt.2;clear hb hl;go_enter Tryz.func63,Tryz.ntmps63;go_wp2_with(at_make;refine aJ rfl _ _ rfl n _ _ rfl rfl rfl rfl (by omega) ?_;intro w1 ho1 hk1)
 obtain⟨g,hg⟩:∃ g,g=w.heap.size:=⟨_,rfl⟩
 rw[<-hg] at ho1 hg0 ⊢;have HG:=hid hg;have HO1:=hid ho1;have HK1:=hid hk1;clear ho1 hk1 hg
 go_loopw [13] (fun vi wr=>∃ k:Nat,k<=n/\vi=.int .i64 k/\Own wr g (.slice (some ⟨g,0,none⟩) n n) (iR bs n step k)/\ay w wr) (fun vi _=>n- (intOf vi).toNat)
 case atStart=>exact⟨0,by omega,rfl,by rw[OZ];exact HO1.out,HK1.out⟩
 case round=>
  obtain⟨k,hk,rfl,ho,hkr⟩:=hrel;by_cases hlt:k<n
  ·have hlt':(k:Int)< (n:Int):=by omega
   have hk0:(0:Int)<=(k:Int):=by omega
   have HO:=hid ho;have HKR:=hid hkr;clear ho hkr;obtain⟨wo,hwo⟩:∃ y,y=wr:=⟨_,rfl⟩
   subst hwo;go_wp2_with(fail)
   go_loopw [36] (fun _ wx=>∃ c:Nat,c<=n/\Own wx g (.slice (some ⟨g,0,none⟩) n n) ((iR bs n step k).set k (c:Int))/\Hid (∀ j,j<c->bs.getD ((k+j*step)%n) false=true)/\ay w wx) (fun _ wx=>n-O5 wx ⟨g,k,none⟩)
   case atStart=>
    refine⟨0,by omega, ?_,hid (fun j hj=>absurd hj (yw _)),HKR.out⟩;have e:(iR bs n step k).set k ((0:Nat):Int)=iR bs n step k:=by
     have h1:=XG (bs:=bs) (step:=step) hlt;refine zM (by simp) fun j h2 h3=>?_;rw[xO]
     split
     ·rename_i q;subst q
      have:k< (iR bs n step k).length:=by rw[oD];exact hlt
      simp[List.getD,this] at h1;exact h1.symm
     ·rfl
    rw[e];exact HO.out
   case round=>
    obtain⟨c,hc,hox,HC,hkx⟩:=hrel;have hck:=hox.cell (i:=k) (by rw[zI,oD];exact hlt);have hfk:=hox.frozen k;rw[show((iR bs n step k).set k (c:Int)).getD k 0=(c:Int) by
     have:k< (iR bs n step k).length:=by rw[oD];exact hlt
     simp[List.getD,this]] at hck
    have hgl:g<wr.heap.size:=hox.lt.2;have anD:g0<wr.heap.size:=hkx.lt (by have:=HG.out;omega);have nbb:¬ g0=g:=by omega
    have HOX:=hid hox;have HKX:=hid hkx;have HCK:=hid hck;clear hox hkx;by_cases hcn:c<n
    ·have c0:decide ((c:Int)< (n:Int))=true:=by simp;omega
     have c0n:decide (c<n)=true:=by simp;omega
     obtain⟨pr,hpr⟩:∃ x,x=c*step:=⟨_,rfl⟩
     have ae8:pr<=64*64:=by rw[hpr];exact uS (by omega) hs
     have hp2:(c:Int)*(step:Int)=(pr:Int):=by rw[hpr];simp
     obtain⟨sm,hsm⟩:∃ x,x=k+pr:=⟨_,rfl⟩
     obtain⟨r,hr⟩:∃ x,x=sm%n:=⟨_,rfl⟩
     have hrn:r<n:=by rw[hr];exact vU _ (by omega)
     have hs2:(k:Int)+(pr:Int)=(sm:Int):=by rw[hsm];simp
     have ht:((sm:Int)).tmod (n:Int)=(r:Int):=by rw[yS (by omega),hr];simp
     have w1:IntKind.i64.wrap (pr:Int)=(pr:Int):=IntWalk.i64_in _ (by omega);have w2:IntKind.i64.wrap (sm:Int)=(sm:Int):=IntWalk.i64_in _ (by omega);have w3:IntKind.i64.wrap (r:Int)=(r:Int):=IntWalk.i64_in _ (by omega);have t0:(((n:Nat):Int)==0)=false:=by simp;omega
     have t1:¬ ((n:Nat):Int)=0:=by omega
     have hr0:(0:Int)<=(r:Int):=by omega
     have aju:(r:Int)< (n:Int):=by omega
     have hcb:=(HB.out.kept HKX.out).cell (i:=r) (by rw[HL.out];exact hrn);obtain⟨x,hx⟩:∃ x,x=bs.getD r false:=⟨_,rfl⟩
     rw[<-hx] at hcb;have HX:Hid (bs.getD ((k+c*step)%n) false=x):=hid (by rw[<-hpr,<-hsm,<-hr,hx]);clear hpr hsm hr hx;cases x with
     |true=>
      have w4:IntKind.i64.wrap ((c:Int)+1)=((c+1:Nat):Int):=by rw[IntWalk.i64_in _ (by omega)];omega
      go_wp2_with(fail)
      have hset:(((iR bs n step k).set k (c:Int)).set k ((c+1:Nat):Int))=(iR bs n step k).set k ((c+1:Nat):Int):=List.set_set ..;go_roundw;case rel=>exact⟨c+1,by omega,by rw[<-hset];exact HOX.out.set k _,hid (fun j hj=>by
       by_cases e:j=c
       ·rw[e];exact HX.out
       ·exact HC.out j (by omega)),aA _ HKX.out (xK HG.out.symm)⟩
      case measure=>
       have h2:=(HOX.out.set k ((c+1:Nat):Int)).cell (i:=k) (by rw[zI,zI,oD];exact hlt);rw[hset,show((iR bs n step k).set k ((c+1:Nat):Int)).getD k 0=((c+1:Nat):Int) by
        have:k< (iR bs n step k).length:=by rw[oD];exact hlt
        simp[List.getD,this]] at h2
       have h3:=NH HCK.out;have h4:O5 (wr.setCell ⟨g,k,none⟩ (.int .i64 ((c:Int)+1))) ⟨g,k,none⟩=c+1:=NH h2;show n-O5 (wr.setCell ⟨g,k,none⟩ (.int .i64 ((c:Int)+1))) ⟨g,k,none⟩<n-O5 wr ⟨g,k,none⟩;rw[h3,h4];omega
     |false=>
      have hR:Hid (pY bs n k step=c):=hid (CX hc HC.out (.inr HX.out));go_wp2_with(fail)
      go_roundw;case rel=>exact⟨k+1,by omega,by go_num,by rw[<-IX,hR.out];exact HOX.out,HKX.out⟩
      case measure=>simp[intOf];omega
    ·have c0:decide ((c:Int)< (n:Int))=false:=by simp;omega
     have c0n:decide (c<n)=false:=by simp;omega
     have hR:Hid (pY bs n k step=c):=hid (CX hc HC.out (.inl (by omega)));go_wp2_with(fail)
     go_roundw;case rel=>exact⟨k+1,by omega,by go_num,by rw[<-IX,hR.out];exact HOX.out,HKX.out⟩
     case measure=>simp[intOf];omega
  ·have hkn:k=n:=by omega
   subst hkn;rw[O1] at ho;have HO:=hid ho;have HKR:=hid hkr;clear ho hkr;go_wp2_with(fail)
   go_ret;exact⟨g,rfl,by rw[<-HG.out];exact HO.out,HKR.out⟩
def KO (bs:List Bool) (n step cross start:Nat):Nat->Nat
 |0=>min n (pY bs n ((start+0*cross)%n) step)
 |m+1=>min (KO bs n step cross start m) (pY bs n ((start+(m+1)*cross)%n) step)
structure ae9 (bs:List Bool) (n most step cross start more:Nat):Prop where
 s:step<n
 g:Nat.gcd (step%n) n=1
 c:cross<n
 c0:most=0->cross=0
 st:start<n
 m:more<=most
 pos:0<KO bs n step cross start more
 ok:more=0∨Nat.gcd (cross%n) n<=KO bs n step cross start more
def Hw (bs:List Bool) (n step cross start more:Nat):Nat:=KO bs n step cross start more+1+more
structure iw (bs:List Bool) (n most:Nat) (P:Nat->Nat->Nat->Nat->Prop) (y:Nat):Prop where
 is:y=1∨ ∃ step cross start more,ae9 bs n most step cross start more/\y=Hw bs n step cross start more
 all:∀ step cross start more,ae9 bs n most step cross start more->P step cross start more->Hw bs n step cross start more<=y
theorem rD {bs:List Bool} {n step cross start m:Nat}:∀ {k:Nat},m<=k->KO bs n step cross start k<=KO bs n step cross start m
 |0,h=>by
  have:m=0:=by omega
  subst this;exact zy _
 |k+1,h=>by
  by_cases e:m=k+1
  ·subst e;exact zy _
  ·exact zJ (Nat.min_le_left _ _) (rD (by omega))
theorem XH {bs:List Bool} {n step cross start m j:Nat} (h:j<=m):KO bs n step cross start m<=pY bs n ((start+j*cross)%n) step:=by
 refine zJ (rD h) ?_;cases j with
 |zero=>exact Nat.min_le_right _ _
 |succ j=>exact Nat.min_le_right _ _
theorem XI {bs:List Bool} {n step cross start m i j:Nat} (hi:i<KO bs n step cross start m) (hj:j<=m):bs.getD (((start+j*cross)%n+i*step)%n) false=true:=
 NG (zZ hi (XH hj))
theorem iw.mono {bs:List Bool} {n most:Nat} {P Q:Nat->Nat->Nat->Nat->Prop} {y:Nat} (h:iw bs n most P y) (hq:∀ a b c d,ae9 bs n most a b c d->Q a b c d->P a b c d):iw bs n most Q y:=⟨h.is,fun a b c d hv q=>h.all a b c d hv (hq a b c d hv q)⟩
theorem O6 (bs:List Bool) (n most:Nat):iw bs n most (fun _ _ _ _=>False) 1:=⟨.inl rfl,fun _ _ _ _ _ h=>h.elim⟩
theorem iw.up {bs:List Bool} {n most:Nat} {P:Nat->Nat->Nat->Nat->Prop} {y step cross start more:Nat} (h:iw bs n most P y) (hv:ae9 bs n most step cross start more) (hy:y<Hw bs n step cross start more):
  iw bs n most (fun a b c d=>P a b c d∨(a=step/\b=cross/\c=start/\d=more)) (Hw bs n step cross start more):=by
 refine⟨.inr ⟨step,cross,start,more,hv,rfl⟩,fun a b c d hr hp=>?_⟩;rcases hp with hp|⟨rfl,rfl,rfl,rfl⟩
 ·have:=h.all a b c d hr hp;omega
 ·exact zy _
theorem iw.same {bs:List Bool} {n most:Nat} {P:Nat->Nat->Nat->Nat->Prop} {y step cross start more:Nat} (h:iw bs n most P y) (hy:ae9 bs n most step cross start more->Hw bs n step cross start more<=y):
  iw bs n most (fun a b c d=>P a b c d∨(a=step/\b=cross/\c=start/\d=more)) y:=by
 refine⟨h.is,fun a b c d hr hp=>?_⟩;rcases hp with hp|⟨rfl,rfl,rfl,rfl⟩
 ·exact h.all a b c d hr hp
 ·exact hy hr
theorem TB {bs:List Bool} {n x y:Nat} (hx:iw bs n 0 (fun _ _ _ _=>True) x) {most:Nat} (hy:iw bs n most (fun _ _ _ _=>True) y) (h1:1<=y):x<=y:=by
 rcases hx.is with rfl|⟨step,cross,start,more,hv,rfl⟩
 ·exact h1
 ·have e1:=hv.c0 rfl;have e2:more=0:=by have:=hv.m;omega
  subst e1 e2;exact hy.all step 0 start 0 ⟨hv.s,hv.g,hv.c,fun _=>rfl,hv.st,xZ _,hv.pos,.inl rfl⟩ trivial
theorem XJ {bs:List Bool} {n y b k:Nat} (h:iw bs n 0 (fun _ _ _ _=>True) y) (hn:2<=n) (hb:b<n) (hk:1<=k) (hkn:k<=n) (hz:∀ i,i<k->bs.getD ((b+i*1)%n) false=true):k+1<=y:=by
 have hc:k<=pY bs n b 1:=by
  rcases wR (pY bs n b 1) k with h1|h1
  ·exfalso;have hlt:pY bs n b 1<n:=by omega
   have h2:bs.getD ((b+pY bs n b 1*1)%n) false=false:=by
    cases q:bs.getD ((b+pY bs n b 1*1)%n) false with
    |false=>rfl
    |true=>
     exfalso;have h3:pY bs n b 1=pY bs n b 1+1∨True:=.inr trivial;have hall:∀ j,j<pY bs n b 1+1->bs.getD ((b+j*1)%n) false=true:=fun j hj=>by
      by_cases e:j=pY bs n b 1
      ·rw[e];exact q
      ·exact NG (by omega)
     obtain⟨m,hm1,hm2,hm3⟩:∃ m,pY bs n b 1+1<=m/\m<=n/\pY bs n b 1=m:=by
      have key:∀ d t,t+d=n->(∀ j,j<t->bs.getD ((b+j*1)%n) false=true)->t<=pY bs n b 1:=fun d=>by
       induction d with
       |zero=>intro t ht hj;exact xK (CX (by omega) hj (.inl (by omega))).symm
       |succ d ih=>
        intro t ht hj;cases q2:bs.getD ((b+t*1)%n) false with
        |false=>exact xK (CX (by omega) hj (.inr q2)).symm
        |true=>
         have:=ih (t+1) (by omega) (fun j hj'=>by
          by_cases e:j=t
          ·rw[e];exact q2
          ·exact hj j (by omega))
         omega
      have:=key (n- (pY bs n b 1+1)) (pY bs n b 1+1) (by omega) hall;omega
     omega
   have:=hz _ h1;rw[h2] at this;cases this
  ·exact h1
 have hcm:KO bs n 1 0 b 0=min n (pY bs n b 1):=by
  show min n (pY bs n ((b+0*0)%n) 1)=_;rw[sF,Nat.add_zero,vX hb]
 have hle:=h.all 1 0 b 0 ⟨by omega,by rw[vX (by omega)];exact Nat.gcd_one_left n,by omega,fun _=>rfl,hb,zy _,by rw[hcm];omega,.inl rfl⟩ trivial;unfold Hw at hle;rw[hcm] at hle;omega
end
section
open Go.RowKit Cw
def ahM (G:GFd) (t:aK G) (a:PS (Rs t.fs.mon)) (n:Nat) (w:World) (e:Ending) (w':World):Prop:=
 ∃ v l,e=.returned v/\Own w' w.heap.size v l/\ay w w'/\nK G l/\t.po l=a/\l.length<=n
theorem Own.take {w:World} {B g n cap:Nat} {xs:List Int} (h:Own w B (.slice (some ⟨g,0,none⟩) n cap) xs) {k:Nat} (hk:k<=xs.length):Own w B (.slice (some ⟨g,0,none⟩) k cap) (xs.take k):=by
 obtain⟨h1,h⟩:=h;rcases h with⟨h,_⟩|⟨g',cap',cur,e,hb,hg,h2,h3,h4,h5⟩
 ·cases h
 ·cases e
  have hl:(xs.take k).length=k:=by simp;omega
  refine⟨by simp,.inr ⟨g,cap,cur,by rw[hl],hb,hg,by rw[hl];omega,h3,h4, ?_⟩⟩;rw[hl,List.map_take,<-h5,List.take_take];congr 1;omega
theorem rE (g n cap B:Nat) (l:List Int) (w:World) (ho:Own w B (.slice (some ⟨g,0,none⟩) n cap) l):
  Calls Tryz.prog 272 #[.slice (some ⟨g,0,none⟩) n cap] w fun e w'=>∃ k,e=.returned (.slice (some ⟨g,0,none⟩) k cap)/\(k<=l.length/\(∀ i,k<=i->l.getD i 0=0)/\(k=0∨l.getD (k-1) 0≠0))/\∃ m,w'=w.drewN m:=by
 have hn:n=l.length:=by
  rcases ho.form with⟨e,_⟩|⟨_,_,e,_⟩
  ·cases e
  ·cases e;rfl
 subst hn;have hcap:l.length<=cap/\cap<=maxLen:=by
  rcases ho.form with⟨e,_⟩|⟨_,_,e,_,_,h1,h2⟩
  ·cases e
  ·cases e;exact⟨h1,h2⟩
 obtain⟨hc1,hc2⟩:=hcap;unfold maxLen at hc2;go_enter Tryz.func272,Tryz.ntmps272;go_wp2_with(fail)
 go_loopw [0] (fun vp wr=>∃ k:Nat,k<=l.length/\vp=.slice (some ⟨g,0,none⟩) k cap/\Hid (∀ i,k<=i->l.getD i 0=0)/\∃ m,wr=w.drewN m) (fun vp _=>match vp with| .slice _ k _=>k|_=>0)
 case atStart=>exact⟨l.length,zy _,rfl,hid (fun i hi=>jW hi),0,rfl⟩
 case round=>
  obtain⟨k,hk,rfl,hz,m,rfl⟩:=hrel;by_cases h0:k=0
  ·subst h0;go_wp2_with(fail)
   go_ret;exact⟨0,rfl,⟨hk,hz.out,.inl rfl⟩,_,rfl⟩
  ·obtain⟨j,rfl⟩:∃ j,k=j+1:=⟨k-1,by omega⟩
   have hcell:=ho.cell (i:=j) (by omega);obtain⟨z,hz'⟩:∃ z,z=l.getD j 0:=⟨_,rfl⟩
   rw[<-hz'] at hcell;have HZ:=hid hz';have e1:((j+1:Nat):Int)-1=(j:Int):=by omega
   have e2:((j:Int)+1)-1=(j:Int):=by omega
   have hj1:(j:Int)< ((j+1:Nat):Int):=by omega
   have hjn:(j:Int).toNat=j:=by omega
   clear hz';by_cases hz0:z=0
   ·subst hz0;have hz2:Hid (∀ i,j<=i->l.getD i 0=0):=hid (fun i hi=>by
     by_cases e:i=j
     ·rw[e,<-HZ.out]
     ·exact hz.out i (by omega))
    go_wp2_with(fail)
    go_roundw;case rel=>exact⟨j,by omega,rfl,hz2,_,rfl⟩
    case measure=>simp
   ·have tz:(z==0)=false:=by simpa using hz0
    have HN:=hid hz0;clear hz0;go_wp2_with(fail)
    go_ret;exact⟨j+1,rfl,⟨hk,hz.out,.inr (by rw[uy,<-HZ.out];exact HN.out)⟩,_,rfl⟩
theorem TD {G:GFd} {l:List Int} {k:Nat} (hr:∀ i,0<=l.getD i 0/\l.getD i 0<G.q) (hk:k<=l.length/\(∀ i,k<=i->l.getD i 0=0)/\(k=0∨l.getD (k-1) 0≠0)):nK G (l.take k):=
 aK.Xg (fun x hx=>by
  obtain⟨i,hi,rfl⟩:=yR hx;have:=hr i;simpa only[List.getD,zq hi,zU] using this) hk.1 hk.2.2
theorem kU (b:Nat) (G:GFd) (t:aK G) (v:Value) (p:List Int) (w:World) (hg:dW w b G) (hv:Sl w v p) (hl:p.length<=1000000):
  Calls Tryz.prog 153 #[.pointer (some ⟨b,0,none⟩),v] w fun e w'=>∃ g k cap l,e=.returned (.slice (some ⟨g,0,none⟩) k cap)/\Own w' w.heap.size (.slice (some ⟨g,0,none⟩) k cap) l/\ay w w'/\nK G l/\t.po l=t.po p/\l.length<=p.length:=by
 obtain⟨a,cap,rfl,hcap,⟨hcm,_⟩,hc⟩:=hv;unfold maxLen at hcm;have q0:0<G.q:=by have:=t.qb;omega
 have hbl:=hg.lt;go_enter Tryz.func153,Tryz.ntmps153;go_wp2_with(at_make;refine aJ rfl _ _ rfl p.length _ _ rfl rfl rfl rfl hl ?_;intro w1 ho hk)
 go_loopw [13] (fun vi wr=>∃ (k:Nat) (us:List Int),k<=p.length/\vi=.int .i64 k/\Hid (us.length=p.length)/\Hid (∀ i,us.getD i 0=if i<k then inn G.q (p.getD i 0) else 0)/\
   Own wr w.heap.size (.slice (some ⟨w.heap.size,0,none⟩) p.length p.length) us/\ay w wr) (fun vi _=>p.length- (intOf vi).toNat)
 case atStart=>exact⟨0,_,by omega,rfl,hid (by simp),hid (fun i=>by
  rw[zx (by omega)];by_cases hi:i<p.length
  ·simp[hi]
  ·rw[jW (by simp;omega)]),ho,hk⟩
 case round=>
  obtain⟨k,us,hkp,rfl,hul,hus,hown,hkw⟩:=hrel;clear ho hk;have hgw:=hg.kept hkw;have hq:=hgw.hq;by_cases hlt:k<p.length
  ·obtain⟨bp,off,rfl,hbp,hcell⟩:=hc (by intro e;rw[e] at hlt;simp at hlt);have hck:=(ay.cell' hkw hbp).trans (hcell k hlt);obtain⟨z,hz⟩:∃ z,z=p.getD k 0:=⟨_,rfl⟩
   rw[<-hz] at hck;have HZ:=hid hz;have hcu:=hown.cell (i:=k) (by rw[hul.out];exact hlt);have hfu:=hown.frozen k;have hki:(k:Int)< (p.length:Int):=by omega
   clear hz hcell hc;by_cases hr:0<=z/\z<G.q
   ·obtain⟨z0,z1⟩:=hr;have ahN:Hid (∀ i,(us.set k z).getD i 0=if i<k+1 then inn G.q (p.getD i 0) else 0):=hid (fun i=>by
     by_cases e:i=k
     ·subst e;rw[qP _ (by rw[hul.out];exact hlt),zu (by omega),<-HZ.out,bI ⟨z0,z1⟩]
     ·rw[oO _ (fun h=>e h.symm),hus.out i];by_cases h2:i<k
      ·rw[zu h2,zu (by omega)]
      ·rw[zx h2,zx (by omega)])
    go_wp2_with(go_at_call 105;(with_reducible refine(Nl b G.q z _ hq z0 z1).mono ?_);rintro e w2 ⟨rfl,n2,rfl⟩)
    have hset:=(hown.drewN n2).set k z;have hbs:=Below.setCell (hkw.drewN n2) (p:=⟨w.heap.size,k,none⟩) (zy _) (.int .i64 z);go_roundw;case rel=>exact⟨k+1,us.set k z,by omega,by go_num,hid (by simp[hul.out]),ahN,hset,hbs⟩
    case measure=>simp[intOf];omega
   ·have hr':z<0∨G.q<=z:=by omega
    have ahN:Hid (∀ i,us.getD i 0=if i<k+1 then inn G.q (p.getD i 0) else 0):=hid (fun i=>by
     rw[hus.out i];by_cases e:i=k
     ·subst e;rw[zx (by omega),zu (by omega),<-HZ.out,Qw hr]
     ·by_cases h2:i<k
      ·rw[zu h2,zu (by omega)]
      ·rw[zx h2,zx (by omega)])
    clear hr;go_wp2_with(go_at_call 105;(with_reducible refine(abz b G.q z _ hq hr').mono ?_);rintro e w2 ⟨rfl,n2,rfl⟩)
    go_roundw;case rel=>exact⟨k+1,us,by omega,by go_num,hul,ahN,hown.drewN _,hkw.drewN _⟩
    case measure=>simp[intOf];omega
  ·have ek:k=p.length:=by omega
   have hin:Hid (∀ i,us.getD i 0=inn G.q (p.getD i 0)):=hid (fun i=>by
    rw[hus.out i];by_cases h2:i<k
    ·rw[zu h2]
    ·rw[zx h2,jW (by omega),bI (by omega)])
   clear ek;go_wp2_with(go_at_call 272;(with_reducible refine(rE _ _ _ _ us _ hown).mono ?_);rintro e w2 ⟨n2,rfl,ht,m2,rfl⟩;have HT:=hid ht;clear ht)
   go_ret;exact⟨_,n2,_,us.take n2,rfl,(hown.take HT.out.1).drewN _,hkw.drewN _,TD (fun i=>by rw[hin.out];exact iY q0 _) HT.out,by rw[t.Ko HT.out.2.1,t.aeA hin.out],by rw[yF];have:=HT.out.1;have:=hul.out;omega⟩
theorem ak3 {α:Type} [Rg α] (a b c d:α):a*b*(c*d)=a*c*(b*d):=by ac_rfl
theorem abT {G:GFd} (t:aK G) {us l1 l2:List Int} {k j:Nat} {x y u:Int} (h:k+j<us.length) (hx:x=l1.getD k 0) (hy:y=l2.getD j 0) (hu:u=us.getD (k+j) 0)
  (hup:t.po us=Rg.sm k (fun i=>PS.C (t.po l1 i)*PS.X i)*t.po l2+PS.C (t.po l1 k)*PS.X k*Rg.sm j (fun i=>PS.C (t.po l2 i)*PS.X i)):
  t.po (us.set (k+j) (gu G u (bF G x y)))=Rg.sm k (fun i=>PS.C (t.po l1 i)*PS.X i)*t.po l2+PS.C (t.po l1 k)*PS.X k*Rg.sm (j+1) (fun i=>PS.C (t.po l2 i)*PS.X i):=by
 rw[hu,t.RP h,hup];have e:PS.C (t.e x*t.e y)*PS.X (k+j)=PS.C (t.po l1 k)*PS.X k*(PS.C (t.po l2 j)*PS.X j):=by
  rw[PS.Ou,PS.aaX,hx,hy];exact ak3 _ _ _ _
 rw[e,Rg.aY,Rg.mul_add,Rg.add_assoc]
theorem Own.len {w:World} {B g n cap:Nat} {xs:List Int} (h:Own w B (.slice (some ⟨g,0,none⟩) n cap) xs):n=xs.length:=by
 rcases h.form with⟨e,_⟩|⟨_,_,e,_⟩
 ·cases e
 ·cases e;rfl
theorem Own.agM {w:World} {B g n cap:Nat} {xs:List Int} (h:Own w B (.slice (some ⟨g,0,none⟩) n cap) xs):xs.length<=cap/\cap<=9223372036854775807:=by
 rcases h.form with⟨e,_⟩|⟨_,_,e,_,_,h1,h2⟩
 ·cases e
 ·cases e;unfold maxLen at h2;exact⟨h1,h2⟩
theorem XK {G:GFd} (t:aK G) {l1 l2 us:List Int} (c1:nK G l1) (c2:nK G l2) (n1:l1≠ []) (n2:l2≠ []) (hl:us.length+1=l1.length+l2.length) (hr:∀ i,0<=us.getD i 0/\us.getD i 0<G.q) (hp:t.po us=t.po l1*t.po l2):nK G us:=by
 have z1:0<l1.length:=yI.2 n1;have z2:0<l2.length:=yI.2 n2;refine⟨fun x hx=>?_,fun _ e=>?_⟩
 ·obtain⟨i,hi,rfl⟩:=yR hx;have:=hr i;simpa only[List.getD,zq hi,zU] using this
 ·have h:=PS.yj (m:=l1.length-1) (n:=l2.length-1) (t.RH (l:=l1) (by omega)) (t.RH (l:=l2) (by omega));rw[<-hp,t.FN,show l1.length-1+(l2.length-1)=us.length-1 by omega,e,t.bC] at h;exact Fd.jU (t.J9 c1 n1) (t.J9 c2 n2) h.symm
set_option maxRecDepth 100000 in
theorem IY (b:Nat) (G:GFd) (t:aK G) (vp vq:Value) (p q:List Int) (w:World) (hg:dW w b G) (hvp:Sl w vp p) (hvq:Sl w vq q) (hlp:p.length<=100000) (hlq:q.length<=100000):
  Calls Tryz.prog 104 #[.pointer (some ⟨b,0,none⟩),vp,vq] w (ahM G t (t.po p*t.po q) (p.length+q.length-1) w):=by
 have q0:0<G.q:=by have:=t.qb;omega
 go_enter Tryz.func104,Tryz.ntmps104;go_wp2_with(fail)
 refine(kU b G t vp p _ hg hvp (by omega)).mono ?_;rintro e w1 ⟨g1,k1,cap1,l1,rfl,o1,kk1,c1,p1,n1⟩;have P1:=hid p1;clear p1;have hg1:=hg.kept kk1;have hq1:=hvq.kept kk1;have hl1:=o1.len;subst hl1;obtain⟨cb1,ak4⟩:=o1.agM;go_wp2_with(fail)
 refine(kU b G t vq q _ hg1 hq1 (by omega)).mono ?_;rintro e w2 ⟨g2,k2,cap2,l2,rfl,o2,kk2,c2,p2,n2⟩;have P2:=hid p2;clear p2;have hl2:=o2.len;subst hl2;obtain⟨cb2,ak5⟩:=o2.agM;have ku:=kk1.tr kk2;have hg2:=hg1.kept kk2;have o1':=o1.kept kk2;have HO:Hid (t.po l1*t.po l2=t.po p*t.po q):=hid (by rw[P1.out,P2.out]);have ak6:=o1'.lt.2;have ak7:=o2.lt.2;clear hg hvp hvq hg1 hq1 o1 kk1 kk2 P1 P2;by_cases z1:l1=[]
 ·have HZ:Hid (t.po p*t.po q=0):=hid (by rw[<-HO.out,z1,t.ED,Rg.zero_mul]);subst z1;go_wp2_with(fail)
  go_ret;exact⟨_,[],rfl,bZ _ _,ku,J7 G,by rw[HZ.out,t.ED],by simp⟩
 have hz1:0<l1.length:=yI.2 z1;have t1:((l1.length:Int)==0)=false:=by simp;omega
 have Z1:=hid z1;clear z1;by_cases z2:l2=[]
 ·have HZ:Hid (t.po p*t.po q=0):=hid (by rw[<-HO.out,z2,t.ED,Rg.mul_zero]);subst z2;go_wp2_with(fail)
  go_ret;exact⟨_,[],rfl,bZ _ _,ku,J7 G,by rw[HZ.out,t.ED],by simp⟩
 have hz2:0<l2.length:=yI.2 z2;have t2:((l2.length:Int)==0)=false:=by simp;omega
 have Z2:=hid z2;clear z2;obtain⟨n,hn⟩:∃ n,n=l1.length+l2.length-1:=⟨_,rfl⟩
 have hnn:(l1.length:Int)+(l2.length:Int)-1=(n:Int):=by omega
 have HN:=hid hn;have HNN:=hid hnn;have n200:n<=200000:=by omega
 have n12:n+1=l1.length+l2.length:=by omega
 have N12:=hid n12;clear hn hnn n12;go_wp2_with(at_make;refine aJ rfl _ _ rfl n _ _ rfl rfl HNN.out HNN.out (by omega) ?_;intro w3 ho hk3)
 have HQ:Hid (∀ k,k<=l1.length->PS.dl (Rg.sm k (fun i=>PS.C (t.po l1 i)*PS.X i)) l1.length):=hid (fun k hk=>PS.ahj fun i hi=>PS.qj _ (PS.bM (PS.Ov i) (by omega)))
 go_loopw [35] (fun vi wr=>∃ (k:Nat) (us:List Int),k<=l1.length/\vi=.int .i64 k/\Hid (us.length=n)/\Hid (∀ i,0<=us.getD i 0/\us.getD i 0<G.q)/\Hid (t.po us=Rg.sm k (fun i=>PS.C (t.po l1 i)*PS.X i)*t.po l2)/\
   Own wr w2.heap.size (.slice (some ⟨w2.heap.size,0,none⟩) n n) us/\ay w2 wr) (fun vi _=>l1.length- (intOf vi).toNat)
 case atStart=>exact⟨0,_,by omega,rfl,hid (by simp),hid (fun i=>by
  by_cases hi:i<n
  ·simp[hi];omega
  ·rw[jW (by simp;omega)];omega),hid (by rw[t.Nh,Rg.iF,Rg.zero_mul]),ho,hk3⟩
 case round=>
  obtain⟨k,us,hkp,rfl,hul,hur,hup,hown,hkw⟩:=hrel;clear ho hk3;have c1k:=fun i hi=>(ay.cell' hkw ak6).trans (o1'.cell (i:=i) hi);have C1:=hid c1k;clear c1k;by_cases hlt:k<l1.length
  ·have hck:=C1.out k hlt;obtain⟨x,hx⟩:∃ z,z=l1.getD k 0:=⟨_,rfl⟩
   rw[<-hx] at hck;have HX:=hid hx;have hki:(k:Int)< (l1.length:Int):=by omega
   clear hx;go_wp2_with(fail)
   go_loopw [42] (fun vi wr=>∃ (j:Nat) (us:List Int),j<=l2.length/\vi=.int .i64 j/\Hid (us.length=n)/\Hid (∀ i,0<=us.getD i 0/\us.getD i 0<G.q)/\Hid (t.po us=Rg.sm k (fun i=>PS.C (t.po l1 i)*PS.X i)*t.po l2+PS.C (t.po l1 k)*PS.X k*Rg.sm j (fun i=>PS.C (t.po l2 i)*PS.X i))/\
     Own wr w2.heap.size (.slice (some ⟨w2.heap.size,0,none⟩) n n) us/\ay w2 wr) (fun vi _=>l2.length- (intOf vi).toNat)
   case atStart=>exact⟨0,us,by omega,rfl,hul,hur,hid (by rw[hup.out,Rg.iF,Rg.mul_zero,Rg.add_zero]),hown,hkw⟩
   case round=>
    obtain⟨j,us,hjp,rfl,hul,hur,hup,hown,hkw⟩:=hrel;have hgw:=hg2.kept hkw;by_cases hj:j<l2.length
    ·have hcj:=(ay.cell' hkw ak7).trans (o2.cell (i:=j) hj);obtain⟨y,hy⟩:∃ z,z=l2.getD j 0:=⟨_,rfl⟩
     rw[<-hy] at hcj;have HY:=hid hy;have hnn:=N12.out;have hcu:=hown.cell (i:=k+j) (by rw[hul.out];omega);obtain⟨u,hu⟩:∃ z,z=us.getD (k+j) 0:=⟨_,rfl⟩
     rw[<-hu] at hcu;have hfu:=hown.frozen (k+j);have j0:(0:Int)<=(k:Int)+(j:Int):=by omega
     have j1:(k:Int)+(j:Int)< (n:Int):=by omega
     have j2:((k:Int)+(j:Int)).toNat=k+j:=by omega
     have j4:(j:Int)< (l2.length:Int):=by omega
     have HUS:Hid (t.po (us.set (k+j) (gu G u (bF G x y)))=Rg.sm k (fun i=>PS.C (t.po l1 i)*PS.X i)*t.po l2+PS.C (t.po l1 k)*PS.X k*Rg.sm (j+1) (fun i=>PS.C (t.po l2 i)*PS.X i)):=hid (abT t (by rw[hul.out];omega) HX.out HY.out hu hup.out);have HUR:Hid (∀ i,0<=(us.set (k+j) (gu G u (bF G x y))).getD i 0/\(us.set (k+j) (gu G u (bF G x y))).getD i 0<G.q):=hid (fun i=>by
      by_cases e:i=k+j
      ·subst e;rw[qP _ (by rw[hul.out];omega)];exact t.jv _ _
      ·rw[oO _ (fun h=>e h.symm)];exact hur.out i)
     clear hy hu hnn;go_wp2_with(fail)
     have w1':IntKind.i64.wrap ((k:Int)+(j:Int))=(k:Int)+(j:Int):=IntWalk.i64_in _ (by omega)
     go_region_law(first|(go_simp;go_at_call 94;(with_reducible refine(mul_any b G x y _ (by exact hgw.drew) t).mono ?_);rintro e w4 ⟨rfl,n4,rfl⟩)|(go_simp;go_at_call 115;(with_reducible refine(add_any b G u (bF G x y) _ (by exact hgw.drewN _) t).mono ?_);rintro e w5 ⟨rfl,n5,rfl⟩))
     all_goals
      clear w1';go_wp2_with(fail)
      go_roundw;case rel=>
       refine⟨j+1,us.set (k+j) (gu G u (bF G x y)),by omega,by go_num,hid (by simp[hul.out]),HUR,HUS, ?_, ?_⟩
       ·exact(hown.drewN _).set _ _
       ·exact Below.setCell (hkw.drewN _) (p:=⟨w2.heap.size,k+j,none⟩) (zy _) _
      case measure=>simp[intOf];omega
    ·have ej:j=l2.length:=by omega
     have HE:Hid (t.po us=Rg.sm (k+1) (fun i=>PS.C (t.po l1 i)*PS.X i)*t.po l2):=hid (by
      rw[hup.out,ej,<-PS.Ox (t.J8 l2),Rg.aY,Rg.add_mul])
     clear ej;go_wp2_with(fail)
     go_roundw;case rel=>exact⟨k+1,us,by omega,by go_num,hul,hur,HE,hown,hkw⟩
     case measure=>simp[intOf];omega
  ·have ek:k=l1.length:=by omega
   have HE:Hid (t.po us=t.po l1*t.po l2):=hid (by rw[hup.out,ek,<-PS.Ox (t.J8 l1)]);clear ek;go_wp2_with(fail)
   go_ret;exact⟨_,us,rfl,hown.mono ku.size,ku.tr hkw,XK t c1 c2 Z1.out Z2.out (by rw[hul.out];exact N12.out) hur.out HE.out,by rw[HE.out,HO.out],by have:=hul.out;have:=HN.out;omega⟩
theorem TF {w:World} {b c i:Nat} {x y z:Value} (h:b≠c):(((w.setCell ⟨c,0,none⟩ x).setCell ⟨c,1,none⟩ y).setCell ⟨c,2,none⟩ z).cell? ⟨b,i,none⟩=w.cell? ⟨b,i,none⟩:=by
 have e:∀ (w:World) (j:Nat) (v:Value),(w.setCell ⟨c,j,none⟩ v).cell? ⟨b,i,none⟩=w.cell? ⟨b,i,none⟩:=fun w j v=>World.cell?_of_block (a:=⟨b,i,none⟩) (Below.heap_setCell _ _ _ _ h);rw[e,e,e]
theorem KP (b:Nat) (G:GFd) (w:World) (hg:dW w b G) (ht:aK G):
  Calls Tryz.prog 152 #[.pointer (some ⟨b,0,none⟩)] w fun e w'=>∃ gm cm,e=.returned (.agg #[.int .i64 G.P,.int .i64 G.M,.slice (some ⟨gm,0,none⟩) G.mod.length cm])/\Sl w' (.slice (some ⟨gm,0,none⟩) G.mod.length cm) G.mod/\ay w w':=by
 have hm8:G.mod.length<=8:=by
  have hs:=ht.shape;obtain⟨q1,q2,q3,q4,q5,q6,q7⟩:=ht.qb;by_cases e:G.M=1
  ·have:=hs.2.2.1 e;rw[this];simp
  ·have:=(hs.2.2.2 e).1;omega
 obtain⟨w1,hw1⟩:∃ w1,w1=w.alloc (.cells #[.int .i64 0,.int .i64 0,.slice none 0 0] 24):=⟨_,rfl⟩
 have hk1:ay w w1:=by rw[hw1];exact ah _ _
 have hz1:w1.heap.size=w.heap.size+1:=by rw[hw1];simp
 have hg1:=hg.kept hk1;have hlt:w.heap.size<w1.heap.size:=by omega
 have r0:w1.cell? ⟨w.heap.size,0,none⟩=some (.int .i64 0):=by rw[hw1];simp
 have r1:w1.cell? ⟨w.heap.size,1,none⟩=some (.int .i64 0):=by rw[hw1];simp
 have r2:w1.cell? ⟨w.heap.size,2,none⟩=some (.slice none 0 0):=by rw[hw1];simp
 have f0:w1.frozen? ⟨w.heap.size,0,none⟩=false:=by rw[hw1];simp
 have f1:w1.frozen? ⟨w.heap.size,1,none⟩=false:=by rw[hw1];simp
 have f2:w1.frozen? ⟨w.heap.size,2,none⟩=false:=by rw[hw1];simp
 have hne:b≠w.heap.size:=by have:=hg.lt;omega
 obtain⟨vm,gG,Hu⟩:=hg1.hmod;obtain⟨av,cv,rfl,hcv1,hcv2,aby⟩:=Hu;have hB0:Below w1.heap.size w1 (w1.alloc (.cells #[] 3)).drew:=((Below.refl _ _).alloc (zy _) _).drew;have hO0:Own (w1.alloc (.cells #[] 3)).drew w1.heap.size (.slice (some ⟨w1.heap.size,0,none⟩) 0 0) []:=(iW (zy _)).drew;have hsrc:∀ W,Below w1.heap.size w1 W->∀ ad,av=some ad->∀ j,j<G.mod.length->W.cell? (ad.add j)=some (.int .i64 (G.mod.getD j 0)):=fun W hW ad had j hj=>by
  obtain⟨b',off',e,hb',hc'⟩:=aby (by intro e;rw[e] at hj;simp at hj);rw[had] at e;cases e
  rw[Addr.add_lit];exact(Below.cell hW (p:=⟨b',off'+j,none⟩) hb').trans (hc' j hj)
 have aeI:G.mod≠ []->av≠none:=fun h=>by
  obtain⟨b',off',e,_⟩:=aby h;rw[e];simp
 have Hs:=hid hsrc;have H0:=hid hcv2.2;have H1:=hid aeI;have a0:=hg1.hP;have a1:=hg1.hM;have HZ:=hid hz1;have HW:=hid hw1;clear hsrc aeI aby hz1;go_enter Tryz.func152,Tryz.ntmps152;go_wp2_with(fail)
 rw[<-hw1];clear hw1
 go_region_held3 (fun w'=>w'.cell? ⟨b,0,none⟩=some (.int .i64 G.P)/\w'.cell? ⟨b,1,none⟩=some (.int .i64 G.M)/\w'.cell? ⟨b,2,none⟩=some (.slice av G.mod.length cv)) (first|(go_keep;done)|(refine⟨?_, ?_, ?_⟩<;> (rw[TF hne];assumption)))
  ((refine gI rfl (.tmp 13) (.tmp 18) rfl w1.heap.size _ rfl hO0 av G.mod.length cv G.mod rfl rfl H0.out H1.out (Hs.out _ hB0) (by omega) ?_;intro gm cm w4 hg4 gm1 gm2 ho4;have hb4:=dI hB0 hg4 hB0.size hO0.lt.1;have ajv:=hg1.kept hb4;have e0:=ajv.hP;have e1:=ajv.hM;have e2:=(ay.cell' hb4 hg1.lt).trans gG;have q0:=(ay.cell' hb4 hlt).trans r0;have q1:=(ay.cell' hb4 hlt).trans r1;have q2:=(ay.cell' hb4 hlt).trans r2;have p0:=(ay.frozen' hb4 hlt).trans f0;have p1:=(ay.frozen' hb4 hlt).trans f1;have p2:=(ay.frozen' hb4 hlt).trans f2;clear gm1))
 go_wp2_with(fail)
 have hgm:gm≠w.heap.size:=by omega
 have hso:∀ (W:World) (i:Nat) (u:Value),Own W w1.heap.size (.slice (some ⟨gm,0,none⟩) G.mod.length cm) G.mod->Own (W.setCell ⟨w.heap.size,i,none⟩ u) w1.heap.size (.slice (some ⟨gm,0,none⟩) G.mod.length cm) G.mod:=fun W i u h=>h.setOther ⟨w.heap.size,i,none⟩ u (fun g n c e=>by cases e;exact hgm);have hkw:ay w w4:=hk1.tr hb4;have hks:∀ (W:World) (i:Nat) (u:Value),ay w W->ay w (W.setCell ⟨w.heap.size,i,none⟩ u):=fun W i u h=>Below.setCell h (p:=⟨w.heap.size,i,none⟩) (zy _) u;have hfin:=hso _ 2 (.slice (some ⟨gm,0,none⟩) G.mod.length cm) (hso _ 1 (.int .i64 G.M) (hso _ 0 (.int .i64 G.P) ho4));have hkf:=hks _ 2 (.slice (some ⟨gm,0,none⟩) G.mod.length cm) (hks _ 1 (.int .i64 G.M) (hks _ 0 (.int .i64 G.P) hkw));have hsl:=hfin.sl;clear hfin hso hks;refine bodyPost_ret (v:=.agg #[.int .i64 G.P,.int .i64 G.M,.slice (some ⟨gm,0,none⟩) G.mod.length cm]) ?_ rfl ⟨gm,cm,rfl,hsl,hkf⟩;simp[results,Tryz.results152,go_sem,q0,q1,q2]
end
section
open Go.RowKit Go.Shelf Cw
attribute [local go_sem] Oper.semAt_some
def upTo (k:Nat):List Int:=(List.range k).map (fun i:Nat=>(i:Int))
theorem C9 (k:Nat):upTo (k+1)=upTo k++ [(k:Int)]:=by simp[upTo,xu]
theorem XL (k:Nat):(upTo k).length=k:=by simp[upTo]
theorem XM {a b:Nat} (h:a<=b):upTo a <+: upTo b:=by
 obtain⟨d,rfl⟩:=wU h;clear h;induction d with
 |zero=>exact List.prefix_refl _
 |succ d ih=>rw[<-rV,C9];exact ih.trans (List.prefix_append _ _)
theorem IZ (n l bb b:Nat) (G:GFd) (t:aK G) (J Jx:List Int->World->Prop)
  (hY:∀ pre x W,J pre W->pre.length<G.q.toNat->YieldAt Fence.wide (n-1) Tryz.prog l #[.int .i64 x] W fun e W'=>
   (e=.returned (.bool true)/\J (pre++ [x]) W'/\KeepsWalks W W')∨(e=.returned (.bool false)/\Jx (pre++ [x]) W'))
  (W:World) (hbb:W.cell? ⟨bb,0,none⟩=some (.pointer (some ⟨b,0,none⟩))) (hg:dW W b G) (h0:J [] W):
  CallsIn Fence.wide n Tryz.prog 154 #[.func (.yield l) #[] #[],.pointer (some ⟨bb,0,none⟩)] W fun e W'=>(∃ v,e=.returned v)/\
   ((∃ ys,ys=upTo G.q.toNat/\J ys W')∨(∃ pre,pre <+: upTo G.q.toNat/\Jx pre W')):=by
 obtain⟨q1,q2, -⟩:=t.qb;refine callsIn_of_wp Tryz.func154 rfl trivial ?_ rfl;simp only[Tryz.ntmps154,vM,yG,xP,Nat.reduceAdd,Nat.reduceSub,wH,wG,vK,vY,vP,vG];have c1:=hg.hq
 gi_wp2
 gi_loopw [8] (fun vi wr=>∃ k:Nat,k<=G.q.toNat/\vi=.int .i64 k/\J (upTo k) wr) (fun vi _=>G.q.toNat- (intOf vi).toNat)
 case atStart=>exact⟨0,by omega,rfl,h0⟩
 case round=>
  obtain⟨k,hk,rfl,hJ⟩:=hrel;by_cases hlt:k<G.q.toNat
  ·obtain⟨fn,tmps,assign,body,hy,hR⟩:=hY (upTo k) k wr hJ (by rw[XL];exact hlt);have hlt':(k:Int)<G.q:=by omega
   gi_wp2
   refine⟨fun h=>(by cases h), ?_⟩;refine hR.mono ?_;rintro e W3 (⟨rfl,hJ3,hk3⟩|⟨rfl,hJx3⟩)
   ·gi_wp2
    go_roundw;case rel=>exact⟨k+1,by omega,by go_num,by rw[C9];exact hJ3⟩
    case measure=>simp[intOf];omega
   ·gi_wp2
    refine bodyPost_ret (results_none rfl _ _ _) rfl ?_;exact⟨⟨_,rfl⟩,.inr ⟨upTo (k+1),XM hlt,by rw[C9];exact hJx3⟩⟩
  ·have ek:k=G.q.toNat:=by omega
   have hge:¬ (k:Int)<G.q:=by omega
   subst ek
   gi_wp2
   go_end0
   exact⟨⟨_,rfl⟩,.inl hJ⟩
theorem qc (n b bb:Nat) (G:GFd) (t:aK G) (w:World) (hlt:bb<w.heap.size) (hbb:w.cell? ⟨bb,0,none⟩=some (.pointer (some ⟨b,0,none⟩))) (hg:dW w b G):
  SeqStops Fence.wide n Tryz.prog 154 #[.pointer (some ⟨bb,0,none⟩)] (fun x:Int=>Value.int .i64 x) (fun ys=>ys=upTo G.q.toNat) (fun pre=>pre <+: upTo G.q.toNat) G.q.toNat w:=fun l J Jx W hW _ _ hY h0=>
 IZ n l bb b G t J Jx hY W ((hW.cell (p:=⟨bb,0,none⟩) hlt).trans hbb) (hg.kept hW) h0
theorem AB (b:Nat) (w:World):
  Calls Tryz.prog 98 #[.pointer (some ⟨b,0,none⟩)] w fun e w'=>e=.returned (.func (.func 154) #[] #[.pointer (some ⟨w.heap.size,0,none⟩)])/\w'=w.alloc (.cells #[.pointer (some ⟨b,0,none⟩)] 55):=by
 go_enter Tryz.func98,Tryz.ntmps98;go_wp2_with(fail)
 go_ret;exact⟨rfl,rfl⟩
end
section
open Go.RowKit Cw
theorem abU {k:IntKind} {a b:Int} {v:Value} (h:a=b):Ending.returned (.tuple #[.int k a,v])=.returned (.tuple #[.int k b,v]):=by rw[h]
theorem F5 (b:Nat) (G:GFd) (x0:Int) (w:World) (hg:dW w b G) (hx:inn G.q x0=0):
  Calls Tryz.prog 99 #[.pointer (some ⟨b,0,none⟩),.int .i64 x0] w fun e w'=>e=.returned (.tuple #[.int .i64 0,.int .i64 7])/\∃ m,w'=w.drewN m:=by
 have hq:=hg.hq;have HX:=hid hx;clear hx;go_enter Tryz.func99,Tryz.ntmps99;go_wp2_with(go_at_call 58;refine(jc _ _ _ _ hq).mono ?_;rintro e w' ⟨rfl,m1,rfl⟩;rw[HX.out])
 go_ret2;exact⟨rfl,_,rfl⟩
theorem KQ (b:Nat) (G:GFd) (x0:Int) (w:World) (hg:dW w b G) (ht:aK G) (hx:inn G.q x0≠0):
  Calls Tryz.prog 99 #[.pointer (some ⟨b,0,none⟩),.int .i64 x0] w fun e w'=>e=.returned (.tuple #[.int .i64 (Nc G x0:Nat),.int .i64 0])/\∃ m,w'=w.drewN m:=by
 obtain⟨q1,q2,q3,q4,q5,q6,q7⟩:=ht.qb;have hX:=iY (q:=G.q) (by omega) x0;have hq:=hg.hq;have hR:Hid (Nc G x0=(G.q.toNat-1) /Nat.gcd (G.q.toNat-1) (qK G (inn G.q x0)).toNat):=hid rfl;have Q7:=hid q7;clear q7;obtain⟨X,hXe⟩:∃ X,X=inn G.q x0:=⟨_,rfl⟩
 rw[<-hXe] at hX hR hx;have HX:=hid hXe.symm;clear hXe;have tx:(X==0)=false:=by simpa using hx
 obtain⟨bl,cl,l1,l2,l3⟩:=hg.agG;have lx:=ht.Ic (z:=X) (by omega) hX.2;have hll:=ht.llen;have cX:=l3 X.toNat (by omega);clear l3;obtain⟨Xn,rfl⟩:=zY hX.1;have hlx:Hid (qK G Xn=G.log.getD (Xn:Int).toNat 0):=hid rfl;obtain⟨u,hu⟩:∃ u,u=G.log.getD (Xn:Int).toNat 0:=⟨_,rfl⟩
 rw[<-hu] at cX lx hlx;clear hu hx;obtain⟨un,rfl⟩:=zY lx.1;have HLL:=hid hll;have hxl:(Xn:Int)< (G.log.length:Int):=by omega
 have nx:(Xn:Int).toNat=Xn:=by omega
 rw[nx] at cX;obtain⟨N,hN⟩:∃ N:Nat,G.q=(N:Int)+1:=⟨G.q.toNat-1,by omega⟩
 have hN1:1<=N:=by omega
 have HF:Hid (Nc G x0=N/Nat.gcd N un):=hid (by
  rw[hR.out,hlx.out,show G.q.toNat-1=N by omega];rfl)
 have hNq:Hid (G.q-1=(N:Int)):=hid (by omega);have u1:(un:Int)< (N:Int):=by omega
 have n255:(N:Int)<=255:=by omega
 clear nx hll hR hlx hN;generalize G.q=q at*;go_enter Tryz.func99,Tryz.ntmps99;go_wp2_with(go_at_call 58;refine(jc _ _ _ _ hq).mono ?_;rintro e w' ⟨rfl,m1,rfl⟩;rw[HX.out])
 have w1':IntKind.i64.wrap (q-1)=q-1:=IntWalk.i64_in _ (by omega);go_quiet(fail);clear w1';go_wp2_with(fail)
 go_loopw [6,7] (fun va vb wr=>∃ a c:Nat,va=.int .i64 a/\vb=.int .i64 c/\0<a/\a<=255/\c<=255/\Hid (Nat.gcd a c=Nat.gcd N un)/\∃ n,wr=w.drewN n) (fun _ vb _=>(intOf vb).toNat)
 case atStart=>exact⟨N,un,iC hNq.out,rfl,by omega,by omega,by omega,hid rfl,_,World.drewN_drewN _ _ _⟩
 case round=>
  obtain⟨a,c,rfl,rfl,a0,a1,c1,hgc,n,rfl⟩:=hrel;by_cases hc:0<c
  ·have r0:=zK (a:Int) (show(c:Int)≠0 by omega);have r1:=zQ (a:Int) (show(0:Int)<c by omega);have r2:=vU a hc;go_wp2_with(fail)
   go_quiet(fail);go_wp2_with(fail)
   go_roundw;case rel=>exact⟨c,a%c,rfl,iC (rP a c).symm,by omega,by omega,by omega,hid (by rw[<-hgc.out,rF a c,Nat.gcd_rec c a,rF]),_,World.drewN_drewN _ _ _⟩
   case measure=>simp[intOf];omega
  ·have e0:c=0:=by omega
   subst e0;have hfin:Hid ((q-1) / (a:Int)=(Nc G x0:Nat)):=hid (by
    have:=hgc.out;rw[Nat.gcd_zero_right] at this;rw[HF.out,<-this,hNq.out,Int.natCast_ediv])
   have ta:((a:Int)==0)=false:=by simp;omega
   go_wp2_with(fail)
   go_ret2;exact⟨abU hfin.out,_,rfl⟩
theorem XO {w:World} {b:Nat} {G:GFd} {m:Nat} (h:dW w b G) (hm:G.M=m):w.cell? ⟨b,0,none⟩=some (.int .i64 G.P)/\w.cell? ⟨b,1,none⟩=some (.int .i64 m)/\w.cell? ⟨b,3,none⟩=some (.int .i64 G.q):=by
 refine⟨h.hP, ?_,h.hq⟩;rw[h.hM,hm]
theorem AL (b:Nat) (G:GFd) (x0:Int) (w:World) (hg:dW w b G) (ht:aK G) (m:Nat) (hm:G.M=m):
  Calls Tryz.prog 97 #[.pointer (some ⟨b,0,none⟩),.int .i64 x0] w fun e w'=>∃ g,e=.returned (.slice (some ⟨g,0,none⟩) m m)/\Own w' w.heap.size (.slice (some ⟨g,0,none⟩) m m) (bY G.P (inn G.q x0) m)/\ay w w':=by
 obtain⟨q1,q2,q3,q4,q5,q6,q7⟩:=ht.qb;have hX:=iY (q:=G.q) (by omega) x0;have hq:=hg.hq;have hM:=hg.hM;have hP:=hg.hP;have hb:=hg.lt;rw[hm] at hM q5 q6;obtain⟨X,hXe⟩:∃ X,X=inn G.q x0:=⟨_,rfl⟩
 rw[<-hXe] at hX;have HX:=hid hXe.symm;have HX1:=hX.1;have HX2:X<=255:=by omega
 rw[<-hXe];have HM:=hid hm;clear hm q7 hX hXe;go_enter Tryz.func97,Tryz.ntmps97;go_wp2_with(fail)
 go_region_held3 (fun w'=>w'.cell? ⟨b,0,none⟩=some (.int .i64 G.P)/\w'.cell? ⟨b,1,none⟩=some (.int .i64 m)/\w'.cell? ⟨b,3,none⟩=some (.int .i64 G.q)) ((simp[*];done))
  (first|(go_at_call 58;(with_reducible refine(jc b G.q x0 _ (by(simp[*];done))).mono ?_);rintro e w1 ⟨rfl,n1,rfl⟩;rw[HX.out])|(go_at_call 150;(with_reducible refine(iZ X G.P m _ HX1 (by omega) (by omega) q4 (by omega)).mono ?_);rintro e w2 ⟨rfl,ho2,hk2⟩;have kk2:=ay.tr (a:=w) (by exact aB _ _) hk2;obtain⟨a0,a1,a2⟩:=XO (hg.kept kk2) HM.out))
 go_wp2_with(fail)
 go_ret;exact⟨_,rfl,ho2.mono (by simp),kk2⟩
theorem Bl (P M:Int) (vm:Value) (mod:List Int) (w:World) (hvm:Sl w vm mod) (hn:¬ fD P M mod):
  Calls Tryz.prog 47 #[.agg #[.int .i64 P,.int .i64 M,vm]] w fun e w'=>e=.returned (.tuple #[.pointer none,.int .i64 1])/\ay w w':=by
 by_cases hs:jq P M mod
 ·exact Ku P M vm mod w hvm hs hn
 ·exact Kt P M vm mod w hvm hs
theorem EL (b:Nat) (G:GFd) (w:World) (hg:dW w b G) (t:aK G):
  Calls Tryz.prog 91 #[.pointer (some ⟨b,0,none⟩)] w fun e w'=>e=.returned (.tuple #[.int .i64 G.P,.int .i64 G.M])/\ay w w':=by
 have HF:=hid (KP b G w hg t);obtain⟨P,hP⟩:∃ P,P=G.P:=⟨_,rfl⟩
 obtain⟨M,hM⟩:∃ M,M=G.M:=⟨_,rfl⟩
 obtain⟨L,hL⟩:∃ L,L=G.mod.length:=⟨_,rfl⟩
 rw[<-hP,<-hM,<-hL] at HF;rw[<-hP,<-hM];clear hP hM hL;go_enter Tryz.func91,Tryz.ntmps91;go_upto_region 2 with(go_at_call 152;(with_reducible refine HF.out.mono ?_);rintro e w2 ⟨gm,cm,rfl,_,hk2⟩)
 have bx:=aS w2 P M (.slice (some ⟨gm,0,none⟩) L cm) 24;have b0:=bx.h0;have b1:=bx.h1;have hk3:=hk2.tr (ah w2 (.cells #[.int .i64 P,.int .i64 M,.slice (some ⟨gm,0,none⟩) L cm] 24));go_quiet(fail);go_wp2_with(fail)
 go_ret2;exact⟨rfl,hk3.drewN _⟩
theorem XP {M d:Int} (hM:1<=M):M.tmod d=M%d:=yS (by omega)
theorem I4 (b:Nat) (G:GFd) (d:Int) (w:World) (hg:dW w b G) (t:aK G):
  Calls Tryz.prog 92 #[.pointer (some ⟨b,0,none⟩),.int .i64 d] w fun e w'=>e=.returned (.bool (decide (1<=d/\d<=G.M/\G.M%d=0)))/\ay w w':=by
 have HP:=hid (EL b G w hg t);have hM1:1<=G.M/\G.M<=8:=by have:=t.qb;omega
 obtain⟨P,hP⟩:∃ P,P=G.P:=⟨_,rfl⟩
 obtain⟨M,hM⟩:∃ M,M=G.M:=⟨_,rfl⟩
 rw[<-hP,<-hM] at HP;rw[<-hM] at hM1 ⊢;clear hP hM;by_cases h1:1<=d
 ·by_cases h2:d<=M
  ·have e:decide (1<=d/\d<=M/\M%d=0)=(M%d==0):=by
    by_cases h3:M%d=0<;>simp[h1,h2,h3]
   rw[e];have ht:=XP (d:=d) hM1.1;have hb:=zK M (show d≠0 by omega);have hb2:=zQ M (show 0<d by omega);obtain⟨r,hr⟩:∃ r,r=M%d:=⟨_,rfl⟩
   rw[<-hr] at ht hb hb2 ⊢;have t0:(d==0)=false:=by simp;omega
   have t1:¬ d=0:=by omega
   have t2:decide (1<=d)=true:=by simp;omega
   have t3:decide (d<=M)=true:=by simp;omega
   have w1:IntKind.i64.wrap r=r:=IntWalk.i64_in _ (by omega);clear hr e;go_enter Tryz.func92,Tryz.ntmps92;go_wp2_with(go_at_call 91;(with_reducible refine HP.out.mono ?_);rintro e w2 ⟨rfl,hk2⟩)
   go_ret;exact⟨rfl,hk2⟩
  ·have e:decide (1<=d/\d<=M/\M%d=0)=false:=by simp;omega
   rw[e];have t2:decide (1<=d)=true:=by simp;omega
   have t3:decide (d<=M)=false:=by simp;omega
   clear e;go_enter Tryz.func92,Tryz.ntmps92;go_wp2_with(go_at_call 91;(with_reducible refine HP.out.mono ?_);rintro e w2 ⟨rfl,hk2⟩)
   go_ret;exact⟨rfl,hk2⟩
 ·have e:decide (1<=d/\d<=M/\M%d=0)=false:=by simp;omega
  rw[e];have t2:decide (1<=d)=false:=by simp;omega
  clear e;go_enter Tryz.func92,Tryz.ntmps92;go_wp2_with(go_at_call 91;(with_reducible refine HP.out.mono ?_);rintro e w2 ⟨rfl,hk2⟩)
  go_ret;exact⟨rfl,hk2⟩
end
end Go.Proofs.YtoilbeadokallaaGreatDoor
