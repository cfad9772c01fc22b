/- The walk of infoset.Family. Conditions: the code is one and lies in memory. -/
import Derived.Test.YtoilbeadokallaaGreatDoorK38
import Derived.Test.YtoilbeadokallaaGreatDoorK39
namespace Go.Proofs.YtoilbeadokallaaGreatDoor
open Go.RowKit Cw Cw.Gj
set_option maxRecDepth 100000 in
set_option maxHeartbeats 8000000 in
theorem family_any (G:GFd) (t:Tabs G) (n:Nat) (ma:Option Addr) (ml mc:Nat) (va:Option Addr) (vc:Nat) (A:List (List Int)) (P:List Nat) (w:World) (h:CdM w G n ma ml mc va vc A P) (hA:0 < A.length) :
  Calls Tryz.prog 64 #[cdV G n ma ml mc va A.length vc] w fun e w'=>∃ v steps,e=.returned (.tuple #[v,.int .i64 0])∧FmM w' w.heap.size v steps∧FamR (opG G) A n [] (steps.map (·.2))∧Kept w w':=by
 show Calls Tryz.prog 64 #[.agg #[.int .i64 G.P,.int .i64 G.M,.slice ma ml mc,.int .i64 n,.slice va A.length vc]] w _
 obtain ⟨W1,hW1⟩:∃ x,x=w.alloc (.cells #[.int .i64 G.P,.int .i64 G.M,.slice ma ml mc,.int .i64 n,.slice va A.length vc] 29):=⟨_,rfl⟩
 have hk1:Kept w W1:=by rw [hW1];exact kept_alloc _ _
 have bx:Bk W1 w.heap.size [.int .i64 G.P,.int .i64 G.M,.slice ma ml mc,.int .i64 n,.slice va A.length vc]:=by rw [hW1];exact bk_new w [.int .i64 G.P,.int .i64 G.M,.slice ma ml mc,.int .i64 n,.slice va A.length vc] _ _ rfl
 have hn2:=h.n2
 have hle:=h.rf.le
 have hA2:A.length≤256:=by omega
 have HC1:=hid (h.kept hk1)
 have HW:=hid h.rf.ri.w
 have HBX:=hid bx
 have HK1:=hid hk1
 have x0:=bx.2 0 _ rfl
 have x1:=bx.2 1 _ rfl
 have x2:=bx.2 2 _ rfl
 have x3:=bx.2 3 _ rfl
 have x4:=bx.2 4 _ rfl
 clear h bx hk1 hle
 go_enter Tryz.func64,Tryz.ntmps64
 go_upto_region 1 with (fail)
 rw [← hW1]
 clear hW1
 have HOP:=hid (iopen_ok G t n ma ml mc va vc A P W1 HC1.out)
 unfold cdV at HOP
 go_upto_region 2 with (go_at_call 118;refine HOP.out.mono ?_;rintro e w2 ⟨b,H,rfl,hg2,tH,hop,hq,hk2⟩)
 have HOPE:=hid hop
 have HQ:=hid hq
 have HB2:=hid (HBX.out.kept hk2)
 have HC2:=hid (HC1.out.kept hk2)
 have HG2:=hid hg2
 have HK2:=hid hk2
 obtain ⟨bc,hbc⟩:∃ x,x=w.heap.size:=⟨_,rfl⟩
 rw [← hbc] at HB2 x0 x1 x2 x3 x4 ⊢
 have HBC:=hid hbc
 clear hop hq x0 x1 x2 x3 x4 hg2 hk2 hbc
 go_wp2_with (fail)
 go_loopw [7,6] (fun vu vo wr=>∃ (vu' vo':Value) (used:List Nat) (steps:List (Value × List Nat × Nat)),vu'=vu∧vo'=vo∧Own wr w2.heap.size vu' (ints used)∧FmM wr w2.heap.size vo' steps∧Hid (∀ p ∈ steps,∀ x,p.1.ownBlock=some x→vu'.ownBlock ≠ some x) ∧
   Hid (∀ rest,FamR (opG G) A n used rest→FamR (opG G) A n [] (steps.map (·.2) ++ rest))∧Hid (used.length≤64 * cntU n used)∧Hid (steps.length≤cntU n used)∧Kept w2 wr) (fun _ vo _=>n + 1 - slLen vo)
 case atStart=>exact ⟨_,_,[],[],rfl,rfl,own_nil _ _,⟨ownF_nil _ _,fun p hp=>by cases hp⟩,hid (fun p hp=>by cases hp),hid (fun rest h=>h),hid (by simp),hid (by simp),Kept.rfl' _⟩
 case round =>
  obtain ⟨vu,vo,used,steps,rfl,rfl,hou,hfm,HDIS,HFR,HUL,HSL2,hkr⟩:=hrel
  have HOU:=hid hou
  have HFM:=hid hfm
  have HKR:=hid hkr
  have hcu:=cntU_le n used
  have HCU:=hid hcu
  clear hou hfm hkr hcu
  go_upto_region 7 with (fail)
  obtain ⟨W3,hW3⟩:∃ x,x=wr.alloc (.cells #[.bool false,.bool true] 4):=⟨_,rfl⟩
  obtain ⟨gb,hgb⟩:∃ x,x=wr.heap.size:=⟨_,rfl⟩
  have hk3:Kept wr W3:=by rw [hW3];exact kept_alloc _ _
  have d0:W3.cell? ⟨gb,0,none⟩=some (.bool false):=by rw [hW3,World.cell?_alloc_at _ _ _ _ hgb];rfl
  have d1:W3.cell? ⟨gb,1,none⟩=some (.bool true):=by rw [hW3,World.cell?_alloc_at _ _ _ _ hgb];rfl
  have lgb:gb < W3.heap.size:=by rw [hW3,hgb];simp
  have HD0:=hid d0
  have HD1:=hid d1
  have HK3:=hid hk3
  have HGB:=hid hgb
  clear d0 d1
  go_wp2_with (fail)
  rw [← hW3,← hgb]
  clear hW3 hgb hk3
  obtain ⟨wa,hwa⟩:∃ y,y=wr:=⟨_,rfl⟩
  subst hwa
  go_loopw [25,8] (fun vk vd wx=>∃ (vd':Value) (k:Nat),vd'=vd∧k≤2∧vk=.int .i64 k∧Own wx W3.heap.size vd' (ints (ordK n used k))∧Kept W3 wx) (fun vk _ _=>2 - (intOf vk).toNat)
  case atStart=>exact ⟨_,0,rfl,by omega,rfl,own_nil _ _,Kept.rfl' _⟩
  case round =>
   obtain ⟨vd,k,rfl,hk,rfl,hod,hkx⟩:=hrel
   have HOD:=hid hod
   have HKX:=hid hkx
   clear hod hkx
   by_cases hlt:k < 2
   ·obtain ⟨old,hold⟩:∃ x:Bool,x=(k == 1):=⟨_,rfl⟩
    have dk:wr.cell? ⟨gb,k,none⟩=some (.bool old):=by
     rw [hold]
     match k,hlt with
     | 0,_=>exact (HKX.out.cell' lgb).trans HD0.out
     | 1,_=>exact (HKX.out.cell' lgb).trans HD1.out
    have hlt':(k:Int) < 2:=by omega
    have hk0:(0:Int)≤(k:Int):=by omega
    have hkw2:Kept w2 wr:=HKR.out.tr (HK3.out.tr HKX.out)
    have hbx:=HB2.out.kept hkw2
    have x3:=hbx.2 3 _ rfl
    have lbx:=hbx.1
    have lgx:gb < wr.heap.size:=HKX.out.lt lgb
    have HOLD:=hid hold
    have HKW2:=hid hkw2
    clear hold hkw2 hbx
    go_wp2_with (fail)
    obtain ⟨wb,hwb⟩:∃ y,y=wr:=⟨_,rfl⟩
    subst hwb
    go_loopw [31,8] (fun vi vd2 wy=>∃ (vd3:Value) (i:Nat),vd3=vd2∧i≤n∧vi=.int .i64 i∧Own wy W3.heap.size vd3 (ints (ordJ n used k i))∧Kept W3 wy) (fun vi _ _=>n - (intOf vi).toNat)
    case atStart=>exact ⟨_,0,rfl,by omega,rfl,by rw [ordJ_zero];exact HOD.out,HKX.out⟩
    case round =>
     obtain ⟨vd2,i,rfl,hi,rfl,hoy,hky⟩:=hrel
     have HOY:=hid hoy
     have HKY:=hid hky
     have HUY:=hid (HOU.out.sl.kept (HK3.out.tr HKY.out))
     have hsy:W3.heap.size≤wr.heap.size:=hky.size
     clear hoy hky
     by_cases hin:i < n
     ·have hin':(i:Int) < (n:Int):=by omega
      have hjl:=ordJ_len n used k i
      by_cases hu:used.contains i=true
      ·have HCT:=hid (contains_yes _ _ (i:Int) wr HUY.out (mem_ints.2 (by simpa using hu)))
       cases old with
       | true =>
        have HY:Hid ((used.contains i == (k == 1))=true):=hid (by rw [← HOLD.out,hu];rfl)
        clear hu
        go_wp2_with (first
         | (go_at_call 37;refine HCT.out.mono ?_;rintro e w' ⟨rfl,rfl⟩)
         | (at_builtin;refine wpList_append_at rfl _ _ rfl W3.heap.size vd2 (ints (ordJ n used k i)) rfl (HOY.out.kept (kept_alloc _ _)) ⟨wr.heap.size,0,none⟩ i rfl (cell_new rfl) (by rw [length_ints];omega) (by simp;omega) ?_;intro g9 c9 w9 o9 hg9 hd9))
        go_roundw
        case rel=>exact ⟨_,i + 1,rfl,by omega,by go_num,by rw [ordJ_yes HY.out,show ints (ordJ n used k i ++ [i])=ints (ordJ n used k i) ++ [(i:Int)] by simp [ints]];exact o9,(HKY.out.tr (kept_alloc _ _)).grown hg9 (HKY.out.tr (kept_alloc _ _)).size (fun j e=>(own_blk HOY.out e).1)⟩
        case measure=>simp [intOf];omega
       | false =>
        have HY:Hid ((used.contains i == (k == 1))=false):=hid (by rw [← HOLD.out,hu];rfl)
        clear hu
        go_wp2_with (go_at_call 37;refine HCT.out.mono ?_;rintro e w' ⟨rfl,rfl⟩)
        go_roundw
        case rel=>exact ⟨_,i + 1,rfl,by omega,by go_num,by rw [ordJ_no HY.out];exact HOY.out,HKY.out⟩
        case measure=>simp [intOf];omega
      ·have hu:used.contains i=false:=by simpa using hu
       have HCT:=hid (contains_no _ _ (i:Int) wr HUY.out (fun q=>by rw [mem_ints] at q;simp [q] at hu))
       cases old with
       | false =>
        have HY:Hid ((used.contains i == (k == 1))=true):=hid (by rw [← HOLD.out,hu];rfl)
        clear hu
        go_wp2_with (first
         | (go_at_call 37;refine HCT.out.mono ?_;rintro e w' ⟨rfl,rfl⟩)
         | (at_builtin;refine wpList_append_at rfl _ _ rfl W3.heap.size vd2 (ints (ordJ n used k i)) rfl (HOY.out.kept (kept_alloc _ _)) ⟨wr.heap.size,0,none⟩ i rfl (cell_new rfl) (by rw [length_ints];omega) (by simp;omega) ?_;intro g9 c9 w9 o9 hg9 hd9))
        go_roundw
        case rel=>exact ⟨_,i + 1,rfl,by omega,by go_num,by rw [ordJ_yes HY.out,show ints (ordJ n used k i ++ [i])=ints (ordJ n used k i) ++ [(i:Int)] by simp [ints]];exact o9,(HKY.out.tr (kept_alloc _ _)).grown hg9 (HKY.out.tr (kept_alloc _ _)).size (fun j e=>(own_blk HOY.out e).1)⟩
        case measure=>simp [intOf];omega
       | true =>
        have HY:Hid ((used.contains i == (k == 1))=false):=hid (by rw [← HOLD.out,hu];rfl)
        clear hu
        go_wp2_with (go_at_call 37;refine HCT.out.mono ?_;rintro e w' ⟨rfl,rfl⟩)
        go_roundw
        case rel=>exact ⟨_,i + 1,rfl,by omega,by go_num,by rw [ordJ_no HY.out];exact HOY.out,HKY.out⟩
        case measure=>simp [intOf];omega
     ·have hinn:i=n:=by omega
      subst hinn
      go_wp2_with (fail)
      go_roundw
      case rel=>exact ⟨_,k + 1,rfl,by omega,by go_num,by rw [← ordJ_full i used hlt];exact HOY.out,HKY.out⟩
      case measure=>simp [intOf];omega
   ·obtain rfl:k=2:=by omega
    have hkw2:Kept w2 wr:=HKR.out.tr (HK3.out.tr HKX.out)
    have hbx:=HB2.out.kept hkw2
    have x0:=hbx.2 0 _ rfl
    have x1:=hbx.2 1 _ rfl
    have x2:=hbx.2 2 _ rfl
    have x3:=hbx.2 3 _ rfl
    have x4:=hbx.2 4 _ rfl
    have lbx:=hbx.1
    obtain ⟨g,hg⟩:∃ g,g=famG (opG G) A n used:=⟨_,rfl⟩
    have hgl:g.length≤64:=by rw [hg];exact Nat.le_trans (famG_len _ _ _ _) hn2
    have HGR:Hid (Calls Tryz.prog 119 #[.pointer (some ⟨b,0,none⟩),.agg #[.int .i64 G.P,.int .i64 G.M,.slice ma ml mc,.int .i64 n,.slice va A.length vc],vd] wr fun e w'=>∃ v,e=.returned v∧Own w' wr.heap.size v (ints g)∧Kept wr w'):=hid (by
     have:=greedy_any b H tH G.P G.M (.slice ma ml mc) n va vc A _ (orderL n used) wr (HG2.out.kept hkw2) (HC2.out.g.kept hkw2) (by rw [HQ.out];exact HW.out) hA hA2 HOD.out.sl (fun i hi=>order_lt (used:=used) (by simp [List.getD,hi])) (by have:=order_len n used;omega)
     rw [HOPE.out] at this
     rw [hg]
     exact this)
    have HKW2:=hid hkw2
    have HGE:=hid hg
    clear hkw2 hbx hg
    go_upto_region 18 with (go_at_call 119;refine HGR.out.mono ?_;rintro e w5 ⟨v5,rfl,ho5,hk5⟩;obtain ⟨a5,c5,e5,_,_⟩:=ho5.sl.lenOf;rw [length_ints] at e5;subst e5;have HO5:=hid ho5;have HK5:=hid hk5;clear ho5 hk5)
    obtain ⟨W6,hW6⟩:∃ x,x=w5.alloc (.cells #[.slice a5 g.length c5,.int .i64 0] 123):=⟨_,rfl⟩
    obtain ⟨xb,hxb⟩:∃ x,x=w5.heap.size:=⟨_,rfl⟩
    rw [← hW6,← hxb]
    have hk6:Kept w5 W6:=by rw [hW6];exact kept_alloc _ _
    have bx6:Bk W6 xb [.slice a5 g.length c5,.int .i64 0]:=by rw [hW6];exact bk_new w5 [.slice a5 g.length c5,.int .i64 0] _ _ hxb
    have fx6:Fz W6 xb:=by rw [hW6];exact fz_new _ _ _ _ hxb
    have HB6:=hid bx6
    have HF6:=hid fx6
    have HKW6:=hid (HKW2.out.tr (HK5.out.tr hk6))
    have HKR6:=hid ((HK3.out.tr HKX.out).tr (HK5.out.tr hk6))
    have HO6:=hid (HO5.out.kept hk6)
    have HXB:Hid (∀ x,(Value.slice a5 g.length c5).ownBlock=some x→wr.heap.size≤x∧x < xb):=hid (fun x e=>by
     have h1:=own_blk HO5.out e
     rw [hxb];exact h1)
    have hxw:w2.heap.size≤xb:=by rw [hxb];exact (HKW2.out.tr HK5.out).size
    have hxwa:wa.heap.size≤xb:=by rw [hxb];exact ((HK3.out.tr HKX.out).tr HK5.out).size
    have hxs:xb < W6.heap.size:=bx6.1
    have x0:=bx6.2 0 _ rfl
    clear hW6 hxb hk6 fx6 bx6
    obtain ⟨wc,hwc⟩:∃ y,y=wr:=⟨_,rfl⟩
    subst hwc
    go_wp2_with (fail)
    clear x0
    go_loopw [53] (fun vi wx=>∃ j:Nat,j≤g.length∧vi=.int .i64 j∧Bk wx xb [.slice a5 g.length c5,.int .i64 (rankL used (g.take j):Nat)]∧Fz wx xb∧W6.grownBy wx (some xb)) (fun vi _=>g.length - (intOf vi).toNat)
    case atStart=>exact ⟨0,by omega,rfl,HB6.out,HF6.out,World.grownBy.refl _ _⟩
    case round =>
     obtain ⟨j,hj,rfl,hbk,hfz,hgx⟩:=hrel
     have hk2x:Kept w2 wr:=gb_below HKW6.out hgx hxw HKW6.out.size
     have hkax:Kept wa wr:=gb_below HKR6.out hgx hxwa HKR6.out.size
     have hou:=HOU.out.kept hkax
     have hos:Own wr wc.heap.size (.slice a5 g.length c5) (ints g):=by
      refine HO6.out.grownBy hgx ?_
      cases e:(Value.slice a5 g.length c5).ownBlock with
      | none=>exact .inl rfl
      | some x=>exact .inr fun e2=>absurd (Option.some.inj e2) (by have:=(HXB.out x e).2;omega)
     have HBK:=hid hbk
     have HFZ:=hid hfz
     have HGX:=hid hgx
     have HK2X:=hid hk2x
     have HKAX:=hid hkax
     have HOUX:=hid hou
     have HOS:=hid hos
     have lxb:xb < wr.heap.size:=hbk.1
     have x0:=hbk.2 0 _ rfl
     have x1:=hbk.2 1 _ rfl
     have f1:=hfz.2 1
     by_cases hjl:j < g.length
     ·have hjl':(j:Int) < (g.length:Int):=by omega
      have hj0:(0:Int)≤(j:Int):=by omega
      obtain ⟨g5,e5⟩:∃ g5,a5=some ⟨g5,0,none⟩:=by
       rcases hos.form with ⟨_,e⟩ | ⟨g5,c,e,_⟩
       ·have:=congrArg List.length e;rw [length_ints,List.length_nil] at this;omega
       ·injection e with e1 _ _;exact ⟨g5,e1⟩
      subst e5
      have hcs:=hos.cell (i:=j) (by rw [length_ints];exact hjl)
      rw [ints_at hjl] at hcs
      have hrt:=rankL_take (used:=used) hjl
      have hrl:=rankL_le used (g.take j)
      rw [List.length_take] at hrl
      obtain ⟨y,hy⟩:∃ y,y=g.getD j 0:=⟨_,rfl⟩
      rw [← hy] at hcs hrt
      obtain ⟨r,hr⟩:∃ r,r=rankL used (g.take j):=⟨_,rfl⟩
      rw [← hr] at hrt hrl x1
      have hr64:r≤64:=by omega
      have HRT:=hid hrt
      have HRX:=hid hr
      clear hrt hrl hr hy hbk hfz hgx hk2x hkax hou hos
      by_cases hu:used.contains y=true
      ·have HCT:=hid (contains_yes _ _ (y:Int) wr HOUX.out.sl (mem_ints.2 (by simpa using hu)))
       have HU:=hid hu
       clear hu f1
       go_wp2_with (go_at_call 37;refine HCT.out.mono ?_;rintro e w' ⟨rfl,rfl⟩)
       go_roundw
       case rel=>exact ⟨j + 1,by omega,by go_num,by rw [HRT.out,if_pos HU.out,Nat.add_zero,HRX.out];exact HBK.out,HFZ.out,HGX.out⟩
       case measure=>simp [intOf];omega
      ·have hu:used.contains y=false:=by simpa using hu
       have HCT:=hid (contains_no _ _ (y:Int) wr HOUX.out.sl (fun q=>by rw [mem_ints] at q;simp [q] at hu))
       have HU:=hid hu
       have hw1:IntKind.i64.wrap ((r:Int) + 1)=((r + 1:Nat):Int):=by rw [IntWalk.i64_in _ (by omega)];omega
       clear hu
       go_wp2_with (go_at_call 37;refine HCT.out.mono ?_;rintro e w' ⟨rfl,rfl⟩)
       go_roundw
       case rel=>exact ⟨j + 1,by omega,by go_num,by rw [HRT.out,if_neg (by rw [HU.out];simp)];exact HBK.out.set 1 _,fz_set HFZ.out _ _ _,gb_set HGX.out _ _⟩
       case measure=>simp [intOf];omega
     ·have hjg:j=g.length:=by omega
      subst hjg
      rw [List.take_length] at HBK x1
      clear hbk hfz hgx hk2x hkax hou hos
      obtain ⟨r,hr⟩:∃ r,r=rankL used g:=⟨_,rfl⟩
      rw [← hr] at x1 HBK
      have HR:=hid hr
      clear hr
      by_cases hr0:r=0
      ·have t0:(((r:Nat):Int) == 0)=true:=by simp;omega
       have HFIN:Hid (FamR (opG G) A n [] (steps.map (·.2))):=hid (by
        have:=HFR.out [] (.stop used (by rw [← HGE.out,← HR.out];exact hr0))
        rwa [List.append_nil] at this)
       clear hr0
       go_wp2_with (fail)
       refine bodyPost_ret (v:=.tuple #[vo,.int .i64 0]) ?_ rfl ⟨vo,steps,rfl, ?_,HFIN.out, ?_⟩
       ·simp [results,Tryz.results64,go_sem]
       ·exact (HFM.out.kept HKAX.out).mono (HK1.out.tr HK2.out).size
       ·exact (HK1.out.tr HK2.out).tr HK2X.out
      ·have t0:(((r:Nat):Int) == 0)=false:=by simp;omega
       have HR0:=hid hr0
       have HSO:=hid (sort_own _ _ _ _ HOS.out (by rw [length_ints];omega))
       clear hr0 f1
       go_upto_region 27 with (go_at_call 103;(with_reducible refine HSO.out.mono ?_);rintro e w7 ⟨rfl,ho7,hg7⟩)
       obtain ⟨s,hs⟩:∃ s,s=famS (opG G) A n used:=⟨_,rfl⟩
       have hss:ints s=sortI (ints g):=by rw [hs,ints_famS,← HGE.out]
       have hsl:s.length=g.length:=by have:=congrArg List.length hss;rwa [length_ints,sortI_len,length_ints] at this
       rw [← hss] at ho7
       have hg7':wr.grownBy w7 (Value.slice a5 g.length c5).ownBlock:=by
        rcases hg7 with ⟨rfl,e⟩ | ⟨y,e,h7⟩
        ·exact World.grownBy.refl _ _
        ·rw [e];exact h7
       have hnx:∀ x,(Value.slice a5 g.length c5).ownBlock=some x→wc.heap.size≤x∧x < xb:=HXB.out
       have hb7:Bk w7 xb [.slice a5 g.length c5,.int .i64 r]:=HBK.out.gbo hg7' (fun e=>by have:=(hnx xb e).2;omega)
       have hk7:Kept wa w7:=HKAX.out.grown hg7' HKAX.out.size (fun x e=>by have:=(hnx x e).1;have:=((HK3.out.tr HKX.out)).size;omega)
       have hk27:Kept w2 w7:=HK2X.out.grown hg7' HK2X.out.size (fun x e=>by have:=(hnx x e).1;have:=HKW2.out.size;omega)
       have HS:=hid hs
       have HSL:=hid hsl
       have HO7:=hid ho7
       have HB7:=hid hb7
       have HK7:=hid hk7
       have HK27:=hid hk27
       have HU7:=hid (HOU.out.kept hk7)
       have HM7:=hid (HFM.out.kept hk7)
       have l7:xb < w7.heap.size:=hb7.1
       clear x0 x1 hs hss hsl ho7 hg7 hg7' hnx hb7 hk7 hk27
       have x0:=HB7.out.2 0 _ rfl
       have x1:=HB7.out.2 1 _ rfl
       have hg1:1≤g.length:=by
        have:=rankL_le used g
        have h1:=HR.out
        have h2:=HR0.out
        omega
       obtain ⟨g5,e5⟩:∃ g5,a5=some ⟨g5,0,none⟩:=by
        rcases HO7.out.form with ⟨_,e⟩ | ⟨g5,c,e,_⟩
        ·have:=congrArg List.length e;rw [length_ints,List.length_nil,HSL.out] at this;omega
        ·injection e with e1 _ _;exact ⟨g5,e1⟩
       subst e5
       have hug:=HUL.out
       have hcu:=HCU.out
       have hsl7:=HSL.out
       go_upto_region 28 with (at_builtin;refine wpList_append_list rfl _ _ rfl w2.heap.size vu (ints used) rfl HU7.out ⟨g5,0,none⟩ g.length c5 (ints s) rfl (by rw [length_ints];exact hsl7) (fun q hq=>by rw [Addr.add_lit,Nat.zero_add];exact HO7.out.cell hq) (by rw [length_ints];omega) HK27.out.size ?_;intro v8 w8 o8 hg8 hd8)
       have hvu:∀ x,vu.ownBlock=some x→w2.heap.size≤x∧x < wa.heap.size:=fun x e=>own_blk HOU.out e
       have hnx:∀ x,(Value.slice (some ⟨g5,0,none⟩) g.length c5).ownBlock=some x→wc.heap.size≤x∧x < xb:=HXB.out
       have hwac:wa.heap.size≤wc.heap.size:=(HK3.out.tr HKX.out).size
       have hb8:Bk w8 xb [.slice (some ⟨g5,0,none⟩) g.length c5,.int .i64 r]:=HB7.out.gbo hg8 (fun e=>by have:=(hvu xb e).2;omega)
       have hm8:FmM w8 w2.heap.size vo steps:=HM7.out.gbUsed HU7.out hg8 HDIS.out
       have ho8:Own w8 wc.heap.size (.slice (some ⟨g5,0,none⟩) g.length c5) (ints s):=HO7.out.grownBy hg8 (by
        cases e:(Value.slice (some ⟨g5,0,none⟩) g.length c5).ownBlock with
        | none=>exact .inl rfl
        | some x=>exact .inr fun e2=>absurd (hvu x e2.symm).2 (by have:=(hnx x e).1;omega))
       have hk28:Kept w2 w8:=HK27.out.grown hg8 HK27.out.size (fun x e=>(hvu x e).1)
       have hs78:w7.heap.size≤w8.heap.size:=hg8.size
       have hwa7:=HK7.out.size
       have HB8:=hid hb8
       have HM8:=hid hm8
       have HO8:=hid ho8
       have HK28:=hid hk28
       have HU8:=hid (show Own w8 w2.heap.size v8 (ints (used ++ s)) by rw [show ints (used ++ s)=ints used ++ ints s by simp [ints]];exact o8)
       have HD8:=hid hd8
       have HVU:=hid hvu
       have HNX:=hid hnx
       have l8:xb < w8.heap.size:=hb8.1
       clear x0 x1 hb8 hm8 ho8 hk28 o8 hd8 hg8 hvu hnx
       have x0:=HB8.out.2 0 _ rfl
       have x1:=HB8.out.2 1 _ rfl
       have hsl:=HSL2.out
       go_wp2_with (at_builtin;refine wpList_append_step rfl _ _ rfl w2.heap.size vo steps rfl (HM8.out.own.kept (kept_alloc _ _)) ⟨w8.heap.size,0,none⟩ (.slice (some ⟨g5,0,none⟩) g.length c5,s,r) rfl (box2_at _ _ _ _).1 (box2_at _ _ _ _).2 rfl (by omega) (by have:=HK28.out.size;simp;omega) ?_;intro v9 w9 o9 hg9)
       have hku:=kept_alloc w8 (.cells #[.slice (some ⟨g5,0,none⟩) g.length c5,.int .i64 r] 123)
       have hm9:=(HM8.out.kept hku).add ((HO8.out.kept hku).mono (by have:=HKW2.out.size;omega)) o9 hg9
       have hcn:cntU n used < cntU n (used ++ s):=by
        rw [HS.out]
        exact cntU_next (o:=opG G) (A:=A) (by rw [← HGE.out,← HR.out];exact HR0.out)
       have HM9:=hid hm9
       have HCN:=hid hcn
       have hk9:Kept w2 w9:=(HK28.out.tr hku).grown hg9 (HK28.out.tr hku).size (fun x e=>(HM8.out.own.lt e).1)
       have HK9:=hid hk9
       have hu9:Own w9 w2.heap.size v8 (ints (used ++ s)):=(HU8.out.kept hku).grownBy hg9 (by
        cases e:v8.ownBlock with
        | none=>exact .inl rfl
        | some x=>exact .inr fun e2=>own_neF (HM8.out.own.kept hku) (HU8.out.kept hku) e e2.symm)
       have HU9:=hid hu9
       have HL9:=hid o9.len
       clear hku hm9 hcn hk9 hu9 o9 hg9 x0 x1
       go_roundw
       case rel =>
        refine ⟨v8,v9,used ++ s,steps ++ [(.slice (some ⟨g5,0,none⟩) g.length c5,s,r)],rfl,rfl,HU9.out,HM9.out,hid (fun p hp x e e2=>?_),hid (fun rest hr=>?_),hid ?_,hid ?_,HK9.out⟩
        ·rcases List.mem_append.1 hp with hp | hp
         ·have h1:=own_blk (HFM.out.row p hp) e
          rcases HD8.out with q | q
          ·exact HDIS.out p hp x e (by rw [← q];exact e2)
          ·have:=q x e2
           omega
         ·rw [List.mem_singleton.1 hp] at e
          have h1:=HNX.out x e
          rcases HD8.out with q | q
          ·have:=(HVU.out x (by rw [← q];exact e2)).2
           omega
          ·have:=q x e2
           omega
        ·have h1:=HFR.out ((s,r) :: rest) (by
          have:=FamR.next (o:=opG G) (A:=A) (n:=n) used rest (by rw [← HGE.out,← HR.out];exact HR0.out) (by rw [← HS.out];exact hr)
          rw [← HGE.out,← HR.out,← HS.out] at this
          exact this)
         simpa using h1
        ·have h1:=HCN.out
         have h2:=HUL.out
         have h3:=HSL.out
         rw [List.length_append]
         omega
        ·have h1:=HCN.out
         have h2:=HSL2.out
         rw [List.length_append]
         simp
         omega
       case measure =>
        have h1:=HL9.out
        have h2:=HFM.out.own.len
        have h3:=HSL2.out
        have h4:=HCU.out
        rw [List.length_append] at h1
        simp at h1
        show n + 1 - slLen v9 < n + 1 - slLen vo
        omega
end Go.Proofs.YtoilbeadokallaaGreatDoor
