/- Lemmas on the way to the row. Conditions: each lemma's own, stated with it. -/
import Derived.Test.YtoilbeadokallaaGreatDoorK19
import Derived.Defers
import Derived.Recover
set_option maxHeartbeats 4000000
namespace Go.Proofs.YtoilbeadokallaaGreatDoor
section
open Go.RowKit Cw Cw.Gj
def ahW (w:World) (e:Exit) (a:Act) (w':World):Prop:=e=.normal/\a.defers=[]/\w'=w
theorem Pj (a b:Value) (w:World):
  CallsD Tryz.prog 38 #[a,b] .returning w fun e u' w'=>e=.returned (.tuple #[])/\u'=.returning/\w'=w:=by
 refine callsD_of_wpS Tryz.func38 rfl fun c₀ cs hu=>?_;apply wpS_seq;apply wpS_region;simp[wpOpsS,go_sem,recoverD,hu,Tryz.ntmps38,Exit.thenS];refine wpS_of_wp ?_;refine wp_mono (Q:=ahW w) ?_ ?_
 ·obtain⟨T,hT⟩:∃ T:Array Value,T=#[a,b]++(Array.replicate 19 undef).setIfInBounds 5 Value.nilIface:=⟨_,rfl⟩
  have h7:T.getD 7 undef=.nilIface:=by rw[hT];simp[Array.getD]
  have hz:T.size=21:=by rw[hT];simp
  rw[<-hT];clear hT;refine wp_block ?_;refine wp_seq ?_;refine wp_region ?_;simp[wpOps,go_sem,Act.eval,h7];refine Or.inl (wp_cond_true ?_ ?_)
  ·simp[Act.eval,hz]
  refine wp_region ?_;simp[wpOps,go_sem,Act.eval];exact Or.inl ⟨rfl,rfl,rfl⟩
 ·rintro e a' w' ⟨rfl,h2,rfl⟩;exact⟨h2,.returning,by rw[<-hu],_,results_none rfl _ _ _,rfl,rfl,rfl⟩
def txt:ByteArray:=⟨#[104,97,109,109,105,110,103,40,103,102,40,50,41,44,32,51,41]⟩
def kX:ByteArray:=⟨#[104,97,109,109,105,110,103]⟩
def sGf:ByteArray:=⟨#[103,102]⟩
def s2:ByteArray:=⟨#[50]⟩
def s3:ByteArray:=⟨#[51]⟩
def sL:ByteArray:=⟨#[40]⟩
def sR:ByteArray:=⟨#[41]⟩
def sC:ByteArray:=⟨#[44]⟩
def toks:List Tok:=[⟨1,kX,0,0⟩,⟨3,sL,0,7⟩,⟨1,sGf,0,8⟩,⟨3,sL,0,10⟩,⟨2,s2,2,11⟩,⟨3,sR,0,12⟩,⟨3,sC,0,13⟩,⟨2,s3,3,15⟩,⟨3,sR,0,16⟩]
def alC:List Nat:=[0,7,8,10,11,12,13,14,15,16,17]
def alD:List Nat:=[0,1,2,3,4,5,6,7,7,8,9]
def ahX (r:Nat):Nat:=alC.getD r 0
def tokF (r:Nat):List Tok:=toks.take (alD.getD r 0)
set_option maxRecDepth 100000 in
theorem Ud:∀ r,r<10->Stp txt (ahX r) (tokF r) (ahX (r+1)) (tokF (r+1))
 |0,_=>Stp.name (s:=txt) 0 7 [] (by decide) (by decide) (by decide) (by decide) (by decide) (by decide) (by decide) (by decide)
 |1,_=>Stp.sign (s:=txt) 7 _ (by decide) (by decide) (by decide) (by decide) (by decide) (by decide)
 |2,_=>Stp.name (s:=txt) 8 10 _ (by decide) (by decide) (by decide) (by decide) (by decide) (by decide) (by decide) (by decide)
 |3,_=>Stp.sign (s:=txt) 10 _ (by decide) (by decide) (by decide) (by decide) (by decide) (by decide)
 |4,_=>Stp.num (s:=txt) 11 _ 2 ⟨by decide,by decide,by decide,by decide,by decide,by decide,by decide,by decide,by decide,by decide⟩ (by decide)
 |5,_=>Stp.sign (s:=txt) 12 _ (by decide) (by decide) (by decide) (by decide) (by decide) (by decide)
 |6,_=>Stp.sign (s:=txt) 13 _ (by decide) (by decide) (by decide) (by decide) (by decide) (by decide)
 |7,_=>Stp.blank (s:=txt) 14 _ (by decide) (by decide)
 |8,_=>Stp.num (s:=txt) 15 _ 3 ⟨by decide,by decide,by decide,by decide,by decide,by decide,by decide,by decide,by decide,by decide⟩ (by decide)
 |9,_=>Stp.sign (s:=txt) 16 _ (by decide) (by decide) (by decide) (by decide) (by decide) (by decide)
 |r+10,h=>absurd h (by omega)
theorem X7 (w:World):Calls Tryz.prog 39 #[.string txt] w (KU w toks):=
 XY txt 10 ahX tokF w (by decide) rfl rfl rfl Ud (by decide) (by decide) (by decide)
def G1:Nat->List Value->World->Prop:=fun _ E _=>E=Di 2
def G2:Nat->List Value->World->Prop:=fun j E w=>if j=0 then ig G1 sGf 1 E w else E=Di 3
theorem Gl.imp {G G':List Value->World->Prop} {w:World} {p g c:Nat} {L:List Tok} {i m:Nat} (h:∀ E w,G E w->G' E w) {e:Ending} {w':World} (k:Gl G w p g c L i m e w'):Gl G' w p g c L i m e w':=by
 obtain⟨u0,u1,u2,u3,u4,e1,e2,⟨S,e3,e4⟩,e5,e6⟩:=k;exact⟨u0,u1,u2,u3,u4,e1,e2,⟨S,e3,fun w' q1 q2=>h _ _ (e4 w' q1 q2)⟩,e5,e6⟩
theorem ahY (w:World) (p g c:Nat) (h:PsS w p g c toks 2 1):Calls Tryz.prog 40 #[.pointer (some ⟨p,0,none⟩),.int .i64 ((2:Nat):Int)] w (Gl (ig G1 sGf 1) w p g c toks 6 3):=by
 have:=Jb G1 w p g c toks 2 1 2 0 sGf sL sR sC 8 0 10 0 12 1 (fun j=>4+j) (fun j=>2+j) rfl rfl rfl h rfl rfl (by decide) (by omega) (by omega) (by omega) (by omega) rfl rfl rfl ⟨_,rfl,by decide⟩ (fun j h1 h2=>by omega)
  (fun j hj w' hw=>by
   obtain rfl:j=0:=by omega
   exact NM w' p g c toks 4 2 3 2 s2 11 hw rfl (by decide) (by omega) (by omega))
 exact this
theorem afl (w:World) (p g c:Nat) (h:PsS w p g c toks 0 0):Calls Tryz.prog 40 #[.pointer (some ⟨p,0,none⟩),.int .i64 ((1:Nat):Int)] w (Gl (ig G2 kX 2) w p g c toks 9 4):=by
 have:=Jb G2 w p g c toks 0 0 1 0 kX sL sR sC 0 0 7 0 16 2 (fun j=>if j=0 then 2 else if j=1 then 6 else 8) (fun j=>if j=0 then 1 else if j=1 then 3 else 4) rfl rfl rfl h rfl rfl (by decide) (by omega) (by omega) (by omega) (by omega) rfl rfl rfl ⟨_,rfl,by decide⟩
  (fun j h1 h2=>by
   obtain rfl:j=1:=by omega
   exact⟨0,13,rfl⟩)
  (fun j hj w' hw=>by
   match j,hj with
   |0,_=>exact(ahY w' p g c hw).mono fun _ _ k=>k.imp fun _ _ q=>q
   |1,_=>exact(NM w' p g c toks 7 3 2 3 s3 15 hw rfl (by decide) (by omega) (by omega)).mono fun _ _ k=>k.imp fun _ _ q=>q)
 exact this
theorem X8 {w:World} {b:Nat} {x:Int} (h:w.cell? ⟨b,0,none⟩=some (.int .i64 x)):(loadVar 30 ⟨b,0,none⟩).run Tryz.prog w=.ok (.int .i64 x) w:=by simp[go_sem,h]
theorem X9 {w:World} {b:Nat} {x:Int} (h:w.cell? ⟨b,0,none⟩=some (.int .i64 x)):(loadVar 3 ⟨b,0,none⟩).run Tryz.prog w=.ok (.int .i64 x) w:=by simp[go_sem,h]
theorem Frs.go {G:List Value->World->Prop} {B B':Nat} {E:List Value} {w w':World} (h:Frs G B E w) (hB:B'<=B) (hs:w.heap.size<=w'.heap.size) (hb:∀ b,B<=b->b<w.heap.size->w'.heap[b]?=w.heap[b]?):Frs G B' E w':=by
 obtain⟨S,h1,h2⟩:=h;refine⟨S,fun b q=>?_,fun w2 q1 q2=>h2 w2 (by omega) fun b q=>?_⟩
 ·have:=h1 b q;omega
 ·have:=h1 b q;rw[q2 b q,hb b this.1 this.2]
theorem afm {w:World} {B g c:Nat} {L:List Tok} (x:Value) (h:JK w B (.slice (some ⟨g,0,none⟩) L.length c) L) (hg:g<w.heap.size):PsS (w.alloc (.cells #[.slice (some ⟨g,0,none⟩) L.length c,.int .i64 0,x,.int .i64 0] 86)) w.heap.size g c L 0 0:=by
 have hb:=aG w [.slice (some ⟨g,0,none⟩) L.length c,.int .i64 0,x,.int .i64 0] 86 _ rfl;have hf:=bD w #[.slice (some ⟨g,0,none⟩) L.length c,.int .i64 0,x,.int .i64 0] 86 _ rfl;have hk:=ah w (.cells #[.slice (some ⟨g,0,none⟩) L.length c,.int .i64 0,x,.int .i64 0] 86);exact⟨hb.1,hk.lt hg,by omega,hb.2 0 _ rfl,hb.2 1 _ rfl,hb.2 3 _ rfl,hf.2 1,hf.2 3,fun k t hk' j hj=>(h.kept hk).cell hk' hj⟩
def Ya (w:World) (e:Ending) (w':World):Prop:=
 ∃ u0 u1 u2 u3 u4:Value,e=.returned (.tuple #[.agg #[u0,u1,u2,u3,u4],.int .i64 0,.int .i64 0])/\Frs (ig G2 kX 2) w.heap.size [u0,u1,u2,u3,u4] w'/\ay w w'
set_option maxRecDepth 100000 in
theorem Ue (w:World):Calls Tryz.prog 16 #[.string txt] w (Ya w):=by
 obtain⟨W1,hW1⟩:∃ x,x=((w.alloc (.cells #[.int .i64 0,.string ⟨#[]⟩,.int .i64 0,.slice none 0 0,.slice none 0 0] 50)).alloc (.cells #[.int .i64 0] 30)).alloc (.cells #[.int .i64 0] 3):=⟨_,rfl⟩
 have hk1:ay w W1:=by rw[hW1];exact((ah _ _).tr (ah _ _)).tr (ah _ _)
 have hz1:W1.heap.size=w.heap.size+1+1+1:=by rw[hW1];simp
 have hb0:Bk W1 w.heap.size [.int .i64 0,.string ⟨#[]⟩,.int .i64 0,.slice none 0 0,.slice none 0 0]:=by rw[hW1];exact((aG w _ _ _ rfl).kept (ah _ _)).kept (ah _ _)
 have hb1:Bk W1 (w.heap.size+1) [.int .i64 0]:=by rw[hW1];exact(aG (w.alloc (.cells #[.int .i64 0,.string ⟨#[]⟩,.int .i64 0,.slice none 0 0,.slice none 0 0] 50)) [.int .i64 0] _ _ (by simp)).kept (ah _ _)
 have hb2:Bk W1 (w.heap.size+1+1) [.int .i64 0]:=by rw[hW1];exact aG _ [.int .i64 0] _ _ (by simp)
 have hf0:Fz W1 w.heap.size:=by rw[hW1];exact((bD w _ _ _ rfl).kept (ah _ _)).kept (ah _ _)
 have hf1:Fz W1 (w.heap.size+1):=by rw[hW1];exact(bD _ _ _ _ (by simp)).kept (ah _ _)
 have hf2:Fz W1 (w.heap.size+1+1):=by rw[hW1];exact bD _ _ _ _ (by simp)
 have HZ:=hid hz1;have HT:Hid (txt.size=17):=hid rfl;obtain⟨tx,htx⟩:∃ x,x=txt:=⟨_,rfl⟩
 have HSC:Hid (∀ W,Calls Tryz.prog 39 #[.string tx] W (KU W toks)):=hid (fun W=>by rw[htx];exact X7 W);have hl:tx.size=17:=by rw[htx];rfl
 rw[<-htx];clear hz1 htx
 go_enter_defers Tryz.func16,Tryz.ntmps16
 have HEX:Hid (∀ W p g c,PsS W p g c toks 0 0->Calls Tryz.prog 40 #[.pointer (some ⟨p,0,none⟩),.int .i64 1] W (Gl (ig G2 kX 2) W p g c toks 9 4)):=hid (fun W p g c h=>afl W p g c h);go_wp2_with(fail)
 rw[<-hW1];clear hW1;refine(HSC.out _).mono ?_;rintro e w2 ⟨v,rfl,ho2,hk2⟩;rcases ho2.form with⟨_,e⟩|⟨g,c,rfl,hg1,hg2,_⟩
 ·cases e
 have hps:=afm (.int .i64 17) ho2 hg2;rw[show toks.length=9 from rfl] at hps ⊢;have HPS:=hid hps;clear hps ho2;go_wp2_with(fail)
 refine(HEX.out _ _ _ _ HPS.out).mono ?_;rintro e w4 ⟨u0,u1,u2,u3,u4,rfl,h1c,aaj,hp4,hg4⟩;obtain⟨b,cap,_,hE,_⟩:ig G2 kX 2 [u0,u1,u2,u3,u4] w4:=by
  obtain⟨S,_,h2⟩:=aaj;exact h2 w4 (zy _) fun _ _=>rfl
 obtain⟨rfl,rfl,rfl,rfl,rfl⟩:u0=.int .i64 3/\u1=.string kX/\u2=.int .i64 0/\u3=.slice none 0 0/\u4=.slice (some ⟨b,0,none⟩) 2 cap:=by simpa[zl] using hE
 have HFR:=hid aaj;clear hE aaj h1c;have hk4:ay w2 w4:=aH (ah w2 _) hg4 (zy _) (by simp);have qG:=hk2.tr hk4;have alE:=hk1.tr qG;have aak:=hb0.kept qG;have agP:=hb1.kept qG;have agQ:=hb2.kept qG;have adC:=hf0.kept qG;have ajN:=hf1.kept qG;have ajO:=hf2.kept qG;have r0:=aak.2 0 _ rfl;have r1:=aak.2 1 _ rfl;have r2:=aak.2 2 _ rfl;have r3:=aak.2 3 _ rfl;have r4:=aak.2 4 _ rfl;have r5:=agP.2 0 _ rfl;have r6:=agQ.2 0 _ rfl;have e0:=adC.2 0;have e1:=adC.2 1;have e2:=adC.2 2;have e3:=adC.2 3;have e4:=adC.2 4;have e5:=ajN.2 0;have e6:=ajO.2 0;have q0:=hp4.h0;have q1:=hp4.h1;rw[show toks.length=9 from rfl] at q0;have l0:=aak.1;have l1:=agP.1;have l2:=agQ.1;have l3:=hp4.lt;have HB:=hid (And.intro aak (And.intro agP agQ));clear hb0 hb1 hb2 hf0 hf1 hf2 aak agP agQ adC ajN ajO;go_wp2_with(fail)
 go_quiet(fail);go_wp2_with(fail)
 refine leaves_cons (f:=38) (args:=#[.pointer (some ⟨w.heap.size+1,0,none⟩),.pointer (some ⟨w.heap.size+1+1,0,none⟩)]) (by simp) (by simp[go_sem]) ?_;refine(Pj _ _ _).mono ?_;rintro e u' w'' ⟨rfl,rfl,rfl⟩;obtain⟨b0,b1,b2⟩:=HB.out;have n01:w.heap.size+1≠w.heap.size:=by omega
 have n02:w.heap.size+1+1≠w.heap.size:=by omega
 have n10:w.heap.size≠w.heap.size+1:=by omega
 have n12:w.heap.size+1+1≠w.heap.size+1:=by omega
 have n20:w.heap.size≠w.heap.size+1+1:=by omega
 have n21:w.heap.size+1≠w.heap.size+1+1:=by omega
 have kx:=ah w4 (.cells #[.int .i64 3,.string kX,.int .i64 0,.slice none 0 0,.slice (some ⟨b,0,none⟩) 2 cap] 50);have q0:=Dc (((((((((b0.kept kx).drewN nq).set 0 (.int .i64 3)).set 1 (.string kX)).set 2 (.int .i64 0)).set 3 (.slice none 0 0)).set 4 (.slice (some ⟨b,0,none⟩) 2 cap)).oth (k:=0) n01 (.int .i64 0)).oth (k:=0) n02 (.int .i64 0));have q1:=(((((((((b1.kept kx).drewN nq).oth (k:=0) n10 (.int .i64 3)).oth (k:=1) n10 (.string kX)).oth (k:=2) n10 (.int .i64 0)).oth (k:=3) n10 (.slice none 0 0)).oth (k:=4) n10 (.slice (some ⟨b,0,none⟩) 2 cap)).set 0 (.int .i64 0)).oth (k:=0) n12 (.int .i64 0)).2 0 _ rfl;have q2:=(((((((((b2.kept kx).drewN nq).oth (k:=0) n20 (.int .i64 3)).oth (k:=1) n20 (.string kX)).oth (k:=2) n20 (.int .i64 0)).oth (k:=3) n20 (.slice none 0 0)).oth (k:=4) n20 (.slice (some ⟨b,0,none⟩) 2 cap)).oth (k:=0) n21 (.int .i64 0)).set 0 (.int .i64 0)).2 0 _ rfl;refine⟨_,F6 rfl rfl rfl rfl q0 (X8 q1) (X9 q2),_,_,_,_,_,rfl, ?_, ?_⟩
 ·refine HFR.out.go (by simp;have:=(hk1.tr hk2).size;omega) (by simp[World.setCell]) fun x hx hlt=>?_;have hx':w.heap.size+3<=x:=by have:=HZ.out;have:=hk2.size;simp at hx;omega
  have y0:x≠w.heap.size:=by omega
  have y1:x≠w.heap.size+1:=by omega
  have y2:x≠w.heap.size+1+1:=by omega
  rw[Below.heap_setCell _ _ _ _ y2,Below.heap_setCell _ _ _ _ y1,Below.heap_setCell _ _ _ _ y0,Below.heap_setCell _ _ _ _ y0,Below.heap_setCell _ _ _ _ y0,Below.heap_setCell _ _ _ _ y0,Below.heap_setCell _ _ _ _ y0];exact(kx.drewN nq).block x hlt
 ·exact aA _ (aA _ (aA _ (aA _ (aA _ (aA _ (aA _ ((alE.tr kx).drewN nq) (by omega)) (by omega)) (by omega)) (by omega)) (by omega)) (by omega)) (by omega)
end
end Go.Proofs.YtoilbeadokallaaGreatDoor
