/- Lemmas on the way: De Df Dg Dh Di Tp Lt. -/
import Derived.Test.YtgdaahffmcfhpaaGreatDoorT48
import Derived.Test.YtgdaahffmcfhpaaGreatDoorT00
set_option linter.unusedVariables false
set_option maxRecDepth 100000
set_option maxHeartbeats 8000000
namespace Go.Proofs.YtgdaahffmcfhpaaGreatDoor
open Tryz
section
open Go.RowKit
attribute [local go_sem] dO dL dQ dM
theorem kM (v:List Int) (k:List (List UInt8)) (hv:v.length<=1) (hk:k.length<=1) (ho:sJ k):(dz v k).length<=60000:=by
 have e1:=sL hv;have e2:=kK hk (fun x hx=>by have:=ho x hx;omega);have:=eL 1;unfold dz;simp only [aO];omega
theorem Nf:(sN [eZ]).length<=60000:=by
 have e1:=sM (xs:=[eZ]) (by simp) (fun x hx=>by rw [aU.1 hx];exact ⟨YJ,YL⟩);have:=eL 2;unfold sN;simp only [aO];omega
theorem Ng:(sO [[120]]).length<=60000:=by
 have e1:=kK (xs:=[[120]]) (by simp) (fun x hx=>by rw [aU.1 hx];decide);have:=eL 3;unfold sO;simp only [aO];omega
theorem YP:sJ [kX]:=fun x hx=>by rw [aU.1 hx];exact wQ
theorem wV:sJ []:=fun x hx=>by cases hx
theorem aaW {w:World} {F:BS} {D who:Nat} (h:fA w F D who [] []):ew w 77 #[.pointer (some ⟨D,0,none⟩)] (.string (bs (dz [] []))):=fun _ hb=>UL (h.later hb)
theorem YQ {w:World} {F:BS} {D who:Nat} (h:fA w F D who [eZ] [[120]]):ew w 77 #[.pointer (some ⟨D,0,none⟩)] (.string (bs (dz [1] []))):=fun _ hb=>UM (h.later hb)
theorem aaX {w:World} {F:BS} {D who:Nat} (h:fA w F D who [eZ] []):ew w 77 #[.pointer (some ⟨D,0,none⟩)] (.string (bs (dz [1] [kX]))):=fun _ hb=>UN (h.later hb)
theorem Cl.h0 {w0:World} {U0:BS} {w:World} {x:Cx} {L1:List dV} {P1:List (List UInt8)} {ps:List Nt.Pk} {n:Nat} (h:Cl w0 U0 w x [eZ] [[120]] L1 P1 ps n):ew w 77 #[.pointer (some ⟨x.D0,0,none⟩)] (.string (bs (dz [1] []))):=by
 obtain ⟨F0,F1,v,h,-⟩:=h;exact YQ h.d0
theorem Cl.ha {w0:World} {U0:BS} {w:World} {x:Cx} {L0:List dV} {P0:List (List UInt8)} {ps:List Nt.Pk} {n:Nat} (h:Cl w0 U0 w x L0 P0 [] [] ps n):ew w 77 #[.pointer (some ⟨x.D1,0,none⟩)] (.string (bs (dz [] []))):=by
 obtain ⟨F0,F1,v,h,-⟩:=h;exact aaW h.d1
theorem Cl.hb {w0:World} {U0:BS} {w:World} {x:Cx} {L0:List dV} {P0:List (List UInt8)} {ps:List Nt.Pk} {n:Nat} (h:Cl w0 U0 w x L0 P0 [eZ] [] ps n):ew w 77 #[.pointer (some ⟨x.D1,0,none⟩)] (.string (bs (dz [1] [kX]))):=by
 obtain ⟨F0,F1,v,h,-⟩:=h;exact aaX h.d1
theorem Cl.hc {w0:World} {U0:BS} {w:World} {x:Cx} {L0:List dV} {P0:List (List UInt8)} {ps:List Nt.Pk} {n:Nat} (h:Cl w0 U0 w x L0 P0 [eZ] [[120]] ps n):ew w 77 #[.pointer (some ⟨x.D1,0,none⟩)] (.string (bs (dz [1] []))):=by
 obtain ⟨F0,F1,v,h,-⟩:=h;exact YQ h.d1
theorem UX {w0:World} {U0:BS} {w:World} {x:Cx} {n:Nat} (h:Cl w0 U0 w x [eZ] [[120]] [] [] [] n) (hn:n<=800):
  Calls prog 81 #[.pointer (some ⟨x.C,0,none⟩)] w fun e w'=>e=.returned (.tuple #[])/\Cl w0 U0 w' x [eZ] [[120]] [eZ] [] [] (n+3):=by
 have H:=dH h;obtain ⟨c0,c1,-,-,-,-⟩:=h.cells;clear h;go_enter func81,ntmps81;go_wp2_with fail;refine wp_loop_rounds 3 ?_;rw [rounds_succ];go_wp2_with fail;refine (sR H.o 0).mono ?_;rintro e Ku ⟨rfl,hc⟩;have H':=dH hc;clear hc c0 c1 H;have H:=H';clear H';obtain ⟨c0,c1,-,-,-,-⟩:=H.o.cells;go_wp2_with fail;rw [rounds_succ];go_wp2_with fail;refine (sR H.o 1).mono ?_;rintro e w11 ⟨rfl,hc⟩;have H':=dH hc;clear hc c0 c1 H;have H:=H';clear H';obtain ⟨c0,c1,-,-,-,-⟩:=H.o.cells;go_wp2_with fail;rw [rounds_succ];go_wp2_with fail;refine wp_loop_rounds 3 ?_;rw [rounds_succ];go_wp2_with fail;refine wp_loop_rounds 3 ?_;rw [rounds_succ];go_wp2_with fail;rw [rounds_succ];go_wp2_with fail;refine (NZ H.o (dz [1] []) H.o.h0 (kM [1] [] (by simp) (by simp) wV) (by simp) (by omega)).mono ?_;rintro e w20 ⟨rfl,hc⟩;have H':=dH hc;clear hc c0 c1 H;have H:=H';clear H';obtain ⟨c0,c1,-,-,-,-⟩:=H.o.cells;go_wp2_with fail;rw [rounds_succ];go_wp2_with fail;rw [rounds_succ];go_wp2_with fail;refine wp_loop_rounds 3 ?_;rw [rounds_succ];go_wp2_with fail;refine (Na H.o (dz [] []) H.o.ha (kM [] [] (by simp) (by simp) wV) (by simp) (by omega)).mono ?_;rintro e TF ⟨rfl,hc⟩;have H':=dH hc;clear hc c0 c1 H;have H:=H';clear H';obtain ⟨c0,c1,-,-,-,-⟩:=H.o.cells;go_wp2_with fail;rw [rounds_succ];go_wp2_with fail;rw [rounds_succ];go_wp2_with fail;rw [rounds_succ];go_wp2_with fail;refine wp_loop_rounds 4 ?_;simp only [af,aq] at H;rw [rounds_succ];go_wp2_with fail;refine (lE H.o).mono ?_;rintro e w30 ⟨rfl,rfl⟩;go_wp2_with fail;refine (wU _ H.o (by simp) (fun w' F h=>NP h)).mono ?_;rintro e w40 ⟨rfl,hc⟩;have H':=dH hc;clear hc c0 c1 H;have H:=H';clear H';obtain ⟨c0,c1,-,-,-,-⟩:=H.o.cells;go_wp2_with fail;rw [rounds_succ];go_wp2_with fail;refine (lE H.o).mono ?_;rintro e w31 ⟨rfl,rfl⟩;go_wp2_with fail;refine (Nc _ (sN [eZ]) H.o (by simp) Nf (by omega) (fun w' F h=>NQ h)).mono ?_;rintro e w41 ⟨rfl,hc⟩;have H':=dH hc;clear hc c0 c1 H;have H:=H';clear H';obtain ⟨c0,c1,-,-,-,-⟩:=H.o.cells;simp only [af] at H;go_wp2_with fail;rw [rounds_succ];go_wp2_with fail;refine (lE H.o).mono ?_;rintro e w32 ⟨rfl,rfl⟩;go_wp2_with fail;refine (wU _ H.o (by simp) (fun w' F h=>NR h)).mono ?_;rintro e w42 ⟨rfl,hc⟩;have H':=dH hc;clear hc c0 c1 H;have H:=H';clear H';obtain ⟨c0,c1,-,-,-,-⟩:=H.o.cells;go_wp2_with fail;rw [rounds_succ];go_wp2_with fail;refine (lE H.o).mono ?_;rintro e w50 ⟨rfl,rfl⟩;go_wp2_with fail;go_end0;exact ⟨rfl,H.o⟩
theorem UY {w0:World} {U0:BS} {w:World} {x:Cx} {n:Nat} (h:Cl w0 U0 w x [eZ] [[120]] [eZ] [] [] n) (hn:n<=800):
  Calls prog 81 #[.pointer (some ⟨x.C,0,none⟩)] w fun e w'=>e=.returned (.tuple #[])/\Cl w0 U0 w' x [eZ] [[120]] [eZ] [[120]] [] (n+3):=by
 have H:=dH h;obtain ⟨c0,c1,-,-,-,-⟩:=h.cells;clear h;go_enter func81,ntmps81;go_wp2_with fail;refine wp_loop_rounds 3 ?_;rw [rounds_succ];go_wp2_with fail;refine (sR H.o 0).mono ?_;rintro e Ku ⟨rfl,hc⟩;have H':=dH hc;clear hc c0 c1 H;have H:=H';clear H';obtain ⟨c0,c1,-,-,-,-⟩:=H.o.cells;go_wp2_with fail;rw [rounds_succ];go_wp2_with fail;refine (sR H.o 1).mono ?_;rintro e w11 ⟨rfl,hc⟩;have H':=dH hc;clear hc c0 c1 H;have H:=H';clear H';obtain ⟨c0,c1,-,-,-,-⟩:=H.o.cells;go_wp2_with fail;rw [rounds_succ];go_wp2_with fail;refine wp_loop_rounds 3 ?_;rw [rounds_succ];go_wp2_with fail;refine wp_loop_rounds 3 ?_;rw [rounds_succ];go_wp2_with fail;rw [rounds_succ];go_wp2_with fail;refine (NZ H.o (dz [1] []) H.o.h0 (kM [1] [] (by simp) (by simp) wV) (by simp) (by omega)).mono ?_;rintro e w20 ⟨rfl,hc⟩;have H':=dH hc;clear hc c0 c1 H;have H:=H';clear H';obtain ⟨c0,c1,-,-,-,-⟩:=H.o.cells;go_wp2_with fail;rw [rounds_succ];go_wp2_with fail;rw [rounds_succ];go_wp2_with fail;refine wp_loop_rounds 3 ?_;rw [rounds_succ];go_wp2_with fail;refine (Na H.o (dz [1] [kX]) H.o.hb (kM [1] [kX] (by simp) (by simp) YP) (by simp) (by omega)).mono ?_;rintro e TF ⟨rfl,hc⟩;have H':=dH hc;clear hc c0 c1 H;have H:=H';clear H';obtain ⟨c0,c1,-,-,-,-⟩:=H.o.cells;go_wp2_with fail;rw [rounds_succ];go_wp2_with fail;rw [rounds_succ];go_wp2_with fail;rw [rounds_succ];go_wp2_with fail;refine wp_loop_rounds 4 ?_;simp only [af,aq] at H;rw [rounds_succ];go_wp2_with fail;refine (lE H.o).mono ?_;rintro e w30 ⟨rfl,rfl⟩;go_wp2_with fail;refine (wU _ H.o (by simp) (fun w' F h=>NT h)).mono ?_;rintro e w40 ⟨rfl,hc⟩;have H':=dH hc;clear hc c0 c1 H;have H:=H';clear H';obtain ⟨c0,c1,-,-,-,-⟩:=H.o.cells;go_wp2_with fail;rw [rounds_succ];go_wp2_with fail;refine (lE H.o).mono ?_;rintro e w31 ⟨rfl,rfl⟩;go_wp2_with fail;refine (Nc _ (sO [[120]]) H.o (by simp) Ng (by omega) (fun w' F h=>NU h)).mono ?_;rintro e w41 ⟨rfl,hc⟩;have H':=dH hc;clear hc c0 c1 H;have H:=H';clear H';obtain ⟨c0,c1,-,-,-,-⟩:=H.o.cells;simp only [af] at H;go_wp2_with fail;rw [rounds_succ];go_wp2_with fail;refine (lE H.o).mono ?_;rintro e w32 ⟨rfl,rfl⟩;go_wp2_with fail;refine (wU _ H.o (by simp) (fun w' F h=>NV h)).mono ?_;rintro e w42 ⟨rfl,hc⟩;have H':=dH hc;clear hc c0 c1 H;have H:=H';clear H';obtain ⟨c0,c1,-,-,-,-⟩:=H.o.cells;go_wp2_with fail;rw [rounds_succ];go_wp2_with fail;refine (lE H.o).mono ?_;rintro e w50 ⟨rfl,rfl⟩;go_wp2_with fail;go_end0;exact ⟨rfl,H.o⟩
theorem UZ {w0:World} {U0:BS} {w:World} {x:Cx} {n:Nat} (h:Cl w0 U0 w x [eZ] [[120]] [eZ] [[120]] [] n) (hn:n<=800):
  Calls prog 81 #[.pointer (some ⟨x.C,0,none⟩)] w fun e w'=>e=.returned (.tuple #[])/\Cl w0 U0 w' x [eZ] [[120]] [eZ] [[120]] [] (n+2):=by
 have H:=dH h;obtain ⟨c0,c1,-,-,-,-⟩:=h.cells;clear h;go_enter func81,ntmps81;go_wp2_with fail;refine wp_loop_rounds 3 ?_;rw [rounds_succ];go_wp2_with fail;refine (sR H.o 0).mono ?_;rintro e Ku ⟨rfl,hc⟩;have H':=dH hc;clear hc c0 c1 H;have H:=H';clear H';obtain ⟨c0,c1,-,-,-,-⟩:=H.o.cells;go_wp2_with fail;rw [rounds_succ];go_wp2_with fail;refine (sR H.o 1).mono ?_;rintro e w11 ⟨rfl,hc⟩;have H':=dH hc;clear hc c0 c1 H;have H:=H';clear H';obtain ⟨c0,c1,-,-,-,-⟩:=H.o.cells;go_wp2_with fail;rw [rounds_succ];go_wp2_with fail;refine wp_loop_rounds 3 ?_;rw [rounds_succ];go_wp2_with fail;refine wp_loop_rounds 3 ?_;rw [rounds_succ];go_wp2_with fail;rw [rounds_succ];go_wp2_with fail;refine (NZ H.o (dz [1] []) H.o.h0 (kM [1] [] (by simp) (by simp) wV) (by simp) (by omega)).mono ?_;rintro e w20 ⟨rfl,hc⟩;have H':=dH hc;clear hc c0 c1 H;have H:=H';clear H';obtain ⟨c0,c1,-,-,-,-⟩:=H.o.cells;go_wp2_with fail;rw [rounds_succ];go_wp2_with fail;rw [rounds_succ];go_wp2_with fail;refine wp_loop_rounds 3 ?_;rw [rounds_succ];go_wp2_with fail;refine (Na H.o (dz [1] []) H.o.hc (kM [1] [] (by simp) (by simp) wV) (by simp) (by omega)).mono ?_;rintro e TF ⟨rfl,hc⟩;have H':=dH hc;clear hc c0 c1 H;have H:=H';clear H';obtain ⟨c0,c1,-,-,-,-⟩:=H.o.cells;go_wp2_with fail;rw [rounds_succ];go_wp2_with fail;rw [rounds_succ];go_wp2_with fail;rw [rounds_succ];go_wp2_with fail;refine wp_loop_rounds 3 ?_;simp only [af,aq] at H;rw [rounds_succ];go_wp2_with fail;refine (lE H.o).mono ?_;rintro e w30 ⟨rfl,rfl⟩;go_wp2_with fail;refine (wU _ H.o (by simp) (fun w' F h=>DW h)).mono ?_;rintro e w40 ⟨rfl,hc⟩;have H':=dH hc;clear hc c0 c1 H;have H:=H';clear H';obtain ⟨c0,c1,-,-,-,-⟩:=H.o.cells;go_wp2_with fail;rw [rounds_succ];go_wp2_with fail;refine (lE H.o).mono ?_;rintro e w31 ⟨rfl,rfl⟩;go_wp2_with fail;refine (UW _ H.o (by simp) (fun w' F h=>DW h)).mono ?_;rintro e w41 ⟨rfl,hc⟩;have H':=dH hc;clear hc c0 c1 H;have H:=H';clear H';obtain ⟨c0,c1,-,-,-,-⟩:=H.o.cells;go_wp2_with fail;rw [rounds_succ];go_wp2_with fail;refine (lE H.o).mono ?_;rintro e w50 ⟨rfl,rfl⟩;go_wp2_with fail;go_end0;exact ⟨rfl,H.o⟩
theorem Nh:(Pt.Cd.numL 1).length=2:=by decide
theorem Sb:(Pt.Cd.numL 0).length<=2:=by decide
theorem YR:(dz [] []).length<=6:=by
 have h0:=Sb;have h1:=Nh;unfold dz js j3;simp only [aO,ah,List.flatMap_nil];have e:((0:Nat):Int)=0:=rfl;rw [e];omega
theorem Sc:38<=(dz [1] [kX]).length:=by
 have h1:=Nh;have hk:=wQ;unfold dz js j3;simp only [aO,aQ,ah,au,List.flatMap_nil,bD,aY];have e:((1:Nat):Int)=1:=rfl;rw [e];have ht:32<=(Pt.Cd.textL kX).length:=by unfold Pt.Cd.textL;rw [aO];omega
 omega
theorem YS:(dz [1] []).length<=8:=by
 have h0:=Sb;have h1:=Nh;unfold dz js j3;simp only [aO,aQ,ah,au,List.flatMap_nil,bD,aY];have e:((1:Nat):Int)=1:=rfl;have e0:((0:Nat):Int)=0:=rfl;rw [e,e0];omega
theorem YT:dz [1] [kX]≠dz [] []:=fun h=>by have h1:=YR;have h2:=Sc;rw [h] at h2;omega
theorem YU:dz [1] []≠dz [1] [kX]:=fun h=>by have h1:=YS;have h2:=Sc;rw [h] at h1;omega
theorem Cl.rebase {w0:World} {U0:BS} {w w1:World} {x:Cx} {L0 L1:List dV} {P0 P1:List (List UInt8)} {ps:List Nt.Pk} {n:Nat} (h:Cl w0 U0 w x L0 P0 L1 P1 ps n) (hb:Below w.heap.size w w1):
  ∃U,P6 U w/\Cl w1 U w1 x L0 P0 L1 P1 ps n/\∀w2 XQ XR Rx Ry ps' n',Cl w1 U w2 x XQ XR Rx Ry ps' n'->Cl w0 U0 w2 x XQ XR Rx Ry ps' n':=by
 obtain ⟨F0,F1,v,h,hs⟩:=h;refine ⟨_,CU.bnd h,⟨F0,F1,v,h.later hb,gT.below _ (aC _ _)⟩,?_⟩;rintro w2 XQ XR Rx Ry ps' n' ⟨TI,Wd,v',h',hs'⟩;exact ⟨TI,Wd,v',h',(hs.then_ hb).trans hs'⟩
theorem kN {w:World} {B g c:Nat} {a b:List UInt8} (h:dN w B 1 (.slice (some ⟨g,0,none⟩) 2 c) 2 [.string (bs a),.string (bs b)]):B<=g/\g < w.heap.size/\w.cell? ⟨g,0,none⟩=some (.string (bs a))/\w.cell? ⟨g,1,none⟩=some (.string (bs b)):=by
 obtain ⟨g',cap,e,hb,hlt,-,-,hc,-⟩:=h.form (by decide);cases e;exact ⟨hb,hlt,hc 0 _ rfl,hc 1 _ rfl⟩
theorem Ni {w0:World} {U0:BS} {w:World} {x:Cx} (h:Cl w0 U0 w x [eZ] [[120]] [] [] [] 0):
  Calls prog 28 #[.pointer (some ⟨x.C,0,none⟩),.int .i64 9] w fun e w'=>∃n,e=.returned (.int .i64 3)/\Cl w0 U0 w' x [eZ] [[120]] [eZ] [[120]] [] n:=by
 have H:=dH h;have hm9:min (9:Int) 1000=9:=by decide
 clear h;go_enter func28,ntmps28;go_wp2_with fail;refine wp_loop_rounds 3 ?_;rw [rounds_succ];go_wp2_with fail;refine (jP H.o (dz [1] []) (dz [] []) H.o.h0 H.o.ha).mono ?_;rintro e XS ⟨g1,c1,rfl,ho,hb⟩;obtain ⟨U,hU,hc,hlk⟩:=H.o.rebase hb;have PW:=dH hlk;obtain ⟨k1,k2,k3,k4⟩:=kN ho;have TE:¬ U g1:=fun hF=>by have:=hU _ hF;omega
 have H':=dH hc;have HK:=dH (And.intro k2 (And.intro k3 k4));have Oe:=dH TE;clear ho hb hU hc hlk k1 k2 k3 k4 TE H;go_wp2_with fail;refine (UX H'.o (by omega)).mono ?_;rintro e wb1 ⟨rfl,hc⟩;have hk:=hc.stp;have HC:=dH (And.intro ((aI (a:=⟨g1,0,none⟩) (hk.block _ HK.o.1 Oe.o)).trans HK.o.2.1) (And.intro ((aI (a:=⟨g1,1,none⟩) (hk.block _ HK.o.1 Oe.o)).trans HK.o.2.2) (aN HK.o.1 hk.size)));have H:=dH (PW.o _ _ _ _ _ _ _ hc);clear hc hk H' HK Oe PW;go_wp2_with fail;refine (jP H.o (dz [1] []) (dz [1] [kX]) H.o.h0 H.o.hb).mono ?_;rintro e wc1 ⟨g'1,c'1,rfl,ho,hb⟩;obtain ⟨k1,k2,k3,k4⟩:=kN ho;have HE:=dH (Fq (w:=wc1) (g:=g'1) (c:=c'1) (g':=g1) (c':=c1) ⟨k3,k4⟩ ⟨(aI (a:=⟨g1,0,none⟩) (hb.block _ HC.o.2.2)).trans HC.o.1,(aI (a:=⟨g1,1,none⟩) (hb.block _ HC.o.2.2)).trans HC.o.2.1⟩ false (by simp [YT]));have H':=dH (H.o.later hb);clear ho hb k1 k2 k3 k4 HC H;have H:=H';clear H';go_wp2_with fail;refine HE.o.mono ?_;rintro e wd1 ⟨rfl,hb⟩;have H':=dH (H.o.later hb);clear hb H HE;have H:=H';clear H';go_wp2_with fail;rw [rounds_succ];go_wp2_with fail;refine (jP H.o (dz [1] []) (dz [1] [kX]) H.o.h0 H.o.hb).mono ?_;rintro e wa2 ⟨g2,c2,rfl,ho,hb⟩;obtain ⟨U,hU,hc,hlk⟩:=H.o.rebase hb;have PW:=dH hlk;obtain ⟨k1,k2,k3,k4⟩:=kN ho;have TE:¬ U g2:=fun hF=>by have:=hU _ hF;omega
 have H':=dH hc;have HK:=dH (And.intro k2 (And.intro k3 k4));have Oe:=dH TE;clear ho hb hU hc hlk k1 k2 k3 k4 TE H;go_wp2_with fail;refine (UY H'.o (by omega)).mono ?_;rintro e wb2 ⟨rfl,hc⟩;have hk:=hc.stp;have HC:=dH (And.intro ((aI (a:=⟨g2,0,none⟩) (hk.block _ HK.o.1 Oe.o)).trans HK.o.2.1) (And.intro ((aI (a:=⟨g2,1,none⟩) (hk.block _ HK.o.1 Oe.o)).trans HK.o.2.2) (aN HK.o.1 hk.size)));have H:=dH (PW.o _ _ _ _ _ _ _ hc);clear hc hk H' HK Oe PW;go_wp2_with fail;refine (jP H.o (dz [1] []) (dz [1] []) H.o.h0 H.o.hc).mono ?_;rintro e wc2 ⟨g'2,c'2,rfl,ho,hb⟩;obtain ⟨k1,k2,k3,k4⟩:=kN ho;have HE:=dH (Fq (w:=wc2) (g:=g'2) (c:=c'2) (g':=g2) (c':=c2) ⟨k3,k4⟩ ⟨(aI (a:=⟨g2,0,none⟩) (hb.block _ HC.o.2.2)).trans HC.o.1,(aI (a:=⟨g2,1,none⟩) (hb.block _ HC.o.2.2)).trans HC.o.2.1⟩ false (by simp [YU]));have H':=dH (H.o.later hb);clear ho hb k1 k2 k3 k4 HC H;have H:=H';clear H';go_wp2_with fail;refine HE.o.mono ?_;rintro e wd2 ⟨rfl,hb⟩;have H':=dH (H.o.later hb);clear hb H HE;have H:=H';clear H';go_wp2_with fail;rw [rounds_succ];go_wp2_with fail;refine (jP H.o (dz [1] []) (dz [1] []) H.o.h0 H.o.hc).mono ?_;rintro e wa3 ⟨g3,c3,rfl,ho,hb⟩;obtain ⟨U,hU,hc,hlk⟩:=H.o.rebase hb;have PW:=dH hlk;obtain ⟨k1,k2,k3,k4⟩:=kN ho;have TE:¬ U g3:=fun hF=>by have:=hU _ hF;omega
 have H':=dH hc;have HK:=dH (And.intro k2 (And.intro k3 k4));have Oe:=dH TE;clear ho hb hU hc hlk k1 k2 k3 k4 TE H;go_wp2_with fail;refine (UZ H'.o (by omega)).mono ?_;rintro e wb3 ⟨rfl,hc⟩;have hk:=hc.stp;have HC:=dH (And.intro ((aI (a:=⟨g3,0,none⟩) (hk.block _ HK.o.1 Oe.o)).trans HK.o.2.1) (And.intro ((aI (a:=⟨g3,1,none⟩) (hk.block _ HK.o.1 Oe.o)).trans HK.o.2.2) (aN HK.o.1 hk.size)));have H:=dH (PW.o _ _ _ _ _ _ _ hc);clear hc hk H' HK Oe PW;go_wp2_with fail;refine (jP H.o (dz [1] []) (dz [1] []) H.o.h0 H.o.hc).mono ?_;rintro e wc3 ⟨g'3,c'3,rfl,ho,hb⟩;obtain ⟨k1,k2,k3,k4⟩:=kN ho;have HE:=dH (Fq (w:=wc3) (g:=g'3) (c:=c'3) (g':=g3) (c':=c3) ⟨k3,k4⟩ ⟨(aI (a:=⟨g3,0,none⟩) (hb.block _ HC.o.2.2)).trans HC.o.1,(aI (a:=⟨g3,1,none⟩) (hb.block _ HC.o.2.2)).trans HC.o.2.1⟩ true (by simp));have H':=dH (H.o.later hb);clear ho hb k1 k2 k3 k4 HC H;have H:=H';clear H';go_wp2_with fail;refine HE.o.mono ?_;rintro e wd3 ⟨rfl,hb⟩;have H':=dH (H.o.later hb);clear hb H HE;have H:=H';clear H';go_wp2_with fail;go_ret;exact ⟨_,rfl,H.o⟩
structure PB (W:World) (a:Nat) (who:Nat) (d b cr:Nat) (fv:Value):Prop where
 b_:Blk W a 136 #[.int .i64 (who:Nat),.pointer none,.pointer (some ⟨d,0,none⟩),fv,.slice (some ⟨b,0,none⟩) 1 cr]
theorem PB.cells {W:World} {a who d b cr:Nat} {fv:Value} (h:PB W a who d b cr fv):W.cell? ⟨a,0,none⟩=some (.int .i64 (who:Nat))/\W.cell? ⟨a,2,none⟩=some (.pointer (some ⟨d,0,none⟩))/\W.cell? ⟨a,4,none⟩=some (.slice (some ⟨b,0,none⟩) 1 cr):=⟨h.b_.cell 0,h.b_.cell 2,h.b_.cell 4⟩
theorem DY (who:Nat) (aaN:who < 15) {a d nb fb b cr:Nat} {fv:Value} {w:World} (ha:PB w a who d b cr fv) (hd:Dk.Dsk 0 w d nb fb (.slice none 0 0) (dst [] [] [])) (hb:b < w.heap.size) (h0:w.cell? ⟨b,0,none⟩=some (.int .i64 1)) (h1:w.cell? ⟨b,1,none⟩=some (.string (bs [46]))) (hbd:b≠d/\b≠nb) (had:a≠d/\a≠nb):
  Calls prog 68 #[.pointer (some ⟨a,0,none⟩)] w fun e w'=>∃D F,e=.returned (.int .i64 0)/\fA w' F D who [] []/\Blk w' a 136 #[.int .i64 (who:Nat),.pointer (some ⟨D,0,none⟩),.pointer (some ⟨d,0,none⟩),fv,.slice (some ⟨b,0,none⟩) 1 cr]/\dY (fun i=>i=a\/i=d\/i=nb) w w'/\(∀i,F i->i=d\/i=nb\/w.heap.size<=i):=by
 have hbel:Below w.heap.size w w.drew:=(aC _ w).drew;have HO:=dH (NO who aaN (nb:=nb) (fb:=fb) (ff:=[]) b 0 cr w.drew (hd.later hbel) hb h0 h1 hbd);have HA:=dH ha;have Vy:dG (PB w.drew a who d b cr fv):=dH ⟨ha.b_⟩;have HD:=dH hd;have halt:=ha.b_.lt;clear ha hd h0 h1 hbel;go_enter func68,ntmps68;go_wp2_with fail;go_region_held3 (fun w'=>w'.cell? ⟨a,0,none⟩=some (.int .i64 (who:Nat))/\w'.cell? ⟨a,2,none⟩=some (.pointer (some ⟨d,0,none⟩))/\w'.cell? ⟨a,4,none⟩=some (.slice (some ⟨b,0,none⟩) 1 cr))
  (with_reducible first|exact PB.cells O6.o|exact PB.cells Vy.o|exact PB.cells HA.o)
  (first|(go_at_call 113;refine HO.o.mono ?_;rintro e w1 ⟨D,F,rfl,Pb,hF,hk,hDw⟩;have O6:dG (PB w1 a who d b cr fv):=dH ⟨Vy.o.b_.kp hk (by rintro (h|h);exact had.1 h;exact had.2 h)⟩;have HDv:=dH Pb;have HF:=dH hF;have HK:=dH hk;clear Pb hF hk))
 all_goals
  have b1:=O6.o.b_.cell 1;simp at b1;have y1:=O6.o.b_.frozen 1;have hB:=O6.o.b_.set_ 1 (.pointer (some ⟨D,0,none⟩));simp only [aH,aD,aF] at hB;have HB:=dH hB;have hks:dY (fun i=>i=a) w1 (w1.setCell ⟨a,1,none⟩ (.pointer (some ⟨D,0,none⟩))):=de (S:=fun i=>i=a) (eX (fun i=>i=a) w1) ⟨a,1,none⟩ _ (fun _=>rfl);have aci:=dH (HDv.o.kp hks (fun i hi e=>by
   rcases HF.o i hi with h|h|h
   ·exact had.1 (by rw [<-e,h])
   ·exact had.2 (by rw [<-e,h])
   ·have h2:w.heap.size<=i:=h
    omega))
  have Kr:dG (dY (fun i=>i=a\/i=d\/i=nb) w (w1.setCell ⟨a,1,none⟩ (.pointer (some ⟨D,0,none⟩)))):=dH (eB (eB (eR (S:=fun i=>i=a\/i=d\/i=nb) (aC _ w).drew) HK.o (fun i _ h=>.inr h)) hks (fun i _ h=>.inl h));clear hB hks;go_wp2_with fail;go_ret;exact ⟨D,F,rfl,aci.o,HB.o,Kr.o,HF.o⟩
theorem RF:(prog.info? 132).map (fun i=>(i.zero,i.size,i.bytes))=some (some (.pointer none),1,8):=by kernel_rfl
theorem DZ {B B':Nat} {w:World} {d nb fb:Nat} {st:Dk.DS} (h:Dk.Dsk B w d nb fb (.slice none 0 0) st) (ha:st.acts=[]):Dk.Dsk B' w d nb fb (.slice none 0 0) st:=nC h ha (eX (fun _=>False) w) (fun h=>h) (fun h=>h) (fun h=>h) B'
theorem RG (w:World):Calls prog 26 #[.int .i64 2] w fun e w'=>∃x,e=.returned (.tuple #[.pointer (some ⟨x.C,0,none⟩),.int .i64 0])/\∃U0,Cl w' U0 w' x [] [] [] [] [] 0/\(∀i,U0 i->w.heap.size<=i)/\Below w.heap.size w w':=by
 obtain ⟨j0,hj,hy0,hy1,hy2⟩:=info_parts RF;have HJ:=dH hj;have uo:=dH hy0;have zc:=dH hy1;have ze:=dH hy2;clear hj hy0 hy1 hy2;go_enter func26,ntmps26;go_wp2_with fail;refine (Nt.new_ok 2 (by decide) (by decide) _).mono ?_;rintro e w1 ⟨gN,rfl,We,dR,hgN⟩;have eN:=dD w1 (.cells #[.slice none 0 0,.pointer (some ⟨gN,0,none⟩)] 128);have hC:=Blk.new w1 128 #[.slice none 0 0,.pointer (some ⟨gN,0,none⟩)];obtain ⟨s0,hs0⟩:=dB (w1.alloc (.cells #[.slice none 0 0,.pointer (some ⟨gN,0,none⟩)] 128));obtain ⟨C,hCq⟩:=dB w1.heap.size;rw [<-hs0] at eN hC;rw [<-hCq] at hC;have Of:=We.below eN;have wY:=dH (dR.trans (eN.mono dR.size));have hCw:w.heap.size<=C:=by have:=dR.size;omega
 have hw0:w.heap.size<=s0.heap.size:=wY.o.size;have hgC:gN≠C:=by have:=We.lt;omega
 have HC0:=dH hC;have HN0:=dH Of;have BF:=dH hs0;have HCQ:=dH hCq;have hC0:C < s0.heap.size:=hC.lt;have Sr:gN < s0.heap.size:=Of.lt;clear We dR eN hC Of hs0 hCq;go_upto_region 7 with (fail);rw [<-HCQ.o,<-BF.o];go_wp2_with fail;refine wp_loop_rounds 3 ?_;rw [rounds_succ];go_wp2_with fail;refine (Dk.new_any 1048576 (by decide) (by decide) _).mono ?_;rintro e wd0 ⟨d0,nb0,fb0,rfl,hd,hb,tX,hd2,KG⟩;have sW:=dH hd;have aai:=dH hb;have aaj:s0.heap.size<=d0/\d0 < wd0.heap.size:=⟨tX,hd.blk.lt⟩;have aak:s0.heap.size<=nb0/\nb0 < wd0.heap.size:=⟨hd2,hd.now.lt⟩;clear hd hb tX hd2 KG;go_wp2_with fail;refine (yl _).mono ?_;rintro e uv ⟨PZ,rfl,hb⟩;have GF:=aai.o.trans (hb.mono aai.o.size);have hwf:wd0.heap.size<=uv.heap.size:=hb.size;have eN:Below uv.heap.size uv ((uv.alloc (.cells #[.int .i64 1,.string (bs [46])] 113)).alloc (.cells #[.int .i64 0,.pointer none,.pointer (some ⟨d0,0,none⟩),.pointer (some ⟨PZ,0,none⟩),.slice (some ⟨uv.heap.size,0,none⟩) 1 1] 136)):=((aC _ uv).alloc (aB _) _).alloc (by simp) _;have hr:Blk ((uv.alloc (.cells #[.int .i64 1,.string (bs [46])] 113)).alloc (.cells #[.int .i64 0,.pointer none,.pointer (some ⟨d0,0,none⟩),.pointer (some ⟨PZ,0,none⟩),.slice (some ⟨uv.heap.size,0,none⟩) 1 1] 136)) uv.heap.size 113 #[.int .i64 1,.string (bs [46])]:=(Blk.new uv 113 _).alloc _;have ha:Blk ((uv.alloc (.cells #[.int .i64 1,.string (bs [46])] 113)).alloc (.cells #[.int .i64 0,.pointer none,.pointer (some ⟨d0,0,none⟩),.pointer (some ⟨PZ,0,none⟩),.slice (some ⟨uv.heap.size,0,none⟩) 1 1] 136)) (uv.heap.size+1) 136 #[.int .i64 0,.pointer none,.pointer (some ⟨d0,0,none⟩),.pointer (some ⟨PZ,0,none⟩),.slice (some ⟨uv.heap.size,0,none⟩) 1 1]:=by
  have:=Blk.new (uv.alloc (.cells #[.int .i64 1,.string (bs [46])] 113)) 136 #[.int .i64 0,.pointer none,.pointer (some ⟨d0,0,none⟩),.pointer (some ⟨PZ,0,none⟩),.slice (some ⟨uv.heap.size,0,none⟩) 1 1]
  rwa [show (uv.alloc (.cells #[.int .i64 1,.string (bs [46])] 113)).heap.size=uv.heap.size+1 from aZ _] at this
 obtain ⟨a0,Wf⟩:∃a,a=uv.heap.size+1:=⟨_,rfl⟩;obtain ⟨r0,EE⟩:∃r,r=uv.heap.size:=⟨_,rfl⟩;rw [<-Wf,<-EE] at ha;rw [<-EE] at hr;obtain ⟨wa0,GO⟩:∃wa,wa=(uv.alloc (.cells #[.int .i64 1,.string (bs [46])] 113)).alloc (.cells #[.int .i64 0,.pointer none,.pointer (some ⟨d0,0,none⟩),.pointer (some ⟨PZ,0,none⟩),.slice (some ⟨r0,0,none⟩) 1 1] 136):=⟨_,rfl⟩;have GJ:=GO;rw [EE] at GJ;rw [<-EE] at GJ;rw [<-EE,<-GO] at eN;rw [<-GO] at hr ha;have hHa:dG (PB wa0 a0 0 d0 r0 1 (.pointer (some ⟨PZ,0,none⟩))):=dH ⟨ha⟩;have GK:Below uv.heap.size uv wa0:=by rw [EE] at eN;exact eN
 have WB:=dH (GF.trans (GK.mono GF.size));have hdw:=(sW.o.later hb).later GK;have PU:=dH (DY 0 (by decide) hHa.o (DZ (B':=0) hdw rfl) hr.lt (hr.cell 0) (hr.cell 1) (by omega) (by omega));have acj:=dH (show wa0=(uv.alloc (.cells #[.int .i64 1,.string ⟨#[46]⟩] 113)).alloc (.cells #[.int .i64 0,.pointer none,.pointer (some ⟨d0,0,none⟩),.pointer (some ⟨PZ,0,none⟩),.slice (some ⟨r0,0,none⟩) 1 1] 136) from GO);have ack:=dH Wf;have acm:=dH EE;have aal:s0.heap.size<=a0/\a0 < wa0.heap.size:=⟨by have:=GF.size;omega,ha.lt⟩;have adj:d0 < a0/\nb0 < a0:=by omega
 clear hb GF eN GK hr ha Wf EE GO GJ hdw hwf;go_upto_region 14 with (fail);rw [<-ack.o,<-acm.o,<-acj.o];go_wp2_with fail;refine PU.o.mono ?_;rintro e On ⟨D0,F0,rfl,Pb,hab,hk,hF⟩;have aam:=dH Pb;have WC:=dH hab;have E3:dG (Below s0.heap.size s0 On):=dH (eS WB.o hk (fun i hi=>by rcases hi with h|h|h <;> omega) WB.o.size);have Re:dG (∀i,F0 i->s0.heap.size<=i/\i < On.heap.size/\i≠a0):=dH (fun i hi=> ⟨by
   have h1:=WB.o.size;rcases hF i hi with h|h|h <;> omega,Pb.bnd i hi,by
   rcases hF i hi with h|h|h <;> omega⟩)
 have hwo:wa0.heap.size<=On.heap.size:=hk.size;have HC:=dH (HC0.o.below E3.o hC0);have HN:=dH (HN0.o.below E3.o);have c0:=HC.o.cell 0;simp at c0;clear Pb hab hk hF PU hHa;go_wp2_with (at_builtin;refine dU _ rfl (.tmp 56) (.tmp 58) 126 126 rfl 132 j0 (.pointer none) 1 underlying126 HJ.o uo.o zc.o rfl (by decide) rfl _ rfl 1 (by decide) [.pointer (some ⟨a0,0,none⟩)] (Src.one underlying126 (by simp [go_sem]) rfl) (by decide) (by rw [ze.o];decide) ?_)
 intro cap wp hown hbp;have GL:Below On.heap.size On wp:=((aC _ _).alloc (aB _) _).trans (hbp.mono (by simp));obtain ⟨g0,KX⟩:=dB (On.heap.size+1);rw [<-KX] at hown;have Rs:=HC.o.below GL HC.o.lt;have e0:=Rs.cell 0;simp at e0;have y0:=Rs.frozen 0;have hks:dY (fun i=>i=C) wp (wp.setCell ⟨C,0,none⟩ (.slice (some ⟨g0,0,none⟩) 1 cap)):=de (S:=fun i=>i=C) (eX (fun i=>i=C) wp) ⟨C,0,none⟩ _ (fun _=>rfl);have hB:=Rs.set_ 0 (.slice (some ⟨g0,0,none⟩) 1 cap);simp only [aH,aD] at hB;have h1w:=GL.size;have acn:=(dN.ge hown g0 rfl);have Bc:=dH hB;have Dm:=dH ((HN.o.below GL).kp hks (fun i hi h=>by rcases h with h|h;exact hgC (by rw [<-h,hi]);cases h));have Sn:=dH (dN.mono (B':=s0.heap.size) (dN.kp hown hks (fun g hg e=>by have h9:=(dN.ge hown g hg).1;have:=E3.o.size;omega)) (by have:=E3.o.size;omega));have O6:=dH ((WC.o.below GL WC.o.lt).kp hks (fun e=>by omega));have V1:=dH ((aam.o.later GL).kp hks (fun i hi e=>by have:=Re.o i hi;omega));have HBs:dG (s0.heap.size<=(wp.setCell ⟨C,0,none⟩ (.slice (some ⟨g0,0,none⟩) 1 cap)).heap.size/\On.heap.size < (wp.setCell ⟨C,0,none⟩ (.slice (some ⟨g0,0,none⟩) 1 cap)).heap.size):=dH (by have h2:=hks.size;have h3:=E3.o.size;constructor <;> omega);have eH:=dH (((wY.o.trans (E3.o.mono wY.o.size)).trans (GL.mono (by have:=E3.o.size;omega))).setCell (p:=⟨C,0,none⟩) hCw (.slice (some ⟨g0,0,none⟩) 1 cap));obtain ⟨s1,hs1⟩:=dB (wp.setCell ⟨C,0,none⟩ (.slice (some ⟨g0,0,none⟩) 1 cap));rw [<-hs1] at Bc Dm Sn O6 V1 HBs eH;have hw1:w.heap.size<=s1.heap.size:=eH.o.size;have tZ:=dH hs1;have HG0:=dH KX;have hC1:C < s1.heap.size:=Bc.o.lt;have aan:∀i,F0 i->s0.heap.size<=i/\i < On.heap.size/\i≠a0:=Re.o;have KT:=dH aan;have acF:On.heap.size < g0/\a0 < On.heap.size/\s0.heap.size<=a0/\On.heap.size < s1.heap.size:=⟨by omega,by omega,by omega,HBs.o.2⟩;have PK:=O6.o.lt;have hg1:=(dN.ge Sn.o g0 rfl).2;clear hown hbp GL KX Rs hks hB hs1 aan HC HN aam WC E3 Re c0 h1w acn aaj aak aal hwo HBs;rw [<-HG0.o];go_upto_region 18 with (fail);rw [<-tZ.o];clear e0 y0;go_wp2_with fail;rw [rounds_succ];go_wp2_with fail;refine (Dk.new_any 1048576 (by decide) (by decide) _).mono ?_;rintro e wd1 ⟨d1,nb1,fb1,rfl,hd,hb,tX,hd2,KG⟩;have Sw:=dH hd;have aao:=dH hb;have aaj:s1.heap.size<=d1/\d1 < wd1.heap.size:=⟨tX,hd.blk.lt⟩;have aak:s1.heap.size<=nb1/\nb1 < wd1.heap.size:=⟨hd2,hd.now.lt⟩;clear hd hb tX hd2 KG;go_wp2_with fail;refine (yl _).mono ?_;rintro e uw ⟨Pa,rfl,hb⟩;have GF:=aao.o.trans (hb.mono aao.o.size);have hwf:wd1.heap.size<=uw.heap.size:=hb.size;have eN:Below uw.heap.size uw ((uw.alloc (.cells #[.int .i64 1,.string (bs [46])] 113)).alloc (.cells #[.int .i64 1,.pointer none,.pointer (some ⟨d1,0,none⟩),.pointer (some ⟨Pa,0,none⟩),.slice (some ⟨uw.heap.size,0,none⟩) 1 1] 136)):=((aC _ uw).alloc (aB _) _).alloc (by simp) _;have hr:Blk ((uw.alloc (.cells #[.int .i64 1,.string (bs [46])] 113)).alloc (.cells #[.int .i64 1,.pointer none,.pointer (some ⟨d1,0,none⟩),.pointer (some ⟨Pa,0,none⟩),.slice (some ⟨uw.heap.size,0,none⟩) 1 1] 136)) uw.heap.size 113 #[.int .i64 1,.string (bs [46])]:=(Blk.new uw 113 _).alloc _;have ha:Blk ((uw.alloc (.cells #[.int .i64 1,.string (bs [46])] 113)).alloc (.cells #[.int .i64 1,.pointer none,.pointer (some ⟨d1,0,none⟩),.pointer (some ⟨Pa,0,none⟩),.slice (some ⟨uw.heap.size,0,none⟩) 1 1] 136)) (uw.heap.size+1) 136 #[.int .i64 1,.pointer none,.pointer (some ⟨d1,0,none⟩),.pointer (some ⟨Pa,0,none⟩),.slice (some ⟨uw.heap.size,0,none⟩) 1 1]:=by
  have:=Blk.new (uw.alloc (.cells #[.int .i64 1,.string (bs [46])] 113)) 136 #[.int .i64 1,.pointer none,.pointer (some ⟨d1,0,none⟩),.pointer (some ⟨Pa,0,none⟩),.slice (some ⟨uw.heap.size,0,none⟩) 1 1]
  rwa [show (uw.alloc (.cells #[.int .i64 1,.string (bs [46])] 113)).heap.size=uw.heap.size+1 from aZ _] at this
 obtain ⟨a1,Wf⟩:∃a,a=uw.heap.size+1:=⟨_,rfl⟩;obtain ⟨r1,EE⟩:∃r,r=uw.heap.size:=⟨_,rfl⟩;rw [<-Wf,<-EE] at ha;rw [<-EE] at hr;obtain ⟨XS,GO⟩:∃wa,wa=(uw.alloc (.cells #[.int .i64 1,.string (bs [46])] 113)).alloc (.cells #[.int .i64 1,.pointer none,.pointer (some ⟨d1,0,none⟩),.pointer (some ⟨Pa,0,none⟩),.slice (some ⟨r1,0,none⟩) 1 1] 136):=⟨_,rfl⟩;have GJ:=GO;rw [EE] at GJ;rw [<-EE] at GJ;rw [<-EE,<-GO] at eN;rw [<-GO] at hr ha;have hHa:dG (PB XS a1 1 d1 r1 1 (.pointer (some ⟨Pa,0,none⟩))):=dH ⟨ha⟩;have GK:Below uw.heap.size uw XS:=by rw [EE] at eN;exact eN
 have WD:=dH (GF.trans (GK.mono GF.size));have hdw:=(Sw.o.later hb).later GK;have PU:=dH (DY 1 (by decide) hHa.o (DZ (B':=0) hdw rfl) hr.lt (hr.cell 0) (hr.cell 1) (by omega) (by omega));have aco:=dH (show XS=(uw.alloc (.cells #[.int .i64 1,.string ⟨#[46]⟩] 113)).alloc (.cells #[.int .i64 1,.pointer none,.pointer (some ⟨d1,0,none⟩),.pointer (some ⟨Pa,0,none⟩),.slice (some ⟨r1,0,none⟩) 1 1] 136) from GO);have acp:=dH Wf;have acq:=dH EE;have aal:s1.heap.size<=a1/\a1 < XS.heap.size:=⟨by have:=GF.size;omega,ha.lt⟩;have adk:d1 < a1/\nb1 < a1:=by omega
 clear hb GF eN GK hr ha Wf EE GO GJ hdw hwf;go_upto_region 14 with (fail);rw [<-acp.o,<-acq.o,<-aco.o];go_wp2_with fail;refine PU.o.mono ?_;rintro e wo1 ⟨D1,F1,rfl,Pb,hab,hk,hF⟩;have acr:=dH Pb;have acs:=dH hab;have E4:dG (Below s1.heap.size s1 wo1):=dH (eS WD.o hk (fun i hi=>by rcases hi with h|h|h <;> omega) WD.o.size);have uf:dG (∀i,F1 i->s1.heap.size<=i/\i < wo1.heap.size/\i≠a1):=dH (fun i hi=> ⟨by
   have h1:=WD.o.size;rcases hF i hi with h|h|h <;> omega,Pb.bnd i hi,by
   rcases hF i hi with h|h|h <;> omega⟩)
 have hwo:XS.heap.size<=wo1.heap.size:=hk.size;have HC:=dH (Bc.o.below E4.o hC1);have HN:=dH (Dm.o.below E4.o);have c0:=HC.o.cell 0;simp at c0;clear Pb hab hk hF PU hHa;have hO:=dN.below Sn.o E4.o;go_wp2_with (at_builtin;refine dZ _ rfl (.tmp 56) (.tmp 58) 126 126 rfl 132 j0 (.pointer none) 1 underlying126 HJ.o uo.o zc.o rfl (by decide) s0.heap.size _ 1 [.pointer (some ⟨a0,0,none⟩)] rfl (dN.alloc hO _) _ rfl 1 [.pointer (some ⟨a1,0,none⟩)] (Src.one underlying126 (by simp [go_sem]) rfl) (by decide) (by rw [ze.o];decide) (by have:=E4.o.size;simp;omega) ?_)
 intro vp wp hown oy gE;obtain ⟨gA,cA,rfl,-,SB,aaL,aaM,hcells,-⟩:=hown.form (by decide);have Sy:gA=g0\/wo1.heap.size < gA:=by
  rcases gE with h1|h1
  ·left;cases h1;rfl
  ·right;cases h1;simp
 have hkp:dY (fun i=>i=g0) wo1 wp:=eB (ql (eX _ _) _) (ep (S:=fun i=>i=g0) oy (fun i hi=>by cases hi;rfl)) (fun _ _ h=>h);have hCg:C≠g0:=by omega
 have Rs:=HC.o.kp hkp hCg;have e0:=Rs.cell 0;simp at e0;have y0:=Rs.frozen 0;have hks:dY (fun i=>i=C) wp (wp.setCell ⟨C,0,none⟩ (.slice (some ⟨gA,0,none⟩) 2 cA)):=de (S:=fun i=>i=C) (eX (fun i=>i=C) wp) ⟨C,0,none⟩ _ (fun _=>rfl);have hB:=Rs.set_ 0 (.slice (some ⟨gA,0,none⟩) 2 cA);simp only [aH,aD] at hB;have hso:=E4.o.size;have WE:gA≠C:=by rcases Sy with h|h <;> omega
 have q0:=hcells 0 _ rfl;have q1:=hcells 1 _ rfl;have aap:cA<=9223372036854775807:=by unfold maxLen at aaM;omega
 have Dr:=(HN.o.kp hkp (fun i hi h=>by rcases h with h|h;omega;cases h)).kp hks (fun i hi h=>by rcases h with h|h;exact hgC (by rw [<-h,hi]);cases h);have hA0:=((O6.o.below E4.o PK).kp hkp (fun e=>by omega)).kp hks (fun e=>by omega);have aaq:=(acs.o.kp hkp (fun e=>by omega)).kp hks (fun e=>by omega);have hV0:=((V1.o.later E4.o).kp hkp (fun i hi e=>by have:=KT.o i hi;omega)).kp hks (fun i hi e=>by have:=KT.o i hi;omega);have V0:=(acr.o.kp hkp (fun i hi e=>by have:=uf.o i hi;omega)).kp hks (fun i hi e=>by have:=uf.o i hi;omega);have aar:=(aI (a:=⟨gA,0,none⟩) (hks.block gA SB WE)).trans q0;have aas:=(aI (a:=⟨gA,1,none⟩) (hks.block gA SB WE)).trans q1;have hJ:mV (wp.setCell ⟨C,0,none⟩ (.slice (some ⟨gA,0,none⟩) 2 cA)) ⟨C,gN,gA,cA,a0,a1,D0,D1,.pointer (some ⟨d0,0,none⟩),.pointer (some ⟨PZ,0,none⟩),.slice (some ⟨r0,0,none⟩) 1 1,.pointer (some ⟨d1,0,none⟩),.pointer (some ⟨Pa,0,none⟩),.slice (some ⟨r1,0,none⟩) 1 1⟩ F0 F1 (.slice none 0 0) [] [] [] [] [] 0:=
  ⟨hB,aN SB hks.size,aar,aas,⟨aaL,aap⟩,hA0,aaq,hV0,V0,Dr,
   fun i h h'=>by have:=KT.o i h;have:=uf.o i h';omega,
   fun i h h'=>by have:=KT.o i h;(rcases h' with h'|h';(simp only at h';omega);cases h'),
   fun i h h'=>by have:=uf.o i h;(rcases h' with h'|h';(simp only at h';omega);cases h'),
   fun i hi h=>by have:=KT.o i h;rcases hi with e|e|e|e <;> rcases Sy with h2|h2 <;> simp only at e <;> omega,
   fun i hi h=>by have:=uf.o i h;rcases hi with e|e|e|e <;> rcases Sy with h2|h2 <;> simp only at e <;> omega,
   fun i hi h=>by rcases h with h|h;(rcases hi with e|e|e|e <;> rcases Sy with h2|h2 <;> simp only at e h <;> omega);(cases h)⟩
 have HJJ:=dH hJ;have EJ:=dH ((eS (eH.o.trans (E4.o.mono hw1)) hkp (fun i hi=>by rw [hi];omega) (by omega)).setCell (p:=⟨C,0,none⟩) hCw (.slice (some ⟨gA,0,none⟩) 2 cA));have HU:dG (∀i,CU ⟨C,gN,gA,cA,a0,a1,D0,D1,.pointer (some ⟨d0,0,none⟩),.pointer (some ⟨PZ,0,none⟩),.slice (some ⟨r0,0,none⟩) 1 1,.pointer (some ⟨d1,0,none⟩),.pointer (some ⟨Pa,0,none⟩),.slice (some ⟨r1,0,none⟩) 1 1⟩ F0 F1 (.slice none 0 0) i->w.heap.size<=i):=dH (fun i hi=>by
  rcases hi with h|h|h|h
  ·have:=KT.o i h;omega
  ·have:=uf.o i h;omega
  ·simp only at h;omega
  ·cases h)
 clear hJ hO hown oy gE Sy hkp Rs hks hB hso WE q0 q1 aaL aaM aap Dr hA0 aaq hV0 V0 aar aas hcells SB;go_wp2_with fail;rw [rounds_succ];go_wp2_with fail;go_ret2;exact ⟨_,rfl,_,⟨_,_,_,HJJ.o,gT.below _ (aC _ _)⟩,HU.o,EJ.o⟩
theorem awake_any (w:World):Calls prog 7 #[] w (dJ w (.bool true)):=by
 have e97:(⟨#[97]⟩:ByteArray)=bs [97]:=rfl;have adl:(⟨#[120]⟩:ByteArray)=bs [120]:=rfl;have hx:(bs [120] ==(⟨#[120]⟩:ByteArray))=true:=by decide
 have HX:=dH hx;clear hx;go_enter func7,ntmps7;go_wp2_with fail;refine (RG _).mono ?_;rintro e w1 ⟨x,rfl,U0,hc,hU,hb⟩;have HU:=dH hU;have HB:=dH hb;clear hU hb;have HC:=dH (Nb hc);clear hc;go_wp2_with fail;refine HC.o.mono ?_;rintro e w2 ⟨rfl,hc⟩;have HM:=dH (Ni hc);clear hc HC;go_wp2_with fail;refine HM.o.mono ?_;rintro e w3 ⟨n,rfl,hc⟩;have dw:=dH (eS HB.o hc.stp HU.o HB.o.size);have HD:=dH (RE hc);obtain ⟨F0,F1,v,hj,-⟩:=hc;have HF:=dH (NM hj.d1);clear hj HM;go_wp2_with fail;refine HD.o.mono ?_;rintro e w5 ⟨rfl,rfl⟩;go_wp2_with fail;refine HF.o.mono ?_;rintro e w6 ⟨rfl,hb⟩;have jc:=dF dw hb;clear hb;have hx:=HX.o;go_wp2_with fail;go_ret;exact ⟨rfl,jc.o⟩
end
section
open Go.RowKit
theorem wW {x:dV} (h:r9 x=0):rightS x.st=true/\Ad x=false/\shapedB x=true:=by
 unfold r9 at h;cases h1:rightS x.st <;> cases h2:seqB x <;> cases h3:Ad x <;> cases h4:shapedB x <;> simp [h1,h2,h3,h4] at h ⊢
theorem Ju {x:dV} (h:r9 x=0):rightS x.node=true:=by
 obtain ⟨h1,_,h3⟩:=wW h;unfold shapedB at h3;by_cases k1:x.kind=1
 ·rw [if_pos k1] at h3
  simp only [bL,decide_eq_true_eq] at h3;have e:x.node=x.st:=by
   have:=congrArg dV.node h3.1.1.1;exact this
  rw [e];exact h1
 rw [if_neg k1] at h3;by_cases k2:x.kind=2
 ·rw [if_pos k2] at h3;simp only [bL] at h3;exact h3.2
 rw [if_neg k2] at h3;by_cases k3:x.kind=3
 ·rw [if_pos k3] at h3;simp only [bL] at h3;exact h3.1.2
 rw [if_neg k3] at h3;by_cases k4:x.kind=4
 ·rw [if_pos k4] at h3;simp only [bL] at h3;exact h3.2
 rw [if_neg k4] at h3;cases h3
theorem Ho {x:dV} (h:r9 x=0) (hk:x.kind=1\/x.kind=2):rightN x.nm=true:=by
 obtain ⟨_,h2,_⟩:=wW h;unfold Ad at h2;have:(decide (x.kind=1) || decide (x.kind=2))=true:=by simpa using hk
 rw [this,Bool.true_and] at h2;simpa using h2
def wX (L:List dV):Prop:=∀x∈L,r9 x=0
def Ft (xs:List Nd):Prop:=∀n∈xs,rightN n.nm=true
theorem Ua {xs:List Nd} (h:Ft xs) {x:dV} (hx:r9 x=0):Ft (uR xs x):=by
 rcases Tr.doN_cases xs x with e| ⟨y,_,hk,_,hyd,e⟩| ⟨k,hk,_,hk1,ht,e⟩
 ·rw [e];exact h
 ·rw [e]
  intro z hz;rcases Tr.mem_grow_cases hz with rfl|hz
  ·rw [hyd];exact Ho hx (.inl hk)
  ·exact h z hz
 ·rw [e]
  intro z hz;rcases List.mem_or_eq_of_mem_set hz with hz|rfl
  ·exact h z hz
  ·have hm:=h _ (ag hk)
   unfold fe at ht ⊢;by_cases h2:x.kind=2
   ·rw [if_pos h2];exact Ho hx (.inr h2)
   ·rw [if_neg h2]
    by_cases h3:x.kind=3
    ·rw [if_pos h3];exact hm
    ·rw [if_neg h3]
     by_cases h4:x.kind=4
     ·rw [if_pos h4];exact hm
     ·rw [if_neg h4];exact hm
theorem Nj {L:List dV} (h:wX L):Ft (fN L):=by
 have:∀(l:List dV) (xs:List Nd),Ft xs->wX l->Ft (l.foldl uR xs):=by
  intro l;induction l with
  |nil=>intro xs h _;exact h
  |cons x l ih=>intro xs h hl;exact ih _ (Ua h (hl x List.mem_cons_self)) (fun y hy=>hl y (List.mem_cons_of_mem _ hy))
 exact this L [] (fun _ h=>absurd h bJ) h
theorem Jv {L:List dV} (h:wX L):Tr.Tree (fN L):=Tr.Tree.fold_ L (by unfold Tr.ownB;rw [List.all_eq_true];exact fun x hx=>Ju (h x hx))
theorem Nk (L:List dV):(fN L).length<=L.length:=by
 rw [(wK L).length_eq];exact oe L
theorem Nl {L:List dV} {x:dV} (h:wX L) (hx:r9 x=0):wX (k9 L x):=by
 unfold k9;split
 ·unfold ox
  intro y hy;rcases aj.1 hy with hy|hy
  ·exact h y (cW hy)
  ·rcases aR.1 hy with rfl|hy
   ·exact hx
   ·exact h y (cL hy)
 ·exact h
theorem RH (L:List dV) (x:dV):(k9 L x).length<=L.length+1:=by
 unfold k9;split
 ·unfold ox
  rw [aO,aQ,aX,ax];omega
 ·omega
theorem Da {xs:List Nd} (h:Tr.Tree xs) {j k:Nat} (hj:j < k) (hk:k < xs.length):dX (xs[j]'(by omega)).id xs[k].id=true:=dA.1 h.sorted j k (by omega) hk hj
theorem zW:∀(s:By),((eW s).map fun p=>p.length+1).sum=s.length+1
 | []=>rfl
 |c :: r=>by
  have ih:=zW r;rw [eW];split
  ·simp only [ai,List.sum_cons,ah,ih,aQ];omega
  ·cases hs:eW r with
   |nil=>rw [hs] at ih;simp at ih
   |cons p ps=>
    rw [hs] at ih;simp only [ai,List.sum_cons,aQ] at ih ⊢;omega
theorem Ub {l:List By} (h:∀p∈l,p.length<=24):(l.map fun p=>p.length+1).sum<=25*l.length:=by
 induction l with
 |nil=>simp
 |cons p l ih=>
  have h1:=h p List.mem_cons_self;have h2:=ih (fun q hq=>h q (List.mem_cons_of_mem _ hq));simp only [ai,List.sum_cons,aQ];omega
theorem Db {s:By} (h:nk s=true):s.length<=400:=by
 unfold nk at h;simp only [bL,decide_eq_true_eq,List.all_eq_true] at h;have h1:=Ub (l:=eW s) (fun p hp=>(fR.1 (h.2 p hp)).2.1);rw [zW] at h1;omega
theorem Jw {ys:List It} (hu:(ys.map It.id).Nodup) {u:It} (hm:u∈ys) {s:St} (hs:u.id=s):kg (oE s) ys=u/\sB (oE s) ys=true:=by
 have hf:ys.find? (oE s)=some u:=by
  induction ys with
  |nil=>cases hm
  |cons y ys ih=>
   rw [ai,List.nodup_cons] at hu;rw [List.find?_cons];rcases aR.1 hm with rfl|hm
   ·rw [show oE s u=true from decide_eq_true hs]
   ·have hn:oE s y=false:=decide_eq_false fun e=>hu.1 (by rw [e,<-hs];exact aV.2 ⟨u,hm,rfl⟩)
    rw [hn];exact ih hu.2 hm
 unfold kg sB;rw [hf];exact ⟨rfl,rfl⟩
structure Uc (xs:List Nd) (ys:List It) (it:It):Prop where
 path:nk it.path=true
 len:it.path.length<=400
 has:ek it.id xs=true
 up:(eP it.id xs).par=(0,0)\/((eP it.id xs).par≠(0,0)/\sB (oE (eP it.id xs).par) ys=true/\(kg (oE (eP it.id xs).par) ys).dir=true/\lS it.path (kg (oE (eP it.id xs).par) ys).path=true/\(kg (oE (eP it.id xs).par) ys).path.length<=400)
theorem RI {xs:List Nd} (ht:Tr.Tree xs) (hx:xs.length<=80) (hr:Ft xs) {ys:List It} (h:iC xs=some ys) {it:It} (hi:it∈ys):Uc xs ys it:=by
 obtain ⟨n,h1,h2,h3,h4⟩:=CH hx hr h hi;obtain ⟨e1,e2⟩:=ht.uniq.find h1;rw [h2] at e1 e2;refine ⟨h3,Db h3,e2,?_⟩;rw [e1];by_cases h0:n.par=(0,0)
 ·exact .inl h0
 ·rcases h4 with h4| ⟨u,hu,k1,k2,k3⟩
  ·exact absurd h4 h0
  ·obtain ⟨p1,p2⟩:=Jw (Im hx hr h) hu k1
   rw [p1];obtain ⟨n',_,_,h3',_⟩:=CH hx hr h hu;exact .inr ⟨h0,p2,k2,k3,Db h3'⟩
theorem Nn {xs:List Nd} (hx:xs.length<=80) (hr:Ft xs) {ys:List It} (h:iC xs=some ys) {j k:Nat} (hj:j < k) (hk:k < ys.length):(ys[j]'(by omega)).path < ys[k].path:=by
 obtain ⟨_,_,_,h4⟩:=nr hx hr h;exact dA.1 h4 j k (by omega) hk hj
end
section
open Go.RowKit
attribute [local go_sem] dO dL dQ dM
theorem Dc {a b:St} {W:World} (x:dm W) {r:Bool} (hr:dX a b=r):Calls prog 12 #[.agg #[.int .i64 a.1,.int .i64 a.2],.agg #[.int .i64 b.1,.int .i64 b.2]] x.wd fun e w'=>e=.returned (.bool r)/\∃y:dm W,w'=y.wd:=fU (by rw [<-hr];exact C4 a b x.wd)
theorem law_toptree (A:Option Addr) (n c:Nat) (l:List dV) (w:World) (hx:Ia w A n c l):
  Calls prog 3 #[.slice A n c] w (dJ w (.bool true)):=by
 have hn:=hx.len;have qJ:=hx.max;have hle:=hx.le;have HX:=dH hx;have aat:=dH (NF w);have HAw:=dH awake_any;clear hx;cases hfb:DP l with
 |false=>
  have HFb:=dH hfb;clear hfb;go_enter func3,ntmps3;go_wp2_with fail;refine aat.o.mono ?_;rintro e w1 ⟨rfl,hL⟩;have HF:=dH (H8 A n c l w1 (HX.o.below hL.below));rw [HFb.o] at HF;have eH:=dH hL.below;clear hL;go_wp2_with fail;refine HF.o.mono ?_;rintro e w2 ⟨rfl,dS⟩;have eG:=dF eH dS;clear dS;go_wp2_with fail;refine (HAw.o w2).mono ?_;rintro e w3 ⟨rfl,di⟩;have dw:=dF eG di;clear di;go_wp2_with fail;go_ret;exact ⟨rfl,dw.o⟩
 |true=>
  have HFb:=dH hfb;have HM:dG (n<=60):=dH (by have:=RA hfb;omega);clear hfb;go_enter func3,ntmps3;go_wp2_with fail;refine aat.o.mono ?_;rintro e w1 ⟨rfl,hL⟩;have HF:=dH (H8 A n c l w1 (HX.o.below hL.below));rw [HFb.o] at HF;have HL:=dH hL;clear hL;go_wp2_with fail;refine HF.o.mono ?_;rintro e w2 ⟨rfl,dS⟩;have EM:=dH (HL.o.then_ dS);clear dS HL HF;go_wp2_with fail;go_loopw [4] (fun i wr=>∃k:Nat,k<=n/\i=.int .i64 k/\∃v r L,Live w wr (w.heap.size+1) w.heap.size v r L/\dG (wX L)/\L.length<=k) (fun i _=>n - (intOf i).toNat)
  case atStart=>exact ⟨0,by omega,rfl,_,_,_,EM.o,dH (fun x hx=>by cases hx),by simp⟩
  case round=>
   obtain ⟨k,hk,rfl,v,r,L,hL,HG,hLl⟩:=hrel;rcases aG k n with hlt|hge
   ·have hkl:k < l.length:=by omega
    have hki:(k:Int) < (n:Int):=by omega
    obtain ⟨b,off,rfl,jY,c0,c1,c2',c3,c4,c5,c6,c7,c8,c9,jt,m1,m2⟩:=Ia.at_ (HX.o.below hL.below) hkl;have hop:P7 l[k]:=⟨m1,m2⟩;generalize l[k]=x at*;have HL:=dH hL;have HR:=dH (jL x m1 m2 wr);unfold ov at HR;obtain ⟨rc,hrc⟩:=dB (r9 x);rw [<-hrc] at HR;have HRc:=dH hrc;have PU:=dH hop;clear hL hrc hop m1 m2;by_cases Wx:rc=0
    ·subst Wx
     go_wp2_with fail;refine HR.o.mono ?_;rintro e w3 ⟨rfl,di⟩;have HL3:=dH (HL.o.then_ di);have c0:=dP di jY c0;have c1:=dP di jY c1;have c2':=dP di jY c2';have c3:=dP di jY c3;have c4:=dP di jY c4;have c5:=dP di jY c5;have c6:=dP di jY c6;have c7:=dP di jY c7;have c8:=dP di jY c8;have c9:=dP di jY c9;have jt:=dP di jY jt;have HIn:=dH (DO x PU.o _ _ v r L w w3 HL3.o);unfold ov at HIn;clear di jY HR HL;go_wp2_with fail;refine HIn.o.mono ?_;rintro e w4 ⟨v4,rfl,hL4,-,-⟩;have Hu:dG (wX (k9 L x)):=dH (Nl HG.o HRc.o.symm);have XM:(k9 L x).length<=k+1:=by have:=RH L x;omega
     have HL4:=dH hL4;clear hL4 HIn HL3 c0 c1 c2' c3 c4 c5 c6 c7 c8 c9 jt;generalize R9 r L x=r4 at*;generalize k9 L x=L4 at*;obtain ⟨co,hco⟩:=dB (iU L x);rw [<-hco];clear hco;by_cases hc0:co=0
     ·subst hc0
      have HNd:=dH (Ff HL4.o);go_wp2_with fail;refine HNd.o.mono ?_;rintro e w5 ⟨A5,c5,rfl,RS,eu⟩;have PE:=dH RS;have HL5:=dH (HL4.o.then_ eu);have hTr:=dH (Jv Hu.o);have hNm:=dH (Nj Hu.o);have hl5:(fN L4).length<=60:=by have:=Nk L4;have:=HM.o;omega
      clear eu RS HNd HL4;generalize fN L4=xs at*;obtain ⟨n5,hn5⟩:=dB xs.length;rw [<-hn5] at PE hl5 ⊢;have adm:n5<=xs.length:=by omega
      have adn:xs.length<=n5:=by omega
      clear hn5;go_wp2_with fail;go_loopw [6] (fun i ws=>∃j:Nat,j<=n5/\i=.int .i64 j/\Below w5.heap.size w5 ws) (fun i _=>n5 - (intOf i).toNat)
      case atStart=>exact ⟨0,by omega,rfl,aC _ _⟩
      case round=>
       obtain ⟨j,hj,rfl,ER⟩:=hrel;rcases aG j n5 with hjl|hjg
       ·have hji:(j:Int) < (n5:Int):=by omega
        have Ru:j < xs.length:=by omega
        obtain ⟨b5,SD,rfl,Oz,d0,d1,_⟩:=lq.at_ (PE.o.below ER) Ru;obtain ⟨cn,rr,hc1,-,-,YY,hc5⟩:=hTr.o.chain (ag Ru);have XN:=dH ER;have HS:=dH (PE.o.below ER);have E5:∀(i:Nat),j=i+1->∃z:Nd,dX z.id xs[j].id=true/\wr.cell? ⟨b5,SD+i*7,none⟩=some (.int .i64 z.id.1)/\wr.cell? ⟨b5,SD+i*7+1,none⟩=some (.int .i64 z.id.2):=fun i hi=>by
         have hil:i < xs.length:=by omega
         obtain ⟨b2,off2,e2,_,g0,g1,_⟩:=lq.at_ HS.o hil;cases e2;exact ⟨xs[i],Da hTr.o (by omega) Ru,g0,g1⟩
        have XO:=dH E5;generalize xs[j]=y at*;have VD:=dH (yV y.id _ n5 c5 xs wr HS.o (by omega));unfold sv at VD;have Bc:=dH hc1;have HC4:=dH YY;clear E5 ER Ru hc1 YY;go_wp2_with fail;refine VD.o.mono ?_;rintro e w6 ⟨v6,rfl,hO6,iW⟩;obtain ⟨A6,cc6,rfl,PL⟩:=hO6.sts;rw [Bc.o] at PL ⊢;have hcl:=Bc.o;obtain ⟨b6,adB,rfl,adC,g4,g5⟩:=TY.at_ PL (k:=cn+1) (by omega);have q2:(i6 xs y.id)[cn+1]=rr:=by have:=HC4.o;rw [bf (by omega)] at this;exact aa this
        rw [q2] at g4 g5;have ado:=PL.le;have adp:=PL.max;have tY:decide ((cn:Int)+2 < 2)=false:=decide_eq_false (by omega);have jc:=dF XN iW;have d0:=dP iW Oz d0;have d1:=dP iW Oz d1;have WG:dG (∀(i:Nat),j=i+1->∃z:Nd,dX z.id y.id=true/\w6.cell? ⟨b5,SD+i*7,none⟩=some (.int .i64 z.id.1)/\w6.cell? ⟨b5,SD+i*7+1,none⟩=some (.int .i64 z.id.2)):=dH fun i hi=>by
         obtain ⟨z,h1,h2,h3⟩:=XO.o i hi;exact ⟨z,h1,dP iW Oz h2,dP iW Oz h3⟩
        clear q2 hcl hO6 iW PL VD XO Oz;have m0:=fun x1:dm w6=>x1.cell d0
        have m1:=fun x1:dm w6=>x1.cell d1
        have m4:=fun x1:dm w6=>x1.cell g4
        have m5:=fun x1:dm w6=>x1.cell g5
        by_cases hj0:(j:Int) > 0
        ·obtain ⟨z,hlz,e0,e1⟩:=WG.o (j - 1) (by omega)
         have HLs:=dH hlz;have hd:decide ((j:Int) > 0)=true:=decide_eq_true hj0;have hdn:decide (0 < j)=true:=decide_eq_true (by omega);have hw1:IntKind.i64.wrap ((j:Int) - 1)=(j:Int) - 1:=IntWalk.i64_in _ (by omega);have eV:0<=(j:Int) - 1:=by omega
         have iI:(j:Int) - 1 < (n5:Int):=by omega
         have uP:((j:Int) - 1).toNat=j - 1:=by omega
         clear hlz hj0 WG;have l0:=fun x1:dm w6=>x1.cell e0
         have l1:=fun x1:dm w6=>x1.cell e1
         rcases hc5 with rfl|rfl
         all_goals
          dsimp only at g4 g5 m4 m5;go_upto_region 13 with (fail);refine eD (by kernel_rfl) (by kernel_rfl) ?_;repeat (go_big_quiet_step ((go_at_call 12;exact Dc _ HLs.o)))
          refine wpQuiet_nil ?_;rintro _ ⟨x1,rfl⟩;have jl:=dH (jc.o.trans (x1.below.mono jc.o.size));generalize x1.wd=w7 at*;clear l0 l1 e0 e1 m0 m1 m4 m5 x1 d0 d1 g4 g5;go_wp2_with fail;exact ⟨⟨j+1,by omega,by go_num,jl.o⟩,by simp [intOf];omega⟩
        ·have hd:decide ((j:Int) > 0)=false:=decide_eq_false hj0
         have hdn:decide (0 < j)=false:=decide_eq_false (by omega);clear hj0 WG;rcases hc5 with rfl|rfl
         all_goals
          dsimp only at g4 g5 m4 m5;go_upto_region 13 with (fail);refine eD (by kernel_rfl) (by kernel_rfl) ?_;repeat (go_big_quiet_step (fail))
          refine wpQuiet_nil ?_;rintro _ ⟨x1,rfl⟩;have jl:=dH (jc.o.trans (x1.below.mono jc.o.size));generalize x1.wd=w7 at*;clear m0 m1 m4 m5 x1 d0 d1 g4 g5;go_wp2_with fail;exact ⟨⟨j+1,by omega,by go_num,jl.o⟩,by simp [intOf];omega⟩
       ·have hjn:¬ (j:Int) < (n5:Int):=by omega
        have HV:=dH (vj xs A5 n5 c5 wr (PE.o.below ER) (by omega) hNm.o);have HL6:=dH (HL5.o.then_ ER);have HN6:=dH (PE.o.below ER);clear ER PE HL5;go_wp2_with fail;refine HV.o.mono ?_;rintro e w7 ⟨lZ,aaB⟩;have HL7:=dH (HL6.o.then_ lZ);have HN7:=dH (HN6.o.below lZ);clear lZ HV HL6 HN6;rcases aaB with ⟨ys,A7,c7',hys,rfl,hI7⟩| ⟨-,rfl⟩
        ·have PV:=dH hys
         have PS:=dH hI7;clear hys hI7;have Oa:=dH (fun (i q:Nat) (hi:i < q) (hq:q < ys.length)=>Nn (by omega:xs.length<=80) hNm.o PV.o hi hq);have hok:=dH (fun (it:It) (hi:it∈ys)=>RI hTr.o (by omega:xs.length<=80) hNm.o PV.o hi);clear PV hTr hNm;obtain ⟨n7,hn7⟩:=dB ys.length;rw [<-hn7] at PS ⊢;have adq:n7<=ys.length:=by omega
         have adr:ys.length<=n7:=by omega
         have ads:=PS.o.max;have adt:=PS.o.le;clear hn7;go_wp2_with fail;go_loopw [10] (fun i ws=>∃j:Nat,j<=n7/\i=.int .i64 j/\Below w7.heap.size w7 ws) (fun i _=>n7 - (intOf i).toNat)
         case atStart=>exact ⟨0,by omega,rfl,aC _ _⟩
         case round=>
          obtain ⟨j,hj,rfl,ER⟩:=hrel;rcases aG j n7 with hjl|hjg
          ·have hji:(j:Int) < (n7:Int):=by omega
           have Ru:j < ys.length:=by omega
           obtain ⟨b8,Wg,rfl,adD,d0,d1,d2,d3,d4,d5⟩:=AM.at_ (PS.o.below ER) Ru;have PC:=hok.o _ (ag Ru);have XN:=dH ER;have HS:=dH (PS.o.below ER);have HNj:=dH (HN7.o.below ER);have E5:∀(i:Nat),j=i+1->∃z:It,decide (z.path < ys[j].path)=true/\wr.cell? ⟨b8,Wg+i*6,none⟩=some (.string (bs z.path)):=fun i hi=>by
            have hil:i < ys.length:=by omega
            obtain ⟨b2,off2,e2,_,g0,_⟩:=AM.at_ HS.o hil;cases e2;exact ⟨ys[i],decide_eq_true (Oa.o i j (by omega) Ru),g0⟩
           have XO:=dH E5;generalize ys[j]=it at*;obtain ⟨hp1,hp2,zZ,hp4⟩:=PC;have HP:=fun (w':World)=>D2 it.path (by omega) w'
           rw [hp1] at HP;have HPa:=dH HP;have XC:=dH hp1;have IA:=dH hp2;have qU:=dH zZ;have KQ:=dH hp4;clear E5 ER Ru HP hp1 hp2 zZ hp4;have m0:=fun x1:dm wr=>x1.cell d0
           by_cases hj0:(j:Int) > 0
           case' pos=>
            obtain ⟨z,hlz,e0⟩:=XO.o (j - 1) (by omega);have e1:=bytesLess_eq z.path it.path;rw [hlz] at e1;have hd:decide ((j:Int) > 0)=true:=decide_eq_true hj0;have hdn:decide (0 < j)=true:=decide_eq_true (by omega);have hw1:IntKind.i64.wrap ((j:Int) - 1)=(j:Int) - 1:=IntWalk.i64_in _ (by omega);have eV:0<=(j:Int) - 1:=by omega
            have iI:(j:Int) - 1 < (n7:Int):=by omega
            have uP:((j:Int) - 1).toNat=j - 1:=by omega
            clear hlz hj0 XO;have l0:=fun x1:dm wr=>x1.cell e0
            go_upto_region 20 with (fail);refine eD (by kernel_rfl) (by kernel_rfl) ?_;repeat (go_big_quiet_step ((go_at_call 14;exact fU (HPa.o _))))
           case' neg=>
            have hd:decide ((j:Int) > 0)=false:=decide_eq_false hj0;have hdn:decide (0 < j)=false:=decide_eq_false (by omega);clear hj0 XO;go_upto_region 20 with (fail);refine eD (by kernel_rfl) (by kernel_rfl) ?_;repeat (go_big_quiet_step ((go_at_call 14;exact fU (HPa.o _))))
           all_goals
            refine wpQuiet_nil ?_;try clear l0 e0
            clear m0;rintro _ ⟨x1,rfl⟩;have pG:=dH (XN.o.trans (x1.below.mono XN.o.size));have HS8:=dH (HS.o.below x1.below);have HN8:=dH (HNj.o.below x1.below);have d0:=x1.cell d0;have d1:=x1.cell d1;have d2:=x1.cell d2;generalize x1.wd=w8 at*;clear x1 XN HS HNj;have Sg:=dH (vI it.id A5 n5 c5 xs w8 HN8.o);have acu:=qU.o;have aau:=KQ.o;generalize ek it.id xs=qV at*;subst acu;generalize eP it.id xs=y at*;have HOf:=dH (fun (w':World) (h:AM w' (some ⟨b8,Wg,none⟩) n7 c7' ys)=>Tk y.par (some ⟨b8,Wg,none⟩) n7 c7' ys w' h);generalize sB (oE y.par) ys=hs8 at*;generalize kg (oE y.par) ys=up at*;have acv:=tK y.par (0,0);have Z7:dG (y.par=(0,0)\/y.par≠(0,0)/\hs8=true/\up.dir=true/\lS it.path up.path=true/\up.path.length<=400):=aau;clear aau KQ qU;obtain ⟨eqb,Wh⟩:=dB (decide (y.par=(0,0)));simp only [<-Wh] at acv;have HEq:=dH Wh;clear Wh;unfold sv nv at Sg;have jY:=dn d0;go_wp2_with fail;refine Sg.o.mono ?_;rintro e w9 ⟨rfl,Fz⟩;have Rv:Below w8.heap.size w8 (w9.alloc (.cells (nc y).toArray 38)):=Fz.alloc Fz.size _;have g3:=(Blk.new w9 38 (nc y).toArray).cell 3;have g4:=(Blk.new w9 38 (nc y).toArray).cell 4;have d0a:=dH (dP Rv jY d0);have PT:=dF pG Rv;have PF:=dH (HS8.o.below Rv);obtain ⟨w9x,zj⟩:=dB (w9.alloc (.cells (nc y).toArray 38));rw [<-zj] at g3 g4 d0a PT PF;unfold nc at zj g3 g4;simp only [aP,aS,aW] at g3 g4;have T8:=dH zj;have WH:=dH (HOf.o w9x PF.o);unfold iv at WH;clear Fz Rv zj d0 d1 d2 Sg HOf HS8 HN8 pG jY;go_wp2_with (rw [<-T8.o])
            refine WH.o.mono ?_;rintro e Ku ⟨rfl,Wi⟩;have E6:Below w9x.heap.size w9x (Ku.alloc (.cells (ic up).toArray 44)):=Wi.alloc Wi.size _;have u0:=(Blk.new Ku 44 (ic up).toArray).cell 0;have u3:=(Blk.new Ku 44 (ic up).toArray).cell 3;have v3:=dP E6 (dn g3) g3;have v4:=dP E6 (dn g4) g4;have d0:=dP E6 (dn d0a.o) d0a.o;have KM:=dF PT E6;clear Wi E6 d0a g3 g4 WH PF PT T8;unfold ic at u0 u3 v3 v4 d0 KM;simp only [aP,aS,aW] at u0 u3;obtain ⟨wu,hwu⟩:=dB (Ku.alloc (.cells #[.string (bs up.path),.int .i64 up.id.1,.int .i64 up.id.2,.bool up.dir,.bool false,.string (bs up.mf)] 44));rw [<-hwu] at u0 u3 v3 v4 d0 KM;have HWu:=dH hwu;clear hwu;have m0:=fun x1:dm wu=>x1.cell d0
            have m1:=fun x1:dm wu=>x1.cell u0
            have m2:=fun x1:dm wu=>x1.cell u3
            have m3:=fun x1:dm wu=>x1.cell v3
            have m4:=fun x1:dm wu=>x1.cell v4
            rcases Z7.o with h0| ⟨h0,h1,h2,h3,h4⟩
            case' inl=>
             have he:eqb=true:=by rw [HEq.o];exact decide_eq_true h0
             subst he;clear h0 Z7 HEq;go_upto_region 24 with (rw [<-HWu.o])
             refine eD (by kernel_rfl) (by kernel_rfl) ?_;repeat (go_big_quiet_step (fail))
            case' inr=>
             have he:eqb=false:=by rw [HEq.o];exact decide_eq_false h0
             subst he;subst h1;have Zv:=dH (fun (w':World)=>wB it.path up.path (by omega) w');rw [h3] at Zv;clear h0 Z7 HEq h3 h4;simp only [h2] at u3 m2;clear h2;go_upto_region 24 with (rw [<-HWu.o])
             refine eD (by kernel_rfl) (by kernel_rfl) ?_;repeat (go_big_quiet_step ((go_at_call 17;exact fU (Zv.o _))))
            all_goals
             refine wpQuiet_nil ?_;clear m0 m1 m2 m3 m4;rintro _ ⟨x2,rfl⟩;have acw:=dH (KM.o.trans (x2.below.mono KM.o.size));generalize x2.wd=w11 at*;clear x2;go_wp2_with fail;exact ⟨⟨j+1,by omega,by go_num,acw.o⟩,by simp [intOf];omega⟩
          ·have hjn:¬ (j:Int) < (n7:Int):=by omega
           have HL8:=dH (HL7.o.then_ ER);clear ER;go_wp2_with fail;exact ⟨⟨k+1,by omega,by go_num,v4,r4,L4,HL8.o,Hu,XM⟩,by simp [intOf];omega⟩
        ·go_wp2_with fail
         exact ⟨⟨k+1,by omega,by go_num,v4,r4,L4,HL7.o,Hu,XM⟩,by simp [intOf];omega⟩
     ·have hne:(co != 0)=true:=by rw [bne_iff_ne];exact hc0
      clear hc0;go_wp2_with fail;exact ⟨⟨k+1,by omega,by go_num,v4,r4,L4,HL4.o,Hu,XM⟩,by simp [intOf];omega⟩
    ·have hne:(rc != 0)=true:=by rw [bne_iff_ne];exact Wx
     clear Wx;go_wp2_with fail;refine HR.o.mono ?_;rintro e w3 ⟨rfl,di⟩;have HL3:=dH (HL.o.then_ di);clear di;go_wp2_with fail;exact ⟨⟨k+1,by omega,by go_num,v,r,L,HL3.o,HG,by omega⟩,by simp [intOf];omega⟩
   ·have hkn:¬ (k:Int) < (n:Int):=by omega
    have HBw:=dH hL.below;clear hL;go_wp2_with fail;refine (HAw.o wr).mono ?_;rintro e w4 ⟨rfl,hb4⟩;have fD:=dF HBw hb4;clear hb4;go_wp2_with fail;go_ret;exact ⟨rfl,fD.o⟩
end
end Go.Proofs.YtgdaahffmcfhpaaGreatDoor
