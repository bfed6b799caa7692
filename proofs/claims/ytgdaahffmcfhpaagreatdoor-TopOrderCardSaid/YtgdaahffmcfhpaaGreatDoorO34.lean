/- Lemmas on the way: Aj Ak. -/
import Derived.Test.YtgdaahffmcfhpaaGreatDoorO30
import Derived.Test.YtgdaahffmcfhpaaGreatDoorO33
set_option maxRecDepth 100000
set_option maxHeartbeats 8000000
namespace Go.Proofs.YtgdaahffmcfhpaaGreatDoor
open aA
open Tryz
section
open Go.RowKit
attribute [local go_sem] dR dO dS dP
theorem aag (v:Value) (w:World):Calls prog 372 #[v,qn,qn] w λe w'=>e=.returned (.tuple #[])/\w=w':=by
 go_enter func372,ntmps372;go_wp2_with fail;refine wp_loop_rounds 1 ?_;rw [rounds_succ];go_wp2_with fail;go_end0;exact ⟨rfl,rfl⟩
theorem aah (v:Value) (w:World):Calls prog 372 #[v,qn,yh] w λe w'=>e=.returned (.tuple #[])/\w=w':=by
 go_enter func372,ntmps372;go_wp2_with fail;refine wp_loop_rounds 1 ?_;rw [rounds_succ];go_wp2_with fail;go_end0;exact ⟨rfl,rfl⟩
theorem aai (v f:Value) (w:World):Calls prog 364 #[v,qn,qn,f] w λe w'=>e=.returned (.tuple #[])/\w=w':=by
 go_enter func364,ntmps364;go_wp2_with fail;refine wp_loop_rounds 1 ?_;rw [rounds_succ];go_wp2_with fail;go_end0;exact ⟨rfl,rfl⟩
theorem aaj (v f:Value) (w:World):Calls prog 364 #[v,qn,yh,f] w λe w'=>e=.returned (.tuple #[])/\w=w':=by
 go_enter func364,ntmps364;go_wp2_with fail;refine wp_loop_rounds 1 ?_;rw [rounds_succ];go_wp2_with fail;go_end0;exact ⟨rfl,rfl⟩
theorem aak (v:Value) (l:Int) (w:World):Calls prog 321 #[v,qn,qn,l] w λe w'=>e=.returned (.tuple #[])/\w=w':=by
 have H:=dL (aag v w);go_enter func321,ntmps321;go_wp2_with fail;refine wp_loop_rounds 1 ?_;rw [rounds_succ];go_wp2_with fail;refine H.o.mono ?_;rintro e w' ⟨rfl,rfl⟩;go_wp2_with fail;refine bodyPost_ret (results_none rfl _ _ _) rfl ?_;exact ⟨rfl,rfl⟩
theorem aal (v:Value) (l:Int) (w:World):Calls prog 321 #[v,qn,yh,l] w λe w'=>e=.returned (.tuple #[])/\w=w':=by
 have H:=dL (aah v w);go_enter func321,ntmps321;go_wp2_with fail;refine wp_loop_rounds 1 ?_;rw [rounds_succ];go_wp2_with fail;refine H.o.mono ?_;rintro e w' ⟨rfl,rfl⟩;go_wp2_with fail;refine bodyPost_ret (results_none rfl _ _ _) rfl ?_;exact ⟨rfl,rfl⟩
theorem aam (v f:Value) (l:Int) (w:World):Calls prog 319 #[v,qn,qn,l,f] w λe w'=>e=.returned (.tuple #[])/\w=w':=by
 have H:=dL (aai v f w);go_enter func319,ntmps319;go_wp2_with fail;refine wp_loop_rounds 1 ?_;rw [rounds_succ];go_wp2_with fail;refine H.o.mono ?_;rintro e w' ⟨rfl,rfl⟩;go_wp2_with fail;refine bodyPost_ret (results_none rfl _ _ _) rfl ?_;exact ⟨rfl,rfl⟩
theorem aan (v f:Value) (l:Int) (w:World):Calls prog 319 #[v,qn,yh,l,f] w λe w'=>e=.returned (.tuple #[])/\w=w':=by
 have H:=dL (aaj v f w);go_enter func319,ntmps319;go_wp2_with fail;refine wp_loop_rounds 1 ?_;rw [rounds_succ];go_wp2_with fail;refine H.o.mono ?_;rintro e w' ⟨rfl,rfl⟩;go_wp2_with fail;refine bodyPost_ret (results_none rfl _ _ _) rfl ?_;exact ⟨rfl,rfl⟩
theorem OL (A:Option Addr) (c:Nat) (w:World):Calls prog 262 #[Qq A 0 c] w λe w'=>e=.returned (.tuple #[])/\w=w':=by
 go_enter func262,ntmps262;go_wp2_with fail;refine (bits_Len 0 _ (by decide) (by decide)).mono ?_;rintro e w' ⟨rfl,rfl⟩;go_wp2_with fail;refine (aak _ _ _).mono ?_;rintro e w' ⟨rfl,rfl⟩;go_wp2_with fail;go_end0;exact ⟨rfl,rfl⟩
theorem WT (A:Option Addr) (c:Nat) (w:World):Calls prog 262 #[Qq A 1 c] w λe w'=>e=.returned (.tuple #[])/\w=w':=by
 go_enter func262,ntmps262;go_wp2_with fail;refine (bits_Len 1 _ (by decide) (by decide)).mono ?_;rintro e w' ⟨rfl,rfl⟩;go_wp2_with fail;refine (aal _ _ _).mono ?_;rintro e w' ⟨rfl,rfl⟩;go_wp2_with fail;go_end0;exact ⟨rfl,rfl⟩
theorem WU (A:Option Addr) (c:Nat) (f:Value) (w:World):Calls prog 257 #[Qq A 0 c,f] w λe w'=>e=.returned (.tuple #[])/\w=w':=by
 go_enter func257,ntmps257;go_wp2_with fail;refine (bits_Len 0 _ (by decide) (by decide)).mono ?_;rintro e w' ⟨rfl,rfl⟩;go_wp2_with fail;refine (aam _ _ _ _).mono ?_;rintro e w' ⟨rfl,rfl⟩;go_wp2_with fail;go_end0;exact ⟨rfl,rfl⟩
theorem WV (A:Option Addr) (c:Nat) (f:Value) (w:World):Calls prog 257 #[Qq A 1 c,f] w λe w'=>e=.returned (.tuple #[])/\w=w':=by
 go_enter func257,ntmps257;go_wp2_with fail;refine (bits_Len 1 _ (by decide) (by decide)).mono ?_;rintro e w' ⟨rfl,rfl⟩;go_wp2_with fail;refine (aan _ _ _ _).mono ?_;rintro e w' ⟨rfl,rfl⟩;go_wp2_with fail;go_end0;exact ⟨rfl,rfl⟩
variable {w:World} {v:Value}
theorem kg {B:Nat} {e:TypeId} {size:Nat} {n:Nat} {xs:List Value} (h:w.ownsRow B e size v n xs):∃A c,v=.slice A n c:=by
 rcases h.2 with ⟨rfl,rfl⟩| ⟨g,cap,cur,rfl,_⟩
 ·exact ⟨none,0,rfl⟩
 ·exact ⟨_,cap,rfl⟩
variable {ff:Fm.Files}
theorem WW{B d nb fb:Nat} (h:Dk.Dsk B w d nb fb v (dst [] ff [])):
  Calls prog 304 #[Qp d] w λe w'=>∃A c,e=.returned (.slice A 0 c)/\Below w w w':=by
 have c1:=h.blk.cell 1;simp at c1;have dV:=dH w (.cells #[.map (some nb)] 191);have hm:Ik.MapE w nb []:=Ik.MapE.nil_ h.now;have HC:=dL (Ik.collect_ss w nb [] (w.alloc (.cells #[.map (some nb)] 191)) (by simp) (by simp) (Blk.new w 191 #[.map (some nb)]).toBox (hm.below dV));have HK:=dL (Ik.keys_any_ss nb w);have eR:=dL dV;clear h hm dV;have HS:dK (∀W,W=w.alloc (.cells #[.map (some nb)] 191)->Calls prog 277 #[.func (.func 391) #[] #[.pointer (some ⟨w.heap.size,0,none⟩)]] W λe w'=>∃A c,e=.returned (.slice A 0 c)/\Below w w w'):=dL (by
  rintro W rfl;go_enter func277,ntmps277;go_wp2_with fail;refine HC.o.mono ?_;rintro e w2 ⟨v2,ys,rfl,hp,ho,hb⟩;obtain rfl:ys=[]:=by simpa using hp
  obtain ⟨A,c,rfl⟩:=kg ho;have HB:=dL (eR.o.trans (hb.mono (by simp)));clear hp ho hb;go_wp2_with fail;refine (OL A c _).mono ?_;rintro e w' ⟨rfl,rfl⟩;go_wp2_with fail;go_ret;exact ⟨_,_,rfl,HB.o⟩)
 go_enter func304,ntmps304;go_wp2_with fail;refine HK.o.mono ?_;rintro e w1 ⟨rfl,hw⟩;have HSw:=dL (HS.o w1 hw);clear hw;go_wp2_with fail;refine HSw.o.mono ?_;rintro e w2 ⟨A,c,rfl,hb⟩;have HB:=dL hb;clear hb;go_wp2_with fail;go_ret;exact ⟨_,_,rfl,HB.o⟩
theorem xe:Ms.MapTy prog Ms.sk 225 9 3 (.int .i64 0):=Ms.MapTy.str underlying225 (λw=>zeroValue3 w) underlying9
theorem C6 {b:Nat} (h:w.heap[b]? =some (.map #[] 0)) (k:List UInt8):(Instr.lookup 225 (.map (some b)) (.string (bs k)) false).run prog w=.ok (.int .i64 0) w:=by
 have hF:Ms.MapF Ms.sk w b (λ_=>none):=⟨[],0,h,List.Pairwise.nil,by simp,λ_=>rfl⟩;exact hF.look xe k
theorem J2 (w:World):(Instr.makeMap 225 none).run prog w=.ok (.map (some w.heap.size)) (w.alloc (.map #[] 0)):=by simp [go_sem,Instr.makeMap]
theorem WX (w:World):Calls prog 351 #[yj,qn] w (dM w (.tuple #[yj,qn,false])):=by
 have HR:=dL (Pt.Cd.Read_any [] w);have e0:(bs ([]:List UInt8))= ⟨#[]⟩:=rfl;rw [e0] at HR;clear e0;go_enter func351,ntmps351;go_wp2_with fail;refine HR.o.mono ?_;rintro e w1 ⟨rfl,hr,hb⟩;have HN:=dL (Pt.Cd.Num_any w [] 0 0 w1 hr (aB _) (by decide));have eR:=dL hb;have e1:Pt.Cd.numS [] 0 0=(0,10,0):=rfl;rw [e1] at HN;clear e1 hr hb;go_wp2_with fail;refine HN.o.mono ?_;rintro e w2 ⟨rfl,hr,hg⟩;have HT:=dL (Pt.Cd.Text_any w [] 0 10 w2 hr (aB _) (by decide));have eA:=dL (eY eR.o hg (aB _) eR.o.size);have e1:Pt.Cd.textS [] 0 10=(0,10,[]):=rfl;rw [e1] at HT;clear e1 hr hg;go_wp2_with fail;refine HT.o.mono ?_;rintro e w3 ⟨rfl,hr,hg⟩;have HE:=dL (Pt.Cd.Err_any w [] 0 10 w3 hr);have eC:=dL (eY eA.o hg (aB _) eA.o.size);clear hr hg;go_wp2_with fail;refine HE.o.mono ?_;rintro e w4 ⟨rfl,rfl⟩;go_wp2_with fail;go_ret3;exact ⟨rfl,eC.o⟩
theorem aao{B d nb fb:Nat} (h:Dk.Dsk B w d nb fb v (dst [] ff [])):
  Calls prog 303 #[Qp d] w λe w'=>∃m,e=.returned (.tuple #[(),.map (some m)])/\w'.heap[m]? =some (.map #[] 0)/\Below w w w'/\w.heap.size<=m:=by
 have hm:=J2 w;have dV:=dH w (.map #[] 0);have hM:(w.alloc (.map #[] 0)).heap[w.heap.size]? =some (.map #[] 0):=heap_alloc_new w _;obtain ⟨w1,hw1⟩:=dG (w.alloc (.map #[] 0));rw [<-hw1] at dV hM;obtain ⟨q,hq⟩:=dG w.heap.size;rw [<-hq] at hM;have VU:=dL (h.later dV);have VR:=dL hM;have eR:=dL dV;have HW:=dL hw1;have HQ:=dL hq;clear h dV hM hw1 hq;go_enter func303,ntmps303;go_upto_region 3 with (fail);rw [<-HW.o,<-HQ.o];clear hm;refine wp_loop_rounds 1 ?_;rw [rounds_succ];go_wp2_with fail;refine (AK _).mono ?_;rintro e w2 ⟨rfl,dY⟩;have hD2:=VU.o.later dY;have F7:=dL ((dY.block q (by have:=eR.o.size;have:=HQ.o;exact gh VR.o)).trans VR.o);have eA:=dJ eR dY;have HR:=dL (Dk.read_any hD2 rfl qm (by decide) (by decide));have e1:(Fm.get (dst [] ff []).now qm)=none:=rfl;rw [e1] at HR;have hl:=C6 F7.o qm;clear e1 hD2 dY;go_wp2_with fail;refine HR.o.mono ?_;rintro e w3 ⟨rfl,rfl⟩;go_wp2_with fail;refine (WX _).mono ?_;rintro e w4 ⟨rfl,hb4⟩;have ZM:=dL ((hb4.block q (gh F7.o)).trans F7.o);have fI:=dJ eA hb4;clear hb4 hl;go_wp2_with fail;go_ret2;exact ⟨q,rfl,ZM.o,fI.o,by rw [HQ.o];exact aB _⟩
theorem OM{d nb fb:Nat} (h:Dk.Dsk 0 w d nb fb (.slice none 0 0) (dst [] ff [])):
  Calls prog 246 #[Qp d] w λe w'=>∃l qa,e=.returned (.tuple #[.pointer (some ⟨l,0,none⟩),(),qn])/\Si w' l d nb qa 0/\dm (λi=>i=d\/i=nb) w w'/\w.heap.size<=l/\w.heap.size<=qa:=by
 have M5:=dL (Dk.dead_any h);have HS:=dL (aao h);have HD:=dL h;clear h;go_enter func246,ntmps246;go_wp2_with fail;refine M5.o.mono ?_;rintro e w0 ⟨rfl,rfl⟩;go_wp2_with fail;refine HS.o.mono ?_;rintro e w1 ⟨m,rfl,hm,dV,hge⟩;have HN:=dL (WW (HD.o.later dV));have VR:=dL hm;have eR:=dL dV;have HGE:=dL hge;clear hm dV hge;go_wp2_with fail;refine HN.o.mono ?_;rintro e w2 ⟨A,c,rfl,dY⟩;have F7:=dL ((dY.block m (gh VR.o)).trans VR.o);have eA:=dJ eR dY;have zf:=dL (HD.o.later eA.o);have HSy:=dL (Dk.sync_any zf.o rfl rfl);clear dY;go_wp2_with fail;refine wp_loop_rounds 1 ?_;rw [rounds_succ];go_wp2_with fail;refine HSy.o.mono ?_;rintro e w3 ⟨qa,rfl,M0,oD,XG⟩;have RL:dK (w3.heap[m]? =some (.map #[] 0)):=dL ((oD.block m (gh F7.o) (by
  have h1:=HD.o.blk.lt;have h2:=HD.o.now.lt;have h3:=HGE.o;rintro (h|h|h)
  ·omega
  ·omega
  ·cases h)).trans F7.o)
 have qB:dK (dm (λi=>i=d\/i=nb) w w3):=dL (eF (eO eA.o) oD (λi _ h=>by
  rcases h with h|h|h
  ·exact .inl h
  ·exact .inr h
  ·cases h))
 have HD3:dK (Dk.Dsk 0 w3 d nb qa (.slice none 0 0) (dst [] [] [])):=dL M0;have HF3:=dL (aI eA.o.size XG);clear M0 oD XG;go_wp2_with fail;refine (AK _).mono ?_;rintro e w4 ⟨rfl,hb4⟩;have ZM:=dL ((hb4.block m (gh RL.o)).trans RL.o);have qZ:=dL (gj qB.o hb4);have sP:=dL (HD3.o.later hb4);have hl:=C6 ZM.o qm;clear hb4;go_wp2_with fail;have ef:=dH w4 (.cells #[Qp d,qn,qn,false] 391);have vU:=Blk.new w4 391 #[Qp d,qn,qn,false];have hD5:=sP.o.later ef;go_ret3;refine ⟨_,qa,rfl,⟨⟨0,by omega,vU,[],[],.inl ⟨rfl,rfl⟩,hD5⟩,?_,?_,?_⟩,gj qZ.o ef,qZ.o.size,HF3.o⟩
 ·have:=sP.o.blk.lt;omega
 ·have:=sP.o.now.lt;omega
 ·have:=sP.o.firm.lt;omega
theorem ON{d nb fb:Nat} (h:Dk.Dsk 0 w d nb fb (.slice none 0 0) (dst [] ff [])):
  Calls prog 171 #[Qp d] w λe w'=>∃o l qa,e=.returned (.tuple #[.pointer (some ⟨o,0,none⟩),qn])/\Blk w' o 291 #[(),(),.pointer (some ⟨l,0,none⟩),false]/\Si w' l d nb qa 0/\dm (λi=>i=d\/i=nb) w w'/\w.heap.size<=l/\w.heap.size<=qa/\w.heap.size<=o/\l < o/\qa < o/\d < o/\nb < o:=by
 have H:=dL (OM h);clear h;go_enter func171,ntmps171;go_wp2_with fail;refine H.o.mono ?_;rintro e w1 ⟨l,qa,rfl,hl,hk,h1,h2⟩;have HL:=dL hl;have HK:=dL hk;have HG:=dL (And.intro h1 h2);clear hl hk h1 h2;go_wp2_with fail;refine wp_loop_rounds 1 ?_;rw [rounds_succ];go_wp2_with fail;have ef:=dH w1 (.cells #[(),(),.pointer (some ⟨l,0,none⟩),false] 291);have vU:=Blk.new w1 291 #[(),(),.pointer (some ⟨l,0,none⟩),false];obtain ⟨⟨e0,he,hb,fs,f2,hf,hd⟩,n1,n2,n3⟩:=HL.o;go_ret2;exact ⟨_,l,qa,rfl,vU,⟨⟨e0,he,hb.below ef hb.lt,fs,f2,hf,hd.later ef⟩,n1,n2,n3⟩,gj HK.o ef,HG.o.1,HG.o.2,HK.o.size,hb.lt,hd.firm.lt,hd.blk.lt,hd.now.lt⟩
end
end Go.Proofs.YtgdaahffmcfhpaaGreatDoor
