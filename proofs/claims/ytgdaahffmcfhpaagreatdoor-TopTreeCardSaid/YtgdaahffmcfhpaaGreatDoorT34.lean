/- Lemmas on the way: Aj Ak. -/
import Derived.Test.YtgdaahffmcfhpaaGreatDoorT33
import Derived.Test.YtgdaahffmcfhpaaGreatDoorT00
set_option maxRecDepth 100000
set_option maxHeartbeats 8000000
namespace Go.Proofs.YtgdaahffmcfhpaaGreatDoor
open Tryz
section
open Go.RowKit
attribute [local go_sem] dO dL dQ dM
theorem Xl (v:Value) (w:World):Calls prog 372 #[v,.int .i64 0,.int .i64 0] w fun e w'=>e=.returned (.tuple #[])/\w=w':=by
 go_enter func372,ntmps372;go_wp2_with fail;refine wp_loop_rounds 1 ?_;rw [rounds_succ];go_wp2_with fail;go_end0;exact ⟨rfl,rfl⟩
theorem Xm (v:Value) (w:World):Calls prog 372 #[v,.int .i64 0,.int .i64 1] w fun e w'=>e=.returned (.tuple #[])/\w=w':=by
 go_enter func372,ntmps372;go_wp2_with fail;refine wp_loop_rounds 1 ?_;rw [rounds_succ];go_wp2_with fail;go_end0;exact ⟨rfl,rfl⟩
theorem Xn (v f:Value) (w:World):Calls prog 364 #[v,.int .i64 0,.int .i64 0,f] w fun e w'=>e=.returned (.tuple #[])/\w=w':=by
 go_enter func364,ntmps364;go_wp2_with fail;refine wp_loop_rounds 1 ?_;rw [rounds_succ];go_wp2_with fail;go_end0;exact ⟨rfl,rfl⟩
theorem Xo (v f:Value) (w:World):Calls prog 364 #[v,.int .i64 0,.int .i64 1,f] w fun e w'=>e=.returned (.tuple #[])/\w=w':=by
 go_enter func364,ntmps364;go_wp2_with fail;refine wp_loop_rounds 1 ?_;rw [rounds_succ];go_wp2_with fail;go_end0;exact ⟨rfl,rfl⟩
theorem Xp (v:Value) (l:Int) (w:World):Calls prog 321 #[v,.int .i64 0,.int .i64 0,.int .i64 l] w fun e w'=>e=.returned (.tuple #[])/\w=w':=by
 have H:=dH (Xl v w);go_enter func321,ntmps321;go_wp2_with fail;refine wp_loop_rounds 1 ?_;rw [rounds_succ];go_wp2_with fail;refine H.o.mono ?_;rintro e w' ⟨rfl,rfl⟩;go_wp2_with fail;refine bodyPost_ret (results_none rfl _ _ _) rfl ?_;exact ⟨rfl,rfl⟩
theorem Xq (v:Value) (l:Int) (w:World):Calls prog 321 #[v,.int .i64 0,.int .i64 1,.int .i64 l] w fun e w'=>e=.returned (.tuple #[])/\w=w':=by
 have H:=dH (Xm v w);go_enter func321,ntmps321;go_wp2_with fail;refine wp_loop_rounds 1 ?_;rw [rounds_succ];go_wp2_with fail;refine H.o.mono ?_;rintro e w' ⟨rfl,rfl⟩;go_wp2_with fail;refine bodyPost_ret (results_none rfl _ _ _) rfl ?_;exact ⟨rfl,rfl⟩
theorem Xr (v f:Value) (l:Int) (w:World):Calls prog 319 #[v,.int .i64 0,.int .i64 0,.int .i64 l,f] w fun e w'=>e=.returned (.tuple #[])/\w=w':=by
 have H:=dH (Xn v f w);go_enter func319,ntmps319;go_wp2_with fail;refine wp_loop_rounds 1 ?_;rw [rounds_succ];go_wp2_with fail;refine H.o.mono ?_;rintro e w' ⟨rfl,rfl⟩;go_wp2_with fail;refine bodyPost_ret (results_none rfl _ _ _) rfl ?_;exact ⟨rfl,rfl⟩
theorem Xs (v f:Value) (l:Int) (w:World):Calls prog 319 #[v,.int .i64 0,.int .i64 1,.int .i64 l,f] w fun e w'=>e=.returned (.tuple #[])/\w=w':=by
 have H:=dH (Xo v f w);go_enter func319,ntmps319;go_wp2_with fail;refine wp_loop_rounds 1 ?_;rw [rounds_succ];go_wp2_with fail;refine H.o.mono ?_;rintro e w' ⟨rfl,rfl⟩;go_wp2_with fail;refine bodyPost_ret (results_none rfl _ _ _) rfl ?_;exact ⟨rfl,rfl⟩
theorem MX (A:Option Addr) (c:Nat) (w:World):Calls prog 262 #[.slice A 0 c] w fun e w'=>e=.returned (.tuple #[])/\w=w':=by
 go_enter func262,ntmps262;go_wp2_with fail;refine (bits_Len 0 _ (by decide) (by decide)).mono ?_;rintro e w' ⟨rfl,rfl⟩;go_wp2_with fail;refine (Xp _ _ _).mono ?_;rintro e w' ⟨rfl,rfl⟩;go_wp2_with fail;go_end0;exact ⟨rfl,rfl⟩
theorem Tv (A:Option Addr) (c:Nat) (w:World):Calls prog 262 #[.slice A 1 c] w fun e w'=>e=.returned (.tuple #[])/\w=w':=by
 go_enter func262,ntmps262;go_wp2_with fail;refine (bits_Len 1 _ (by decide) (by decide)).mono ?_;rintro e w' ⟨rfl,rfl⟩;go_wp2_with fail;refine (Xq _ _ _).mono ?_;rintro e w' ⟨rfl,rfl⟩;go_wp2_with fail;go_end0;exact ⟨rfl,rfl⟩
theorem Tw (A:Option Addr) (c:Nat) (f:Value) (w:World):Calls prog 257 #[.slice A 0 c,f] w fun e w'=>e=.returned (.tuple #[])/\w=w':=by
 go_enter func257,ntmps257;go_wp2_with fail;refine (bits_Len 0 _ (by decide) (by decide)).mono ?_;rintro e w' ⟨rfl,rfl⟩;go_wp2_with fail;refine (Xr _ _ _ _).mono ?_;rintro e w' ⟨rfl,rfl⟩;go_wp2_with fail;go_end0;exact ⟨rfl,rfl⟩
theorem Tx (A:Option Addr) (c:Nat) (f:Value) (w:World):Calls prog 257 #[.slice A 1 c,f] w fun e w'=>e=.returned (.tuple #[])/\w=w':=by
 go_enter func257,ntmps257;go_wp2_with fail;refine (bits_Len 1 _ (by decide) (by decide)).mono ?_;rintro e w' ⟨rfl,rfl⟩;go_wp2_with fail;refine (Xs _ _ _ _).mono ?_;rintro e w' ⟨rfl,rfl⟩;go_wp2_with fail;go_end0;exact ⟨rfl,rfl⟩
theorem kJ {w:World} {B:Nat} {e:TypeId} {size:Nat} {v:Value} {n:Nat} {xs:List Value} (h:w.ownsRow B e size v n xs):∃A c,v=.slice A n c:=by
 rcases h.2 with ⟨rfl,rfl⟩| ⟨g,cap,cur,rfl,_⟩
 ·exact ⟨none,0,rfl⟩
 ·exact ⟨_,cap,rfl⟩
theorem Ty {B d nb fb:Nat} {v:Value} {ff:Fm.Files} {w:World} (h:Dk.Dsk B w d nb fb v (dst [] ff [])):
  Calls prog 304 #[.pointer (some ⟨d,0,none⟩)] w fun e w'=>∃A c,e=.returned (.slice A 0 c)/\Below w.heap.size w w':=by
 have c1:=h.blk.cell 1;simp at c1;have dR:=dD w (.cells #[.map (some nb)] 191);have hm:Ik.MapE w nb []:=Ik.MapE.nil_ h.now;have HC:=dH (Ik.collect_ss w.heap.size nb [] (w.alloc (.cells #[.map (some nb)] 191)) (by simp) (by simp) (Blk.new w 191 #[.map (some nb)]).toBox (hm.below dR));have HK:=dH (Ik.keys_any_ss nb w);have eH:=dH dR;clear h hm dR;have HS:dG (∀W,W=w.alloc (.cells #[.map (some nb)] 191)->Calls prog 277 #[.func (.func 391) #[] #[.pointer (some ⟨w.heap.size,0,none⟩)]] W fun e w'=>∃A c,e=.returned (.slice A 0 c)/\Below w.heap.size w w'):=dH (by
  rintro W rfl;go_enter func277,ntmps277;go_wp2_with fail;refine HC.o.mono ?_;rintro e w2 ⟨v2,ys,rfl,hp,ho,hb⟩;obtain rfl:ys=[]:=by simpa using hp
  obtain ⟨A,c,rfl⟩:=kJ ho;have HB:=dH (eH.o.trans (hb.mono (by simp)));clear hp ho hb;go_wp2_with fail;refine (MX A c _).mono ?_;rintro e w' ⟨rfl,rfl⟩;go_wp2_with fail;go_ret;exact ⟨_,_,rfl,HB.o⟩)
 go_enter func304,ntmps304;go_wp2_with fail;refine HK.o.mono ?_;rintro e w1 ⟨rfl,hw⟩;have HSw:=dH (HS.o w1 hw);clear hw;go_wp2_with fail;refine HSw.o.mono ?_;rintro e w2 ⟨A,c,rfl,hb⟩;have HB:=dH hb;clear hb;go_wp2_with fail;go_ret;exact ⟨_,_,rfl,HB.o⟩
theorem wH:Ms.MapTy prog Ms.sk 225 9 3 (.int .i64 0):=Ms.MapTy.str underlying225 (fun w=>zeroValue3 w) underlying9
theorem Ar {w:World} {b:Nat} (h:w.heap[b]? =some (.map #[] 0)) (k:List UInt8):(Instr.lookup 225 (.map (some b)) (.string (bs k)) false).run prog w=.ok (.int .i64 0) w:=by
 have hF:Ms.MapF Ms.sk w b (fun _=>none):=⟨[],0,h,List.Pairwise.nil,by simp,fun _=>rfl⟩;exact hF.look wH k
theorem Gp (w:World):(Instr.makeMap 225 none).run prog w=.ok (.map (some w.heap.size)) (w.alloc (.map #[] 0)):=by simp [go_sem,Instr.makeMap]
theorem Tz (w:World):Calls prog 351 #[.string ⟨#[]⟩,.int .i64 0] w (dJ w (.tuple #[.string ⟨#[]⟩,.int .i64 0,.bool false])):=by
 have HR:=dH (Pt.Cd.Read_any [] w);have e0:(bs ([]:List UInt8))= ⟨#[]⟩:=rfl;rw [e0] at HR;clear e0;go_enter func351,ntmps351;go_wp2_with fail;refine HR.o.mono ?_;rintro e w1 ⟨rfl,hr,hb⟩;have HN:=dH (Pt.Cd.Num_any w.heap.size [] 0 0 w1 hr (aB _) (by decide));have eH:=dH hb;have e1:Pt.Cd.numS [] 0 0=(0,10,0):=rfl;rw [e1] at HN;clear e1 hr hb;go_wp2_with fail;refine HN.o.mono ?_;rintro e w2 ⟨rfl,hr,hg⟩;have HT:=dH (Pt.Cd.Text_any w.heap.size [] 0 10 w2 hr (aB _) (by decide));have eG:=dH (ef eH.o hg (aB _) eH.o.size);have e1:Pt.Cd.textS [] 0 10=(0,10,[]):=rfl;rw [e1] at HT;clear e1 hr hg;go_wp2_with fail;refine HT.o.mono ?_;rintro e w3 ⟨rfl,hr,hg⟩;have HE:=dH (Pt.Cd.Err_any w.heap.size [] 0 10 w3 hr);have dw:=dH (ef eG.o hg (aB _) eG.o.size);clear hr hg;go_wp2_with fail;refine HE.o.mono ?_;rintro e w4 ⟨rfl,rfl⟩;go_wp2_with fail;go_ret3;exact ⟨rfl,dw.o⟩
theorem Xt {B d nb fb:Nat} {v:Value} {ff:Fm.Files} {w:World} (h:Dk.Dsk B w d nb fb v (dst [] ff [])):
  Calls prog 303 #[.pointer (some ⟨d,0,none⟩)] w fun e w'=>∃m,e=.returned (.tuple #[.slice none 0 0,.map (some m)])/\w'.heap[m]? =some (.map #[] 0)/\Below w.heap.size w w'/\w.heap.size<=m:=by
 have hm:=Gp w;have dR:=dD w (.map #[] 0);have hM:(w.alloc (.map #[] 0)).heap[w.heap.size]? =some (.map #[] 0):=heap_alloc_new w _;obtain ⟨w1,hw1⟩:=dB (w.alloc (.map #[] 0));rw [<-hw1] at dR hM;obtain ⟨q,hq⟩:=dB w.heap.size;rw [<-hq] at hM;have Sw:=dH (h.later dR);have Ss:=dH hM;have eH:=dH dR;have HW:=dH hw1;have HQ:=dH hq;clear h dR hM hw1 hq;go_enter func303,ntmps303;go_upto_region 3 with (fail);rw [<-HW.o,<-HQ.o];clear hm;refine wp_loop_rounds 1 ?_;rw [rounds_succ];go_wp2_with fail;refine (yh _).mono ?_;rintro e w2 ⟨rfl,dS⟩;have hD2:=Sw.o.later dS;have Kl:=dH ((dS.block q (by have:=eH.o.size;have:=HQ.o;exact gQ Ss.o)).trans Ss.o);have eG:=dF eH dS;have HR:=dH (Dk.read_any hD2 rfl qA (by decide) (by decide));have e1:(Fm.get (dst [] ff []).now qA)=none:=rfl;rw [e1] at HR;have hl:=Ar Kl.o qA;clear e1 hD2 dS;go_wp2_with fail;refine HR.o.mono ?_;rintro e w3 ⟨rfl,rfl⟩;go_wp2_with fail;refine (Tz _).mono ?_;rintro e w4 ⟨rfl,hb4⟩;have XA:=dH ((hb4.block q (gQ Kl.o)).trans Kl.o);have fD:=dF eG hb4;clear hb4 hl;go_wp2_with fail;go_ret2;exact ⟨q,rfl,XA.o,fD.o,by rw [HQ.o];exact aB _⟩
theorem MY {d nb fb:Nat} {ff:Fm.Files} {w:World} (h:Dk.Dsk 0 w d nb fb (.slice none 0 0) (dst [] ff [])):
  Calls prog 246 #[.pointer (some ⟨d,0,none⟩)] w fun e w'=>∃l pU,e=.returned (.tuple #[.pointer (some ⟨l,0,none⟩),.slice none 0 0,.int .i64 0])/\Qi w' l d nb pU 0/\dY (fun i=>i=d\/i=nb) w w'/\w.heap.size<=l/\w.heap.size<=pU:=by
 have KH:=dH (Dk.dead_any h);have HS:=dH (Xt h);have HD:=dH h;clear h;go_enter func246,ntmps246;go_wp2_with fail;refine KH.o.mono ?_;rintro e w0 ⟨rfl,rfl⟩;go_wp2_with fail;refine HS.o.mono ?_;rintro e w1 ⟨m,rfl,hm,dR,hge⟩;have HN:=dH (Ty (HD.o.later dR));have Ss:=dH hm;have eH:=dH dR;have HGE:=dH hge;clear hm dR hge;go_wp2_with fail;refine HN.o.mono ?_;rintro e w2 ⟨A,c,rfl,dS⟩;have Kl:=dH ((dS.block m (gQ Ss.o)).trans Ss.o);have eG:=dF eH dS;have yJ:=dH (HD.o.later eG.o);have HSy:=dH (Dk.sync_any yJ.o rfl rfl);clear dS;go_wp2_with fail;refine wp_loop_rounds 1 ?_;rw [rounds_succ];go_wp2_with fail;refine HSy.o.mono ?_;rintro e w3 ⟨pU,rfl,KG,lM,Uf⟩;have PN:dG (w3.heap[m]? =some (.map #[] 0)):=dH ((lM.block m (gQ Kl.o) (by
  have h1:=HD.o.blk.lt;have h2:=HD.o.now.lt;have h3:=HGE.o;rintro (h|h|h)
  ·omega
  ·omega
  ·cases h)).trans Kl.o)
 have lJ:dG (dY (fun i=>i=d\/i=nb) w w3):=dH (eB (eR eG.o) lM (fun i _ h=>by
  rcases h with h|h|h
  ·exact .inl h
  ·exact .inr h
  ·cases h))
 have HD3:dG (Dk.Dsk 0 w3 d nb pU (.slice none 0 0) (dst [] [] [])):=dH KG;have HF3:=dH (aK eG.o.size Uf);clear KG lM Uf;go_wp2_with fail;refine (yh _).mono ?_;rintro e w4 ⟨rfl,hb4⟩;have XA:=dH ((hb4.block m (gQ PN.o)).trans PN.o);have nT:=dH (gI lJ.o hb4);have rJ:=dH (HD3.o.later hb4);have hl:=Ar XA.o qA;clear hb4;go_wp2_with fail;have eu:=dD w4 (.cells #[.pointer (some ⟨d,0,none⟩),.int .i64 0,.int .i64 0,.bool false] 391);have uK:=Blk.new w4 391 #[.pointer (some ⟨d,0,none⟩),.int .i64 0,.int .i64 0,.bool false];have hD5:=rJ.o.later eu;go_ret3;refine ⟨_,pU,rfl,⟨⟨0,by omega,uK,[],[],.inl ⟨rfl,rfl⟩,hD5⟩,?_,?_,?_⟩,gI nT.o eu,nT.o.size,HF3.o⟩
 ·have:=rJ.o.blk.lt;omega
 ·have:=rJ.o.now.lt;omega
 ·have:=rJ.o.firm.lt;omega
theorem MZ {d nb fb:Nat} {ff:Fm.Files} {w:World} (h:Dk.Dsk 0 w d nb fb (.slice none 0 0) (dst [] ff [])):
  Calls prog 171 #[.pointer (some ⟨d,0,none⟩)] w fun e w'=>∃o l pU,e=.returned (.tuple #[.pointer (some ⟨o,0,none⟩),.int .i64 0])/\Blk w' o 291 #[.slice none 0 0,.slice none 0 0,.pointer (some ⟨l,0,none⟩),.bool false]/\Qi w' l d nb pU 0/\dY (fun i=>i=d\/i=nb) w w'/\w.heap.size<=l/\w.heap.size<=pU/\w.heap.size<=o/\l < o/\pU < o/\d < o/\nb < o:=by
 have H:=dH (MY h);clear h;go_enter func171,ntmps171;go_wp2_with fail;refine H.o.mono ?_;rintro e w1 ⟨l,pU,rfl,hl,hk,h1,h2⟩;have HL:=dH hl;have HK:=dH hk;have HG:=dH (And.intro h1 h2);clear hl hk h1 h2;go_wp2_with fail;refine wp_loop_rounds 1 ?_;rw [rounds_succ];go_wp2_with fail;have eu:=dD w1 (.cells #[.slice none 0 0,.slice none 0 0,.pointer (some ⟨l,0,none⟩),.bool false] 291);have uK:=Blk.new w1 291 #[.slice none 0 0,.slice none 0 0,.pointer (some ⟨l,0,none⟩),.bool false];obtain ⟨⟨e0,he,hb,fs,f2,hf,hd⟩,n1,n2,n3⟩:=HL.o;go_ret2;exact ⟨_,l,pU,rfl,uK,⟨⟨e0,he,hb.below eu hb.lt,fs,f2,hf,hd.later eu⟩,n1,n2,n3⟩,gI HK.o eu,HG.o.1,HG.o.2,HK.o.size,hb.lt,hd.firm.lt,hd.blk.lt,hd.now.lt⟩
end
end Go.Proofs.YtgdaahffmcfhpaaGreatDoor
