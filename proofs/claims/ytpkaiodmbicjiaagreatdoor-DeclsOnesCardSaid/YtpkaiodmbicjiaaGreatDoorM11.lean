/- Part 11 of what the proof rests on. -/
import Derived.Conc.CompanyMem
import Derived.Conc.WalkWords
import Derived.Deep.QuietTactic
import Derived.Deep.RegionHeld3
import Derived.Deep.AppendLies
import Derived.Test.YtpkaiodmbicjiaaGreatDoorM05
import Derived.Test.YtpkaiodmbicjiaaGreatDoorM06
import Derived.Test.YtpkaiodmbicjiaaGreatDoorM10
import Derived.Test.YtpkaiodmbicjiaaGreatDoorM00
set_option linter.unusedSimpArgs false
set_option linter.unusedVariables false
set_option maxRecDepth 100000
set_option maxHeartbeats 4000000
namespace Go.Proofs.YtpkaiodmbicjiaaGreatDoor
open Go.Proofs.Tryz
open Go.Lx Go.RowKit
def dQ(off c:Nat):Nat:=if c=1 then off else off+1
theorem aAB{b off n c:Nat}(hc:n+1<=c)(w:World):(Instr.slice 48 (.slice (some ⟨b,off,none⟩) (n+1) c) (some (.int .i64 1)) none none).run prog w = .ok (.slice (some ⟨b,dQ off c,none⟩) n (c - 1)) w:=by
 have h1:(1:Int)<=(n:Int)+1:=by omega
 have h2:(n:Int)+1<=(c:Int):=by omega
 by_cases h:c=1
 . subst h;obtain rfl:n=0:=by omega
   simp[Instr.slice,Instr.sliceBounds,Instr.sliceBound,asIntOf,run_underlying underlying48,go_sem,dQ]
 . have h4:¬(c:Int)=1:=by omega
   simp[Instr.slice,Instr.sliceBounds,Instr.sliceBound,asIntOf,run_underlying underlying48,go_sem,dQ,h,h1,h2,h4]
def t6A(rb zb fb:Nat)(bv lv:Value)(fi:Bool)(J:Nat->Value):Array Value:=#[.pointer (some ⟨rb,0,none⟩),J 1,bv,J 3,J 4,J 5,.bool false,.pointer (some ⟨zb,0,none⟩),lv,J 9,.pointer (some ⟨fb,0,none⟩),.bool fi,J 12,J 13,J 14,J 15,J 16,J 17,J 18,J 19,J 20,J 21,J 22,J 23,J 24,J 25,J 26,J 27,J 28,J 29,J 30,J 31,J 32,J 33,J 34,J 35,J 36,J 37,J 38,J 39,J 40,J 41,J 42,J 43,J 44,J 45,J 46,J 47,J 48,J 49,J 50,J 51,J 52,J 53,J 54,J 55,J 56,J 57,J 58,J 59,J 60,J 61,J 62,J 63,J 64,J 65,J 66,J 67,J 68,J 69,J 70,J 71,J 72,J 73,J 74,J 75,J 76,J 77,J 78,J 79,J 80,J 81,J 82,J 83,J 84,J 85,J 86,J 87,J 88,J 89,J 90,J 91,J 92,J 93,J 94,J 95,J 96,J 97,J 98,J 99,J 100,J 101,J 102,J 103,J 104,J 105,J 106,J 107,J 108,J 109,J 110,J 111,J 112,J 113,J 114,J 115,J 116,J 117,J 118,J 119,J 120,J 121,J 122,J 123,J 124,J 125,J 126,J 127,J 128,J 129,J 130,J 131,J 132,J 133,J 134,J 135,J 136,J 137,J 138,J 139,J 140,J 141,J 142,J 143,J 144,J 145,J 146,J 147,J 148,J 149,J 150,J 151,J 152,J 153,J 154,J 155,J 156,J 157,J 158,J 159,J 160,J 161,J 162,J 163,J 164,J 165,J 166,J 167,J 168,J 169,J 170,J 171,J 172,J 173,J 174,J 175,J 176,J 177,J 178,J 179,J 180,J 181,J 182,J 183,J 184,J 185,J 186,J 187,J 188,J 189,J 190,J 191,J 192,J 193,J 194,J 195,J 196,J 197,J 198,J 199,J 200,J 201,J 202,J 203,J 204]
def pDB(w2:World)(rb zb:Nat)(bv lv:Value)(cs:Array Value)(fi:Bool)(e:Exit)(a':Act)(w':World):Prop:=e = .normal/\∃ fb,(∃ J,a'=⟨t6A rb zb fb bv lv fi J,[]⟩)/\BoxAt w' fb 157 cs/\Under w2 w'/\zb < fb
theorem f2A(s:ByteArray):∃(fk fn:Int) (fp:ByteArray) (fi:Bool),(((kN s).map iAA).getD (rH 0 0 []) = .agg #[.int .i64 fk,.int .i64 fn,.int .i64 0,.string ⟨#[]⟩,.string fp]/\(kN s).isSome=fi)/\((kN s=none/\fi=false/\fp=⟨#[]⟩)∨∃ parts,kN s=some (fk,fn,parts)/\fi=true/\fp=⟨parts.toArray⟩):=by
 cases h:kN s with
 | none=>exact⟨0,0,⟨#[]⟩,false,⟨rfl,rfl⟩,.inl ⟨rfl,rfl,rfl⟩⟩
 | some y =>
   obtain⟨k,n,parts⟩:=y;exact⟨k,n,⟨parts.toArray⟩,true,⟨rfl,rfl⟩,.inr ⟨parts,rfl,rfl,rfl⟩⟩
theorem zRA(pp:Int)(hd:ST)(l:List ST)(ih:∀ y∈l,tJA y):tJA (.list pp (hd::l)):=by
 have ih':=ih;clear ih;rintro W0 w rb m1 m2 cv dv ov acc p e q cap bv st cs ds hok hn hcap hw hE hcs hds hcn hdn hR hq ha hb hab hst hacc;have HLa:=aA (jJ (w0:=w) (.list pp (hd::l)) (q:=q) (cap:=cap) (by omega) hq);have HR:=aA hR;have HB:=aA hb;have hst':uI (hd::l):=hok;have hwx:∀ x∈rA (hd::l),x.word.size<=1000000:=λx hx=>hw x (by rw[qA];exact List.mem_append_left _ hx)
 have hl1:(qA (.list pp (hd::l))).length=(rA (hd::l)).length+1:=by rw[qA];simp
 have HPa:=aA (λw1 (hU:Under w w1)=>rV (w0:=w1) (cap:=cap) (p:=q) (qA (.list pp (hd::l))) (by omega) hcap (hq.under hU));rw[xL hst']at HPa;rw[hl1]at HLa HPa ⊢;have hN:(rA (hd::l)).length+1<=20000:=by omega
 have hab2:st.length+(rA (hd::l)).length<=50000:=by omega
 have hac2:acc.length+(rA (hd::l)).length+1<=900000:=by omega
 have HAb:=aA hab;have HTl:=aA (show ∀ y l',(hd::l)=y::l'->(rA l').length<=20000/\st.length+(rA l').length<=50000/\acc.length+(rA l').length+1<=900000 from λy l' e=>by
   have:(rA ((hd::l))).length=(qA y).length+(rA l').length:=by rw[e,rA,Qc]
   omega)
 have HLs:=aA (show ∀ y∈(hd::l),(qA y).length<=20000 from λy hy=>by have:=oH hy;omega);have HLn:=aA (show((hd::l):List ST).length<=20000 by have:=mH (hd::l);omega);have HEs:=aA hE;have HCs:=aA hcs;have HDs:=aA hds;clear hR hq ha hb hab hst hacc hn hw hok hl1 hcs hds hE;generalize (rA (hd::l)).length=fl at *;simp only[ST.last,sxV]at HLa;rw[pG];have HLh:RowKit.Hid ((qA hd).length<=20000):=aA (HLs.out hd (by simp));have HLl:RowKit.Hid (l.length<=20000):=aA (by have:=HLn.out;simp at this;omega);go_enter func59,ntmps59;go_wp2_with fail;refine wp_scope_straight ?_;go_wp2_with fail;refine HLa.out.mono ?_;rintro e w1 ⟨rfl,hU1⟩;have HU1:=aA (bA hU1 (.cells #[.int .i64 ((hd::l).length:Int),.int .i64 pp,.string ⟨#[]⟩] 28));have hZ:=zA w1 #[.int .i64 ((hd::l).length:Int),.int .i64 pp,.string ⟨#[]⟩] 28;have z0:(w1.alloc (.cells #[.int .i64 ((hd::l).length:Int),.int .i64 pp,.string ⟨#[]⟩] 28)).cell? ⟨w1.heap.size,0,none⟩=some (.int .i64 (((hd::l).length:Int))):=hZ.cell 0;have z1:(w1.alloc (.cells #[.int .i64 ((hd::l).length:Int),.int .i64 pp,.string ⟨#[]⟩] 28)).cell? ⟨w1.heap.size,1,none⟩=some (.int .i64 (pp)):=hZ.cell 1;have z2:(w1.alloc (.cells #[.int .i64 ((hd::l).length:Int),.int .i64 pp,.string ⟨#[]⟩] 28)).cell? ⟨w1.heap.size,2,none⟩=some (.string ⟨#[]⟩):=hZ.cell 2;have zl:=hZ.lt;have HZ:=aA hZ;have hw1:=hU1.size;clear hU1 HLa hZ;go_wp2_with fail;refine(HPa.out _ HU1.out).mono ?_;rintro e w2 ⟨hU2,vo,vs,rfl,ho1,ho2⟩;obtain⟨q2,c2,rfl,hc2,hts⟩:=g1A (HR.out.under (HU1.out.trans hU2)) ho1 ho2;have HZ2:=aA (HZ.out.under hU2);have z0:=HZ2.out.cell 0;have z1:=HZ2.out.cell 1;have z2:=HZ2.out.cell 2;have zl:=HZ2.out.lt;have HU2:=aA (HU1.out.trans hU2);have hzb:=Qb zl (Qd _);have HTs:=aA hts;clear hU2 ho1 ho2 hts HPa HU1 HZ hw1;generalize w1.heap.size=zb at *;obtain⟨bl,ol,hq2,hbl,hnC,hat⟩:=HTs.out (by simp);obtain⟨qh,ch,kh,hch,hsh,hah⟩:=hat 0 hd rfl;subst hq2;have hlh:(qA hd).length<=20000:=HLh.out;have HLa:=aA (λw' (hU:Under w2 w')=>jJ (w0:=w') hd (q:=qh) (cap:=ch) (by omega) (hsh.under hU));rw[Nat.add_zero]at kh;have r2:=(HR.out.under HU2.out).box.cell 2;have hm:=(HR.out.under HU2.out).f;have HD:=aA (show rb < w2.heap.size/\bl < w2.heap.size/\_ from⟨(HR.out.under HU2.out).box.lt,hbl,And.intro r2 (And.intro kh hm)⟩);have dd:=And.intro r2 (And.intro kh hm);obtain⟨kk,nn,fp,fi,⟨hfv,hfi⟩,hfo⟩:=f2A hd.last.word;have HFo:=aA hfo;have HLk:=λ(w':World) (h:MapAt w' m1 formsL)=>jUA h hd.last.word
 rw[hfv,hfi]at HLk;have HFd:=hZA hd.last.many hd.last.pos hd.last.word;have hl0:(0:Int) < ((l.length:Int)+1):=by omega
 have hl9:(l.length:Int)<=20000:=by have:=HLl.out;omega
 clear hat hsh hah hch hfv hfi hfo;go_wp2_with fail;rename_i K hK;refine wp_mono (Q:=pDB w2 rb zb bv (.slice (some ⟨bl,ol,none⟩) (l.length+1) c2) #[.int .i64 kk,.int .i64 nn,.int .i64 0,.string ⟨#[]⟩,.string fp] fi) ?_ ?_
 . skip
   refine wp_region_noPanic ?_;refine wp_region_held_drew (S:=λw'=>w'.cell? ⟨rb,2,none⟩=some (.map (some m1))/\w'.cell? ⟨bl,ol,none⟩=some (.slice qh (qA hd).length ch)/\MapAt w' m1 formsL) (by kernel_rfl) dd (λhHeld=>?_);refine dA 0 rfl ?_;refine dA 1 rfl ?_;refine dA 2 rfl ?_;refine dA 3 rfl ?_;refine dA 4 rfl ?_;refine dA 5 rfl ?_;refine dA 6 rfl ?_
   try walk_nrm
   refine kG 7 13 (by kernel_rfl) rfl rfl (λK hK=>?_) (λK hK=>?_)
   . go_simp;go_at_call 61;refine(HLa.out _ (fA (Qu _))).mono ?_;rintro e w3 ⟨rfl,hU3⟩;unfold sxV;have hU3:=(fA (Qu w2)).trans hU3;go_simp;refine hK.out _ _ (nDA hU3 HD.out) (λ_=>?_);clear hK K hHeld;rename_i hHeld
     try walk_nrm
     refine dA 8 rfl ?_;refine dA 9 rfl ?_;refine dA 10 rfl ?_;refine dA 11 rfl ?_;refine dA 12 rfl ?_;refine yA 13 (by kernel_rfl) rfl λK hK=>?_
     go_simp;refine hK.out _ _ (nDA (bA hU3 _) HD.out) (λ_=>?_);clear hK K hHeld;rename_i hHeld
     try walk_nrm
     refine yA 14 (by kernel_rfl) rfl λK hK=>?_
     go_simp;refine hK.out _ _ (nDA (bA hU3 _) HD.out) (λ_=>?_);clear hK K hHeld;rename_i hHeld
     try walk_nrm
     refine dA 15 rfl ?_
     try walk_nrm
     refine wpAnyH_done (by kernel_rfl) ?_ _;refine NoPanic.normal ?_;exact⟨rfl,w3.heap.size,⟨_,fB (F:=t6A rb zb w3.heap.size bv _ fi) (by rfl)⟩,zA w3 _ _,bA hU3 _,Qb zl hU3.size⟩
   . go_simp;refine hK.out _ _ (nDA (fA (bA (Qu _) _)) HD.out) (λ_=>?_);clear hK K hHeld;rename_i hHeld
     try walk_nrm
     refine yA 7 (by kernel_rfl) rfl λK hK=>?_
     go_simp;go_at_call 61;refine(HLa.out _ (fA (bA (Qu _) _))).mono ?_;rintro e w3 ⟨rfl,hU3⟩;unfold sxV;have hbx:=(zA w2 #[.int .i64 0,.int .i64 0,.int .i64 0,.string ⟨#[]⟩,.string ⟨#[]⟩] 157).under (Under.trans (fA (Qu _)) hU3);have hU4:=Under.trans (fA (bA (Qu w2) (.cells #[.int .i64 0,.int .i64 0,.int .i64 0,.string ⟨#[]⟩,.string ⟨#[]⟩] 157))) hU3;have b0:w3.cell? ⟨w2.heap.size,0,none⟩=some (.int .i64 0):=hbx.cell 0;have b1:w3.cell? ⟨w2.heap.size,1,none⟩=some (.int .i64 0):=hbx.cell 1;have b2:w3.cell? ⟨w2.heap.size,2,none⟩=some (.int .i64 0):=hbx.cell 2;have b3:w3.cell? ⟨w2.heap.size,3,none⟩=some (.string ⟨#[]⟩):=hbx.cell 3;have b4:w3.cell? ⟨w2.heap.size,4,none⟩=some (.string ⟨#[]⟩):=hbx.cell 4;have bl':=hbx.lt;have bf0:=hbx.free 0;have bf1:=hbx.free 1;have bf2:=hbx.free 2;have bf3:=hbx.free 3;have bf4:=hbx.free 4;go_simp;refine hK.out _ _ (nDA hU4 HD.out) (λ_=>?_);clear hK K hHeld;rename_i hHeld
     try walk_nrm
     refine dA 8 rfl ?_;refine dA 9 rfl ?_;refine dA 10 rfl ?_;refine dA 11 rfl ?_;refine dA 12 rfl ?_;refine yA 14 (by kernel_rfl) rfl λK hK=>?_
     go_simp;obtain⟨wE,hE⟩:∃ z,z=((((w3.setCell ⟨w2.heap.size,0,none⟩ (.int .i64 kk)).setCell ⟨w2.heap.size,1,none⟩ (.int .i64 nn)).setCell ⟨w2.heap.size,2,none⟩ (.int .i64 0)).setCell ⟨w2.heap.size,3,none⟩ (.string ⟨#[]⟩)).setCell ⟨w2.heap.size,4,none⟩ (.string fp):=⟨_,rfl⟩;have hU5:Under w2 wE:=by rw[hE];exact nA (nA (nA (nA (nA hU4 (Qd _) _ _) (Qd _) _ _) (Qd _) _ _) (Qd _) _ _) (Qd _) _ _
     have HFb:=aA (show BoxAt wE w2.heap.size 157 #[.int .i64 kk,.int .i64 nn,.int .i64 0,.string ⟨#[]⟩,.string fp] by rw[hE];exact((((hbx.set 0 _).set 1 _).set 2 _).set 3 _).set 4 _);rw[<- hE];refine hK.out _ _ (nDA hU5 HD.out) (λ_=>?_);clear hK K hHeld;rename_i hHeld
     try walk_nrm
     refine dA 15 rfl ?_
     try walk_nrm
     refine wpAnyH_done (by kernel_rfl) ?_ _;refine NoPanic.normal ?_;exact⟨rfl,w2.heap.size,⟨_,fB (F:=t6A rb zb w2.heap.size bv _ fi) (by rfl)⟩,HFb.out,hU5,zl⟩
 . rintro e a' wE ⟨rfl,fb,⟨J,rfl⟩,hFb,hUE,hze⟩;have HFb:=aA hFb;have HUe:=aA (HU2.out.trans hUE);have HZe:=aA (HZ2.out.under hUE);have HTe:=aA (HTs.out.ch (D:=qG rb ov) (Ch.of_under hUE));simp only[Exit.then];refine hK _ _ ?_;unfold t6A;clear hFb hUE hK K z0 z1 z2 zl HLk HFd HLa r2 kh hm dd;rcases HFo.out with⟨hf,rfl,rfl⟩|⟨parts,hf,rfl,rfl⟩
   . have HErr:RowKit.Hid (jF cs ds pp (hd::l) st = .error (71,pp)):=aA (by rw[jF,hf]);have HMa:=aA (λw'=>hHA (w0:=w') kk nn 0 ⟨#[]⟩ ⟨#[]⟩ l.length (by simp[ByteArray.size]) (by omega));have hsp:yB (⟨#[]⟩:ByteArray).data.toList l.length=[]:=rfl;rw[hsp]at HMa;have hmi:((l.length:Int)+1 - 1)=(l.length:Int):=by omega
     clear hsp hf HFo;have f0:wE.cell? ⟨fb,0,none⟩=some (.int .i64 kk):=HFb.out.cell 0;have f1:wE.cell? ⟨fb,1,none⟩=some (.int .i64 nn):=HFb.out.cell 1;have f2:wE.cell? ⟨fb,2,none⟩=some (.int .i64 0):=HFb.out.cell 2;have f3:wE.cell? ⟨fb,3,none⟩=some (.string ⟨#[]⟩):=HFb.out.cell 3;have f4:wE.cell? ⟨fb,4,none⟩=some (.string ⟨#[]⟩):=HFb.out.cell 4;have fl':=HFb.out.lt;go_wp2_with fail;refine(HMa.out wE).mono ?_;rintro e wM ⟨rfl,hUM⟩;have HFm:=aA (HFb.out.under hUM);have g0:wM.cell? ⟨fb,0,none⟩=some (.int .i64 kk):=HFm.out.cell 0;have g1:wM.cell? ⟨fb,1,none⟩=some (.int .i64 nn):=HFm.out.cell 1;have g2:wM.cell? ⟨fb,2,none⟩=some (.int .i64 0):=HFm.out.cell 2;have g3:wM.cell? ⟨fb,3,none⟩=some (.string ⟨#[]⟩):=HFm.out.cell 3;have g4:wM.cell? ⟨fb,4,none⟩=some (.string ⟨#[]⟩):=HFm.out.cell 4;have gl:=HFm.out.lt;have HUm:=aA (HUe.out.trans hUM);have HZm:=aA (HZe.out.under hUM);have HTm:=aA (HTe.out.ch (D:=qG rb ov) (Ch.of_under hUM));have zm:zb < wM.heap.size:=HZm.out.lt;have zc:wM.cell? ⟨zb,1,none⟩=some (.int .i64 pp):=HZm.out.cell 1;clear f0 f1 f2 f3 f4 fl' hUM HMa HUe HZe HTe HFb hze;go_wp2_with fail;have HU2:=aA (bA HUm.out (.cells #[.int .i64 (kk),.int .i64 (nn),.int .i64 (max 0 ((l.length:Int)+1)),.string ⟨#[]⟩] 96));generalize wM.alloc (.cells #[.int .i64 (kk),.int .i64 (nn),.int .i64 (max 0 ((l.length:Int)+1)),.string ⟨#[]⟩] 96)=wN at *;have HWr:=aA (jG (HR.out.under HU2.out) pp 71);go_wp2_with fail;refine HWr.out.mono ?_;rintro e w4 hO;have HO:=aA (ReOut.back HU2.out hO);obtain⟨_,_,_,_,_,_,_,rfl,_,_⟩:=hO;go_wp2;rw[Exit.noGoto_ret];go_ret;rw[HErr.out];exact HO.out
   . obtain⟨hsm,hfl⟩:=mRA hf;have HSm:=aA hsm;have HFl:=aA (And.intro hf hfl);clear hsm hf hfl HFo;have hps:(⟨parts.toArray⟩:ByteArray).size=parts.length:=by simp[ByteArray.size]
     have HMa:=aA (λw'=>hHA (w0:=w') (kk) nn 0 ⟨#[]⟩ ⟨parts.toArray⟩ l.length (by rw[hps];have:=HSm.out;omega) (by omega));have hpd:(⟨parts.toArray⟩:ByteArray).data.toList=parts:=by simp
     rw[hpd]at HMa;clear hpd;have hmi:((l.length:Int)+1 - 1)=(l.length:Int):=by omega
     obtain⟨psv,hpsv⟩:∃ z:ByteArray,z=⟨parts.toArray⟩:=⟨_,rfl⟩;rw[<- hpsv]at HMa HFb hps;clear hpsv;obtain⟨pl,hpl⟩:∃ z:Nat,z=parts.length:=⟨_,rfl⟩;rw[<- hpl]at hps HSm;rw[<- hps]at HSm;have HPl:=aA hpl;have HPs2:=aA hps;clear hpl hps;have hpb:(psv.size:Int)<=10:=by have:=HSm.out;omega
     have hpb0:(0:Int)<=(psv.size:Int):=by omega
     have f0:wE.cell? ⟨fb,0,none⟩=some (.int .i64 (kk)):=HFb.out.cell 0;have f1:wE.cell? ⟨fb,1,none⟩=some (.int .i64 nn):=HFb.out.cell 1;have f2:wE.cell? ⟨fb,2,none⟩=some (.int .i64 0):=HFb.out.cell 2;have f3:wE.cell? ⟨fb,3,none⟩=some (.string ⟨#[]⟩):=HFb.out.cell 3;have f4:wE.cell? ⟨fb,4,none⟩=some (.string psv):=HFb.out.cell 4;have fl':=HFb.out.lt;go_wp2_with fail;refine(HMa.out wE).mono ?_;rintro e wM ⟨rfl,hUM⟩;have HFm:=aA (HFb.out.under hUM);have g0:wM.cell? ⟨fb,0,none⟩=some (.int .i64 (kk)):=HFm.out.cell 0;have g1:wM.cell? ⟨fb,1,none⟩=some (.int .i64 nn):=HFm.out.cell 1;have g2:wM.cell? ⟨fb,2,none⟩=some (.int .i64 0):=HFm.out.cell 2;have g3:wM.cell? ⟨fb,3,none⟩=some (.string ⟨#[]⟩):=HFm.out.cell 3;have g4:wM.cell? ⟨fb,4,none⟩=some (.string psv):=HFm.out.cell 4;have gl:=HFm.out.lt;have HUm:=aA (HUe.out.trans hUM);have HZm:=aA (HZe.out.under hUM);have HTm:=aA (HTe.out.ch (D:=qG rb ov) (Ch.of_under hUM));have zm:zb < wM.heap.size:=HZm.out.lt;have zc:wM.cell? ⟨zb,1,none⟩=some (.int .i64 pp):=HZm.out.cell 1;clear f0 f1 f2 f3 f4 fl' hUM HMa HUe HZe HTe HFb hze
     cases hfit:decide ((yB parts l.length).length=l.length)
     . have hb:¬(yB parts l.length).length=l.length:=of_decide_eq_false hfit;have HErr:RowKit.Hid (jF cs ds pp (hd::l) st = .error (71,pp)):=aA (by rw[jF,HFl.out.1];simp only;rw[if_neg λh=>hb h.1]);clear hb;go_wp2_with fail;have HU2:=aA (bA HUm.out (.cells #[.int .i64 (kk),.int .i64 (nn),.int .i64 (max 0 ((l.length:Int) - (psv.size:Int)+1)),.string ⟨#[]⟩] 96));generalize wM.alloc (.cells #[.int .i64 (kk),.int .i64 (nn),.int .i64 (max 0 ((l.length:Int) - (psv.size:Int)+1)),.string ⟨#[]⟩] 96)=wN at *;have HWr:=aA (jG (HR.out.under HU2.out) pp 71);go_wp2_with fail;refine HWr.out.mono ?_;rintro e w4 hO;have HO:=aA (ReOut.back HU2.out hO);obtain⟨_,_,_,_,_,_,_,rfl,_,_⟩:=hO;go_wp2;rw[Exit.noGoto_ret];go_ret;rw[HErr.out];exact HO.out
     have HBb:=aA (of_decide_eq_true hfit);by_cases hM6:(6:Int) < max 0 ((l.length:Int) - (psv.size:Int)+1)
     . have hk:kk=26∨kk=27:=by
         rcases HFl.out.2 with h|h
         . exact h
         . have h0:=HBb.out;rw[mBA h]at h0;have h1:=HPs2.out;have h2:=HPl.out;exfalso;omega
       have HErr:RowKit.Hid (jF cs ds pp (hd::l) st = .error (71,pp)):=aA (by
         rw[jF,HFl.out.1];simp only;rw[if_neg λh=>by have h1:=HPs2.out;have h2:=HPl.out;have:=h.2 hk;omega])
       clear hk;go_wp2_with fail;have HU2:=aA (bA HUm.out (.cells #[.int .i64 (kk),.int .i64 (nn),.int .i64 (max 0 ((l.length:Int) - (psv.size:Int)+1)),.string ⟨#[]⟩] 96));generalize wM.alloc (.cells #[.int .i64 (kk),.int .i64 (nn),.int .i64 (max 0 ((l.length:Int) - (psv.size:Int)+1)),.string ⟨#[]⟩] 96)=wN at *;have HWr:=aA (jG (HR.out.under HU2.out) pp 71);go_wp2_with fail;refine HWr.out.mono ?_;rintro e w4 hO;have HO:=aA (ReOut.back HU2.out hO);obtain⟨_,_,_,_,_,_,_,rfl,_,_⟩:=hO;go_wp2;rw[Exit.noGoto_ret];go_ret;rw[HErr.out];exact HO.out
     by_cases h26:kk=26
     . subst h26;have HRs:RowKit.Hid (jF cs ds pp (hd::l) st=goS cs ds (fC false (yB parts l.length)) l ⟨26,nn,((l.length+1 - parts.length:Nat):Int),⟨#[]⟩⟩ [] st []):=aA (by
         rw[jF,HFl.out.1];simp only;rw[if_pos ⟨HBb.out,λ_=>by have h1:=HPs2.out;have h2:=HPl.out;omega⟩,if_pos (by first|trivial|simp)])
       have hc20:l.length+1<=c2:=by simpa using hc2
       have hcut:=aAB (b:=bl) (off:=ol) hc20;have HTt:=aA (show TsArg (qG rb ov) wM (some ⟨bl,dQ ol c2,none⟩) l from by
         by_cases h:c2=1
         . exact λhne=>absurd (List.eq_nil_of_length_eq_zero (by omega)) hne
         . rw[show dQ ol c2=ol+1 from if_neg h];exact HTm.out.tail)
       go_wp2_with fail;refine wp_label ?_;go_wp2_with fail;rename_i K hK;obtain⟨b1,b2,b3⟩:=HTl.out hd l rfl;have HNb:=zA wM #[.int .i64 26,.int .i64 nn,.int .i64 ((max 0 ((l.length:Int) - (psv.size:Int)+1))),.string ⟨#[]⟩] 96;have hUN:=bA (Qu wM) (.cells #[.int .i64 26,.int .i64 nn,.int .i64 ((max 0 ((l.length:Int) - (psv.size:Int)+1))),.string ⟨#[]⟩] 96);have hlN:wM.heap.size < (wM.alloc (.cells #[.int .i64 26,.int .i64 nn,.int .i64 ((max 0 ((l.length:Int) - (psv.size:Int)+1))),.string ⟨#[]⟩] 96)).heap.size:=by simp
       generalize wM.alloc (.cells #[.int .i64 26,.int .i64 nn,.int .i64 ((max 0 ((l.length:Int) - (psv.size:Int)+1))),.string ⟨#[]⟩] 96)=wN at *;have HOk:=aA (xCA (R:=goS cs ds (fC false (yB parts l.length)) l ⟨26,nn,((l.length+1 - parts.length:Nat):Int),⟨#[]⟩⟩ [] st []) (q2:=some ⟨bl,dQ ol c2,none⟩) (c3:=c2 - 1) (parts:=yB parts l.length) HR.out HUm.out hUN hlN (HTt.out) HB.out HAb.out hst'.2 b1 b2 b3 (λx hx=>hwx x (by rw[rA];exact List.mem_append_right _ hx)) HCs.out HDs.out hcn hdn HEs.out HBb.out);refine wp_mono (aAA _ HOk.out ih' _ _ ⟨[],false,⟨26,nn,(max 0 ((l.length:Int) - (psv.size:Int)+1)),⟨#[]⟩⟩,[],ov,p,e,.slice none 0 0,_,fB (F:=qE rb wM.heap.size bv (.slice none 0 0) false ⟨(yB parts l.length).toArray⟩ (some ⟨bl,dQ ol c2,none⟩) l.length (c2 - 1) 0) rfl,?_⟩) ?_
       . exact zCA HR.out (HUm.out.trans hUN) HNb (by
           show goS cs ds (fC false (yB parts l.length)) l ⟨26,nn,((l.length+1 - parts.length:Nat):Int),⟨#[]⟩⟩ [] st []=_
           have h1:=HPs2.out;have h2:=HPl.out
           first
            | rfl
            | rw[show((l.length+1 - parts.length:Nat):Int)=max 0 ((l.length:Int) - (psv.size:Int)+1) by omega])
       rintro ex a' wr hE;have HUN:=aA (HUm.out.trans hUN);have hwM:=HUm.out.size;rcases hE with⟨rfl,nms,wt,x,t,ov1,p1,e1,nv,J,rfl,hS⟩|⟨rfl,e2,p2,ov2,acc2,⟨J,rfl⟩,g1,g2,g3,g4⟩
       . have hlate:=dKA hS.re hS.nd (λe=>HOk.out.nrc (.inr (hS.own _ HOk.out.nlt e))) (λe=>HOk.out.nrc (.inl e.symm)) (by
           have h1:t.length<=(rA (l.take l.length)).length:=hS.tlen;rw[List.take_length]at h1
           show(acc++t).length<=1000000
           rw[Qc];omega) bv nv wt ⟨(yB parts l.length).toArray⟩ (some ⟨bl,dQ ol c2,none⟩) l.length (c2 - 1) l.length J
         simp only[Exit.inBlock,if_pos,Exit.then];refine hK _ _ ?_;refine wp_mono hlate ?_;rintro ex a' w' hL;obtain⟨rfl,⟨J',rfl⟩,hO⟩:=oSA HOk.out HUN.out hwM hS hL;have HO:=aA hO;clear hO hL hlate;rw[Exit.noGoto_ret];unfold dL;go_ret;rw[HRs.out];exact HO.out
       . have HO:=aA (aPA HUN.out hwM g1 g2 g3 g4);simp only[Exit.inBlock,Exit.then];clear g1 g2 g3 g4;rw[Exit.noGoto_ret];unfold dL;go_ret;rw[HRs.out];exact HO.out
     by_cases h27:kk=27
     . subst h27;have HRs:RowKit.Hid (jF cs ds pp (hd::l) st=goS cs ds (fC false (yB parts l.length)) l ⟨27,nn,((l.length+1 - parts.length:Nat):Int),⟨#[]⟩⟩ [] st []):=aA (by
         rw[jF,HFl.out.1];simp only;rw[if_pos ⟨HBb.out,λ_=>by have h1:=HPs2.out;have h2:=HPl.out;omega⟩,if_pos (by first|trivial|simp)])
       have hc20:l.length+1<=c2:=by simpa using hc2
       have hcut:=aAB (b:=bl) (off:=ol) hc20;have HTt:=aA (show TsArg (qG rb ov) wM (some ⟨bl,dQ ol c2,none⟩) l from by
         by_cases h:c2=1
         . exact λhne=>absurd (List.eq_nil_of_length_eq_zero (by omega)) hne
         . rw[show dQ ol c2=ol+1 from if_neg h];exact HTm.out.tail)
       go_wp2_with fail;refine wp_label ?_;go_wp2_with fail;rename_i K hK;obtain⟨b1,b2,b3⟩:=HTl.out hd l rfl;have HNb:=zA wM #[.int .i64 27,.int .i64 nn,.int .i64 ((max 0 ((l.length:Int) - (psv.size:Int)+1))),.string ⟨#[]⟩] 96;have hUN:=bA (Qu wM) (.cells #[.int .i64 27,.int .i64 nn,.int .i64 ((max 0 ((l.length:Int) - (psv.size:Int)+1))),.string ⟨#[]⟩] 96);have hlN:wM.heap.size < (wM.alloc (.cells #[.int .i64 27,.int .i64 nn,.int .i64 ((max 0 ((l.length:Int) - (psv.size:Int)+1))),.string ⟨#[]⟩] 96)).heap.size:=by simp
       generalize wM.alloc (.cells #[.int .i64 27,.int .i64 nn,.int .i64 ((max 0 ((l.length:Int) - (psv.size:Int)+1))),.string ⟨#[]⟩] 96)=wN at *;have HOk:=aA (xCA (R:=goS cs ds (fC false (yB parts l.length)) l ⟨27,nn,((l.length+1 - parts.length:Nat):Int),⟨#[]⟩⟩ [] st []) (q2:=some ⟨bl,dQ ol c2,none⟩) (c3:=c2 - 1) (parts:=yB parts l.length) HR.out HUm.out hUN hlN (HTt.out) HB.out HAb.out hst'.2 b1 b2 b3 (λx hx=>hwx x (by rw[rA];exact List.mem_append_right _ hx)) HCs.out HDs.out hcn hdn HEs.out HBb.out);refine wp_mono (aAA _ HOk.out ih' _ _ ⟨[],false,⟨27,nn,(max 0 ((l.length:Int) - (psv.size:Int)+1)),⟨#[]⟩⟩,[],ov,p,e,.slice none 0 0,_,fB (F:=qE rb wM.heap.size bv (.slice none 0 0) false ⟨(yB parts l.length).toArray⟩ (some ⟨bl,dQ ol c2,none⟩) l.length (c2 - 1) 0) rfl,?_⟩) ?_
       . exact zCA HR.out (HUm.out.trans hUN) HNb (by
           show goS cs ds (fC false (yB parts l.length)) l ⟨27,nn,((l.length+1 - parts.length:Nat):Int),⟨#[]⟩⟩ [] st []=_
           have h1:=HPs2.out;have h2:=HPl.out
           first
            | rfl
            | rw[show((l.length+1 - parts.length:Nat):Int)=max 0 ((l.length:Int) - (psv.size:Int)+1) by omega])
       rintro ex a' wr hE;have HUN:=aA (HUm.out.trans hUN);have hwM:=HUm.out.size;rcases hE with⟨rfl,nms,wt,x,t,ov1,p1,e1,nv,J,rfl,hS⟩|⟨rfl,e2,p2,ov2,acc2,⟨J,rfl⟩,g1,g2,g3,g4⟩
       . have hlate:=dKA hS.re hS.nd (λe=>HOk.out.nrc (.inr (hS.own _ HOk.out.nlt e))) (λe=>HOk.out.nrc (.inl e.symm)) (by
           have h1:t.length<=(rA (l.take l.length)).length:=hS.tlen;rw[List.take_length]at h1
           show(acc++t).length<=1000000
           rw[Qc];omega) bv nv wt ⟨(yB parts l.length).toArray⟩ (some ⟨bl,dQ ol c2,none⟩) l.length (c2 - 1) l.length J
         simp only[Exit.inBlock,if_pos,Exit.then];refine hK _ _ ?_;refine wp_mono hlate ?_;rintro ex a' w' hL;obtain⟨rfl,⟨J',rfl⟩,hO⟩:=oSA HOk.out HUN.out hwM hS hL;have HO:=aA hO;clear hO hL hlate;rw[Exit.noGoto_ret];unfold dL;go_ret;rw[HRs.out];exact HO.out
       . have HO:=aA (aPA HUN.out hwM g1 g2 g3 g4);simp only[Exit.inBlock,Exit.then];clear g1 g2 g3 g4;rw[Exit.noGoto_ret];unfold dL;go_ret;rw[HRs.out];exact HO.out
     have HRs:RowKit.Hid (jF cs ds pp (hd::l) st=goS cs ds (fC false (yB parts l.length)) l ⟨kk,nn,0,⟨#[]⟩⟩ [] st []):=aA (by
       rw[jF,HFl.out.1];simp only;rw[if_pos ⟨HBb.out,λh=>by omega⟩,if_neg (by omega)])
     have k26:(kk != 26)=true:=by simpa using h26
     have k27:(kk != 27)=true:=by simpa using h27
     have hc20:l.length+1<=c2:=by simpa using hc2
     have hcut:=aAB (b:=bl) (off:=ol) hc20;have HTt:=aA (show TsArg (qG rb ov) wM (some ⟨bl,dQ ol c2,none⟩) l from by
       by_cases h:c2=1
       . exact λhne=>absurd (List.eq_nil_of_length_eq_zero (by omega)) hne
       . rw[show dQ ol c2=ol+1 from if_neg h];exact HTm.out.tail)
     go_wp2_with fail;refine wp_label ?_;go_wp2_with fail;rename_i K hK;obtain⟨b1,b2,b3⟩:=HTl.out hd l rfl;have HNb:=zA wM #[.int .i64 kk,.int .i64 nn,.int .i64 (0),.string ⟨#[]⟩] 96;have hUN:=bA (Qu wM) (.cells #[.int .i64 kk,.int .i64 nn,.int .i64 (0),.string ⟨#[]⟩] 96);have hlN:wM.heap.size < (wM.alloc (.cells #[.int .i64 kk,.int .i64 nn,.int .i64 (0),.string ⟨#[]⟩] 96)).heap.size:=by simp
     generalize wM.alloc (.cells #[.int .i64 kk,.int .i64 nn,.int .i64 (0),.string ⟨#[]⟩] 96)=wN at *;have HOk:=aA (xCA (R:=goS cs ds (fC false (yB parts l.length)) l ⟨kk,nn,0,⟨#[]⟩⟩ [] st []) (q2:=some ⟨bl,dQ ol c2,none⟩) (c3:=c2 - 1) (parts:=yB parts l.length) HR.out HUm.out hUN hlN (HTt.out) HB.out HAb.out hst'.2 b1 b2 b3 (λx hx=>hwx x (by rw[rA];exact List.mem_append_right _ hx)) HCs.out HDs.out hcn hdn HEs.out HBb.out);refine wp_mono (aAA _ HOk.out ih' _ _ ⟨[],false,⟨kk,nn,0,⟨#[]⟩⟩,[],ov,p,e,.slice none 0 0,_,fB (F:=qE rb wM.heap.size bv (.slice none 0 0) false ⟨(yB parts l.length).toArray⟩ (some ⟨bl,dQ ol c2,none⟩) l.length (c2 - 1) 0) rfl,?_⟩) ?_
     . exact zCA HR.out (HUm.out.trans hUN) HNb (by
         show goS cs ds (fC false (yB parts l.length)) l ⟨kk,nn,0,⟨#[]⟩⟩ [] st []=_
         have h1:=HPs2.out;have h2:=HPl.out
         first
          | rfl
          | rw[show((l.length+1 - parts.length:Nat):Int)=max 0 ((l.length:Int) - (psv.size:Int)+1) by omega])
     rintro ex a' wr hE;have HUN:=aA (HUm.out.trans hUN);have hwM:=HUm.out.size;rcases hE with⟨rfl,nms,wt,x,t,ov1,p1,e1,nv,J,rfl,hS⟩|⟨rfl,e2,p2,ov2,acc2,⟨J,rfl⟩,g1,g2,g3,g4⟩
     . have hlate:=dKA hS.re hS.nd (λe=>HOk.out.nrc (.inr (hS.own _ HOk.out.nlt e))) (λe=>HOk.out.nrc (.inl e.symm)) (by
         have h1:t.length<=(rA (l.take l.length)).length:=hS.tlen;rw[List.take_length]at h1
         show(acc++t).length<=1000000
         rw[Qc];omega) bv nv wt ⟨(yB parts l.length).toArray⟩ (some ⟨bl,dQ ol c2,none⟩) l.length (c2 - 1) l.length J
       simp only[Exit.inBlock,if_pos,Exit.then];refine hK _ _ ?_;refine wp_mono hlate ?_;rintro ex a' w' hL;obtain⟨rfl,⟨J',rfl⟩,hO⟩:=oSA HOk.out HUN.out hwM hS hL;have HO:=aA hO;clear hO hL hlate;rw[Exit.noGoto_ret];unfold dL;go_ret;rw[HRs.out];exact HO.out
     . have HO:=aA (aPA HUN.out hwM g1 g2 g3 g4);simp only[Exit.inBlock,Exit.then];clear g1 g2 g3 g4;rw[Exit.noGoto_ret];unfold dL;go_ret;rw[HRs.out];exact HO.out
theorem kWA(T:ST):tJA T:=by
 induction T using ST.rec (motive_2:=λl=>∀ y∈l,tJA y) with
 | word p s=>exact eSA p s
 | list p l ih =>
   cases l with
   | nil=>exact zVA p
   | cons hd l=>exact zRA p hd l λy hy=>ih y (Qh _ hy)
 | nil=>rename_i y hy;cases hy
 | cons a l iha ihl =>
   rename_i y hy;rcases List.mem_cons.1 hy with rfl|hy
   . exact iha
   . exact ihl y hy
def ints(l:List Int):List Value:=l.map λn=>.int .i64 n
def nX(n:Int):Bool := !(decide (n < 0)||decide (9 < n))
def aW:Nat->List Int->Int
  | _,[] => -1
  | i,n::l=>if nX n=false then i else aW (i+1) l
theorem tPA{l:List Int}{k:Nat}{c:Int}(h:l[k]? = some c):aW k (l.drop k)=if nX c=false then(k:Int) else aW (k+1) (l.drop (k+1)):=by
 obtain⟨hk,hc⟩:=Qo.1 h;rw[Qi hk,hc];rfl
theorem oWA:∀(l:List Int) (i:Nat),decide (0<=aW i l) = !(l.all nX):=by
 intro l
 induction l with
 | nil=>intro i;simp[aW]
 | cons n l ih =>
   intro i;have e:aW i (n::l)=if nX n=false then(i:Int) else aW (i+1) l:=rfl
   by_cases h:nX n=false
   . simp only[e,List.all_cons,h];simp
   . simp only[e,if_neg h,List.all_cons,ih];simp at h;rw[h];simp
theorem zIA(l:List Int)(p:Option Addr)(c:Nat)(w:World)(hl:l.length<=maxLen)(hp:RowArg w p (ints l)) :
 Calls prog 137 #[.slice p l.length c,.func (.func 134) #[] #[]] w λe w'=>e = .returned (.int .i64 (aW 0 l))/\w=w':=by
 unfold maxLen at hl;have HP:=aA hp;clear hp;go_enter func137,ntmps137;go_wp2
 go_loop [8] (λi=>∃ k:Nat,k<=l.length/\i = .int .i64 k/\aW 0 l=aW k (l.drop k)) (λi=>l.length - (intOf i).toNat)
 case atStart=>exact⟨0,Nat.zero_le _,rfl,by simp⟩
 case round =>
   obtain⟨k,hk,rfl,hN⟩:=hrel;have HN:=aA hN;clear hN;by_cases hlt:k < l.length
   . have hc:=tPA (l:=l) (k:=k) (c:=l[k]) (Qa hlt);have HC:=aA hc;clear hc;obtain⟨b,off,rfl,hb,hcs⟩:=HP.out (by rw[Ne,ints,List.map_eq_nil_iff];intro e;rw[e]at hlt;simp at hlt);have cc:=hcs k (.int .i64 l[k]) (by simp[ints,Qa hlt]);clear hcs;generalize hx:l[k]=x at *;clear hx;by_cases h1:x < 0
     . go_wp2;go_ret;exact⟨iJ (by rw[HN.out,HC.out,if_pos (by simp[nX,h1])]),rfl⟩
     . by_cases h2 : 9 < x
       . go_wp2;go_ret;exact⟨iJ (by rw[HN.out,HC.out,if_pos (by simp[nX,h2])]),rfl⟩
       . go_wp2
         go_round
         case rel=>exact⟨k+1,by omega,by go_num,by rw[HN.out,HC.out,if_neg (by simp[nX];omega)]⟩
         case measure=>simp[intOf];omega
   . go_wp2;go_ret;exact⟨iJ (by rw[HN.out,List.drop_eq_nil_of_le (by omega)];rfl),rfl⟩
theorem cPA(l:List Int)(p:Option Addr)(c:Nat)(w:World)(hl:l.length<=maxLen)(hp:RowArg w p (ints l)) :
 Calls prog 133 #[.slice p l.length c,.func (.func 134) #[] #[]] w λe w'=>e = .returned (.bool (!l.all nX))/\w=w':=by
 have hb:=oWA l 0;have HB:=aA hb;clear hb;go_enter func133,ntmps133;go_wp2_with (go_at_call 137;refine(zIA l p c _ hl hp).mono ?_;rintro e w' ⟨rfl,rfl⟩);go_ret;exact⟨xI HB.out,rfl⟩
theorem v5A(l:List Int)(p:Option Addr)(c:Nat)(w:World)(hl:l.length<=maxLen)(hp:RowArg w p (ints l)) :
 Calls prog 127 #[.slice p l.length c] w λe w'=>e = .returned (.bool (l.all nX))/\w=w':=by
 go_enter func127,ntmps127;go_wp2_with (go_at_call 133;refine(cPA l p c _ hl hp).mono ?_;rintro e w' ⟨rfl,rfl⟩);go_ret;exact⟨xI (by simp),rfl⟩
def mPA(n:Int):Int:=if nX n then 0 else 1
theorem pEA(n:Int)(w:World) :
 Calls prog 120 #[.int .i64 n] w λe w'=>e = .returned (.int .i64 (mPA n))/\Under w w':=by
 have hc:=v5A [n] (some ⟨w.heap.size,0,none⟩) 1 (w.alloc (.cells #[.int .i64 n] 3)) (by unfold maxLen;simp) (by simpa [ints] using wP w (ints [n]) 3 (0,0));have e:[n].all nX=nX n:=by simp
 rw[e]at hc;have HC:=aA hc;clear hc e;unfold mPA;by_cases h:nX n
 all_goals
  go_enter func120,ntmps120;go_wp2_with (go_at_call 127;refine HC.out.mono ?_;rintro e w' ⟨rfl,rfl⟩);go_ret;exact⟨by simp,bA (Qu _) _⟩
theorem iGA(k:Int)(w:World):Calls prog 121 #[.int .i64 k] w λe w'=>e = .returned (.int .i64 (xAA k))/\w=w':=by
 unfold xAA;by_cases h0:k=0<;>by_cases h3:k=3<;>by_cases h6:k=6
 all_goals try omega
 all_goals
  go_enter func121,ntmps121;go_wp2;go_ret;exact⟨iJ (by simp[*]),rfl⟩
theorem sZA(x:Nd)(w:World)(hS:ShapesAt 2 w)(hr:jB x=true):Calls prog 114 #[ndV x] w λe w'=>e = .returned (.int .i64 ((binds x).length:Nat))/\Under w w':=by
 obtain⟨k,n,m,s⟩:=x;unfold ndV binds;obtain⟨h0,h1⟩:=rZA hr;have hm:=oFA hr;obtain⟨p,c,c0,_⟩:=hS.row k.toNat (by simp at h0 h1;omega);simp only at *;by_cases h26:k=26
 . have:=hm (.inl h26);go_enter func114,ntmps114;go_wp2;go_ret;exact⟨iJ (by omega),bA (Qu _) _⟩
 by_cases h27:k=27
 . have:=hm (.inr h27);go_enter func114,ntmps114;go_wp2;go_ret;exact⟨iJ (by omega),bA (Qu _) _⟩
 have hb:=hS.lt;clear hm hr hS;go_enter func114,ntmps114;go_wp2;go_ret;exact⟨iJ (by simp),bA (Qu _) _⟩
theorem rAB(k:Nat):(fN k=true/\fM k=false/\fS k=false/\(k=0∨k=2∨k=3∨k=6))∨(fN k=false/\fM k=false/\fS k=true/\(k=1∨k=25))∨(fN k=true/\fM k=true/\fS k=true/\k=26)∨(fN k=false/\fM k=true/\fS k=true/\k=27) ∨
    (fN k=false/\fM k=false/\fS k=false/\k≠2/\k≠26/\k≠27):=by
  simp only[fN,fM,fS,List.contains_iff_mem,Bool.eq_false_iff,ne_eq,List.mem_cons,List.not_mem_nil,or_false];omega
theorem tK(s:ByteArray):s.toList.isEmpty=decide (s.size=0):=by
 rw[ByteArray.toList_eq,<- ByteArray.size_data]
 cases h:s.data.toList with
 | nil=>simp[<- Array.length_toList,h]
 | cons a b=>simp[<- Array.length_toList,h]
structure RightAt (k n m:Int) (s:ByteArray) (w:World) (a b c:Bool):Prop where
 k0:0<=k
 k1:k < 30
 hs:s.size<=maxLen
 lt:2 < w.heap.size
 row:∃ p q,w.cell? ⟨2,k.toNat * 4,none⟩=some (.slice p (vJ k.toNat).length q)
 c1:w.cell? ⟨2,k.toNat * 4+1,none⟩=some (.bool a)
 c2:w.cell? ⟨2,k.toNat * 4+2,none⟩=some (.bool b)
 c3:w.cell? ⟨2,k.toNat * 4+3,none⟩=some (.bool c)
 e1:fN k.toNat=a
 e2:fM k.toNat=b
 e3:fS k.toNat=c
theorem RightAt.val{k n m:Int}{s:ByteArray}{w:World}{a b c:Bool}(H:RightAt k n m s w a b c):jB ⟨k,n,m,s⟩ =
    if(!a&&(n != 0))=true then false else if(!b&&(m != 0))=true then false else if(!c && !s.toList.isEmpty)=true then false else if(c && !fD s)=true then false
    else if(k==2)=true then decide (0<=n)&&decide (n<=9) else if(k==26)=true then decide (0<=n)&&decide (n<=5)&&decide (0<=m)&&decide (m<=6) else if(k==27)=true then decide (0<=m)&&decide (m<=6) else !a||(decide (0<=n)&&decide (n<=xAA k)):=by
  have e1:=H.e1;have e2:=H.e2;have e3:=H.e3;have h0:=H.k0;have h1:=H.k1;unfold jB;simp only;rw[if_neg (by omega),e1,e2,e3,tK]
  cases a<;>cases b<;>cases c<;>simp
theorem lIA(k:Int)(h:(k==26)=true)(w:World):Calls prog 121 #[.int .i64 k] w λe w'=>e = .returned (.int .i64 5)/\w=w':=by
 have:xAA k=5:=by simp at h;subst h;rfl
 have hc:=iGA k w;rw[this]at hc;exact hc
section
variable {k n m : Int} {s : ByteArray} {w : World}
theorem eWA(H:RightAt k n m s w true false false)(h26:(k==26)=false)(h27:(k==27)=false):Calls prog 113 #[ndV ⟨k,n,m,s⟩] w λe w'=>e = .returned (.bool (jB ⟨k,n,m,s⟩))/\Under w w':=by
 have HV:=aA H.val;obtain⟨hk0,hk1,hs,hb,⟨p,q,c0⟩,c1,c2,c3,e1,e2,e3⟩:=H;clear e1 e2 e3;unfold ndV
 cases hm:(m != 0)
 . cases he:s.toList.isEmpty
   . rw[show jB ⟨k,n,m,s⟩=false from HV.out.trans (by simp[*])];clear HV;go_enter func113,ntmps113;go_wp2;go_ret;exact⟨rfl,(by first|exact bA (bA (Qu _) _) _|exact bA (bA (bA (Qu _) _) _) _|exact iB (bA (bA (Qu _) _) _) _)⟩
   . cases h2:(k==2)
     . cases hn:decide (0<=n)
       . rw[show jB ⟨k,n,m,s⟩=false from HV.out.trans (by simp[*])];clear HV;go_enter func113,ntmps113;go_wp2;go_quiet ((go_at_call 121;exact Calls.quiet_of_same ((iGA _ _).mono λ_ _ h=>⟨h.1,h.2.symm⟩)));go_wp2;go_ret;exact⟨rfl,iB (bA (bA (Qu _) _) _) _⟩
       . rw[show jB ⟨k,n,m,s⟩=decide (n<=xAA k) from HV.out.trans (by simp[*])];clear HV;go_enter func113,ntmps113;go_wp2;go_quiet ((go_at_call 121;exact Calls.quiet_of_same ((iGA _ _).mono λ_ _ h=>⟨h.1,h.2.symm⟩)));go_wp2;go_ret;exact⟨rfl,iB (bA (bA (Qu _) _) _) _⟩
     . rw[show jB ⟨k,n,m,s⟩=(decide (0<=n)&&decide (n<=9)) from HV.out.trans (by simp[*])];clear HV;go_enter func113,ntmps113;go_wp2_with fail;refine(pEA n _).mono ?_;rintro e w' ⟨rfl,hU⟩;have HU:=aA hU;clear hU;unfold mPA nX;go_wp2
       all_goals
        go_ret;exact⟨xI (by simp[*]<;>omega),(bA (bA (Qu _) _) _).trans HU.out⟩
 . rw[show jB ⟨k,n,m,s⟩=false from HV.out.trans (by simp[*])];clear HV;go_enter func113,ntmps113;go_wp2;go_ret;exact⟨rfl,(by first|exact bA (bA (Qu _) _) _|exact bA (bA (bA (Qu _) _) _) _|exact iB (bA (bA (Qu _) _) _) _)⟩
theorem dXA(H:RightAt k n m s w false false true)(h2:(k==2)=false)(h26:(k==26)=false)(h27:(k==27)=false):Calls prog 113 #[ndV ⟨k,n,m,s⟩] w λe w'=>e = .returned (.bool (jB ⟨k,n,m,s⟩))/\Under w w':=by
 have HV:=aA H.val;obtain⟨hk0,hk1,hs,hb,⟨p,q,c0⟩,c1,c2,c3,e1,e2,e3⟩:=H;clear e1 e2 e3;unfold ndV
 cases hn:(n != 0)
 . cases hm:(m != 0)
   . cases hnm:fD s
     . rw[show jB ⟨k,n,m,s⟩=false from HV.out.trans (by simp[*])];clear HV;go_enter func113,ntmps113;go_wp2_with (go_at_call 46;refine(bI s _ hs).mono ?_;rintro e w' ⟨rfl,rfl⟩;try rw[hnm]);go_ret;exact⟨rfl,(by first|exact bA (bA (Qu _) _) _|exact bA (bA (bA (Qu _) _) _) _|exact iB (bA (bA (Qu _) _) _) _)⟩
     . rw[show jB ⟨k,n,m,s⟩=true from HV.out.trans (by simp[*])];clear HV;go_enter func113,ntmps113;go_wp2_with (go_at_call 46;refine(bI s _ hs).mono ?_;rintro e w' ⟨rfl,rfl⟩;try rw[hnm]);go_quiet (fail);go_wp2;go_ret;exact⟨rfl,(by first|exact bA (bA (Qu _) _) _|exact bA (bA (bA (Qu _) _) _) _|exact iB (bA (bA (Qu _) _) _) _)⟩
   . rw[show jB ⟨k,n,m,s⟩=false from HV.out.trans (by simp[*])];clear HV;go_enter func113,ntmps113;go_wp2;go_ret;exact⟨rfl,(by first|exact bA (bA (Qu _) _) _|exact bA (bA (bA (Qu _) _) _) _|exact iB (bA (bA (Qu _) _) _) _)⟩
 . rw[show jB ⟨k,n,m,s⟩=false from HV.out.trans (by simp[*])];clear HV;go_enter func113,ntmps113;go_wp2;go_ret;exact⟨rfl,(by first|exact bA (bA (Qu _) _) _|exact bA (bA (bA (Qu _) _) _) _|exact iB (bA (bA (Qu _) _) _) _)⟩
theorem fXA(H:RightAt k n m s w true true true)(h2:(k==2)=false)(h26:(k==26)=true):Calls prog 113 #[ndV ⟨k,n,m,s⟩] w λe w'=>e = .returned (.bool (jB ⟨k,n,m,s⟩))/\Under w w':=by
 have HV:=aA H.val;obtain⟨hk0,hk1,hs,hb,⟨p,q,c0⟩,c1,c2,c3,e1,e2,e3⟩:=H;clear e1 e2 e3;unfold ndV
 cases hnm:fD s
 . rw[show jB ⟨k,n,m,s⟩=false from HV.out.trans (by simp[*])];clear HV;go_enter func113,ntmps113;go_wp2_with (go_at_call 46;refine(bI s _ hs).mono ?_;rintro e w' ⟨rfl,rfl⟩;try rw[hnm]);go_ret;exact⟨rfl,(by first|exact bA (bA (Qu _) _) _|exact bA (bA (bA (Qu _) _) _) _|exact iB (bA (bA (Qu _) _) _) _)⟩
 . cases hn:decide (0<=n)
   . rw[show jB ⟨k,n,m,s⟩=false from HV.out.trans (by simp[*])];clear HV;go_enter func113,ntmps113;go_wp2_with (go_at_call 46;refine(bI s _ hs).mono ?_;rintro e w' ⟨rfl,rfl⟩;try rw[hnm]);go_quiet ((go_at_call 121;exact Calls.quiet_of_same ((lIA _ (by assumption) _).mono λ_ _ h=>⟨h.1,h.2.symm⟩)));go_wp2;go_ret;exact⟨rfl,(by first|exact bA (bA (Qu _) _) _|exact bA (bA (bA (Qu _) _) _) _|exact iB (bA (bA (Qu _) _) _) _)⟩
   . cases hn5:decide (n<=5)
     . rw[show jB ⟨k,n,m,s⟩=false from HV.out.trans (by simp[*])];clear HV;go_enter func113,ntmps113;go_wp2_with (go_at_call 46;refine(bI s _ hs).mono ?_;rintro e w' ⟨rfl,rfl⟩;try rw[hnm]);go_quiet ((go_at_call 121;exact Calls.quiet_of_same ((lIA _ (by assumption) _).mono λ_ _ h=>⟨h.1,h.2.symm⟩)));go_wp2;go_ret;exact⟨rfl,(by first|exact bA (bA (Qu _) _) _|exact bA (bA (bA (Qu _) _) _) _|exact iB (bA (bA (Qu _) _) _) _)⟩
     . cases hm0:decide (0<=m)
       . rw[show jB ⟨k,n,m,s⟩=false from HV.out.trans (by simp[*])];clear HV;go_enter func113,ntmps113;go_wp2_with (go_at_call 46;refine(bI s _ hs).mono ?_;rintro e w' ⟨rfl,rfl⟩;try rw[hnm]);go_quiet ((go_at_call 121;exact Calls.quiet_of_same ((lIA _ (by assumption) _).mono λ_ _ h=>⟨h.1,h.2.symm⟩)));go_wp2;go_ret;exact⟨rfl,(by first|exact bA (bA (Qu _) _) _|exact bA (bA (bA (Qu _) _) _) _|exact iB (bA (bA (Qu _) _) _) _)⟩
       . rw[show jB ⟨k,n,m,s⟩=decide (m<=6) from HV.out.trans (by simp[*])];clear HV;go_enter func113,ntmps113;go_wp2_with (go_at_call 46;refine(bI s _ hs).mono ?_;rintro e w' ⟨rfl,rfl⟩;try rw[hnm]);go_quiet ((go_at_call 121;exact Calls.quiet_of_same ((lIA _ (by assumption) _).mono λ_ _ h=>⟨h.1,h.2.symm⟩)));go_wp2;go_ret;exact⟨rfl,(by first|exact bA (bA (Qu _) _) _|exact bA (bA (bA (Qu _) _) _) _|exact iB (bA (bA (Qu _) _) _) _)⟩
theorem lXA(H:RightAt k n m s w false true true)(h2:(k==2)=false)(h26:(k==26)=false)(h27:(k==27)=true):Calls prog 113 #[ndV ⟨k,n,m,s⟩] w λe w'=>e = .returned (.bool (jB ⟨k,n,m,s⟩))/\Under w w':=by
 have HV:=aA H.val;obtain⟨hk0,hk1,hs,hb,⟨p,q,c0⟩,c1,c2,c3,e1,e2,e3⟩:=H;clear e1 e2 e3;unfold ndV
 cases hn:(n != 0)
 . cases hnm:fD s
   . rw[show jB ⟨k,n,m,s⟩=false from HV.out.trans (by simp[*])];clear HV;go_enter func113,ntmps113;go_wp2_with (go_at_call 46;refine(bI s _ hs).mono ?_;rintro e w' ⟨rfl,rfl⟩;try rw[hnm]);go_ret;exact⟨rfl,(by first|exact bA (bA (Qu _) _) _|exact bA (bA (bA (Qu _) _) _) _|exact iB (bA (bA (Qu _) _) _) _)⟩
   . cases hm0:decide (0<=m)
     . rw[show jB ⟨k,n,m,s⟩=false from HV.out.trans (by simp[*])];clear HV;go_enter func113,ntmps113;go_wp2_with (go_at_call 46;refine(bI s _ hs).mono ?_;rintro e w' ⟨rfl,rfl⟩;try rw[hnm]);go_ret;exact⟨rfl,(by first|exact bA (bA (Qu _) _) _|exact bA (bA (bA (Qu _) _) _) _|exact iB (bA (bA (Qu _) _) _) _)⟩
     . rw[show jB ⟨k,n,m,s⟩=decide (m<=6) from HV.out.trans (by simp[*])];clear HV;go_enter func113,ntmps113;go_wp2_with (go_at_call 46;refine(bI s _ hs).mono ?_;rintro e w' ⟨rfl,rfl⟩;try rw[hnm]);go_ret;exact⟨rfl,(by first|exact bA (bA (Qu _) _) _|exact bA (bA (bA (Qu _) _) _) _|exact iB (bA (bA (Qu _) _) _) _)⟩
 . rw[show jB ⟨k,n,m,s⟩=false from HV.out.trans (by simp[*])];clear HV;go_enter func113,ntmps113;go_wp2;go_ret;exact⟨rfl,(by first|exact bA (bA (Qu _) _) _|exact bA (bA (bA (Qu _) _) _) _|exact iB (bA (bA (Qu _) _) _) _)⟩
theorem uWA(H:RightAt k n m s w false false false)(h2:(k==2)=false)(h26:(k==26)=false)(h27:(k==27)=false):Calls prog 113 #[ndV ⟨k,n,m,s⟩] w λe w'=>e = .returned (.bool (jB ⟨k,n,m,s⟩))/\Under w w':=by
 have HV:=aA H.val;obtain⟨hk0,hk1,hs,hb,⟨p,q,c0⟩,c1,c2,c3,e1,e2,e3⟩:=H;clear e1 e2 e3;unfold ndV
 cases hn:(n != 0)
 . cases hm:(m != 0)
   . cases he:s.toList.isEmpty
     . rw[show jB ⟨k,n,m,s⟩=false from HV.out.trans (by simp[*])];clear HV;go_enter func113,ntmps113;go_wp2;go_ret;exact⟨rfl,(by first|exact bA (bA (Qu _) _) _|exact bA (bA (bA (Qu _) _) _) _|exact iB (bA (bA (Qu _) _) _) _)⟩
     . rw[show jB ⟨k,n,m,s⟩=true from HV.out.trans (by simp[*])];clear HV;go_enter func113,ntmps113;go_wp2;go_quiet (fail);go_wp2;go_ret;exact⟨rfl,iB (bA (bA (Qu _) _) _) _⟩
   . rw[show jB ⟨k,n,m,s⟩=false from HV.out.trans (by simp[*])];clear HV;go_enter func113,ntmps113;go_wp2;go_ret;exact⟨rfl,(by first|exact bA (bA (Qu _) _) _|exact bA (bA (bA (Qu _) _) _) _|exact iB (bA (bA (Qu _) _) _) _)⟩
 . rw[show jB ⟨k,n,m,s⟩=false from HV.out.trans (by simp[*])];clear HV;go_enter func113,ntmps113;go_wp2;go_ret;exact⟨rfl,(by first|exact bA (bA (Qu _) _) _|exact bA (bA (bA (Qu _) _) _) _|exact iB (bA (bA (Qu _) _) _) _)⟩
end
theorem pXA(x:Nd)(w:World)(hs:x.s.size<=maxLen)(hS:ShapesAt 2 w):Calls prog 113 #[ndV x] w λe w'=>e = .returned (.bool (jB x))/\Under w w':=by
 obtain⟨k,n,m,s⟩:=x;simp only at *;by_cases hk:k < 0
 . rw[show jB ⟨k,n,m,s⟩=false by simp[jB,hk]];unfold ndV;go_enter func113,ntmps113;go_wp2;go_ret;exact⟨rfl,bA (Qu _) _⟩
 by_cases hk2:30<=k
 . rw[show jB ⟨k,n,m,s⟩=false by simp[jB,hk2]];unfold ndV;go_enter func113,ntmps113;go_wp2;go_ret;exact⟨rfl,bA (Qu _) _⟩
 obtain⟨p,c,c0,_,_,c1,c2,c3⟩:=hS.row k.toNat (by omega);have hR:RightAt k n m s w (fN k.toNat) (fM k.toNat) (fS k.toNat):=⟨by omega,by omega,hs,hS.lt,⟨p,c,c0⟩,c1,c2,c3,rfl,rfl,rfl⟩;rcases rAB k.toNat with⟨e1,e2,e3,hc⟩|⟨e1,e2,e3,hc⟩|⟨e1,e2,e3,hc⟩|⟨e1,e2,e3,hc⟩|⟨e1,e2,e3,hc⟩<;>rw[e1,e2,e3]at hR
 . exact eWA hR (by simp;omega) (by simp;omega)
 . exact dXA hR (by simp;omega) (by simp;omega) (by simp;omega)
 . exact fXA hR (by simp;omega) (by simp;omega)
 . exact lXA hR (by simp;omega) (by simp;omega) (by simp;omega)
 . exact uWA hR (by simp;omega) (by simp;omega) (by simp;omega)
def jD:List (Nat×Nat)->List Value
  | []=>[]
  | x::l=>.int .i64 (x.1:Int) :: .int .i64 (x.2:Int)::jD l
theorem jM(l r:List (Nat×Nat)):jD (l++r)=jD l++jD r:=by
 induction l with
 | nil=>rfl
 | cons x l ih=>simp[jD,ih]
theorem fQ(l:List (Nat×Nat)):(jD l).length=l.length * 2:=by
 induction l with
 | nil=>rfl
 | cons x l ih=>simp[jD,ih];omega
theorem wR:∀ {l:List (Nat×Nat)} {k:Nat} {x:Nat×Nat},l[k]? = some x->(jD l)[k * 2]? = some (.int .i64 (x.1:Int))/\(jD l)[k * 2+1]? = some (.int .i64 (x.2:Int))
  | y::l,0,x,h=>by cases h;exact⟨rfl,rfl⟩
  | y :: l, k + 1, x, h => by
    have:=wR (l:=l) (k:=k) (x:=x) (by simpa using h);rw[show(k+1) * 2=k * 2+2 by omega];exact this
theorem Tryz.info187:(Tryz.prog.info? 187).map (λi=>(i.zero,i.size,i.bytes))=some (some (.agg #[.int .i64 0,.int .i64 0]),2,16):=by kernel_rfl
theorem gTA{l:List (Nat×Nat)}{i k:Nat}(h:∀ y∈l,y.2<=k):(meas i l).2<=k+1:=by
 have:∀(l:List (Nat×Nat)) (d:Nat),d<=k+1->(∀ y∈l,y.2<=k)->l.foldl (λd x=>max d (x.2+1)) d<=k+1:=by
  intro l
  induction l with
  | nil=>intro d hd _;exact hd
  | cons x l ih =>
    intro d hd hl;have:=hl x (Qn ..);exact ih _ (show max d (x.2+1)<=k+1 by omega) λy hy=>hl y (Qh _ hy)
 exact this l 1 (by omega) h
structure MI (w0:World) (t:List Nd) (va vo:Value) (k:Nat) (all op:List (Nat×Nat)) (w:World):Prop where
 all_:w.ownsRow w0.heap.size 187 2 va all.length (jD all)
 op_:w.ownsRow w0.heap.size 187 2 vo op.length (jD op)
 ne:va.ownBlock=none∨va.ownBlock≠vo.ownBlock
 low:Under w0 w
 res:yD (t.drop k) k all op=yD t 0 [] []
 al:all.length=k
 ol:op.length<=k
 dp:∀ y∈op,y.2<=k
def fYA(w0:World)(t:List Nd)(e:Ending)(w:World):Prop :=
 match yD t 0 [] [] with
 | none=>e = .returned (.tuple #[.slice none 0 0,.bool false])/\Under w0 w
 | some (all,op)=>∃ v,e = .returned (.tuple #[v,.bool (decide ((op.length:Int)=1))])/\w.ownsRow w0.heap.size 187 2 v all.length (jD all)/\Under w0 w
noncomputable def vU:Code:=f103.body.getD .skip
noncomputable def aU:Code:=aB (jA (jA vU))
noncomputable def msRound:Code:=nC (nC (jA aU))
noncomputable def a6A:Code:=aB (jA (jA (jA (jA (nC (aB (jA (jA msRound))))))))
noncomputable def miRound:Code:=nC (nC (jA a6A))
def gJ(l va vo:Value)(n k:Nat)(J:Nat->Value):Array Value:=#[l,J 1,J 2,J 3,va,vo,J 6,J 7,J 8,J 9,J 10,J 11,l,.int .i64 (n:Int),.int .i64 (k:Int),J 15,J 16,J 17,J 18,J 19,J 20,J 21,J 22,J 23,J 24,J 25,J 26,J 27,J 28,J 29,J 30,J 31,J 32,J 33,J 34,J 35,J 36,J 37,J 38,J 39,J 40,J 41,J 42,J 43,J 44,J 45,J 46,J 47,J 48,J 49,J 50,J 51,J 52,J 53,J 54,J 55,J 56,J 57,J 58,J 59,J 60,J 61,J 62,J 63,J 64,J 65,J 66,J 67,J 68,J 69,J 70,J 71,J 72]
def nI(l va vo:Value)(n k kk b9:Nat)(vs:Value)(bl j:Nat)(J:Nat->Value):Array Value :=
 #[l, J 1, J 2, J 3, va, vo, J 6, J 7, .int .i64 (kk : Int), .pointer (some ⟨b9, 0, none⟩), J 10, J 11, l, .int .i64 (n : Int), .int .i64 (k : Int), J 15, J 16, J 17, J 18, J 19, J 20, J 21, J 22, J 23, J 24, J 25, J 26, J 27, J 28, J 29, J 30, J 31, J 32, J 33, J 34, J 35, J 36, J 37, vs, .int .i64 (bl : Int), .int .i64 (j : Int), J 41, J 42, J 43, J 44, J 45, J 46, J 47, J 48, J 49, J 50, J 51, J 52, J 53, J 54, J 55, J 56, J 57, J 58, J 59, J 60, J 61, J 62, J 63, J 64, J 65, J 66, J 67, J 68, J 69, J 70, J 71, J 72]
def MIn(W1:World)(l va vo:Value)(n k kk b9:Nat)(vs:Value)(bl j:Nat)(f d:Nat)(a:Act)(w:World):Prop :=
 ∃ J,a=⟨nI l va vo n k kk b9 vs bl j J,[]⟩/\Under W1 w/\BoxAt w b9 187 #[.int .i64 (f:Int),.int .i64 (d:Int)]
def zBB(W1:World)(l va vo:Value)(n k kk b9:Nat)(vs:Value)(bl j:Nat)(f d:Nat)(e:Exit)(a:Act)(w:World):Prop:=e = .exit 2/\MIn W1 l va vo n k kk b9 vs bl j f d a w
theorem fCB{w:World}{b:Nat}{t:TypeId}{a:Value}{y y':Int}(h:BoxAt w b t #[a,.int .i64 y])(e:y=y'):BoxAt w b t #[a,.int .i64 y']:=e▸h
section
variable {W1 : World} {l va vo : Value} {n k kk b9 bl j f d : Nat}
theorem j6A{vs:Value}(J:Nat->Value)(w:World)(hU:Under W1 w)(hB:BoxAt w b9 187 #[.int .i64 (f:Int),.int .i64 (d:Int)]) :
 miRound.wp prog (Exit.then (λ_ _=>False) (zBB W1 l va vo n k kk b9 vs bl bl f d)) ⟨nI l va vo n k kk b9 vs bl bl J,[]⟩ w:=by
 have HU:=aA hU;have HB:=aA hB;clear hU hB;unfold miRound a6A msRound aU vU;simp only[f103,Qf,aB,jA,nC];unfold nI;go_wp2;exact⟨rfl,bB (F:=nI _ va vo n k kk b9 vs bl bl) (by rfl) ⟨HU.out,HB.out⟩⟩
theorem aBB{b off c:Nat}{x:Nat×Nat}(hj:j < bl)(hbl:bl<=8)(h9:W1.heap.size<=b9)(J:Nat->Value)(w:World)(hU:Under W1 w)(hB:BoxAt w b9 187 #[.int .i64 (f:Int),.int .i64 (d:Int)])
    (hx2:x.2<=4000) (hb:b < W1.heap.size) (c0:W1.cell? ⟨b,off+j * 2,none⟩=some (.int .i64 (x.1:Int))) (c1:W1.cell? ⟨b,off+j * 2+1,none⟩=some (.int .i64 (x.2:Int))) :
    miRound.wp prog (Exit.then (MIn W1 l va vo n k kk b9 (.slice (some ⟨b,off,none⟩) bl c) bl (j+1) (if j=0 then x.1 else f) (max d (x.2+1))) (λ_ _ _=>False)) ⟨nI l va vo n k kk b9 (.slice (some ⟨b,off,none⟩) bl c) bl j J,[]⟩ w:=by
  rw[<- iA hU hb]at c0 c1;have hb':=Qb hb hU.size;have e0:=hB.cell 0;have e1:=hB.cell 1;have f0:=hB.free 0;have f1:=hB.free 1;have h9':=hB.lt;have hj':(j:Int) < bl:=by omega
  have hj1:(0:Int)<=j:=Int.natCast_nonneg _;have hj2:(j:Int)<=8:=by omega
  have hx3:(x.2:Int)<=4000:=by omega
  have hx4:(0:Int)<=x.2:=Int.natCast_nonneg _;have HU:=aA hU;have HB:=aA hB;clear hU hB;by_cases hz:j=0
  . rw[if_pos hz];subst hz;rw[Nat.zero_mul,Nat.add_zero]at c0 c1;unfold miRound a6A msRound aU vU;simp only[f103,Qf,aB,jA,nC];unfold nI;go_wp2
    all_goals exact bB (F:=nI _ va vo n k kk b9 _ bl (0+1)) (by rfl) ⟨bA (nA (nA HU.out h9 _ _) h9 _ _) _,(fCB ((HB.out.set _ _).set _ _) (by omega)).alloc _⟩
  . rw[if_neg hz];have hz':(0:Int) < j:=by omega
    clear hz;unfold miRound a6A msRound aU vU;simp only[f103,Qf,aB,jA,nC];unfold nI;go_wp2
    all_goals exact bB (F:=nI _ va vo n k kk b9 _ bl (j+1)) (by rfl) ⟨bA (nA HU.out h9 _ _) _,(fCB (HB.out.set _ _) (by omega)).alloc _⟩
def uX(l:List (Nat×Nat))(j:Nat):Nat:=(l.take j).foldl (λd x=>max d (x.2+1)) 1
theorem dNA{l:List (Nat×Nat)}{j:Nat}{x:Nat×Nat}(h:l[j]? = some x):uX l (j+1)=max (uX l j) (x.2+1):=by
 obtain⟨hj,rfl⟩:=Qo.1 h;unfold uX;rw[Qj hj,List.foldl_append];rfl
theorem r9(ls:List (Nat×Nat)){p:Option Addr}{c i:Nat}(hbl:ls.length<=8)(h9:W1.heap.size<=b9)(hx:∀ x∈ls,x.2<=4000)(hp:RowArg W1 p (jD ls))(m:Nat)(a:Act)(w:World)
    (h0:∃ j,m+j=ls.length/\MIn W1 l va vo n k kk b9 (.slice p ls.length c) ls.length j (if j=0 then i else(ls.headD (i,0)).1) (uX ls j) a w) :
    (Code.loop miRound).wp prog (zBB W1 l va vo n k kk b9 (.slice p ls.length c) ls.length ls.length (meas i ls).1 (meas i ls).2) a w:=by
  refine wp_loop_ghost (λm a w=>∃ j,m+j=ls.length/\MIn W1 l va vo n k kk b9 (.slice p ls.length c) ls.length j (if j=0 then i else(ls.headD (i,0)).1) (uX ls j) a w) m h0 ?_;clear h0;rintro m a w ⟨j,hmj,J,rfl,hU,hB⟩;by_cases hjn:j=ls.length
  . subst hjn;have e1:(if ls.length=0 then i else(ls.headD (i,0)).1)=(meas i ls).1:=by cases ls<;>simp[meas]
    have e2:uX ls ls.length=(meas i ls).2:=by unfold uX meas;rw[List.take_length]
    rw[e1,e2]at hB;refine wp_mono (j6A J w hU hB) ?_;rintro e a' w' h
    cases e with
    | normal=>exact h.elim
    | _=>exact h
  have hlt:j < ls.length:=by omega
  obtain⟨b,off,rfl,hb,hc⟩:=hp (λe=>by have:=congrArg List.length e;rw[fQ,List.length_nil]at this;omega);obtain⟨c0,c1⟩:=wR (Qa hlt);refine wp_mono (aBB hlt hbl h9 J w hU hB (hx _ (Qr hlt)) hb (hc _ _ c0) (hc _ _ c1)) ?_;rintro e a' w' h
  cases e with
  | normal =>
    refine⟨m - 1,by omega,j+1,by omega,?_⟩;rw[dNA (Qa hlt),if_neg (by omega)];have e1:(ls.headD (i,0)).1=if j=0 then ls[j].1 else(if j=0 then i else(ls.headD (i,0)).1):=by
     by_cases hz:j=0
     . subst hz;rw[if_pos rfl]
       cases ls with
       | nil=>simp at hlt
       | cons x ls=>rfl
     . rw[if_neg hz,if_neg hz]
    rw[e1];exact h
  | _=>exact h.elim
end
section
variable {w0 : World} {t : List Nd} {b off c n k : Nat} {va vo : Value} {all op : List (Nat × Nat)}
def vTA(w0:World)(t:List Nd)(l:Value)(n k:Nat)(a:Act)(w:World):Prop:=∃ va vo all op J,a=⟨gJ l va vo n k J,[]⟩/\MI w0 t va vo k all op w
def sYA(v:Value)(b:Bool)(J:Nat->Value):Array Value:=#[J 0,J 1,v,.bool b,J 4,J 5,J 6,J 7,J 8,J 9,J 10,J 11,J 12,J 13,J 14,J 15,J 16,J 17,J 18,J 19,J 20,J 21,J 22,J 23,J 24,J 25,J 26,J 27,J 28,J 29,J 30,J 31,J 32,J 33,J 34,J 35,J 36,J 37,J 38,J 39,J 40,J 41,J 42,J 43,J 44,J 45,J 46,J 47,J 48,J 49,J 50,J 51,J 52,J 53,J 54,J 55,J 56,J 57,J 58,J 59,J 60,J 61,J 62,J 63,J 64,J 65,J 66,J 67,J 68,J 69,J 70,J 71,J 72]
def kBB(w0:World)(e:Exit)(a:Act)(w:World):Prop:=e = .ret/\∃ J,a=⟨sYA (.slice none 0 0) false J,[]⟩/\Under w0 w
theorem jAB{x:Nd}(hk:k < n)(hn:n<=4000)(hx:t[k]? = some x)(hbad:jB x=false∨op.length < (binds x).length)(J:Nat->Value)(w:World)(hM:MI w0 t va vo k all op w)
    (hR:∀ w1,Under w0 w1->Calls prog 113 #[ndV x] w1 λe w'=>e = .returned (.bool (jB x))/\Under w1 w')
    (hN:jB x=true->∀ w1,Under w0 w1->Calls prog 114 #[ndV x] w1 λe w'=>e = .returned (.int .i64 ((binds x).length:Nat))/\Under w1 w')
    (hb:b < w0.heap.size) (c0:w0.cell? ⟨b,off+k * 4,none⟩=some (.int .i64 x.k)) (c1:w0.cell? ⟨b,off+k * 4+1,none⟩=some (.int .i64 x.n)) (c2:w0.cell? ⟨b,off+k * 4+2,none⟩=some (.int .i64 x.m)) (c3:w0.cell? ⟨b,off+k * 4+3,none⟩=some (.string x.s)) :
    msRound.wp prog (Exit.then (λ_ _=>False) (kBB w0)) ⟨gJ (.slice (some ⟨b,off,none⟩) n c) va vo n k J,[]⟩ w:=by
  rw[<- iA hM.low hb]at c0 c1 c2 c3;have hb':=Qb hb hM.low.size;obtain⟨q,co,rfl,_,_⟩:=RowArg.of_own hM.op_;have HB:=aA (zA w #[.int .i64 x.k,.int .i64 x.n,.int .i64 x.m,.string x.s] 96);have HU:=aA (bA hM.low (.cells #[.int .i64 x.k,.int .i64 x.n,.int .i64 x.m,.string x.s] 96));have HC:=aA (hR _ HU.out);have hk':(k:Int) < n:=by omega
  have hk0:(0:Int)<=k:=Int.natCast_nonneg _;have hol:op.length<=4000:=by have:=hM.ol;omega
  clear hM hR hk hx;by_cases hr:jB x=true
  . have hl : op.length < (binds x).length := by rcases hbad with h | h; · rw [hr] at h; cases h
                                                 . exact h
    have hl':(op.length:Int) < ((binds x).length:Nat):=by omega
    have HN:=aA (hN hr);rw[hr]at HC;clear hbad hl hr hN;unfold msRound aU vU;simp only[f103,Qf,aB,jA,nC];unfold gJ;go_wp2_with fail;refine HC.out.mono ?_;rintro e w1 ⟨rfl,hU1⟩;have hB1:=HB.out.under hU1;have e0:=hB1.cell 0;have e1:=hB1.cell 1;have e2:=hB1.cell 2;have e3:=hB1.cell 3;have hlt1:=hB1.lt;have HU1:=aA hU1;have HM1:=aA (HN.out w1 (HU.out.trans hU1));clear hU1 hB1;go_wp2_with fail;refine HM1.out.mono ?_;rintro e w2 ⟨rfl,hU2⟩;have HU2:=aA hU2;clear hU2 e0 e1 e2 e3;go_wp2;exact⟨rfl,bB (F:=sYA _ false) (by rfl) ((HU.out.trans HU1.out).trans HU2.out)⟩
  . have hr':jB x=false:=by simpa using hr
    rw[hr']at HC;clear hbad hr hr' hN;unfold msRound aU vU;simp only[f103,Qf,aB,jA,nC];unfold gJ;go_wp2_with fail;refine HC.out.mono ?_;rintro e w1 ⟨rfl,hU1⟩;have HU1:=aA hU1;clear hU1;go_wp2;exact⟨rfl,bB (F:=sYA _ false) (by rfl) (HU.out.trans HU1.out)⟩
def g8A(w0:World)(t:List Nd)(l:Value)(n:Nat)(e:Exit)(a:Act)(w:World):Prop:=e = .exit 0/\vTA w0 t l n n a w
theorem f5A{l:Value}(J:Nat->Value)(w:World)(hM:MI w0 t va vo n all op w) :
 msRound.wp prog (Exit.then (λ_ _=>False) (g8A w0 t l n)) ⟨gJ l va vo n n J,[]⟩ w:=by
 have HM:=aA hM;clear hM;unfold msRound aU vU;simp only[f103,Qf,aB,jA,nC];unfold gJ;go_wp2;exact⟨rfl,va,vo,all,op,bB (F:=gJ _ va vo n n) (by rfl) HM.out⟩
end
section
variable {w0 : World} {t : List Nd} {b off c n k : Nat} {va vo : Value} {all op : List (Nat × Nat)}
theorem jCA(l:List (Nat×Nat))(k:Nat):jD (l.drop k)=(jD l).drop (k * 2):=by
 induction k generalizing l with
 | zero=>simp
 | succ k ih => cases l with
   | nil=>simp[jD]
   | cons x l=>rw[List.drop_succ_cons,ih,show(k+1) * 2=k * 2+2 by omega];rfl
theorem oU(l:List (Nat×Nat))(k:Nat):jD (l.take k)=(jD l).take (k * 2):=by
 induction k generalizing l with
 | zero=>simp[jD]
 | succ k ih => cases l with
   | nil=>simp[jD]
   | cons x l=>rw[List.take_succ_cons,show(k+1) * 2=k * 2+2 by omega];simp[jD,ih]
inductive OpenAt (vo:Value) (kk bl:Nat):Prop
  | nil (h:vo = .slice none 0 0) (hk:kk=0) (hb:bl=0)
  | full (g:Nat) (h:vo = .slice (some ⟨g,0,none⟩) kk kk) (hb:bl=0)
  | some (g co:Nat) (h:vo = .slice (some ⟨g,0,none⟩) (kk+bl) co) (hc:kk+bl<=co) (hk:kk < co) (hco:co<=maxLen)
theorem qAB{x:Nd}{kk bl:Nat}(hk:k < n)(hn:n<=4000)(hx:t[k]? = some x)(hr:jB x=true)(hbl:(binds x).length=bl)(hkk:op.length=kk+bl)(hd:∀ y∈op,y.2<=4000)(J:Nat->Value)(w:World)(hM:MI w0 t va vo k all op w)
    (hR:∀ w1,Under w0 w1->Calls prog 113 #[ndV x] w1 λe w'=>e = .returned (.bool true)/\Under w1 w')
    (hN:∀ w1,Under w0 w1->Calls prog 114 #[ndV x] w1 λe w'=>e = .returned (.int .i64 (bl:Nat))/\Under w1 w')
    (hb:b < w0.heap.size) (c0:w0.cell? ⟨b,off+k * 4,none⟩=some (.int .i64 x.k)) (c1:w0.cell? ⟨b,off+k * 4+1,none⟩=some (.int .i64 x.n)) (c2:w0.cell? ⟨b,off+k * 4+2,none⟩=some (.int .i64 x.m)) (c3:w0.cell? ⟨b,off+k * 4+3,none⟩=some (.string x.s)) :
    msRound.wp prog (Exit.then (vTA w0 t (.slice (some ⟨b,off,none⟩) n c) n (k+1)) (λ_ _ _=>False)) ⟨gJ (.slice (some ⟨b,off,none⟩) n c) va vo n k J,[]⟩ w:=by
  obtain⟨i0,hi,hz0,hz1,hz2⟩:=info_parts Tryz.info187;rw[<- iA hM.low hb]at c0 c1 c2 c3;have hb':=Qb hb hM.low.size;have hO:OpenAt vo kk bl:=by
   rcases hM.op_.2 with⟨rfl,h0⟩|⟨g,co,cur,rfl,hgb,hgg,hle,hml,_⟩
   . exact .nil rfl (by omega) (by omega)
   . rw[hkk]at hle ⊢;by_cases hc:kk < co
     . exact .some g co rfl hle hc hml
     . obtain rfl:bl=0:=by omega
       obtain rfl:co=kk:=by omega
       exact .full g rfl rfl
  have HB:=aA (zA w #[.int .i64 x.k,.int .i64 x.n,.int .i64 x.m,.string x.s] 96);have HU:=aA (bA hM.low (.cells #[.int .i64 x.k,.int .i64 x.n,.int .i64 x.m,.string x.s] 96));have HC:=aA (hR _ HU.out);have HN:=aA hN;have HM:=aA hM;have HK:=aA hkk;have HD:=aA hd;have hk':(k:Int) < n:=by omega
  have hk0:(0:Int)<=k:=Int.natCast_nonneg _;have hol:kk+bl<=4000:=by have:=hM.ol;omega
  have hbl8:bl<=8:=by have:=q8 hr;omega
  have HX:=aA hx;have HR:=aA hr;have HBL:=aA hbl;clear hM hR hN hk hkk hd hx hr hbl;rcases hO with⟨rfl,rfl,rfl⟩|⟨g,rfl,rfl⟩|⟨g,co,rfl,hc,hkc,hco⟩
  all_goals
   try have i1:(0:Int)<=kk:=Int.natCast_nonneg _
   try have i2:(0:Int)<=bl:=Int.natCast_nonneg _
   try have i3:(kk:Int)+bl<=4000:=by omega
   try have i7:(kk:Int)<=4000:=by omega
   try have i4:(kk:Int)<=co:=by omega
   try have i5:(kk:Int)+bl<=co:=by omega
   try have i6:¬ co=kk:=by omega
   unfold msRound aU vU;simp only[f103,Qf,aB,jA,nC];unfold gJ;go_wp2_with fail;refine HC.out.mono ?_;rintro e w1 ⟨rfl,hU1⟩;have hB1:=HB.out.under hU1;have e0:=hB1.cell 0;have e1:=hB1.cell 1;have e2:=hB1.cell 2;have e3:=hB1.cell 3;have hlt1:=hB1.lt;have HU1:=aA hU1;have HB1:=aA hB1;have HM1:=aA (HN.out w1 (HU.out.trans hU1));clear hU1 hB1;go_wp2_with fail;refine HM1.out.mono ?_;rintro e w2 ⟨rfl,hU2⟩;have hB2:=HB1.out.under hU2;have HU2:=aA hU2;have HM2:=aA (HN.out w2 ((HU.out.trans HU1.out).trans hU2));clear e0 e1 e2 e3;have e0:=hB2.cell 0;have e1:=hB2.cell 1;have e2:=hB2.cell 2;have e3:=hB2.cell 3;have hlt2:=hB2.lt;clear hU2 hB2;go_wp2_with fail;refine HM2.out.mono ?_;rintro e w3 ⟨rfl,hU3⟩;have HU3:=aA hU3;clear e0 e1 e2 e3 hU3;go_wp2;rename_i K hK;have hUw3:=((HU.out.trans HU1.out).trans HU2.out).trans HU3.out;have hUw:=((bA (Qu w) (.cells #[.int .i64 x.k,.int .i64 x.n,.int .i64 x.m,.string x.s] 96)).trans HU1.out).trans (HU2.out.trans HU3.out)
  . have hls:(op.drop 0).length=0:=by have:=HK.out;rw[List.length_drop];omega
    have hA3:=uA HM.out.all_ hUw;have HL:=λp1 c1=>r9 (W1:=w3) (l:=.slice (some ⟨b,off,none⟩) n c) (va:=va) (vo:=.slice none 0 0) (n:=n) (k:=k) (kk:=0) (b9:=w3.heap.size) (op.drop 0) (p:=p1) (c:=c1) (i:=k) (by omega) (Qd _) (λy hy=>HD.out y (List.mem_of_mem_drop hy))
      (λhne=>absurd (List.eq_nil_of_length_eq_zero (by rw[fQ,hls])) hne)
    simp only[hls]at HL;refine wp_mono (HL _ _ 0 _ _ ⟨0,by omega,bB (F:=nI _ _ _ _ _ _ _ _ 0 0) (by rfl) ⟨bA (Qu _) _,zA w3 _ _⟩⟩) ?_;rintro e a' w4 ⟨rfl,J',rfl,hU4,hB4⟩;simp only[Exit.inBlock,if_pos,Exit.then];refine hK _ _ ?_;clear hK HL;have hm4:meas k (op.drop 0)=meas k (op.drop 0):=rfl;generalize hf:(meas k (op.drop 0)).1=f at hB4;generalize hd:(meas k (op.drop 0)).2=d at hB4;have hO4:=World.ownsRow_nil w4 w0.heap.size 187 2;have hA4:=uA hA3 hU4;have e0:=hB4.cell 0;have e1:=hB4.cell 1;have h9:=hB4.lt;have hb4:=Ql hUw3.size hU4.size;have hu4:=hUw3.trans hU4;have hmx:0+1<=maxLen:=by simp only[maxLen];omega
    have hby:(0+1) * 16<=140737488355328:=by omega
    have HM4:=aA hm4;have HF:=aA hf;have HDd:=aA hd;have HO4:=aA hO4;have HA4:=aA hA4;have HU4:=aA hu4;have HB4:=aA hB4;clear hm4 hf hd hO4 hA4 hu4 hB4 hA3 hUw hUw3 hls hU4;unfold nI;go_wp2_with fail;go_region_held3 (λw'=>w'.cell? ⟨w3.heap.size,0,none⟩=some (.int .i64 (f:Int))/\w'.cell? ⟨w3.heap.size,1,none⟩=some (.int .i64 (d:Int)))
      (first
        | go_keep
        | (go_split_ands
           refine⟨?_,?_⟩
           . (rw[hgrow.cell_far _ (by simp;omega) (by simp[Value.ownBlock]<;>omega)];assumption)
           . (rw[hgrow.cell_far _ (by simp;omega) (by simp[Value.ownBlock]<;>omega)];assumption)))
      ((refine step_append_lies _ (by rfl) _ _ _ (by rfl) w0.heap.size 187 i0 _ 2 16 underlying165 hi hz0 hz1 hz2 rfl (by omega) (.slice none 0 0) 0 [] (by rfl) ((HO4.out.alloc _).drew)
          ⟨w4.heap.size,0,none⟩ 1 1 [.int .i64 (f:Int),.int .i64 (d:Int)] (by rfl) (by rfl) (World.news_of_block (cs:=#[.int .i64 (f:Int),.int .i64 (d:Int)]) (t:=187) (fr:=(0,0)) (zA w4 _ _)) (by simp[Value.oneCell'])
          (by omega) hmx hby (by simp;omega) (w4.heap.size+1) (by simp) ?_;intro gg cc w5 hown5 hgrow hat hlt))
    have hne5:va.ownBlock=none∨va.ownBlock≠(Value.slice none 0 0).ownBlock:=HM.out.ne;have hA5:=rC ((HA4.out.alloc _).drew) hgrow hne5;have hB5:=((HB4.out.alloc _).drew).grown hgrow (by simp[Value.ownBlock]<;>omega);have hU5:=eB (fA (bA HU4.out _)) hgrow (λg' e=>by cases e);clear e0 e1;have e0:=hB5.cell 0;have e1:=hB5.cell 1;have h95:=hB5.lt;have hz5:=hU5.size;have hgg:va.ownBlock=none∨va.ownBlock≠some gg:=by
     rcases hat with e|rfl
     . rw[<- e];exact hne5
     . cases hv:va.ownBlock with
       | none=>exact .inl rfl
       | some g'=>right;intro e;cases e;have:=(xB HA4.out hv).2;omega
    have hk4:all.length+1<=maxLen:=by have:=HM.out.al;simp only[maxLen];omega
    have hb4:(all.length+1) * 16<=140737488355328:=by have:=HM.out.al;omega
    have HA5:=aA hA5;have HU5:=aA hU5;have HO5:=aA hown5;have HG:=aA hgg;clear hA5 hB5 hU5 hown5 hgg hne5 hat hgrow;go_wp2_with (at_builtin;refine wpList_append_own_at _ rfl _ _ 165 rfl w0.heap.size 187 i0 _ 2 16 underlying165 hi hz0 hz1 hz2 rfl (by decide) _ _ _ rfl (HA5.out.alloc _) ⟨w5.heap.size,0,none⟩ 1 1 [.int .i64 (f:Int),.int .i64 (d:Int)] rfl rfl ?c1 ?c2 hk4 hb4 ?c5 ?_)
    case c1 =>
      intro j u hj
      match j,hj with
      | 0,hj=>cases hj;simp[Addr.add]
      | 1,hj=>cases hj;simp[Addr.add]
    case c2=>intro u hu;simp at hu;rcases hu with rfl|rfl<;>rfl
    case c5=>simp;omega
    intro v' w6 hown6 hgrow6 hnil6 hat6;have hO6:=rC (HO5.out.alloc (.cells #[.int .i64 (f:Int),.int .i64 (d:Int)] 187)) hgrow6 (by
      rcases HG.out with e|e
      . right;rw[e];simp[Value.ownBlock]
      . right;exact λe'=>e e'.symm)
    have hne6:v'.ownBlock=none∨v'.ownBlock≠(Value.slice (some ⟨gg,0,none⟩) (0+1) cc).ownBlock:=by
     rcases hat6 with e|e
     . rw[e];exact HG.out
     . right;rw[e];have:=hlt;simp[Value.ownBlock];omega
    have hU6:=eB (bA HU5.out (.cells #[.int .i64 (f:Int),.int .i64 (d:Int)] 187)) hgrow6 (λg' e=>(xB HA5.out e).1);have HM6:MI w0 t v' (.slice (some ⟨gg,0,none⟩) (0+1) cc) (k+1) (all++[(f,d)]) (op.take 0++[(f,d)]) w6:=by
     have htl:(op.take 0++[(f,d)]).length=0+1:=by rw[Qc,List.length_take,HK.out];simp
     refine⟨by rw[Qc,jM];exact hown6,by rw[htl,jM,oU];exact hO6,hne6,hU6,?_,by rw[Qc,HM.out.al];rfl,by rw[htl];have:=HM.out.ol;rw[HK.out]at this;omega,λy hy=>by
       rcases List.mem_append.1 hy with h|h
       . have:=HM.out.dp y (List.mem_of_mem_take h);omega
       . rw[List.mem_singleton.1 h];show d<=k+1;rw[<- HDd.out];exact gTA λy hy=>HM.out.dp y (List.mem_of_mem_drop hy)⟩
     rw[<- HM.out.res];obtain⟨hkt,hx⟩:=Qo.1 HX.out;rw[Qi hkt,hx]
     show _=if jB x=false∨op.length < (binds x).length then none else yD (t.drop (k+1)) (k+1) (all++[meas k (op.drop (op.length - (binds x).length))]) (op.take (op.length - (binds x).length)++[meas k (op.drop (op.length - (binds x).length))])
     have e:op.length - (binds x).length=0:=by have h1:=HK.out;have h2:=HBL.out;omega
     have e':meas k (op.drop 0)=(f,d):=Prod.ext HF.out HDd.out;rw[if_neg (by rw[HR.out,HK.out,HBL.out];simp),e,e']
    have HM7:=aA HM6;clear hO6 hne6 hU6 HM6 hown6 hgrow6 hnil6 hat6;go_wp2;exact⟨v',_,_,_,bB (F:=gJ _ v' _ n (k+1)) (by rfl) HM7.out⟩
  all_goals
   first|have hls:(op.drop kk).length=bl:=by(rw[List.length_drop,HK.out];omega)|have hls:(op.drop kk).length=0:=by(rw[List.length_drop,HK.out];omega)
   have hO3:=uA HM.out.op_ hUw;rw[HK.out]at hO3;have hA3:=uA HM.out.all_ hUw;have hgl:g < w3.heap.size:=(xB hO3 rfl).2
   first
    | (have HL:=r9 (W1:=w3) (l:=.slice (some ⟨b,off,none⟩) n c) (va:=va) (vo:=.slice (some ⟨g,0,none⟩) (kk+bl) co) (n:=n) (k:=k) (kk:=kk) (b9:=w3.heap.size) (op.drop kk) (p:=some ⟨g,kk * 2,none⟩) (c:=co - kk) (i:=k) (by omega) (Qd _) (λy hy=>HD.out y (List.mem_of_mem_drop hy)) (λ_=>⟨g,kk * 2,rfl,hgl,λj u hj=>rD hO3 rfl (by rw[jCA,List.getElem?_drop]at hj;exact hj)⟩);rw[hls]at HL;refine wp_mono (HL bl _ _ ⟨0,by omega,bB (F:=nI _ _ _ _ _ _ _ _ bl 0) (by rfl) ⟨bA (Qu _) _,zA w3 _ _⟩⟩) ?_)
    | (have HL:=λp1 c1=>r9 (W1:=w3) (l:=.slice (some ⟨b,off,none⟩) n c) (va:=va) (vo:=.slice (some ⟨g,0,none⟩) kk kk) (n:=n) (k:=k) (kk:=kk) (b9:=w3.heap.size) (op.drop kk) (p:=p1) (c:=c1) (i:=k) (by omega) (Qd _) (λy hy=>HD.out y (List.mem_of_mem_drop hy)) (λhne=>absurd (List.eq_nil_of_length_eq_zero (by rw[fQ,hls])) hne);simp only[hls]at HL;refine wp_mono (HL _ _ 0 _ _ ⟨0,by omega,bB (F:=nI _ _ _ _ _ _ _ _ 0 0) (by rfl) ⟨bA (Qu _) _,zA w3 _ _⟩⟩) ?_)
   rintro e a' w4 ⟨rfl,J',rfl,hU4,hB4⟩;simp only[Exit.inBlock,if_pos,Exit.then];refine hK _ _ ?_;clear hK HL;have hm4:meas k (op.drop kk)=meas k (op.drop kk):=rfl;generalize hf:(meas k (op.drop kk)).1=f at hB4;generalize hd:(meas k (op.drop kk)).2=d at hB4
   first|have hO4:=rR (uA hO3 hU4) (m:=kk) (Qd kk)|have hO4:=rR (uA hO3 hU4) (m:=kk) (Nat.le_add_right kk bl)
   have hA4:=uA hA3 hU4;have e0:=hB4.cell 0;have e1:=hB4.cell 1;have h9:=hB4.lt;have hgl4:=Qb hgl hU4.size;have hb4:=Ql hUw3.size hU4.size;have hu4:=hUw3.trans hU4;have hmx:kk+1<=maxLen:=by simp only[maxLen];omega
   have hby:(kk+1) * 16<=140737488355328:=by omega
   have hgne:g≠w3.heap.size:=by omega
   have HM4:=aA hm4;have HF:=aA hf;have HDd:=aA hd;have HO4:=aA hO4;have HA4:=aA hA4;have HU4:=aA hu4;have HB4:=aA hB4;clear hm4 hf hd hO4 hA4 hu4 hB4 hO3 hA3 hUw hUw3 hls hU4;unfold nI;go_wp2_with fail;go_region_held3 (λw'=>w'.cell? ⟨w3.heap.size,0,none⟩=some (.int .i64 (f:Int))/\w'.cell? ⟨w3.heap.size,1,none⟩=some (.int .i64 (d:Int)))
     (first
       | go_keep
       | (go_split_ands
          refine⟨?_,?_⟩
          . (rw[hgrow.cell_far _ (by simp;omega) (by simp[Value.ownBlock]<;>omega)];assumption)
          . (rw[hgrow.cell_far _ (by simp;omega) (by simp[Value.ownBlock]<;>omega)];assumption)))
     ((refine step_append_lies _ (by rfl) _ _ _ (by rfl) w0.heap.size 187 i0 _ 2 16 underlying165 hi hz0 hz1 hz2 rfl (by omega) _ kk ((jD op).take (kk * 2)) (by rfl) ((HO4.out.alloc _).drew)
         ⟨w4.heap.size,0,none⟩ 1 1 [.int .i64 (f:Int),.int .i64 (d:Int)] (by rfl) (by rfl) (World.news_of_block (cs:=#[.int .i64 (f:Int),.int .i64 (d:Int)]) (t:=187) (fr:=(0,0)) (zA w4 _ _)) (by simp[Value.oneCell'])
         (by omega) hmx hby (by simp;omega) (w4.heap.size+1) (by simp) ?_;intro gg cc w5 hown5 hgrow hat hlt))
   have hne5:va.ownBlock=none∨va.ownBlock≠some g:=HM.out.ne;have hA5:=rC ((HA4.out.alloc _).drew) hgrow hne5;have hB5:=((HB4.out.alloc _).drew).grown hgrow (by simp[Value.ownBlock]<;>omega);have hU5:=eB (fA (bA HU4.out _)) hgrow (λg' e=>(xB HO4.out e).1);clear e0 e1;have e0:=hB5.cell 0;have e1:=hB5.cell 1;have h95:=hB5.lt;have hz5:=hU5.size;have hgg:va.ownBlock=none∨va.ownBlock≠some gg:=by
    rcases hat with e|rfl
    . rw[<- e];exact hne5
    . cases hv:va.ownBlock with
      | none=>exact .inl rfl
      | some g'=>right;intro e;cases e;have:=(xB HA4.out hv).2;omega
   have hk4:all.length+1<=maxLen:=by have:=HM.out.al;simp only[maxLen];omega
   have hb4:(all.length+1) * 16<=140737488355328:=by have:=HM.out.al;omega
   have HA5:=aA hA5;have HU5:=aA hU5;have HO5:=aA hown5;have HG:=aA hgg;clear hA5 hB5 hU5 hown5 hgg hne5 hat hgrow;go_wp2_with (at_builtin;refine wpList_append_own_at _ rfl _ _ 165 rfl w0.heap.size 187 i0 _ 2 16 underlying165 hi hz0 hz1 hz2 rfl (by decide) _ _ _ rfl (HA5.out.alloc _) ⟨w5.heap.size,0,none⟩ 1 1 [.int .i64 (f:Int),.int .i64 (d:Int)] rfl rfl ?c1 ?c2 hk4 hb4 ?c5 ?_)
   case c1 =>
     intro j u hj
     match j,hj with
     | 0,hj=>cases hj;simp[Addr.add]
     | 1,hj=>cases hj;simp[Addr.add]
   case c2=>intro u hu;simp at hu;rcases hu with rfl|rfl<;>rfl
   case c5=>simp;omega
   intro v' w6 hown6 hgrow6 hnil6 hat6;have hO6:=rC (HO5.out.alloc (.cells #[.int .i64 (f:Int),.int .i64 (d:Int)] 187)) hgrow6 (by
     rcases HG.out with e|e
     . right;rw[e];simp[Value.ownBlock]
     . right;exact λe'=>e e'.symm)
   have hne6:v'.ownBlock=none∨v'.ownBlock≠(Value.slice (some ⟨gg,0,none⟩) (kk+1) cc).ownBlock:=by
    rcases hat6 with e|e
    . rw[e];exact HG.out
    . right;rw[e];have:=hlt;simp[Value.ownBlock];omega
   have hU6:=eB (bA HU5.out (.cells #[.int .i64 (f:Int),.int .i64 (d:Int)] 187)) hgrow6 (λg' e=>(xB HA5.out e).1);have HM6:MI w0 t v' (.slice (some ⟨gg,0,none⟩) (kk+1) cc) (k+1) (all++[(f,d)]) (op.take kk++[(f,d)]) w6:=by
    have htl:(op.take kk++[(f,d)]).length=kk+1:=by rw[Qc,List.length_take,HK.out];simp
    refine⟨by rw[Qc,jM];exact hown6,by rw[htl,jM,oU];exact hO6,hne6,hU6,?_,by rw[Qc,HM.out.al];rfl,by rw[htl];have:=HM.out.ol;rw[HK.out]at this;omega,λy hy=>by
      rcases List.mem_append.1 hy with h|h
      . have:=HM.out.dp y (List.mem_of_mem_take h);omega
      . rw[List.mem_singleton.1 h];show d<=k+1;rw[<- HDd.out];exact gTA λy hy=>HM.out.dp y (List.mem_of_mem_drop hy)⟩
    rw[<- HM.out.res];obtain⟨hkt,hx⟩:=Qo.1 HX.out;rw[Qi hkt,hx]
    show _=if jB x=false∨op.length < (binds x).length then none else yD (t.drop (k+1)) (k+1) (all++[meas k (op.drop (op.length - (binds x).length))]) (op.take (op.length - (binds x).length)++[meas k (op.drop (op.length - (binds x).length))])
    have e:op.length - (binds x).length=kk:=by have h1:=HK.out;have h2:=HBL.out;omega
    have e':meas k (op.drop kk)=(f,d):=Prod.ext HF.out HDd.out;rw[if_neg (by rw[HR.out,HK.out,HBL.out];simp),e,e']
   have HM7:=aA HM6;clear hO6 hne6 hU6 HM6 hown6 hgrow6 hnil6 hat6;go_wp2;exact⟨v',_,_,_,bB (F:=gJ _ v' _ n (k+1)) (by rfl) HM7.out⟩
end
end Go.Proofs.YtpkaiodmbicjiaaGreatDoor
