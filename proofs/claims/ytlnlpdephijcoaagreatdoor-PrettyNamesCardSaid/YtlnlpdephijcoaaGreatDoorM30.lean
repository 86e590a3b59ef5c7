/- Part 30 of what the proof rests on. -/
import Derived.Conc.CompanyMem
import Derived.Conc.WalkWords
import Derived.Test.YtlnlpdephijcoaaGreatDoorM11
import Derived.Test.YtlnlpdephijcoaaGreatDoorM29
set_option linter.unusedSimpArgs false
set_option linter.unusedVariables false
set_option maxRecDepth 100000
set_option maxHeartbeats 4000000
namespace Go.Proofs.YtlnlpdephijcoaaGreatDoor
open Go.Lx Go.RowKit
def o6A(rb zb fb:Nat)(bv lv:Value)(fi:Bool)(J:Nat→Value):Array Value:=#[.pointer (some ⟨rb,0,none⟩),J 1,bv,J 3,J 4,J 5,.bool false,.pointer (some ⟨zb,0,none⟩),lv,J 9,.pointer (some ⟨fb,0,none⟩),.bool fi,J 12,J 13,J 14,J 15,J 16,J 17,J 18,J 19,J 20,J 21,J 22,J 23,J 24,J 25,J 26,J 27,J 28,J 29,J 30,J 31,J 32,J 33,J 34,J 35,J 36,J 37,J 38,J 39,J 40,J 41,J 42,J 43,J 44,J 45,J 46,J 47,J 48,J 49,J 50,J 51,J 52,J 53,J 54,J 55,J 56,J 57,J 58,J 59,J 60,J 61,J 62,J 63,J 64,J 65,J 66,J 67,J 68,J 69,J 70,J 71,J 72,J 73,J 74,J 75,J 76,J 77,J 78,J 79,J 80,J 81,J 82,J 83,J 84,J 85,J 86,J 87,J 88,J 89,J 90,J 91,J 92,J 93,J 94,J 95,J 96,J 97,J 98,J 99,J 100,J 101,J 102,J 103,J 104,J 105,J 106,J 107,J 108,J 109,J 110,J 111,J 112,J 113,J 114,J 115,J 116,J 117,J 118,J 119,J 120,J 121,J 122,J 123,J 124,J 125,J 126,J 127,J 128,J 129,J 130,J 131,J 132,J 133,J 134,J 135,J 136,J 137,J 138,J 139,J 140,J 141,J 142,J 143,J 144,J 145,J 146,J 147,J 148,J 149,J 150,J 151,J 152,J 153,J 154,J 155,J 156,J 157,J 158,J 159,J 160,J 161,J 162,J 163,J 164,J 165,J 166,J 167,J 168,J 169,J 170,J 171,J 172,J 173,J 174,J 175,J 176,J 177,J 178,J 179,J 180,J 181,J 182,J 183,J 184,J 185,J 186,J 187,J 188,J 189,J 190,J 191,J 192,J 193,J 194,J 195,J 196,J 197,J 198,J 199,J 200,J 201,J 202,J 203,J 204]
def xDB(w2:World)(rb zb:Nat)(bv lv:Value)(cs:Array Value)(fi:Bool)(e:Exit)(a':Act)(w':World):Prop:=e = .normal∧∃ fb,(∃ J,a'=⟨o6A rb zb fb bv lv fi J,[]⟩)∧BoxAt w' fb 114 cs∧Under w2 w'∧zb < fb
theorem l2A(s:ByteArray):∃(fk fn:Int) (fp:ByteArray) (fi:Bool),(((gN s).map mAA).getD (mH 0 0 []) = .agg #[.int .i64 fk,.int .i64 fn,.int .i64 0,.string ⟨#[]⟩,.string fp]∧(gN s).isSome=fi)∧((gN s=none∧fi=false∧fp=⟨#[]⟩)∨∃ parts,gN s=some (fk,fn,parts)∧fi=true∧fp=⟨parts.toArray⟩):=by
 cases h:gN s with
 | none=>exact⟨0,0,⟨#[]⟩,false,⟨rfl,rfl⟩,.inl ⟨rfl,rfl,rfl⟩⟩
 | some y =>
   obtain⟨k,n,parts⟩:=y;exact⟨k,n,⟨parts.toArray⟩,true,⟨rfl,rfl⟩,.inr ⟨parts,rfl,rfl,rfl⟩⟩
theorem wQA(pp:Int)(hd:ST)(l:List ST)(ih:∀ y∈l,jNA y):jNA (.list pp (hd::l)):=by
 have ih':=ih;clear ih;rintro W0 w rb m1 m2 cv dv ov acc p e q cap bv st cs ds hok hn hcap hw hE hcs hds hcn hdn hR hq ha hb hab hst hacc;have HLa:=Lib.hid (fJ (w0:=w) (.list pp (hd::l)) (q:=q) (cap:=cap) (by omega) hq);have HR:=Lib.hid hR;have HB:=Lib.hid hb;have hst':p9 (hd::l):=hok;have hwx:∀ x∈iA (hd::l),x.word.size≤1000000:=fun x hx=>hw x (by rw[jB];exact List.mem_append_left _ hx)
 have hl1:(jB (.list pp (hd::l))).length=(iA (hd::l)).length+1:=by rw[jB];simp
 have HPa:=Lib.hid (fun w1 (hU:Under w w1)=>xIA (w0:=w1) (cap:=cap) (p:=q) (jB (.list pp (hd::l))) (by omega) hcap (hq.under hU));rw[lHA hst']at HPa;rw[hl1]at HLa HPa ⊢;have hN:(iA (hd::l)).length+1≤20000:=by omega
 have hab2:st.length+(iA (hd::l)).length≤50000:=by omega
 have hac2:acc.length+(iA (hd::l)).length+1≤900000:=by omega
 have HAb := Lib.hid hab; have HTl := Lib.hid (show ∀ y l', (hd :: l) = y :: l' → (iA l').length ≤ 20000 ∧ st.length + (iA l').length ≤ 50000 ∧ acc.length + (iA l').length + 1 ≤ 900000 from fun y l' e => by
   have:(iA ((hd::l))).length=(jB y).length+(iA l').length:=by rw[e,iA,List.length_append]
   omega)
 have HLs:=Lib.hid (show ∀ y∈(hd::l),(jB y).length≤20000 from fun y hy=>by have:=yO hy;omega);have HLn:=Lib.hid (show((hd::l):List ST).length≤20000 by have:=bQ (hd::l);omega);have HEs:=Lib.hid hE;have HCs:=Lib.hid hcs;have HDs:=Lib.hid hds;clear hR hq ha hb hab hst hacc hn hw hok hl1 hcs hds hE;generalize (iA (hd::l)).length=fl at *;simp only[ST.last,sxV]at HLa;rw[pJ];have HLh:RowKit.Hid ((jB hd).length≤20000):=Lib.hid (HLs.out hd (by simp));have HLl:RowKit.Hid (l.length≤20000):=Lib.hid (by have:=HLn.out;simp at this;omega);go_enter Tryz.func28,Tryz.ntmps28;go_wp2_with fail;refine wp_scope_straight ?_;go_wp2_with fail;refine HLa.out.mono ?_;rintro e w1 ⟨rfl,hU1⟩;have HU1:=Lib.hid (aA hU1 (.cells #[.int .i64 ((hd::l).length:Int),.int .i64 pp,.string ⟨#[]⟩] 29));have hZ:=yA w1 #[.int .i64 ((hd::l).length:Int),.int .i64 pp,.string ⟨#[]⟩] 29;have z0:(w1.alloc (.cells #[.int .i64 ((hd::l).length:Int),.int .i64 pp,.string ⟨#[]⟩] 29)).cell? ⟨w1.heap.size,0,none⟩=some (.int .i64 (((hd::l).length:Int))):=hZ.cell 0;have z1:(w1.alloc (.cells #[.int .i64 ((hd::l).length:Int),.int .i64 pp,.string ⟨#[]⟩] 29)).cell? ⟨w1.heap.size,1,none⟩=some (.int .i64 (pp)):=hZ.cell 1;have z2:(w1.alloc (.cells #[.int .i64 ((hd::l).length:Int),.int .i64 pp,.string ⟨#[]⟩] 29)).cell? ⟨w1.heap.size,2,none⟩=some (.string ⟨#[]⟩):=hZ.cell 2;have zl:=hZ.lt;have HZ:=Lib.hid hZ;have hw1:=hU1.size;clear hU1 HLa hZ;go_wp2_with fail;refine(HPa.out _ HU1.out).mono ?_;rintro e w2 ⟨hU2,vo,vs,rfl,ho1,ho2⟩;obtain⟨q2,c2,rfl,hc2,hts⟩:=b1A (HR.out.under (HU1.out.trans hU2)) ho1 ho2;have HZ2:=Lib.hid (HZ.out.under hU2);have z0:=HZ2.out.cell 0;have z1:=HZ2.out.cell 1;have z2:=HZ2.out.cell 2;have zl:=HZ2.out.lt;have HU2:=Lib.hid (HU1.out.trans hU2);have hzb:=Nat.lt_of_lt_of_le zl (Nat.le_refl _);have HTs:=Lib.hid hts;clear hU2 ho1 ho2 hts HPa HU1 HZ hw1;generalize w1.heap.size=zb at *;obtain⟨bl,ol,hq2,hbl,hnC,hat⟩:=HTs.out (by simp);obtain⟨qh,ch,kh,hch,hsh,hah⟩:=hat 0 hd rfl;subst hq2;have hlh:(jB hd).length≤20000:=HLh.out;have HLa:=Lib.hid (fun w' (hU:Under w2 w')=>fJ (w0:=w') hd (q:=qh) (cap:=ch) (by omega) (hsh.under hU));rw[Nat.add_zero]at kh;have r2:=(HR.out.under HU2.out).box.cell 2;have hm:=(HR.out.under HU2.out).f;have HD:=Lib.hid (show rb < w2.heap.size∧bl < w2.heap.size∧_ from⟨(HR.out.under HU2.out).box.lt,hbl,And.intro r2 (And.intro kh hm)⟩);have dd:=And.intro r2 (And.intro kh hm);obtain⟨kk,nn,fp,fi,⟨hfv,hfi⟩,hfo⟩:=l2A hd.last.word;have HFo:=Lib.hid hfo;have HLk:=fun(w':World) (h:MapAt w' m1 formsL)=>wWA h hd.last.word
 rw[hfv,hfi]at HLk;have HFd:=v3A hd.last.many hd.last.pos hd.last.word;have hl0:(0:Int) < ((l.length:Int)+1):=by omega
 have hl9:(l.length:Int)≤20000:=by have:=HLl.out;omega
 clear hat hsh hah hch hfv hfi hfo;go_wp2_with fail;rename_i K hK;refine wp_mono (Q:=xDB w2 rb zb bv (.slice (some ⟨bl,ol,none⟩) (l.length+1) c2) #[.int .i64 kk,.int .i64 nn,.int .i64 0,.string ⟨#[]⟩,.string fp] fi) ?_ ?_
 · skip
   refine wp_region_noPanic ?_;refine wp_region_held_drew (S:=fun w'=>w'.cell? ⟨rb,2,none⟩=some (.map (some m1))∧w'.cell? ⟨bl,ol,none⟩=some (.slice qh (jB hd).length ch)∧MapAt w' m1 formsL) (by kernel_rfl) dd (fun hHeld=>?_);co_applyP aB 0 rfl (by kernel_rfl) (by kernel_rfl) (fun _ _ _ h=>h) hHeld (fun w hSw=>?_) ?_;rotate_left
   · (try dsimp only at hSw);go_simp;try with_reducible rfl
   try walk_nrm
   co_applyP aB 1 rfl (by kernel_rfl) (by kernel_rfl) (fun _ _ _ h=>h) hHeld (fun w hSw=>?_) ?_;rotate_left
   · (try dsimp only at hSw);go_simp;try with_reducible rfl
   try walk_nrm
   co_applyP aB 2 rfl (by kernel_rfl) (by kernel_rfl) (fun _ _ _ h=>h) hHeld (fun w hSw=>?_) ?_;rotate_left
   · (try dsimp only at hSw);go_simp;try with_reducible rfl
   try walk_nrm
   co_applyP aB 3 rfl (by kernel_rfl) (by kernel_rfl) (fun _ _ _ h=>h) hHeld (fun w hSw=>?_) ?_;rotate_left
   · (try dsimp only at hSw);go_simp;try with_reducible rfl
   try walk_nrm
   co_applyP aB 4 rfl (by kernel_rfl) (by kernel_rfl) (fun _ _ _ h=>h) hHeld (fun w hSw=>?_) ?_;rotate_left
   · (try dsimp only at hSw);go_simp;try with_reducible rfl
   try walk_nrm
   co_applyP aB 5 rfl (by kernel_rfl) (by kernel_rfl) (fun _ _ _ h=>h) hHeld (fun w hSw=>?_) ?_;rotate_left
   · (try dsimp only at hSw);go_simp;try with_reducible rfl
   try walk_nrm
   co_applyP aB 6 rfl (by kernel_rfl) (by kernel_rfl) (fun _ _ _ h=>h) hHeld (fun w hSw=>?_) ?_;rotate_left
   · (try dsimp only at hSw);go_simp;try with_reducible rfl
   try walk_nrm
   refine bT 7 13 (by kernel_rfl) rfl rfl (fun K hK=>?_) (fun K hK=>?_)
   · go_simp; go_at_call 30; refine (HLa.out _ (bA (Under.refl _))).mono ?_; rintro e w3 ⟨rfl, hU3⟩; unfold sxV; have hU3 := (bA (Under.refl w2)).trans hU3; go_simp; refine hK.out _ _ (aFA hU3 HD.out) (fun _ => ?_); clear hK K hHeld; rename_i hHeld
     try walk_nrm
     co_applyP aB 8 rfl (by kernel_rfl) (by kernel_rfl) (fun _ _ _ h=>h) hHeld (fun w hSw=>?_) ?_;rotate_left
     · (try dsimp only at hSw);go_simp;try with_reducible rfl
     try walk_nrm
     co_applyP aB 9 rfl (by kernel_rfl) (by kernel_rfl) (fun _ _ _ h=>h) hHeld (fun w hSw=>?_) ?_;rotate_left
     · (try dsimp only at hSw);go_simp;try with_reducible rfl
     try walk_nrm
     co_applyP aB 10 rfl (by kernel_rfl) (by kernel_rfl) (fun _ _ _ h=>h) hHeld (fun w hSw=>?_) ?_;rotate_left
     · (try dsimp only at hSw);go_simp;try with_reducible rfl
     try walk_nrm
     co_applyP aB 11 rfl (by kernel_rfl) (by kernel_rfl) (fun _ _ _ h=>h) hHeld (fun w hSw=>?_) ?_;rotate_left
     · (try dsimp only at hSw);go_simp;try with_reducible rfl
     try walk_nrm
     co_applyP aB 12 rfl (by kernel_rfl) (by kernel_rfl) (fun _ _ _ h=>h) hHeld (fun w hSw=>?_) ?_;rotate_left
     · (try dsimp only at hSw);go_simp;try with_reducible rfl
     try walk_nrm
     refine kD 13 (by kernel_rfl) rfl fun K hK=>?_
     go_simp;refine hK.out _ _ (aFA (aA hU3 _) HD.out) (fun _=>?_);clear hK K hHeld;rename_i hHeld
     try walk_nrm
     refine kD 14 (by kernel_rfl) rfl fun K hK=>?_
     go_simp;refine hK.out _ _ (aFA (aA hU3 _) HD.out) (fun _=>?_);clear hK K hHeld;rename_i hHeld
     try walk_nrm
     co_applyP aB 15 rfl (by kernel_rfl) (by kernel_rfl) (fun _ _ _ h=>h) hHeld (fun w hSw=>?_) ?_;rotate_left
     · (try dsimp only at hSw);go_simp;try with_reducible rfl
     try walk_nrm
     refine wpAnyH_done (by kernel_rfl) ?_ _;refine NoPanic.normal ?_;exact⟨rfl,w3.heap.size,⟨_,zC (F:=o6A rb zb w3.heap.size bv _ fi) (by rfl)⟩,yA w3 _ _,aA hU3 _,Nat.lt_of_lt_of_le zl hU3.size⟩
   · go_simp; refine hK.out _ _ (aFA (bA (aA (Under.refl _) _)) HD.out) (fun _ => ?_); clear hK K hHeld; rename_i hHeld
     try walk_nrm
     refine kD 7 (by kernel_rfl) rfl fun K hK=>?_
     go_simp;go_at_call 30;refine(HLa.out _ (bA (aA (Under.refl _) _))).mono ?_;rintro e w3 ⟨rfl,hU3⟩;unfold sxV;have hbx:=(yA w2 #[.int .i64 0,.int .i64 0,.int .i64 0,.string ⟨#[]⟩,.string ⟨#[]⟩] 114).under (Under.trans (bA (Under.refl _)) hU3);have hU4:=Under.trans (bA (aA (Under.refl w2) (.cells #[.int .i64 0,.int .i64 0,.int .i64 0,.string ⟨#[]⟩,.string ⟨#[]⟩] 114))) hU3;have b0:w3.cell? ⟨w2.heap.size,0,none⟩=some (.int .i64 0):=hbx.cell 0;have b1:w3.cell? ⟨w2.heap.size,1,none⟩=some (.int .i64 0):=hbx.cell 1;have b2:w3.cell? ⟨w2.heap.size,2,none⟩=some (.int .i64 0):=hbx.cell 2;have b3:w3.cell? ⟨w2.heap.size,3,none⟩=some (.string ⟨#[]⟩):=hbx.cell 3;have b4:w3.cell? ⟨w2.heap.size,4,none⟩=some (.string ⟨#[]⟩):=hbx.cell 4;have bl':=hbx.lt;have bf0:=hbx.free 0;have bf1:=hbx.free 1;have bf2:=hbx.free 2;have bf3:=hbx.free 3;have bf4:=hbx.free 4;go_simp;refine hK.out _ _ (aFA hU4 HD.out) (fun _=>?_);clear hK K hHeld;rename_i hHeld
     try walk_nrm
     co_applyP aB 8 rfl (by kernel_rfl) (by kernel_rfl) (fun _ _ _ h=>h) hHeld (fun w hSw=>?_) ?_;rotate_left
     · (try dsimp only at hSw);go_simp;try with_reducible rfl
     try walk_nrm
     co_applyP aB 9 rfl (by kernel_rfl) (by kernel_rfl) (fun _ _ _ h=>h) hHeld (fun w hSw=>?_) ?_;rotate_left
     · (try dsimp only at hSw);go_simp;try with_reducible rfl
     try walk_nrm
     co_applyP aB 10 rfl (by kernel_rfl) (by kernel_rfl) (fun _ _ _ h=>h) hHeld (fun w hSw=>?_) ?_;rotate_left
     · (try dsimp only at hSw);go_simp;try with_reducible rfl
     try walk_nrm
     co_applyP aB 11 rfl (by kernel_rfl) (by kernel_rfl) (fun _ _ _ h=>h) hHeld (fun w hSw=>?_) ?_;rotate_left
     · (try dsimp only at hSw);go_simp;try with_reducible rfl
     try walk_nrm
     co_applyP aB 12 rfl (by kernel_rfl) (by kernel_rfl) (fun _ _ _ h=>h) hHeld (fun w hSw=>?_) ?_;rotate_left
     · (try dsimp only at hSw);go_simp;try with_reducible rfl
     try walk_nrm
     refine kD 14 (by kernel_rfl) rfl fun K hK=>?_
     go_simp;obtain⟨wE,hE⟩:∃ z,z=((((w3.setCell ⟨w2.heap.size,0,none⟩ (.int .i64 kk)).setCell ⟨w2.heap.size,1,none⟩ (.int .i64 nn)).setCell ⟨w2.heap.size,2,none⟩ (.int .i64 0)).setCell ⟨w2.heap.size,3,none⟩ (.string ⟨#[]⟩)).setCell ⟨w2.heap.size,4,none⟩ (.string fp):=⟨_,rfl⟩;have hU5:Under w2 wE:=by rw[hE];exact xD (xD (xD (xD (xD hU4 (Nat.le_refl _) _ _) (Nat.le_refl _) _ _) (Nat.le_refl _) _ _) (Nat.le_refl _) _ _) (Nat.le_refl _) _ _
     have HFb:=Lib.hid (show BoxAt wE w2.heap.size 114 #[.int .i64 kk,.int .i64 nn,.int .i64 0,.string ⟨#[]⟩,.string fp] by rw[hE];exact((((hbx.set 0 _).set 1 _).set 2 _).set 3 _).set 4 _);rw[← hE];refine hK.out _ _ (aFA hU5 HD.out) (fun _=>?_);clear hK K hHeld;rename_i hHeld
     try walk_nrm
     co_applyP aB 15 rfl (by kernel_rfl) (by kernel_rfl) (fun _ _ _ h=>h) hHeld (fun w hSw=>?_) ?_;rotate_left
     · (try dsimp only at hSw);go_simp;try with_reducible rfl
     try walk_nrm
     refine wpAnyH_done (by kernel_rfl) ?_ _;refine NoPanic.normal ?_;exact⟨rfl,w2.heap.size,⟨_,zC (F:=o6A rb zb w2.heap.size bv _ fi) (by rfl)⟩,HFb.out,hU5,zl⟩
 · rintro e a' wE ⟨rfl, fb, ⟨J, rfl⟩, hFb, hUE, hze⟩; have HFb := Lib.hid hFb; have HUe := Lib.hid (HU2.out.trans hUE); have HZe := Lib.hid (HZ2.out.under hUE); have HTe := Lib.hid (HTs.out.ch (D := dH rb ov) (Ch.of_under hUE)); simp only [Exit.then]; refine hK _ _ ?_; unfold o6A; clear hFb hUE hK K z0 z1 z2 zl HLk HFd HLa r2 kh hm dd; rcases HFo.out with ⟨hf, rfl, rfl⟩ | ⟨parts, hf, rfl, rfl⟩
   · have HErr : RowKit.Hid (iK cs ds pp (hd :: l) st = .error (71, pp)) := Lib.hid (by rw [iK, hf]); have HMa := Lib.hid (fun w' => gJA (w0 := w') kk nn 0 ⟨#[]⟩ ⟨#[]⟩ l.length (by simp [ByteArray.size]) (by omega)); have hsp : yB (⟨#[]⟩ : ByteArray).data.toList l.length = [] := rfl; rw [hsp] at HMa; have hmi : ((l.length : Int) + 1 - 1) = (l.length : Int) := by omega
     clear hsp hf HFo;have f0:wE.cell? ⟨fb,0,none⟩=some (.int .i64 kk):=HFb.out.cell 0;have f1:wE.cell? ⟨fb,1,none⟩=some (.int .i64 nn):=HFb.out.cell 1;have f2:wE.cell? ⟨fb,2,none⟩=some (.int .i64 0):=HFb.out.cell 2;have f3:wE.cell? ⟨fb,3,none⟩=some (.string ⟨#[]⟩):=HFb.out.cell 3;have f4:wE.cell? ⟨fb,4,none⟩=some (.string ⟨#[]⟩):=HFb.out.cell 4;have fl':=HFb.out.lt;go_wp2_with fail;refine(HMa.out wE).mono ?_;rintro e wM ⟨rfl,hUM⟩;have HFm:=Lib.hid (HFb.out.under hUM);have g0:wM.cell? ⟨fb,0,none⟩=some (.int .i64 kk):=HFm.out.cell 0;have g1:wM.cell? ⟨fb,1,none⟩=some (.int .i64 nn):=HFm.out.cell 1;have g2:wM.cell? ⟨fb,2,none⟩=some (.int .i64 0):=HFm.out.cell 2;have g3:wM.cell? ⟨fb,3,none⟩=some (.string ⟨#[]⟩):=HFm.out.cell 3;have g4:wM.cell? ⟨fb,4,none⟩=some (.string ⟨#[]⟩):=HFm.out.cell 4;have gl:=HFm.out.lt;have HUm:=Lib.hid (HUe.out.trans hUM);have HZm:=Lib.hid (HZe.out.under hUM);have HTm:=Lib.hid (HTe.out.ch (D:=dH rb ov) (Ch.of_under hUM));have zm:zb < wM.heap.size:=HZm.out.lt;have zc:wM.cell? ⟨zb,1,none⟩=some (.int .i64 pp):=HZm.out.cell 1;clear f0 f1 f2 f3 f4 fl' hUM HMa HUe HZe HTe HFb hze;go_wp2_with fail;have HU2:=Lib.hid (aA HUm.out (.cells #[.int .i64 (kk),.int .i64 (nn),.int .i64 (max 0 ((l.length:Int)+1)),.string ⟨#[]⟩] 76));generalize wM.alloc (.cells #[.int .i64 (kk),.int .i64 (nn),.int .i64 (max 0 ((l.length:Int)+1)),.string ⟨#[]⟩] 76)=wN at *;have HWr:=Lib.hid (iG (HR.out.under HU2.out) pp 71);go_wp2_with fail;refine HWr.out.mono ?_;rintro e w4 hO;have HO:=Lib.hid (ReOut.back HU2.out hO);obtain⟨_,_,_,_,_,_,_,rfl,_,_⟩:=hO;go_wp2;rw[Exit.noGoto_ret];go_ret;rw[HErr.out];exact HO.out
   · obtain ⟨hsm, hfl⟩ := rRA hf; have HSm := Lib.hid hsm; have HFl := Lib.hid (And.intro hf hfl); clear hsm hf hfl HFo; have hps : (⟨parts.toArray⟩ : ByteArray).size = parts.length := by simp [ByteArray.size]
     have HMa:=Lib.hid (fun w'=>gJA (w0:=w') (kk) nn 0 ⟨#[]⟩ ⟨parts.toArray⟩ l.length (by rw[hps];have:=HSm.out;omega) (by omega));have hpd:(⟨parts.toArray⟩:ByteArray).data.toList=parts:=by simp
     rw[hpd]at HMa;clear hpd;have hmi:((l.length:Int)+1 - 1)=(l.length:Int):=by omega
     obtain⟨psv,hpsv⟩:∃ z:ByteArray,z=⟨parts.toArray⟩:=⟨_,rfl⟩;rw[← hpsv]at HMa HFb hps;clear hpsv;obtain⟨pl,hpl⟩:∃ z:Nat,z=parts.length:=⟨_,rfl⟩;rw[← hpl]at hps HSm;rw[← hps]at HSm;have HPl:=Lib.hid hpl;have HPs2:=Lib.hid hps;clear hpl hps;have hpb:(psv.size:Int)≤10:=by have:=HSm.out;omega
     have hpb0:(0:Int)≤(psv.size:Int):=by omega
     have f0:wE.cell? ⟨fb,0,none⟩=some (.int .i64 (kk)):=HFb.out.cell 0;have f1:wE.cell? ⟨fb,1,none⟩=some (.int .i64 nn):=HFb.out.cell 1;have f2:wE.cell? ⟨fb,2,none⟩=some (.int .i64 0):=HFb.out.cell 2;have f3:wE.cell? ⟨fb,3,none⟩=some (.string ⟨#[]⟩):=HFb.out.cell 3;have f4:wE.cell? ⟨fb,4,none⟩=some (.string psv):=HFb.out.cell 4;have fl':=HFb.out.lt;go_wp2_with fail;refine(HMa.out wE).mono ?_;rintro e wM ⟨rfl,hUM⟩;have HFm:=Lib.hid (HFb.out.under hUM);have g0:wM.cell? ⟨fb,0,none⟩=some (.int .i64 (kk)):=HFm.out.cell 0;have g1:wM.cell? ⟨fb,1,none⟩=some (.int .i64 nn):=HFm.out.cell 1;have g2:wM.cell? ⟨fb,2,none⟩=some (.int .i64 0):=HFm.out.cell 2;have g3:wM.cell? ⟨fb,3,none⟩=some (.string ⟨#[]⟩):=HFm.out.cell 3;have g4:wM.cell? ⟨fb,4,none⟩=some (.string psv):=HFm.out.cell 4;have gl:=HFm.out.lt;have HUm:=Lib.hid (HUe.out.trans hUM);have HZm:=Lib.hid (HZe.out.under hUM);have HTm:=Lib.hid (HTe.out.ch (D:=dH rb ov) (Ch.of_under hUM));have zm:zb < wM.heap.size:=HZm.out.lt;have zc:wM.cell? ⟨zb,1,none⟩=some (.int .i64 pp):=HZm.out.cell 1;clear f0 f1 f2 f3 f4 fl' hUM HMa HUe HZe HTe HFb hze
     cases hfit:decide ((yB parts l.length).length=l.length)
     · have hb:¬(yB parts l.length).length=l.length:=of_decide_eq_false hfit;have HErr:RowKit.Hid (iK cs ds pp (hd::l) st = .error (71,pp)):=Lib.hid (by rw[iK,HFl.out.1];simp only;rw[if_neg fun h=>hb h.1]);clear hb;go_wp2_with fail;have HU2:=Lib.hid (aA HUm.out (.cells #[.int .i64 (kk),.int .i64 (nn),.int .i64 (max 0 ((l.length:Int) - (psv.size:Int)+1)),.string ⟨#[]⟩] 76));generalize wM.alloc (.cells #[.int .i64 (kk),.int .i64 (nn),.int .i64 (max 0 ((l.length:Int) - (psv.size:Int)+1)),.string ⟨#[]⟩] 76)=wN at *;have HWr:=Lib.hid (iG (HR.out.under HU2.out) pp 71);go_wp2_with fail;refine HWr.out.mono ?_;rintro e w4 hO;have HO:=Lib.hid (ReOut.back HU2.out hO);obtain⟨_,_,_,_,_,_,_,rfl,_,_⟩:=hO;go_wp2;rw[Exit.noGoto_ret];go_ret;rw[HErr.out];exact HO.out
     have HBb:=Lib.hid (of_decide_eq_true hfit);by_cases hM6:(6:Int) < max 0 ((l.length:Int) - (psv.size:Int)+1)
     · have hk : kk = 26 ∨ kk = 27 := by
         rcases HFl.out.2 with h | h
         · exact h
         · have h0:=HBb.out;rw[lOA h]at h0;have h1:=HPs2.out;have h2:=HPl.out;exfalso;omega
       have HErr : RowKit.Hid (iK cs ds pp (hd :: l) st = .error (71, pp)) := Lib.hid (by
         rw[iK,HFl.out.1];simp only;rw[if_neg fun h=>by have h1:=HPs2.out;have h2:=HPl.out;have:=h.2 hk;omega])
       clear hk;go_wp2_with fail;have HU2:=Lib.hid (aA HUm.out (.cells #[.int .i64 (kk),.int .i64 (nn),.int .i64 (max 0 ((l.length:Int) - (psv.size:Int)+1)),.string ⟨#[]⟩] 76));generalize wM.alloc (.cells #[.int .i64 (kk),.int .i64 (nn),.int .i64 (max 0 ((l.length:Int) - (psv.size:Int)+1)),.string ⟨#[]⟩] 76)=wN at *;have HWr:=Lib.hid (iG (HR.out.under HU2.out) pp 71);go_wp2_with fail;refine HWr.out.mono ?_;rintro e w4 hO;have HO:=Lib.hid (ReOut.back HU2.out hO);obtain⟨_,_,_,_,_,_,_,rfl,_,_⟩:=hO;go_wp2;rw[Exit.noGoto_ret];go_ret;rw[HErr.out];exact HO.out
     by_cases h26:kk=26
     · subst h26; have HRs : RowKit.Hid (iK cs ds pp (hd :: l) st = goS cs ds (dC false (yB parts l.length)) l ⟨26, nn, ((l.length + 1 - parts.length : Nat) : Int), ⟨#[]⟩⟩ [] st []) := Lib.hid (by
         rw[iK,HFl.out.1];simp only;rw[if_pos ⟨HBb.out,fun _=>by have h1:=HPs2.out;have h2:=HPl.out;omega⟩,if_pos (by first | trivial | simp)])
       have hc20:l.length+1≤c2:=by simpa using hc2
       by_cases hc1:c2=1
       · subst hc1; have hl00 : l.length = 0 := by omega
         have HLz:=Lib.hid (List.eq_nil_of_length_eq_zero hl00);have HL0:=Lib.hid hl00;clear hl00;go_wp2_with fail;refine wp_label ?_;go_wp2_with fail;rename_i K hK;obtain⟨b1,b2,b3⟩:=HTl.out hd l rfl;have HNb:=yA wM #[.int .i64 26,.int .i64 nn,.int .i64 ((max 0 ((l.length:Int) - (psv.size:Int)+1))),.string ⟨#[]⟩] 76;have hUN:=aA (Under.refl wM) (.cells #[.int .i64 26,.int .i64 nn,.int .i64 ((max 0 ((l.length:Int) - (psv.size:Int)+1))),.string ⟨#[]⟩] 76);have hlN:wM.heap.size < (wM.alloc (.cells #[.int .i64 26,.int .i64 nn,.int .i64 ((max 0 ((l.length:Int) - (psv.size:Int)+1))),.string ⟨#[]⟩] 76)).heap.size:=by simp
         generalize wM.alloc (.cells #[.int .i64 26,.int .i64 nn,.int .i64 ((max 0 ((l.length:Int) - (psv.size:Int)+1))),.string ⟨#[]⟩] 76)=wN at *;have HOk:=Lib.hid (rR (R:=goS cs ds (dC false (yB parts l.length)) l ⟨26,nn,((l.length+1 - parts.length:Nat):Int),⟨#[]⟩⟩ [] st []) (q2:=some ⟨bl,ol,none⟩) (c3:=0) (parts:=yB parts l.length) HR.out HUm.out hUN hlN (fun hne=>absurd HLz.out hne) HB.out HAb.out hst'.2 b1 b2 b3 (fun x hx=>hwx x (by rw[iA];exact List.mem_append_right _ hx)) HCs.out HDs.out hcn hdn HEs.out HBb.out);refine wp_mono (uO _ HOk.out ih' _ _ ⟨[],false,⟨26,nn,(max 0 ((l.length:Int) - (psv.size:Int)+1)),⟨#[]⟩⟩,[],ov,p,e,.slice none 0 0,_,zC (F:=vD rb wM.heap.size bv (.slice none 0 0) false ⟨(yB parts l.length).toArray⟩ (some ⟨bl,ol,none⟩) l.length (0) 0) (by rw[HL0.out];rfl),?_⟩) ?_
         · exact iR HR.out (HUm.out.trans hUN) HNb (by
             show goS cs ds (dC false (yB parts l.length)) l ⟨26,nn,((l.length+1 - parts.length:Nat):Int),⟨#[]⟩⟩ [] st []=_
             have h1:=HPs2.out;have h2:=HPl.out
             first
              | rfl
              | rw[show((l.length+1 - parts.length:Nat):Int)=max 0 ((l.length:Int) - (psv.size:Int)+1) by omega])
         rintro ex a' wr hE;have HUN:=Lib.hid (HUm.out.trans hUN);have hwM:=HUm.out.size;rcases hE with⟨rfl,nms,wt,x,t,ov1,p1,e1,nv,J,rfl,hS⟩ | ⟨rfl,e2,p2,ov2,acc2,⟨J,rfl⟩,g1,g2,g3,g4⟩
         · have hlate := yV hS.re hS.nd (fun e => HOk.out.nrc (.inr (hS.own _ HOk.out.nlt e))) (fun e => HOk.out.nrc (.inl e.symm)) (by
             have h1:t.length≤(iA (l.take l.length)).length:=hS.tlen;rw[List.take_length]at h1
             show(acc++t).length≤1000000
             rw[List.length_append];omega) bv nv wt ⟨(yB parts l.length).toArray⟩ (some ⟨bl,ol,none⟩) l.length (0) l.length J
           simp only[Exit.inBlock,if_pos,Exit.then];refine hK _ _ ?_;refine wp_mono hlate ?_;rintro ex a' w' hL;obtain⟨rfl,⟨J',rfl⟩,hO⟩:=tBA HOk.out HUN.out hwM hS hL;have HO:=Lib.hid hO;clear hO hL hlate;rw[Exit.noGoto_ret];unfold yH;go_ret;rw[HRs.out];exact HO.out
         · have HO:=Lib.hid (aBA HUN.out hwM g1 g2 g3 g4);simp only[Exit.inBlock,Exit.then];clear g1 g2 g3 g4;rw[Exit.noGoto_ret];unfold yH;go_ret;rw[HRs.out];exact HO.out
       · go_wp2_with fail; refine wp_label ?_; go_wp2_with fail; rename_i K hK; obtain ⟨b1, b2, b3⟩ := HTl.out hd l rfl; have HNb := yA wM #[.int .i64 26, .int .i64 nn, .int .i64 ((max 0 ((l.length : Int) - (psv.size : Int) + 1))), .string ⟨#[]⟩] 76; have hUN := aA (Under.refl wM) (.cells #[.int .i64 26, .int .i64 nn, .int .i64 ((max 0 ((l.length : Int) - (psv.size : Int) + 1))), .string ⟨#[]⟩] 76); have hlN : wM.heap.size < (wM.alloc (.cells #[.int .i64 26, .int .i64 nn, .int .i64 ((max 0 ((l.length : Int) - (psv.size : Int) + 1))), .string ⟨#[]⟩] 76)).heap.size := by simp
         generalize wM.alloc (.cells #[.int .i64 26,.int .i64 nn,.int .i64 ((max 0 ((l.length:Int) - (psv.size:Int)+1))),.string ⟨#[]⟩] 76)=wN at *;have HOk:=Lib.hid (rR (R:=goS cs ds (dC false (yB parts l.length)) l ⟨26,nn,((l.length+1 - parts.length:Nat):Int),⟨#[]⟩⟩ [] st []) (q2:=some ⟨bl,ol+1,none⟩) (c3:=c2 - 1) (parts:=yB parts l.length) HR.out HUm.out hUN hlN (HTm.out.tail) HB.out HAb.out hst'.2 b1 b2 b3 (fun x hx=>hwx x (by rw[iA];exact List.mem_append_right _ hx)) HCs.out HDs.out hcn hdn HEs.out HBb.out);refine wp_mono (uO _ HOk.out ih' _ _ ⟨[],false,⟨26,nn,(max 0 ((l.length:Int) - (psv.size:Int)+1)),⟨#[]⟩⟩,[],ov,p,e,.slice none 0 0,_,zC (F:=vD rb wM.heap.size bv (.slice none 0 0) false ⟨(yB parts l.length).toArray⟩ (some ⟨bl,ol+1,none⟩) l.length (c2 - 1) 0) (by rfl),?_⟩) ?_
         · exact iR HR.out (HUm.out.trans hUN) HNb (by
             show goS cs ds (dC false (yB parts l.length)) l ⟨26,nn,((l.length+1 - parts.length:Nat):Int),⟨#[]⟩⟩ [] st []=_
             have h1:=HPs2.out;have h2:=HPl.out
             first
              | rfl
              | rw[show((l.length+1 - parts.length:Nat):Int)=max 0 ((l.length:Int) - (psv.size:Int)+1) by omega])
         rintro ex a' wr hE;have HUN:=Lib.hid (HUm.out.trans hUN);have hwM:=HUm.out.size;rcases hE with⟨rfl,nms,wt,x,t,ov1,p1,e1,nv,J,rfl,hS⟩ | ⟨rfl,e2,p2,ov2,acc2,⟨J,rfl⟩,g1,g2,g3,g4⟩
         · have hlate := yV hS.re hS.nd (fun e => HOk.out.nrc (.inr (hS.own _ HOk.out.nlt e))) (fun e => HOk.out.nrc (.inl e.symm)) (by
             have h1:t.length≤(iA (l.take l.length)).length:=hS.tlen;rw[List.take_length]at h1
             show(acc++t).length≤1000000
             rw[List.length_append];omega) bv nv wt ⟨(yB parts l.length).toArray⟩ (some ⟨bl,ol+1,none⟩) l.length (c2 - 1) l.length J
           simp only[Exit.inBlock,if_pos,Exit.then];refine hK _ _ ?_;refine wp_mono hlate ?_;rintro ex a' w' hL;obtain⟨rfl,⟨J',rfl⟩,hO⟩:=tBA HOk.out HUN.out hwM hS hL;have HO:=Lib.hid hO;clear hO hL hlate;rw[Exit.noGoto_ret];unfold yH;go_ret;rw[HRs.out];exact HO.out
         · have HO:=Lib.hid (aBA HUN.out hwM g1 g2 g3 g4);simp only[Exit.inBlock,Exit.then];clear g1 g2 g3 g4;rw[Exit.noGoto_ret];unfold yH;go_ret;rw[HRs.out];exact HO.out
     by_cases h27:kk=27
     · subst h27; have HRs : RowKit.Hid (iK cs ds pp (hd :: l) st = goS cs ds (dC false (yB parts l.length)) l ⟨27, nn, ((l.length + 1 - parts.length : Nat) : Int), ⟨#[]⟩⟩ [] st []) := Lib.hid (by
         rw[iK,HFl.out.1];simp only;rw[if_pos ⟨HBb.out,fun _=>by have h1:=HPs2.out;have h2:=HPl.out;omega⟩,if_pos (by first | trivial | simp)])
       have hc20:l.length+1≤c2:=by simpa using hc2
       by_cases hc1:c2=1
       · subst hc1; have hl00 : l.length = 0 := by omega
         have HLz:=Lib.hid (List.eq_nil_of_length_eq_zero hl00);have HL0:=Lib.hid hl00;clear hl00;go_wp2_with fail;refine wp_label ?_;go_wp2_with fail;rename_i K hK;obtain⟨b1,b2,b3⟩:=HTl.out hd l rfl;have HNb:=yA wM #[.int .i64 27,.int .i64 nn,.int .i64 ((max 0 ((l.length:Int) - (psv.size:Int)+1))),.string ⟨#[]⟩] 76;have hUN:=aA (Under.refl wM) (.cells #[.int .i64 27,.int .i64 nn,.int .i64 ((max 0 ((l.length:Int) - (psv.size:Int)+1))),.string ⟨#[]⟩] 76);have hlN:wM.heap.size < (wM.alloc (.cells #[.int .i64 27,.int .i64 nn,.int .i64 ((max 0 ((l.length:Int) - (psv.size:Int)+1))),.string ⟨#[]⟩] 76)).heap.size:=by simp
         generalize wM.alloc (.cells #[.int .i64 27,.int .i64 nn,.int .i64 ((max 0 ((l.length:Int) - (psv.size:Int)+1))),.string ⟨#[]⟩] 76)=wN at *;have HOk:=Lib.hid (rR (R:=goS cs ds (dC false (yB parts l.length)) l ⟨27,nn,((l.length+1 - parts.length:Nat):Int),⟨#[]⟩⟩ [] st []) (q2:=some ⟨bl,ol,none⟩) (c3:=0) (parts:=yB parts l.length) HR.out HUm.out hUN hlN (fun hne=>absurd HLz.out hne) HB.out HAb.out hst'.2 b1 b2 b3 (fun x hx=>hwx x (by rw[iA];exact List.mem_append_right _ hx)) HCs.out HDs.out hcn hdn HEs.out HBb.out);refine wp_mono (uO _ HOk.out ih' _ _ ⟨[],false,⟨27,nn,(max 0 ((l.length:Int) - (psv.size:Int)+1)),⟨#[]⟩⟩,[],ov,p,e,.slice none 0 0,_,zC (F:=vD rb wM.heap.size bv (.slice none 0 0) false ⟨(yB parts l.length).toArray⟩ (some ⟨bl,ol,none⟩) l.length (0) 0) (by rw[HL0.out];rfl),?_⟩) ?_
         · exact iR HR.out (HUm.out.trans hUN) HNb (by
             show goS cs ds (dC false (yB parts l.length)) l ⟨27,nn,((l.length+1 - parts.length:Nat):Int),⟨#[]⟩⟩ [] st []=_
             have h1:=HPs2.out;have h2:=HPl.out
             first
              | rfl
              | rw[show((l.length+1 - parts.length:Nat):Int)=max 0 ((l.length:Int) - (psv.size:Int)+1) by omega])
         rintro ex a' wr hE;have HUN:=Lib.hid (HUm.out.trans hUN);have hwM:=HUm.out.size;rcases hE with⟨rfl,nms,wt,x,t,ov1,p1,e1,nv,J,rfl,hS⟩ | ⟨rfl,e2,p2,ov2,acc2,⟨J,rfl⟩,g1,g2,g3,g4⟩
         · have hlate := yV hS.re hS.nd (fun e => HOk.out.nrc (.inr (hS.own _ HOk.out.nlt e))) (fun e => HOk.out.nrc (.inl e.symm)) (by
             have h1:t.length≤(iA (l.take l.length)).length:=hS.tlen;rw[List.take_length]at h1
             show(acc++t).length≤1000000
             rw[List.length_append];omega) bv nv wt ⟨(yB parts l.length).toArray⟩ (some ⟨bl,ol,none⟩) l.length (0) l.length J
           simp only[Exit.inBlock,if_pos,Exit.then];refine hK _ _ ?_;refine wp_mono hlate ?_;rintro ex a' w' hL;obtain⟨rfl,⟨J',rfl⟩,hO⟩:=tBA HOk.out HUN.out hwM hS hL;have HO:=Lib.hid hO;clear hO hL hlate;rw[Exit.noGoto_ret];unfold yH;go_ret;rw[HRs.out];exact HO.out
         · have HO:=Lib.hid (aBA HUN.out hwM g1 g2 g3 g4);simp only[Exit.inBlock,Exit.then];clear g1 g2 g3 g4;rw[Exit.noGoto_ret];unfold yH;go_ret;rw[HRs.out];exact HO.out
       · go_wp2_with fail; refine wp_label ?_; go_wp2_with fail; rename_i K hK; obtain ⟨b1, b2, b3⟩ := HTl.out hd l rfl; have HNb := yA wM #[.int .i64 27, .int .i64 nn, .int .i64 ((max 0 ((l.length : Int) - (psv.size : Int) + 1))), .string ⟨#[]⟩] 76; have hUN := aA (Under.refl wM) (.cells #[.int .i64 27, .int .i64 nn, .int .i64 ((max 0 ((l.length : Int) - (psv.size : Int) + 1))), .string ⟨#[]⟩] 76); have hlN : wM.heap.size < (wM.alloc (.cells #[.int .i64 27, .int .i64 nn, .int .i64 ((max 0 ((l.length : Int) - (psv.size : Int) + 1))), .string ⟨#[]⟩] 76)).heap.size := by simp
         generalize wM.alloc (.cells #[.int .i64 27,.int .i64 nn,.int .i64 ((max 0 ((l.length:Int) - (psv.size:Int)+1))),.string ⟨#[]⟩] 76)=wN at *;have HOk:=Lib.hid (rR (R:=goS cs ds (dC false (yB parts l.length)) l ⟨27,nn,((l.length+1 - parts.length:Nat):Int),⟨#[]⟩⟩ [] st []) (q2:=some ⟨bl,ol+1,none⟩) (c3:=c2 - 1) (parts:=yB parts l.length) HR.out HUm.out hUN hlN (HTm.out.tail) HB.out HAb.out hst'.2 b1 b2 b3 (fun x hx=>hwx x (by rw[iA];exact List.mem_append_right _ hx)) HCs.out HDs.out hcn hdn HEs.out HBb.out);refine wp_mono (uO _ HOk.out ih' _ _ ⟨[],false,⟨27,nn,(max 0 ((l.length:Int) - (psv.size:Int)+1)),⟨#[]⟩⟩,[],ov,p,e,.slice none 0 0,_,zC (F:=vD rb wM.heap.size bv (.slice none 0 0) false ⟨(yB parts l.length).toArray⟩ (some ⟨bl,ol+1,none⟩) l.length (c2 - 1) 0) (by rfl),?_⟩) ?_
         · exact iR HR.out (HUm.out.trans hUN) HNb (by
             show goS cs ds (dC false (yB parts l.length)) l ⟨27,nn,((l.length+1 - parts.length:Nat):Int),⟨#[]⟩⟩ [] st []=_
             have h1:=HPs2.out;have h2:=HPl.out
             first
              | rfl
              | rw[show((l.length+1 - parts.length:Nat):Int)=max 0 ((l.length:Int) - (psv.size:Int)+1) by omega])
         rintro ex a' wr hE;have HUN:=Lib.hid (HUm.out.trans hUN);have hwM:=HUm.out.size;rcases hE with⟨rfl,nms,wt,x,t,ov1,p1,e1,nv,J,rfl,hS⟩ | ⟨rfl,e2,p2,ov2,acc2,⟨J,rfl⟩,g1,g2,g3,g4⟩
         · have hlate := yV hS.re hS.nd (fun e => HOk.out.nrc (.inr (hS.own _ HOk.out.nlt e))) (fun e => HOk.out.nrc (.inl e.symm)) (by
             have h1:t.length≤(iA (l.take l.length)).length:=hS.tlen;rw[List.take_length]at h1
             show(acc++t).length≤1000000
             rw[List.length_append];omega) bv nv wt ⟨(yB parts l.length).toArray⟩ (some ⟨bl,ol+1,none⟩) l.length (c2 - 1) l.length J
           simp only[Exit.inBlock,if_pos,Exit.then];refine hK _ _ ?_;refine wp_mono hlate ?_;rintro ex a' w' hL;obtain⟨rfl,⟨J',rfl⟩,hO⟩:=tBA HOk.out HUN.out hwM hS hL;have HO:=Lib.hid hO;clear hO hL hlate;rw[Exit.noGoto_ret];unfold yH;go_ret;rw[HRs.out];exact HO.out
         · have HO:=Lib.hid (aBA HUN.out hwM g1 g2 g3 g4);simp only[Exit.inBlock,Exit.then];clear g1 g2 g3 g4;rw[Exit.noGoto_ret];unfold yH;go_ret;rw[HRs.out];exact HO.out
     have HRs : RowKit.Hid (iK cs ds pp (hd :: l) st = goS cs ds (dC false (yB parts l.length)) l ⟨kk, nn, 0, ⟨#[]⟩⟩ [] st []) := Lib.hid (by
       rw[iK,HFl.out.1];simp only;rw[if_pos ⟨HBb.out,fun h=>by omega⟩,if_neg (by omega)])
     have k26:(kk != 26)=true:=by simpa using h26
     have k27:(kk != 27)=true:=by simpa using h27
     have hc20:l.length+1≤c2:=by simpa using hc2
     by_cases hc1:c2=1
     · subst hc1; have hl00 : l.length = 0 := by omega
       have HLz:=Lib.hid (List.eq_nil_of_length_eq_zero hl00);have HL0:=Lib.hid hl00;clear hl00;go_wp2_with fail;refine wp_label ?_;go_wp2_with fail;rename_i K hK;obtain⟨b1,b2,b3⟩:=HTl.out hd l rfl;have HNb:=yA wM #[.int .i64 kk,.int .i64 nn,.int .i64 (0),.string ⟨#[]⟩] 76;have hUN:=aA (Under.refl wM) (.cells #[.int .i64 kk,.int .i64 nn,.int .i64 (0),.string ⟨#[]⟩] 76);have hlN:wM.heap.size < (wM.alloc (.cells #[.int .i64 kk,.int .i64 nn,.int .i64 (0),.string ⟨#[]⟩] 76)).heap.size:=by simp
       generalize wM.alloc (.cells #[.int .i64 kk,.int .i64 nn,.int .i64 (0),.string ⟨#[]⟩] 76)=wN at *;have HOk:=Lib.hid (rR (R:=goS cs ds (dC false (yB parts l.length)) l ⟨kk,nn,0,⟨#[]⟩⟩ [] st []) (q2:=some ⟨bl,ol,none⟩) (c3:=0) (parts:=yB parts l.length) HR.out HUm.out hUN hlN (fun hne=>absurd HLz.out hne) HB.out HAb.out hst'.2 b1 b2 b3 (fun x hx=>hwx x (by rw[iA];exact List.mem_append_right _ hx)) HCs.out HDs.out hcn hdn HEs.out HBb.out);refine wp_mono (uO _ HOk.out ih' _ _ ⟨[],false,⟨kk,nn,0,⟨#[]⟩⟩,[],ov,p,e,.slice none 0 0,_,zC (F:=vD rb wM.heap.size bv (.slice none 0 0) false ⟨(yB parts l.length).toArray⟩ (some ⟨bl,ol,none⟩) l.length (0) 0) (by rw[HL0.out];rfl),?_⟩) ?_
       · exact iR HR.out (HUm.out.trans hUN) HNb (by
           show goS cs ds (dC false (yB parts l.length)) l ⟨kk,nn,0,⟨#[]⟩⟩ [] st []=_
           have h1:=HPs2.out;have h2:=HPl.out
           first
            | rfl
            | rw[show((l.length+1 - parts.length:Nat):Int)=max 0 ((l.length:Int) - (psv.size:Int)+1) by omega])
       rintro ex a' wr hE;have HUN:=Lib.hid (HUm.out.trans hUN);have hwM:=HUm.out.size;rcases hE with⟨rfl,nms,wt,x,t,ov1,p1,e1,nv,J,rfl,hS⟩ | ⟨rfl,e2,p2,ov2,acc2,⟨J,rfl⟩,g1,g2,g3,g4⟩
       · have hlate := yV hS.re hS.nd (fun e => HOk.out.nrc (.inr (hS.own _ HOk.out.nlt e))) (fun e => HOk.out.nrc (.inl e.symm)) (by
           have h1:t.length≤(iA (l.take l.length)).length:=hS.tlen;rw[List.take_length]at h1
           show(acc++t).length≤1000000
           rw[List.length_append];omega) bv nv wt ⟨(yB parts l.length).toArray⟩ (some ⟨bl,ol,none⟩) l.length (0) l.length J
         simp only[Exit.inBlock,if_pos,Exit.then];refine hK _ _ ?_;refine wp_mono hlate ?_;rintro ex a' w' hL;obtain⟨rfl,⟨J',rfl⟩,hO⟩:=tBA HOk.out HUN.out hwM hS hL;have HO:=Lib.hid hO;clear hO hL hlate;rw[Exit.noGoto_ret];unfold yH;go_ret;rw[HRs.out];exact HO.out
       · have HO:=Lib.hid (aBA HUN.out hwM g1 g2 g3 g4);simp only[Exit.inBlock,Exit.then];clear g1 g2 g3 g4;rw[Exit.noGoto_ret];unfold yH;go_ret;rw[HRs.out];exact HO.out
     · go_wp2_with fail; refine wp_label ?_; go_wp2_with fail; rename_i K hK; obtain ⟨b1, b2, b3⟩ := HTl.out hd l rfl; have HNb := yA wM #[.int .i64 kk, .int .i64 nn, .int .i64 (0), .string ⟨#[]⟩] 76; have hUN := aA (Under.refl wM) (.cells #[.int .i64 kk, .int .i64 nn, .int .i64 (0), .string ⟨#[]⟩] 76); have hlN : wM.heap.size < (wM.alloc (.cells #[.int .i64 kk, .int .i64 nn, .int .i64 (0), .string ⟨#[]⟩] 76)).heap.size := by simp
       generalize wM.alloc (.cells #[.int .i64 kk,.int .i64 nn,.int .i64 (0),.string ⟨#[]⟩] 76)=wN at *;have HOk:=Lib.hid (rR (R:=goS cs ds (dC false (yB parts l.length)) l ⟨kk,nn,0,⟨#[]⟩⟩ [] st []) (q2:=some ⟨bl,ol+1,none⟩) (c3:=c2 - 1) (parts:=yB parts l.length) HR.out HUm.out hUN hlN (HTm.out.tail) HB.out HAb.out hst'.2 b1 b2 b3 (fun x hx=>hwx x (by rw[iA];exact List.mem_append_right _ hx)) HCs.out HDs.out hcn hdn HEs.out HBb.out);refine wp_mono (uO _ HOk.out ih' _ _ ⟨[],false,⟨kk,nn,0,⟨#[]⟩⟩,[],ov,p,e,.slice none 0 0,_,zC (F:=vD rb wM.heap.size bv (.slice none 0 0) false ⟨(yB parts l.length).toArray⟩ (some ⟨bl,ol+1,none⟩) l.length (c2 - 1) 0) (by rfl),?_⟩) ?_
       · exact iR HR.out (HUm.out.trans hUN) HNb (by
           show goS cs ds (dC false (yB parts l.length)) l ⟨kk,nn,0,⟨#[]⟩⟩ [] st []=_
           have h1:=HPs2.out;have h2:=HPl.out
           first
            | rfl
            | rw[show((l.length+1 - parts.length:Nat):Int)=max 0 ((l.length:Int) - (psv.size:Int)+1) by omega])
       rintro ex a' wr hE;have HUN:=Lib.hid (HUm.out.trans hUN);have hwM:=HUm.out.size;rcases hE with⟨rfl,nms,wt,x,t,ov1,p1,e1,nv,J,rfl,hS⟩ | ⟨rfl,e2,p2,ov2,acc2,⟨J,rfl⟩,g1,g2,g3,g4⟩
       · have hlate := yV hS.re hS.nd (fun e => HOk.out.nrc (.inr (hS.own _ HOk.out.nlt e))) (fun e => HOk.out.nrc (.inl e.symm)) (by
           have h1:t.length≤(iA (l.take l.length)).length:=hS.tlen;rw[List.take_length]at h1
           show(acc++t).length≤1000000
           rw[List.length_append];omega) bv nv wt ⟨(yB parts l.length).toArray⟩ (some ⟨bl,ol+1,none⟩) l.length (c2 - 1) l.length J
         simp only[Exit.inBlock,if_pos,Exit.then];refine hK _ _ ?_;refine wp_mono hlate ?_;rintro ex a' w' hL;obtain⟨rfl,⟨J',rfl⟩,hO⟩:=tBA HOk.out HUN.out hwM hS hL;have HO:=Lib.hid hO;clear hO hL hlate;rw[Exit.noGoto_ret];unfold yH;go_ret;rw[HRs.out];exact HO.out
       · have HO:=Lib.hid (aBA HUN.out hwM g1 g2 g3 g4);simp only[Exit.inBlock,Exit.then];clear g1 g2 g3 g4;rw[Exit.noGoto_ret];unfold yH;go_ret;rw[HRs.out];exact HO.out
end Go.Proofs.YtlnlpdephijcoaaGreatDoor
