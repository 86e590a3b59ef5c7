/- Part 14 of what the proof rests on. -/
import Derived.Laws.EntriesVeiled
import Derived.Test.YtpkaiodmbicjiaaGreatDoorM05
import Derived.Test.YtpkaiodmbicjiaaGreatDoorM06
import Derived.Test.YtpkaiodmbicjiaaGreatDoorM09
import Derived.Test.YtpkaiodmbicjiaaGreatDoorM13
import Derived.Test.YtpkaiodmbicjiaaGreatDoorM00
set_option linter.unusedSimpArgs false
set_option linter.unusedVariables false
set_option maxRecDepth 100000
set_option maxHeartbeats 4000000
namespace Go.Proofs.YtpkaiodmbicjiaaGreatDoor
open Go.Proofs.Tryz
open Go.Lx Go.RowKit
def aQ(k n:Int)(f:Nat):Value:=.agg #[.int .i64 k,.int .i64 n,.func (.func f) #[] #[]]
def lM:tH:=[(⟨#[100,101,102]⟩,aQ 1 4 29),(⟨#[97,120,105,111,109]⟩,aQ 2 3 32),(⟨#[105,110,100,117,99,116,105,118,101]⟩,aQ 3 3 33)]
section
variable {w0 : World}
theorem fEA:Calls prog 16 #[] w0 λe w=>e = .returned (.map (some w0.heap.size))/\MapAt w w0.heap.size lM/\Under w0 w:=by
 have hmm:=@run_makeMap prog;have hM:=xJA w0;have hU:=bA (Qu w0) (.map #[] 0);go_enter func16,ntmps16;go_wp2_with (refine mI rfl _ _ _ (.inl rfl) underlying56 underlying9 rfl hM rfl rfl ?_;intro w1 hM1 hT1;replace hU:=hT1.under hU (Qd _);replace hM:=hM1;clear hM1 hT1);go_ret;exact⟨rfl,hM,hU⟩
end
def f9A(rb fb b off m pc:Nat)(p:Int)(J:Nat->Value):Array Value:=#[.pointer (some ⟨rb,0,none⟩),J 1,J 2,J 3,J 4,J 5,J 6,.int .i64 p,.slice (some ⟨b,off,none⟩) m pc,J 9,.pointer (some ⟨fb,0,none⟩),J 11,J 12,J 13,J 14,J 15,J 16,J 17,J 18,J 19,J 20,J 21,J 22,J 23,J 24,J 25,J 26,J 27,J 28,J 29,J 30,J 31,J 32,J 33,J 34,J 35,J 36,J 37,J 38,J 39,J 40,J 41,J 42,J 43,J 44,J 45,J 46,J 47,J 48,J 49,J 50,J 51,J 52,J 53,J 54,J 55,J 56,J 57,J 58,J 59,J 60,J 61,J 62,J 63,J 64,J 65,J 66,J 67,J 68,J 69,J 70,J 71,J 72,J 73,J 74,J 75,J 76,J 77,J 78,J 79,J 80,J 81,J 82,J 83,J 84,J 85,J 86,J 87,J 88,J 89,J 90,J 91,J 92,J 93,J 94,J 95,J 96,J 97,J 98,J 99,J 100,J 101,J 102,J 103,J 104,J 105,J 106,J 107,J 108,J 109,J 110,J 111,J 112,J 113,J 114,J 115,J 116,J 117,J 118,J 119,J 120,J 121,J 122,J 123,J 124,J 125,J 126,J 127,J 128,J 129,J 130,J 131,J 132]
def bSA(rb fb db b off m pc:Nat)(p:Int)(J:Nat->Value):Array Value:=#[.pointer (some ⟨rb,0,none⟩),J 1,J 2,J 3,J 4,J 5,J 6,.int .i64 p,.slice (some ⟨b,off,none⟩) m pc,J 9,.pointer (some ⟨fb,0,none⟩),.pointer (some ⟨db,0,none⟩),J 12,J 13,J 14,J 15,J 16,J 17,J 18,J 19,J 20,J 21,J 22,J 23,J 24,J 25,J 26,J 27,J 28,J 29,J 30,J 31,J 32,J 33,J 34,J 35,J 36,J 37,J 38,J 39,J 40,J 41,J 42,J 43,J 44,J 45,J 46,J 47,J 48,J 49,J 50,J 51,J 52,J 53,J 54,J 55,J 56,J 57,J 58,J 59,J 60,J 61,J 62,J 63,J 64,J 65,J 66,J 67,J 68,J 69,J 70,J 71,J 72,J 73,J 74,J 75,J 76,J 77,J 78,J 79,J 80,J 81,J 82,J 83,J 84,J 85,J 86,J 87,J 88,J 89,J 90,J 91,J 92,J 93,J 94,J 95,J 96,J 97,J 98,J 99,J 100,J 101,J 102,J 103,J 104,J 105,J 106,J 107,J 108,J 109,J 110,J 111,J 112,J 113,J 114,J 115,J 116,J 117,J 118,J 119,J 120,J 121,J 122,J 123,J 124,J 125,J 126,J 127,J 128,J 129,J 130,J 131,J 132]
def sRA(rb fb db b off m pc:Nat)(p:Int)(f:Bool)(J:Nat->Value):Array Value:=#[.pointer (some ⟨rb,0,none⟩),J 1,J 2,J 3,J 4,J 5,J 6,.int .i64 p,.slice (some ⟨b,off,none⟩) m pc,J 9,.pointer (some ⟨fb,0,none⟩),.pointer (some ⟨db,0,none⟩),J 12,.bool f,J 14,J 15,J 16,J 17,J 18,J 19,J 20,J 21,J 22,J 23,J 24,J 25,J 26,J 27,J 28,J 29,J 30,J 31,J 32,J 33,J 34,J 35,J 36,J 37,J 38,J 39,J 40,J 41,J 42,J 43,J 44,J 45,J 46,J 47,J 48,J 49,J 50,J 51,J 52,J 53,J 54,J 55,J 56,J 57,J 58,J 59,J 60,J 61,J 62,J 63,J 64,J 65,J 66,J 67,J 68,J 69,J 70,J 71,J 72,J 73,J 74,J 75,J 76,J 77,J 78,J 79,J 80,J 81,J 82,J 83,J 84,J 85,J 86,J 87,J 88,J 89,J 90,J 91,J 92,J 93,J 94,J 95,J 96,J 97,J 98,J 99,J 100,J 101,J 102,J 103,J 104,J 105,J 106,J 107,J 108,J 109,J 110,J 111,J 112,J 113,J 114,J 115,J 116,J 117,J 118,J 119,J 120,J 121,J 122,J 123,J 124,J 125,J 126,J 127,J 128,J 129,J 130,J 131,J 132]
def o7A(rb:Nat)(J:Nat->Value):Array Value:=#[.pointer (some ⟨rb,0,none⟩),J 1,J 2,J 3,J 4,J 5,J 6,J 7,J 8,J 9,J 10,J 11,J 12,J 13,J 14,J 15,J 16,J 17,J 18,J 19,J 20,J 21,J 22,J 23,J 24,J 25,J 26,J 27,J 28,J 29,J 30,J 31,J 32,J 33,J 34,J 35,J 36,J 37,J 38,J 39,J 40,J 41,J 42,J 43,J 44,J 45,J 46,J 47,J 48,J 49,J 50,J 51,J 52,J 53,J 54,J 55,J 56,J 57,J 58,J 59,J 60,J 61,J 62,J 63,J 64,J 65,J 66,J 67,J 68,J 69,J 70,J 71,J 72,J 73,J 74,J 75,J 76,J 77,J 78,J 79,J 80,J 81,J 82,J 83,J 84,J 85,J 86,J 87,J 88,J 89,J 90,J 91,J 92,J 93,J 94,J 95,J 96,J 97,J 98,J 99,J 100,J 101,J 102,J 103,J 104,J 105,J 106,J 107,J 108,J 109,J 110,J 111,J 112,J 113,J 114,J 115,J 116,J 117,J 118,J 119,J 120,J 121,J 122,J 123,J 124,J 125,J 126,J 127,J 128,J 129,J 130,J 131,J 132]
noncomputable def otDecl:Code:=aB (jA (jA (jA (jA (jA (jA (f15.body.getD .skip)))))))
noncomputable def otFind:Code:=aB (jA (jA (jA (jA (jA (jA (jA (f15.body.getD .skip))))))))
noncomputable def otPush:Code:=aB (jA (jA (jA (jA (jA (jA (jA (jA (jA (f15.body.getD .skip))))))))))
def y1A(k:Int)(nm:ByteArray):Array Value:=#[.int .i64 k,.int .i64 0,.string nm,.slice none 0 0,.slice none 0 0,.slice none 0 0]
def lBB(w4:World)(rb fb b off m pc:Nat)(p k:Int)(nm:ByteArray)(e:Exit)(a':Act)(w':World):Prop:=e = .normal/\∃ db,(∃ J,a'=⟨bSA rb fb db b off m pc p J,[]⟩)/\BoxAt w' db 33 (y1A k nm)/\Under w4 w'/\w4.heap.size<=db
def tBB(w6:World)(rb fb db b off m pc:Nat)(p:Int)(f:Bool)(e:Exit)(a':Act)(w':World):Prop:=e = .normal/\(∃ J,a'=⟨sRA rb fb db b off m pc p f J,[]⟩)/\Under w6 w'
def f8A(B rb n:Nat)(d:Dc)(w:World):Prop:=∃ g k a b vt vb vc,BoxAt w rb 54 #[.slice (some ⟨g,0,none⟩) (n+1) k,.int .i64 a,.int .i64 b]/\B<=g/\g < w.heap.size/\(∀ j u,[.int .i64 d.kind,.int .i64 d.level,.string d.name,vt,vb,vc][j]? = some u->w.cell? ⟨g,n * 6+j,none⟩=some u)/\OwnTm 96 w vt d.type/\OwnTm 96 w vb d.body/\∃ B',B<=B'/\ConsT B' w vc d.cons
def uBB(w0:World)(rb:Nat)(l:List Dc)(lv:Value)(R:lS)(e:Ending)(w:World):Prop:=Ch (λb=>b=rb) w0 w/\match R with
 | .ok d=>e = .returned (.bool true)/\f8A w0.heap.size rb l.length d w
 | .error x=>e = .returned (.bool false)/\BoxAt w rb 54 #[lv,.int .i64 x.2,.int .i64 x.1]
def sBB(w9:World)(B rb:Nat)(l:List Dc)(d:Dc)(e:Exit)(a':Act)(w':World):Prop:=e = .normal/\(∃ J,a'=⟨o7A rb J,[]⟩)/\Ch (λb=>b=rb) w9 w'/\f8A B rb l.length d w'
section
variable {w4 : World}
theorem d7A{rb fb b off m pc c1:Nat}{p k fn:Int}{fv:Value}{n:ST}{q1:Option Addr}(hF:BoxAt w4 fb 74 #[.int .i64 k,.int .i64 fn,fv])(hc:w4.cell? ⟨b,off+1,none⟩=some (.slice q1 (qA n).length c1))(hb:b < w4.heap.size)(hm:1 < m)(hq:SxArg w4 q1 (qA n))(hn:(qA n).length<=1000000)(J:Nat->Value) :
 otDecl.wp prog (lBB w4 rb fb b off m pc p k n.last.word) ⟨f9A rb fb b off m pc p J,[]⟩ w4:=by
 have HQ1:=aA (λw (h:Under w4 w)=>bO (w0:=w) (cap:=c1) n (q:=q1) hn (hq.under h));have f0:=hF.cell 0;have fl:=hF.lt;have hm1:(1:Int) < (m:Int):=by omega
 have HF2:=λ(a b:Int) (s:ByteArray) (w:World)=>(show(Instr.field 28 (.agg #[.int .i64 a,.int .i64 b,.string s]) 2).run prog w = .ok (.string s) w by kernel_rfl)
 clear hF hq hn hm;have HU4:=aA (Qu w4);unfold otDecl;simp only[f15,Qf,aB,jA];unfold f9A;refine wp_region_noPanic ?_;refine wp_region_held_drew (S:=λw'=>w'.cell? ⟨fb,0,none⟩=some (.int .i64 k)/\w'.cell? ⟨b,off+1,none⟩=some (.slice q1 (qA n).length c1)) (by kernel_rfl) ⟨f0,hc⟩ (λhHeld=>?_);refine dA 0 rfl ?_;refine dA 1 rfl ?_;refine dA 2 rfl ?_;refine dA 3 rfl ?_;refine dA 4 rfl ?_
 try walk_nrm
 refine kG 5 8 (by kernel_rfl) rfl rfl (λK hK=>?_) (λK hK=>?_)
 . go_simp;go_at_call 24;refine(HQ1.out _ (fA HU4.out)).mono ?_;rintro e w5 ⟨rfl,HU5⟩;have HU5':=aA ((fA (Qu w4)).trans HU5);clear HU5;refine hK.out _ _ ⟨(iA HU5'.out fl 0).trans f0,(iA HU5'.out hb _).trans hc⟩ (λ_=>?_);generalize n.last=x at *;obtain⟨xk,xp,nm⟩:=x;simp only[sxV];clear hK K hHeld;rename_i hHeld
   try walk_nrm
   refine dA 6 rfl ?_;refine dA 7 rfl ?_;refine yA 8 (by kernel_rfl) rfl λK hK=>?_
   go_simp;refine hK.out _ _ ⟨(iA (bA HU5'.out _) fl 0).trans f0,(iA (bA HU5'.out _) hb _).trans hc⟩ (λ_=>?_);clear hK K hHeld;rename_i hHeld
   try walk_nrm
   refine yA 9 (by kernel_rfl) rfl λK hK=>?_
   go_simp;refine hK.out _ _ ⟨(iA (bA HU5'.out _) fl 0).trans f0,(iA (bA HU5'.out _) hb _).trans hc⟩ (λ_=>?_);clear hK K hHeld;rename_i hHeld
   try walk_nrm
   refine wpAnyH_done (by kernel_rfl) ?_ _;refine NoPanic.normal ?_;exact⟨rfl,w5.heap.size,⟨_,fB (F:=bSA rb fb w5.heap.size b off m pc p) (by rfl)⟩,zA w5 _ _,bA HU5'.out _,HU5'.out.size⟩
 . go_simp;have HUa:=aA (fA (bA (Qu w4) (.cells #[.int .i64 0,.int .i64 0,.string ⟨#[]⟩,.slice none 0 0,.slice none 0 0,.slice none 0 0] 33)));refine hK.out _ _ ⟨(iA HUa.out fl 0).trans f0,(iA HUa.out hb _).trans hc⟩ (λ_=>?_);clear hK K hHeld;rename_i hHeld
   try walk_nrm
   refine yA 5 (by kernel_rfl) rfl λK hK=>?_
   go_simp;go_at_call 24;refine(HQ1.out _ (HU4.out.trans HUa.out)).mono ?_;rintro e w5 ⟨rfl,HU5⟩;have HU5':=aA (HUa.out.trans HU5);have HB:=aA (((zA w4 #[.int .i64 0,.int .i64 0,.string ⟨#[]⟩,.slice none 0 0,.slice none 0 0,.slice none 0 0] 33).under (fA (Qu _))).under HU5);clear HU5;refine hK.out _ _ ⟨(iA HU5'.out fl 0).trans f0,(iA HU5'.out hb _).trans hc⟩ (λ_=>?_);generalize n.last=x at *;obtain⟨xk,xp,nm⟩:=x;simp only[sxV];clear hK K hHeld;rename_i hHeld
   try walk_nrm
   refine dA 6 rfl ?_;refine dA 7 rfl ?_;refine yA 9 (by kernel_rfl) rfl λK hK=>?_
   have d0:=HB.out.cell 0;have d1:=HB.out.cell 1;have d2:=HB.out.cell 2;have d3:=HB.out.cell 3;have d4:=HB.out.cell 4;have d5:=HB.out.cell 5;have g0:=HB.out.free 0;have g1:=HB.out.free 1;have g2:=HB.out.free 2;have g3:=HB.out.free 3;have g4:=HB.out.free 4;have g5:=HB.out.free 5;have dl:=HB.out.lt;go_simp;clear d0 d1 d2 d3 d4 d5 g0 g1 g2 g3 g4 g5 dl;obtain⟨wf,hwf⟩:∃ wf,wf=(((((w5.setCell ⟨w4.heap.size,0,none⟩ (.int .i64 k)).setCell ⟨w4.heap.size,1,none⟩ (.int .i64 0)).setCell ⟨w4.heap.size,2,none⟩ (.string nm)).setCell ⟨w4.heap.size,3,none⟩ (.slice none 0 0)).setCell ⟨w4.heap.size,4,none⟩ (.slice none 0 0)).setCell ⟨w4.heap.size,5,none⟩ (.slice none 0 0):=⟨_,rfl⟩;have HF:=aA (show BoxAt wf w4.heap.size 33 (y1A k nm) by rw[hwf];exact(((((HB.out.set 0 _).set 1 _).set 2 _).set 3 _).set 4 _).set 5 _);have HUf:=aA (show Under w4 wf by rw[hwf];exact nA (nA (nA (nA (nA (nA HU5'.out (Qd _) _ _) (Qd _) _ _) (Qd _) _ _) (Qd _) _ _) (Qd _) _ _) (Qd _) _ _);rw[<- hwf];clear hwf;refine hK.out _ _ ⟨(iA HUf.out fl 0).trans f0,(iA HUf.out hb _).trans hc⟩ (λ_=>?_);clear hK K hHeld;rename_i hHeld
   try walk_nrm
   refine wpAnyH_done (by kernel_rfl) ?_ _;refine NoPanic.normal ?_;exact⟨rfl,w4.heap.size,⟨_,fB (F:=bSA rb fb w4.heap.size b off m pc p) (by rfl)⟩,HF.out,HUf.out,Qd _⟩
theorem l3A{w:World}{v:Value}{d:Dc}(h:DcV w v d):∃ x1 y1 x2 y2 x3 y3,v = .agg #[.int .i64 d.kind,.int .i64 d.level,.string d.name,.slice x1 d.type.length y1,.slice x2 d.body.length y2,.slice x3 d.cons.length y3]:=by
 obtain⟨vt,vb,vc,rfl,⟨x1,y1,rfl,_⟩,⟨x2,y2,rfl,_⟩,⟨x3,y3,us3,rfl,_⟩⟩:=h;exact⟨x1,y1,x2,y2,x3,y3,rfl⟩
theorem j7A{rb fb db b off m pc cl:Nat}{p k x y:Int}{nm:ByteArray}{l:List Dc}{pl:Option Addr}(hr:BoxAt w4 rb 54 #[.slice pl l.length cl,.int .i64 x,.int .i64 y])(hd:BoxAt w4 db 33 (y1A k nm))(hl:l.length<=100000)(hli:∀ d∈l,Lite d)(hp:RowsV 6 DcRow w4 pl l)(J:Nat->Value) :
 otFind.wp prog (tBB w4 rb fb db b off m pc p (bH nm l).isSome) ⟨bSA rb fb db b off m pc p J,[]⟩ w4:=by
 have r0:=hr.cell 0;have rl:=hr.lt;have d2:=hd.cell 2;have dl:=hd.lt;have HFd:=aA (λw (h:Under w4 w)=>p0A (w0:=w) (p:=pl) (c:=cl) l nm hl hli (RowsV.under DcRow.mono hp h));clear hr hd hl hli hp;unfold otFind;simp only[f15,Qf,aB,jA];unfold bSA;refine wp_region_noPanic ?_;refine wp_region_held_drew (S:=λw'=>w'.cell? ⟨rb,0,none⟩=some (.slice pl l.length cl)/\w'.cell? ⟨db,2,none⟩=some (.string nm)) (by kernel_rfl) ⟨r0,d2⟩ (λhHeld=>?_);refine dA 0 rfl ?_;refine dA 1 rfl ?_;refine dA 2 rfl ?_;refine dA 3 rfl ?_;refine dA 4 rfl ?_;refine dA 5 rfl ?_
 try walk_nrm
 refine kG 6 10 (by kernel_rfl) rfl rfl (λK hK=>?_) (λK hK=>?_)
 . go_simp;go_at_call 27;refine(HFd.out _ (fA (Qu w4))).mono ?_;rintro e w7 ⟨v7,rfl,hv7,hU7⟩;obtain⟨x1,y1,x2,y2,x3,y3,rfl⟩:=l3A hv7;generalize (bH nm l).getD qLA=dd at *;have HU7:=aA ((fA (Qu w4)).trans hU7);clear hU7 hv7;refine hK.out _ _ ⟨(iA HU7.out rl 0).trans r0,(iA HU7.out dl _).trans d2⟩ (λ_=>?_);clear hK K hHeld;rename_i hHeld
   try walk_nrm
   refine dA 7 rfl ?_;refine dA 8 rfl ?_;refine dA 9 rfl ?_;refine yA 10 (by kernel_rfl) rfl λK hK=>?_
   go_simp;refine hK.out _ _ ⟨(iA (bA HU7.out _) rl 0).trans r0,(iA (bA HU7.out _) dl _).trans d2⟩ (λ_=>?_);clear hK K hHeld;rename_i hHeld
   try walk_nrm
   refine yA 11 (by kernel_rfl) rfl λK hK=>?_
   go_simp;refine hK.out _ _ ⟨(iA (bA HU7.out _) rl 0).trans r0,(iA (bA HU7.out _) dl _).trans d2⟩ (λ_=>?_);clear hK K hHeld;rename_i hHeld
   try walk_nrm
   refine dA 12 rfl ?_
   try walk_nrm
   refine wpAnyH_done (by kernel_rfl) ?_ _;refine NoPanic.normal ?_;exact⟨rfl,⟨_,fB (F:=sRA rb fb db b off m pc p (bH nm l).isSome) (by rfl)⟩,bA HU7.out _⟩
 . go_simp;have HUa:=aA (fA (bA (Qu w4) (.cells #[.int .i64 0,.int .i64 0,.string ⟨#[]⟩,.slice none 0 0,.slice none 0 0,.slice none 0 0] 33)));refine hK.out _ _ ⟨(iA HUa.out rl 0).trans r0,(iA HUa.out dl _).trans d2⟩ (λ_=>?_);clear hK K hHeld;rename_i hHeld
   try walk_nrm
   refine yA 6 (by kernel_rfl) rfl λK hK=>?_
   go_simp;go_at_call 27;refine(HFd.out _ HUa.out).mono ?_;rintro e w7 ⟨v7,rfl,hv7,hU7⟩;obtain⟨x1,y1,x2,y2,x3,y3,rfl⟩:=l3A hv7;generalize (bH nm l).getD qLA=dd at *;have HU7:=aA (HUa.out.trans hU7);have HB:=aA (((zA w4 #[.int .i64 0,.int .i64 0,.string ⟨#[]⟩,.slice none 0 0,.slice none 0 0,.slice none 0 0] 33).under (fA (Qu _))).under hU7);clear hU7 hv7;refine hK.out _ _ ⟨(iA HU7.out rl 0).trans r0,(iA HU7.out dl _).trans d2⟩ (λ_=>?_);clear hK K hHeld;rename_i hHeld
   try walk_nrm
   refine dA 7 rfl ?_;refine dA 8 rfl ?_;refine dA 9 rfl ?_;refine yA 11 (by kernel_rfl) rfl λK hK=>?_
   have d0:=HB.out.cell 0;have d1:=HB.out.cell 1;have d2':=HB.out.cell 2;have d3:=HB.out.cell 3;have d4:=HB.out.cell 4;have d5:=HB.out.cell 5;have g0:=HB.out.free 0;have g1:=HB.out.free 1;have g2:=HB.out.free 2;have g3:=HB.out.free 3;have g4:=HB.out.free 4;have g5:=HB.out.free 5;have dl':=HB.out.lt;go_simp;have HUf:=aA (nA (nA (nA (nA (nA (nA HU7.out (Qd _) 0 (.int .i64 dd.kind)) (Qd _) 1 (.int .i64 dd.level)) (Qd _) 2 (.string dd.name)) (Qd _) 3 (.slice x1 dd.type.length y1)) (Qd _) 4 (.slice x2 dd.body.length y2)) (Qd _) 5 (.slice x3 dd.cons.length y3));refine hK.out _ _ ⟨(iA HUf.out rl 0).trans r0,(iA HUf.out dl _).trans d2⟩ (λ_=>?_);clear hK K hHeld;rename_i hHeld
   try walk_nrm
   refine dA 12 rfl ?_
   try walk_nrm
   refine wpAnyH_done (by kernel_rfl) ?_ _;refine NoPanic.normal ?_;exact⟨rfl,⟨_,fB (F:=sRA rb fb db b off m pc p (bH nm l).isSome) (by rfl)⟩,HUf.out⟩
theorem fOA{w5 w':World}{rb base n k5:Nat}{q5:Option Addr}{xs r:List Value}{cs:Array Value}(hO:w5.ownsRow base 33 6 (.slice q5 (n+1) k5) (n+1) (xs++r))(hx:xs.length=n * 6)(hC:Ch (λb=>b=rb) w5 w')(hR:BoxAt w5 rb 54 cs):∃ g,q5=some ⟨g,0,none⟩/\base<=g/\g < w'.heap.size/\∀ j u,r[j]? = some u->w'.cell? ⟨g,n * 6+j,none⟩=some u:=by
 have hO':=iE hO hC (λg hg h=>bC hR hO (by decide) (by rw[hg,h]));rcases hO'.2 with⟨_,h0⟩|⟨g,cap,cur,e,hb,hg,hn,rest⟩
 . omega
 . cases e;refine⟨g,rfl,hb,(Qe.1 hg).1,λj u hj=>rD hO' rfl ?_⟩;rw[List.getElem?_append_right (by omega),<- hj];congr 1
   omega
theorem z5A{W:World}{rb fb db b off m pc B B0:Nat}{p x y:Int}{l:List Dc}{d:Dc}{pl:Option Addr}{vt vb vc:Value}(hr:BoxAt w4 rb 54 #[.slice pl l.length l.length,.int .i64 x,.int .i64 y])(hd:BoxAt w4 db 33 #[.int .i64 d.kind,.int .i64 d.level,.string d.name,vt,vb,vc])(ht:OwnTm 96 w4 vt d.type)(hb:OwnTm 96 w4 vb d.body)(hc:ConsT B w4 vc d.cons)(hB:rb < B)(hBB:B0<=B)(hBs:B0<=w4.heap.size)(hne:rb≠db)(hl:l.length<=100000)(hW:Under W w4)(hp:RowsV 6 DcRow W pl l)(hp0:pl=none->l.length=0)(J:Nat->Value) :
 otPush.wp prog (sBB w4 B0 rb l d) ⟨sRA rb fb db b off m pc p false J,[]⟩ w4:=by
 obtain⟨j0,hj,hy0,hy1,hy2⟩:=info_parts Tryz.infoDeclP;have HBB:=aA hBB;have HBs:=aA hBs;have HDc:=aA (λ(w5 w':World) (hU5:Under w4 w5) (hC:Ch (λb=>b=rb) w5 w')=>(show OwnTm 96 w' vt d.type/\OwnTm 96 w' vb d.body/\ConsT B w' vc d.cons from by
   have hx:∀ b,b=rb->∃ T cs,BoxAt w5 b T cs/\96≠T:=λb e=>⟨54,#[.slice pl l.length l.length,.int .i64 x,.int .i64 y],by rw[e];exact hr.under hU5,by decide⟩
   exact⟨(ht.under hU5).ch hC hx,(hb.under hU5).ch hC hx,(hc.keep (Ch.of_under (C:=λ_=>False) hU5) (λ_ h=>h.elim) (λ_ h=>h.elim)).keep hC (λb e=>by omega) hx⟩))
 obtain⟨pt,ct,rfl,_⟩:=ht.val;obtain⟨pb,cb,rfl,_⟩:=hb.val;obtain⟨pc1,cc,us,rfl,_⟩:=hc.val;obtain⟨rows,hr1,hr2,hr3⟩:=hp;have HRw:=aA (And.intro hr1 (And.intro hr2 hr3));have HW:=aA hW;have HP0:=aA hp0;generalize d.type.length=nt at *;generalize d.body.length=nb at *;generalize d.cons.length=nc at *;have HR:=aA hr;have HS:=aA (λw (h:Under w4 w)=>(show w.cell? ⟨db,0,none⟩=some (.int .i64 d.kind)/\w.cell? ⟨db,1,none⟩=some (.int .i64 d.level)/\w.cell? ⟨db,2,none⟩=some (.string d.name)/\w.cell? ⟨db,3,none⟩=some (.slice pt nt ct)/\w.cell? ⟨db,4,none⟩=some (.slice pb nb cb)/\w.cell? ⟨db,5,none⟩=some (.slice pc1 nc cc) from⟨(hd.under h).cell 0,(hd.under h).cell 1,(hd.under h).cell 2,(hd.under h).cell 3,(hd.under h).cell 4,(hd.under h).cell 5⟩));have HSo:=aA (λw u (h:Under w4 w)=>(show(w.setCell ⟨rb,0,none⟩ u).cell? ⟨db,0,none⟩=some (.int .i64 d.kind)/\(w.setCell ⟨rb,0,none⟩ u).cell? ⟨db,1,none⟩=some (.int .i64 d.level)/\(w.setCell ⟨rb,0,none⟩ u).cell? ⟨db,2,none⟩=some (.string d.name)/\(w.setCell ⟨rb,0,none⟩ u).cell? ⟨db,3,none⟩=some (.slice pt nt ct)/\(w.setCell ⟨rb,0,none⟩ u).cell? ⟨db,4,none⟩=some (.slice pb nb cb)/\(w.setCell ⟨rb,0,none⟩ u).cell? ⟨db,5,none⟩=some (.slice pc1 nc cc) from by
   have k:=(hd.under h).other (g:=rb) (λe=>hne e.symm) 0 u;exact⟨k.cell 0,k.cell 1,k.cell 2,k.cell 3,k.cell 4,k.cell 5⟩))
 have hS0:=HS.out w4 (Qu _);clear hr hd hne ht hb hc hB hBB hBs hW hp0 hr1 hr2 hr3;unfold otPush;simp only[f15,Qf,aB,jA];unfold sRA;refine wp_region_noPanic ?_;refine wp_region_held_drew (S:=λw=>w.cell? ⟨db,0,none⟩=some (.int .i64 d.kind)/\w.cell? ⟨db,1,none⟩=some (.int .i64 d.level)/\w.cell? ⟨db,2,none⟩=some (.string d.name)/\w.cell? ⟨db,3,none⟩=some (.slice pt nt ct)/\w.cell? ⟨db,4,none⟩=some (.slice pb nb cb)/\w.cell? ⟨db,5,none⟩=some (.slice pc1 nc cc)) (by kernel_rfl) hS0 (λhHeld=>?_);refine dA 0 rfl ?_;refine dA 1 rfl ?_;refine dA 2 rfl ?_;refine dA 3 rfl ?_;refine dA 5 rfl ?_
 try walk_nrm
 refine kG 4 6 (by kernel_rfl) rfl rfl (λK hK=>?_) (λK hK=>?_)
 . have r0:(w4.drew).cell? ⟨rb,0,none⟩=some (.slice pl l.length l.length):=HR.out.cell 0;have rl:=HR.out.lt;go_simp;refine hK.out _ _ hHeld (λ_=>?_);clear hK K hHeld;rename_i hHeld
   try walk_nrm
   refine yA 6 (by kernel_rfl) rfl λK hK=>?_
   go_simp;have HUb:=aA (fA (bA (Qu w4) (.cells #[.int .i64 d.kind,.int .i64 d.level,.string d.name,.slice pt nt ct,.slice pb nb cb,.slice pc1 nc cc] 33)));refine hK.out _ _ (HS.out _ HUb.out) (λ_=>?_);clear hK K hHeld;rename_i hHeld
   try walk_nrm
   refine yA 7 (by kernel_rfl) rfl λK hK=>?_
   refine step_append_grows rfl _ _ _ rfl 33 j0 _ 6 104 underlying22 hj hy0 hy1 hy2 rfl (by decide) pl l.length l.length rows.flatten rfl (λe=>⟨HP0.out e,HP0.out e⟩) (by rw[yK HRw.out.2.1,HRw.out.2.2.1]) (hCA (HRw.out.1.under (HW.out.trans HUb.out))) ⟨w4.heap.size,0,none⟩ 1 1 [.int .i64 d.kind,.int .i64 d.level,.string d.name,.slice pt nt ct,.slice pb nb cb,.slice pc1 nc cc] rfl rfl (hCA (RowArg.under (wP w4 _ _ (0,0)) (fA (Qu _))) _ rfl) (λu hu=>by simp at hu;rcases hu with rfl|rfl|rfl|rfl|rfl|rfl<;>rfl) (by omega) (by simp only[maxLen];omega) (by omega) ?_;intro v5 w5 hown hgrow;have HU5:=aA (eB HUb.out hgrow λg e=>by cases e);obtain⟨q5,k5,rfl,_⟩:=RowArg.of_own hown;have HO:=aA hown;clear hown hgrow;refine hK.out _ _ (HS.out _ HU5.out) (λ_=>?_);clear hK K hHeld;rename_i hHeld
   try walk_nrm
   refine dA 8 rfl ?_;refine dA 9 rfl ?_
   try walk_nrm
   have HRb:=aA (HR.out.under HU5.out);have y1:=HRb.out.lt;have y2:=HRb.out.free 0;have y3:=HRb.out.cell 0;have HC:=aA ((Ch.refl (C:=λb=>b=rb) w5).set (λ_=>rfl) 0 (.slice q5 (l.length+1) k5));refine yA 10 (by kernel_rfl) rfl λK hK=>?_
   go_simp;refine hK.out _ _ (HSo.out _ _ HU5.out) (λ_=>?_);clear hK K hHeld;rename_i hHeld
   try walk_nrm
   refine wpAnyH_done (by kernel_rfl) ?_ _;refine NoPanic.normal ?_;obtain⟨gg,rfl,hg1,hg2,hg3⟩:=fOA HO.out (by rw[yK HRw.out.2.1,HRw.out.2.2.1]) HC.out HRb.out;obtain⟨k1,k2,k3⟩:=HDc.out _ _ HU5.out HC.out;exact⟨rfl,⟨_,fB (F:=o7A rb) (by rfl)⟩,oD HU5.out HC.out,gg,k5,x,y,_,_,_,HRb.out.set 0 _,Ql (Ql HBs.out HUb.out.size) hg1,hg2,hg3,k1,k2,B,HBB.out,k3⟩
 . go_simp;have HUb:=aA (fA (bA (Qu w4) (.cells #[.int .i64 d.kind,.int .i64 d.level,.string d.name,.slice pt nt ct,.slice pb nb cb,.slice pc1 nc cc] 33)));refine hK.out _ _ (HS.out _ HUb.out) (λ_=>?_);clear hK K hHeld;rename_i hHeld
   try walk_nrm
   have r0:((w4.alloc (.cells #[.int .i64 d.kind,.int .i64 d.level,.string d.name,.slice pt nt ct,.slice pb nb cb,.slice pc1 nc cc] 33)).drew).cell? ⟨rb,0,none⟩=some (.slice pl l.length l.length):=(HR.out.under HUb.out).cell 0;have rl:=(HR.out.under HUb.out).lt;refine yA 4 (by kernel_rfl) rfl λK hK=>?_
   go_simp;refine hK.out _ _ (HS.out _ HUb.out) (λ_=>?_);clear hK K hHeld;rename_i hHeld
   try walk_nrm
   refine yA 7 (by kernel_rfl) rfl λK hK=>?_
   refine step_append_grows rfl _ _ _ rfl 33 j0 _ 6 104 underlying22 hj hy0 hy1 hy2 rfl (by decide) pl l.length l.length rows.flatten rfl (λe=>⟨HP0.out e,HP0.out e⟩) (by rw[yK HRw.out.2.1,HRw.out.2.2.1]) (hCA (HRw.out.1.under (HW.out.trans HUb.out))) ⟨w4.heap.size,0,none⟩ 1 1 [.int .i64 d.kind,.int .i64 d.level,.string d.name,.slice pt nt ct,.slice pb nb cb,.slice pc1 nc cc] rfl rfl (hCA (RowArg.under (wP w4 _ _ (0,0)) (fA (Qu _))) _ rfl) (λu hu=>by simp at hu;rcases hu with rfl|rfl|rfl|rfl|rfl|rfl<;>rfl) (by omega) (by simp only[maxLen];omega) (by omega) ?_;intro v5 w5 hown hgrow;have HU5:=aA (eB HUb.out hgrow λg e=>by cases e);obtain⟨q5,k5,rfl,_⟩:=RowArg.of_own hown;have HO:=aA hown;clear hown hgrow;refine hK.out _ _ (HS.out _ HU5.out) (λ_=>?_);clear hK K hHeld;rename_i hHeld
   try walk_nrm
   refine dA 8 rfl ?_;refine dA 9 rfl ?_
   try walk_nrm
   have HRb:=aA (HR.out.under HU5.out);have y1:=HRb.out.lt;have y2:=HRb.out.free 0;have y3:=HRb.out.cell 0;have HC:=aA ((Ch.refl (C:=λb=>b=rb) w5).set (λ_=>rfl) 0 (.slice q5 (l.length+1) k5));refine yA 10 (by kernel_rfl) rfl λK hK=>?_
   go_simp;refine hK.out _ _ (HSo.out _ _ HU5.out) (λ_=>?_);clear hK K hHeld;rename_i hHeld
   try walk_nrm
   refine wpAnyH_done (by kernel_rfl) ?_ _;refine NoPanic.normal ?_;obtain⟨gg,rfl,hg1,hg2,hg3⟩:=fOA HO.out (by rw[yK HRw.out.2.1,HRw.out.2.2.1]) HC.out HRb.out;obtain⟨k1,k2,k3⟩:=HDc.out _ _ HU5.out HC.out;exact⟨rfl,⟨_,fB (F:=o7A rb) (by rfl)⟩,oD HU5.out HC.out,gg,k5,x,y,_,_,_,HRb.out.set 0 _,Ql (Ql HBs.out HUb.out.size) hg1,hg2,hg3,k1,k2,B,HBB.out,k3⟩
end
theorem gJA(w:World):(zeroValue 74).run prog w = .ok (.agg #[.int .i64 0,.int .i64 0,.nilFunc]) w:=by kernel_rfl
theorem gPA{s:ByteArray}{x:List UInt8}:s.toList=x↔s=⟨x.toArray⟩:=by
 rw[ByteArray.toList_eq];obtain⟨a⟩:=s;simp only[ByteArray.mk.injEq];constructor
 . rintro rfl;simp
 . rintro rfl;simp
theorem tHA(s:ByteArray):(kI s=0/\fJ lM s=none)∨(kI s=1/\fJ lM s=some (aQ 1 4 29))∨(kI s=2/\fJ lM s=some (aQ 2 3 32))∨(kI s=3/\fJ lM s=some (aQ 3 3 33)):=by
 unfold kI lM;simp only[beq_iff_eq,gPA,fJ];by_cases h1:s=⟨#[100,101,102]⟩
 . right;left;simp[h1]
 . by_cases h2 : s = ⟨#[97, 120, 105, 111, 109]⟩
   . right;right;left;simp[h2]
   . by_cases h3:s=⟨#[105,110,100,117,99,116,105,118,101]⟩
     . right;right;right;simp[h3]
     . left;simp[h1,h2,h3]
theorem a3A{s:ByteArray}{n:Nat}(h:cK (kI s) n=false):fJ lM s=none∨∃ k fn f,fJ lM s=some (aQ k fn f)/\((n:Int) < fn∨(¬(n:Int) < fn/\fn < (n:Int)/\(k != 3)=true)):=by
 unfold cK at h;rcases tHA s with⟨h1,h2⟩|⟨h1,h2⟩|⟨h1,h2⟩|⟨h1,h2⟩
 . exact .inl h2
 . right
   refine⟨_,_,_,h2,?_⟩;rw[h1]at h;simp at h;by_cases h4:n < 4
   . exact .inl (by omega)
   . exact .inr ⟨by omega,by omega,by decide⟩
 . right
   refine⟨_,_,_,h2,?_⟩;rw[h1]at h;simp at h;by_cases h4:n < 3
   . exact .inl (by omega)
   . exact .inr ⟨by omega,by omega,by decide⟩
 . right
   refine⟨_,_,_,h2,?_⟩;rw[h1]at h;simp at h;exact .inl (by omega)
theorem yWA{s:ByteArray}{n:Nat}(h:cK (kI s) n=true):∃ k fn f,kI s=k/\fJ lM s=some (aQ k fn f)/\¬(n:Int) < fn/\(¬ fn < (n:Int)∨(fn < (n:Int)/\(k != 3)=false))/\3<=n/\((k=1/\f=29/\n=4)∨(k=2/\f=32/\n=3)∨(k=3/\f=33)):=by
 unfold cK at h;rcases tHA s with⟨h1,h2⟩|⟨h1,h2⟩|⟨h1,h2⟩|⟨h1,h2⟩<;>rw[h1]at h<;>simp at h
 . exact⟨_,_,_,h1,h2,by omega,.inl (by omega),by omega,.inl ⟨rfl,rfl,h⟩⟩
 . exact⟨_,_,_,h1,h2,by omega,.inl (by omega),by omega,.inr (.inl ⟨rfl,rfl,h⟩)⟩
 . refine⟨_,_,_,h1,h2,by omega,?_,h,.inr (.inr ⟨rfl,rfl⟩)⟩;by_cases h3:n=3
   . exact .inl (by omega)
   . exact .inr ⟨by omega,by decide⟩
theorem eG{p:Int}{ts:List ST}{t:ST}(h:t∈ts):(qA t).length < (qA (.list p ts)).length:=by
 have:∀ ts:List ST,t∈ts->(qA t).length<=(rA ts).length:=by
  intro ts
  induction ts with
  | nil=>intro h;cases h
  | cons a r ih =>
    intro h;simp only[rA,Qc];rcases List.mem_cons.1 h with rfl|h
    . omega
    . have:=ih h;omega
 have:=this ts h;simp only[qA,Qc,List.length_singleton];omega
theorem p2A{w:World}{base:Nat}{vo:Value}{vs:List Value}{ls:List (List Sx)}(h:w.ownsRow base 23 1 vo ls.length vs)(h':SxOwns w base vs ls)(hne:ls≠[]):∃ b off cap,vo = .slice (some ⟨b,off,none⟩) ls.length cap/\ls.length<=cap/\PartsAt w b off base w.heap.size ls:=by
 rcases h.2 with⟨rfl,h0⟩|⟨g,cap,cur,rfl,hb,hg,hn,rest⟩
 . exact absurd (List.length_eq_zero_iff.1 h0) hne
 . refine⟨g,0,cap,rfl,hn,hb,(Qe.1 hg).1,Qd _,λk t ht=>?_⟩;obtain⟨v,h1,h2⟩:=h'.at ht;obtain⟨q,c,e,h3,h4⟩:=cZ h2;refine⟨q,c,?_,h3,h4,λa ea=>?_⟩
   . rw[Nat.zero_add,<- e];exact rD h rfl h1
   . subst e;exact xB h2 (by rw[ea];rfl)
section
variable {w0 : World}
theorem cWA{W:World}{l:List Dc}{pl:Option Addr}{rb db b off m pc lo hi f:Nat}{p x y k:Int}{nm:ByteArray}{h n:ST}{qs:List ST}(hW:Under W w0)(hl:l.length<=100000)(hp:RowsV 6 DcRow W pl l)(hr:BoxAt w0 rb 54 #[.slice pl l.length l.length,.int .i64 x,.int .i64 y])(hd:BoxAt w0 db 33 (y1A k nm))(hwr:W.heap.size<=rb)(hrl:rb < lo)(hhd:hi<=db)
    (hm:m=qs.length+2) (hm9:m<=100000) (hmc:m<=pc) (hpa:PartsAt w0 b off lo hi ((h::n::qs).map qA)) (hok:uI qs) (hlen:∀ y∈qs,(qA y).length<=1000000) (hT:∀ t∈qs,iCA W (knC l) (knD l) t/\∀ q r,t = .list q r->∀ u∈r,iCA W (knC l) (knD l++[nm]) u) (hE:StrcAt w0)
    (hk:(k=1/\f=29/\m=4)∨(k=2/\f=32/\m=3)∨(k=3/\f=33)) (h3:3<=m) :
    Calls prog f #[.pointer (some ⟨rb,0,none⟩),.pointer (some ⟨db,0,none⟩),.slice (some ⟨b,off,none⟩) m pc,.int .i64 p] w0 (uTA w0 rb db (.slice pl l.length l.length) (lL l k nm p qs)):=by
  obtain⟨p1,p2,p3,p4⟩:=hpa;have hne:rb≠db:=by omega
  match qs,hm with
  | [],hm=>simp at hm;omega
  | a :: qs, hm =>
    obtain⟨qa,ca,a1,a2,a3,a4⟩:=p4 2 (qA a) rfl;rcases hk with⟨rfl,rfl,h4⟩|⟨rfl,rfl,h4⟩|⟨rfl,rfl⟩
    . match qs,hm with
      | [b2], hm =>
        obtain⟨qb,cb,b1,b2',b3,b4⟩:=p4 3 (qA b2) rfl;exact e2A (m:=m) (T:=a) (T2:=b2) hW hl (RowsV.under DcRow.mono hp hW) hr hd hne (by omega) (by omega) hwr (by omega) (by omega) (by omega) a1 b1 a2 b2' a3 b3 (λa e hc=>by have:=b4 a e;omega) (hT a (by simp)).1 (hT b2 (by simp)).1
      | [],hm=>simp at hm;omega
      | _::_::_,hm=>simp at hm;omega
    . match qs,hm with
      | [], hm =>
        exact fRA (m:=m) (T:=a) hW hl (RowsV.under DcRow.mono hp hW) hr hd hne (by omega) (by omega) (by omega) (by omega) a1 a2 a3 (hT a (by simp)).1
      | _::_,hm=>simp at hm;omega
    . exact j0A (m:=m) (hd:=h) (n:=n) (a:=a) (qs:=qs) hW hl hp hr hd hne hwr (by omega) hrl hhd (by simpa using hm) hm9 hmc ⟨p1,p2,p3,p4⟩ hok.2 hlen (λy hy q r e t ht=>(hT y (by simp[hy])).2 q r e t ht) hE
end
section
variable {w0 : World}
theorem pCA{W:World}{l:List Dc}{pl q:Option Addr}{rb mb cap:Nat}{x y:Int}{T:ST}(hW:Under W w0)(hl:l.length<=100000)(hli:∀ d∈l,Lite d)(hp:RowsV 6 DcRow W pl l)(hp0:pl=none->l.length=0)(hr:BoxAt w0 rb 54 #[.slice pl l.length l.length,.int .i64 x,.int .i64 y])(hwr:W.heap.size<=rb)(hm:MapAt w0 mb lM)
    (hq:SxArg w0 q (qA T)) (hcap:(qA T).length<=cap) (hn:(qA T).length<=1000000) (hok:okS T) (hE:StrcAt w0)
    (hT:∀ p ts,T = .list p ts->ts.length<=100000/\(∀ t∈ts,t.last.word.size<=1000000)/\∀ t∈ts,iCA W (knC l) (knD l) t/\∀ nm:ByteArray,nm.size<=1000000->∀ q r,t = .list q r->∀ u∈r,iCA W (knC l) (knD l++[nm]) u) :
    Calls prog 15 #[.pointer (some ⟨rb,0,none⟩),.map (some mb),.slice q (qA T).length cap] w0 (uBB w0 rb l (.slice pl l.length l.length) (gL l T)):=by
  have HL:=aA (bO (w0:=w0) (cap:=cap) T (q:=q) hn hq);have HP:=aA (λw (h:Under w0 w)=>rV (w0:=w) (cap:=cap) (qA T) (p:=q) hn hcap (hq.under h));have HF1:=λ(a b:Int) (s:ByteArray) (w:World)=>(show(Instr.field 28 (.agg #[.int .i64 a,.int .i64 b,.string s]) 1).run prog w = .ok (.int .i64 b) w by kernel_rfl)
  have HF2:=λ(a b:Int) (s:ByteArray) (w:World)=>(show(Instr.field 28 (.agg #[.int .i64 a,.int .i64 b,.string s]) 2).run prog w = .ok (.string s) w by kernel_rfl)
  have HR:=aA hr;have HM:=aA hm;have HT:=aA hT;have HE:=aA hE;have HDs:=aA (And.intro hW (And.intro hwr (And.intro hp hp0)));have HLi:=aA hli;have HOk:=aA hok;have HN:=aA hn;have hl0:(0:Int)<=(l.length:Int):=by omega
  have HRl:=aA hr.lt;clear hr hm hT hE hW hwr hp hp0 hli hok hcap hq;go_enter func15,ntmps15;go_wp2_with fail;refine HL.out.mono ?_;rintro e w1 ⟨rfl,hU1⟩;have HU:=aA hU1;clear hU1 HL;have HP1:=aA (HP.out _ HU.out);clear HP
  cases T with
  | word p s =>
    rw[zS HOk.out]at HP1;simp only[sxV,ST.last];go_wp2_with fail;refine HP1.out.mono ?_;rintro e w2 ⟨hU2,rfl⟩;have HU2:=aA (HU.out.trans hU2);have HPS:RowKit.Hid (gL l (.word p s) = .error (71,p)):=aA rfl;clear hU2 HP1 HU;generalize gL l (.word p s)=RR at *;have HWr:=aA (yF (w0:=w2) (e:=71) (at0:=p) (HR.out.under HU2.out));go_wp2_with fail;refine HWr.out.mono ?_;rintro e w9 ⟨rfl,hw⟩;have HC9:=aA (show Ch (λb=>b=rb) w2 w9 by rw[hw];exact((Ch.refl (C:=λb=>b=rb) w2).set (λ_=>rfl) _ _).set (λ_=>rfl) _ _);have HR9:=aA (show BoxAt w9 rb 54 #[.slice pl l.length l.length,.int .i64 p,.int .i64 71] by rw[hw];exact((HR.out.under HU2.out).set 2 _).set 1 _);clear hw;go_wp2;go_ret;rw[HPS.out];exact⟨oD HU2.out HC9.out,rfl,HR9.out⟩
  | list p ts =>
    have hok1:uI ts:=HOk.out;rw[xL hok1]at HP1;have HOk1:=aA hok1;have hT1:=HT.out p ts rfl;have HT1:=aA hT1.2;have hts:=hT1.1;have HM9:=aA hts;have HLn:=aA (show ∀ y∈ts,(qA y).length<=1000000 from λy hy=>by have:=eG (p:=p) hy;have:=HN.out;omega);have hxp:(ST.list p ts).last=⟨ts.length,p,⟨#[]⟩⟩:=rfl;rw[hxp];simp only[sxV];clear hok1 hT1 HT HOk hxp
    cases ts with
    | nil =>
      go_wp2_with fail;refine HP1.out.mono ?_;rintro e w2 ⟨hU2,vo,vs,rfl,h1,h2⟩;obtain⟨pq,pc,rfl,_⟩:=jT h1 h2;simp only[List.map_nil,List.length_nil];have HU2:=aA (HU.out.trans hU2);have HPS:RowKit.Hid (gL l (.list p []) = .error (71,p)):=aA rfl;clear hU2 HP1 HU h1 h2;generalize gL l (.list p [])=RR at *;have HWr:=aA (yF (w0:=w2) (e:=71) (at0:=p) (HR.out.under HU2.out));go_wp2_with fail;refine HWr.out.mono ?_;rintro e w9 ⟨rfl,hw⟩;have HC9:=aA (show Ch (λb=>b=rb) w2 w9 by rw[hw];exact((Ch.refl (C:=λb=>b=rb) w2).set (λ_=>rfl) _ _).set (λ_=>rfl) _ _);have HR9:=aA (show BoxAt w9 rb 54 #[.slice pl l.length l.length,.int .i64 p,.int .i64 71] by rw[hw];exact((HR.out.under HU2.out).set 2 _).set 1 _);clear hw;go_wp2;go_ret;rw[HPS.out];exact⟨oD HU2.out HC9.out,rfl,HR9.out⟩
    | cons h r =>
      go_wp2_with fail;refine HP1.out.mono ?_;rintro e w2 ⟨hU2,vo,vs,rfl,h1,h2⟩;have hlo:=hU2.size;obtain⟨b,off,pc,rfl,hpc,hpa⟩:=p2A h1 h2 (by simp);have hm1:(List.map qA (h::r)).length=r.length+1:=by simp
      rw[hm1]at hpc ⊢;have HPa:=aA hpa;have HU2:=aA (HU.out.trans hU2);have hlo1:=HU.out.size;generalize w1.heap.size=lo at *;have HLo:=aA hlo1;obtain⟨q0,c0,a0,ac0,aq0,_⟩:=hpa.2.2.2 0 (qA h) rfl;have hb:=Qb hpa.2.1 hpa.2.2.1;rw[Nat.add_zero]at a0;have HQ0:=aA (bO (w0:=w2) (cap:=c0) h (q:=q0) (HLn.out h (by simp)) aq0);have hts0:(0:Int) < ((r.length+1:Nat):Int):=by omega
      have hts1:((r.length+1:Nat):Int)≠0:=by omega
      generalize hmm:r.length+1=m at *;clear hU2 HP1 HU h1 h2 hpa hlo hlo1 hm1 hts ac0 aq0;go_wp2_with fail;refine HQ0.out.mono ?_;rintro e w3 ⟨rfl,hU3⟩;have HU3:=aA hU3;have HMU:=aA ((HM.out.under HU2.out).under hU3);have HRU:=aA ((HR.out.under HU2.out).under hU3);have HUa:=aA (HU2.out.trans hU3);clear hU3 HQ0 a0 hb HM HR
      cases hmo:cK (kI h.last.word) m with
      | false =>
        have HPS:RowKit.Hid (gL l (.list p (h::r)) = .error (71,p)):=aA (by show(if cK (kI h.last.word) (r.length+1)=false then _ else _)=_;rw[hmm,hmo];rfl);generalize gL l (.list p (h::r))=RR at *;have hbad:=a3A hmo;generalize h.last=hx at *;obtain⟨hxk,hxq,hw⟩:=hx;simp only[sxV];rcases hbad with hg|⟨k,fn,f,hg,hlt⟩
        . go_wp2_with (refine vC rfl _ _ true rfl underlying56 underlying9 (gJA _) rfl HMU.out rfl ?_;rw[hg];simp only[Option.getD_none,Option.isSome_none,if_true]);have HUb:=aA (bA HUa.out (.cells #[.int .i64 0,.int .i64 0,.nilFunc] 74));have HRb:=aA (HRU.out.under (bA (Qu _) (.cells #[.int .i64 0,.int .i64 0,.nilFunc] 74)));obtain⟨w4,hw4⟩:∃ w4,w4=w3.alloc (.cells #[.int .i64 0,.int .i64 0,.nilFunc] 74):=⟨_,rfl⟩;rw[<- hw4]at HUb HRb ⊢;have HWr:=aA (yF (w0:=w4) (e:=71) (at0:=p) HRb.out);go_wp2_with fail;refine HWr.out.mono ?_;rintro e w9 ⟨rfl,hw⟩;have HC9:=aA (show Ch (λb=>b=rb) w4 w9 by rw[hw];exact((Ch.refl (C:=λb=>b=rb) w4).set (λ_=>rfl) _ _).set (λ_=>rfl) _ _);have HR9:=aA (show BoxAt w9 rb 54 #[.slice pl l.length l.length,.int .i64 p,.int .i64 71] by rw[hw];exact(HRb.out.set 2 _).set 1 _);clear hw;go_wp2;go_ret;rw[HPS.out];exact⟨oD HUb.out HC9.out,rfl,HR9.out⟩
        . rcases hlt with hlt|⟨hge,hgt,hk3⟩
          all_goals
           go_wp2_with (refine vC rfl _ _ true rfl underlying56 underlying9 (gJA _) rfl HMU.out rfl ?_;rw[hg];simp only[Qf,Option.isSome_some,if_true,aQ]);have HUb:=aA (bA HUa.out (.cells #[.int .i64 k,.int .i64 fn,.func (.func f) #[] #[]] 74));have HRb:=aA (HRU.out.under (bA (Qu _) (.cells #[.int .i64 k,.int .i64 fn,.func (.func f) #[] #[]] 74)));obtain⟨w4,hw4⟩:∃ w4,w4=w3.alloc (.cells #[.int .i64 k,.int .i64 fn,.func (.func f) #[] #[]] 74):=⟨_,rfl⟩;rw[<- hw4]at HUb HRb ⊢;have HWr:=aA (yF (w0:=w4) (e:=71) (at0:=p) HRb.out);go_wp2_with fail;refine HWr.out.mono ?_;rintro e w9 ⟨rfl,hw⟩;have HC9:=aA (show Ch (λb=>b=rb) w4 w9 by rw[hw];exact((Ch.refl (C:=λb=>b=rb) w4).set (λ_=>rfl) _ _).set (λ_=>rfl) _ _);have HR9:=aA (show BoxAt w9 rb 54 #[.slice pl l.length l.length,.int .i64 p,.int .i64 71] by rw[hw];exact(HRb.out.set 2 _).set 1 _);clear hw;go_wp2;go_ret;rw[HPS.out];exact⟨oD HUb.out HC9.out,rfl,HR9.out⟩
      | true =>
        obtain⟨k,fn,f,hkw,hg,hge,hgt,h3,hkf⟩:=yWA hmo;obtain⟨n,qs,rfl⟩:∃ n qs,r=n::qs:=by
         cases r with
         | nil=>simp at hmm;omega
         | cons n qs=>exact⟨n,qs,rfl⟩
        have HPS:RowKit.Hid (gL l (.list p (h::n::qs))=if bN n.last.word=false then .error (71,n.last.pos) else if(bH n.last.word l).isSome=true then .error (4,n.last.pos) else if 40<=l.length then .error (21,p) else lL l k n.last.word p qs):=aA (by show(if cK (kI h.last.word) ((n::qs).length+1)=false then _ else _)=_;rw[hmm,hmo,hkw];rfl);generalize gL l (.list p (h::n::qs))=RR at *;obtain⟨q1,c1,e0,e1,e2,_⟩:=HPa.out.2.2.2 1 (qA n) rfl;have HQ:=aA (And.intro e1 e2);have HBl:=aA (And.intro (Qb HPa.out.2.1 HPa.out.2.2.1) e0);have HK:=aA (And.intro hkf h3);have hcf:∀(zs:Array Value) (w:World),(callFunc f zs).run prog w = .ok (.enter f zs) w:=by
         rcases hkf with⟨_,rfl,_⟩|⟨_,rfl,_⟩|⟨_,rfl⟩<;>intro zs w<;>kernel_rfl
        have HMm:=aA (show m=qs.length+2 by simpa using hmm.symm);have HQ1:=aA (λw (h:Under w2 w)=>bO (w0:=w) (cap:=c1) n (q:=q1) (HLn.out n (by simp)) (e2.under h));have hnw:=HT1.out.1 n (by simp);have HDl:=aA (λ(w4:World) (fb:Nat) (hU:Under w2 w4) (hF:BoxAt w4 fb 74 #[.int .i64 k,.int .i64 fn,.func (.func f) #[] #[]])=>d7A (rb:=rb) (m:=m) (pc:=pc) (p:=p) (n:=n) hF ((iA hU HBl.out.1 _).trans HBl.out.2) (Qb HBl.out.1 hU.size) (by omega) (e2.under hU) (HLn.out n (by simp)));have HF1n:=aA (λ(w:World) (hW1:Under W w) (hW2:Under w2 w) (db:Nat) (hdb:w2.heap.size<=db) (x y:Int) (hr:BoxAt w rb 54 #[.slice pl l.length l.length,.int .i64 x,.int .i64 y]) (hd:BoxAt w db 33 (y1A k n.last.word))=>cWA (p:=p) (f:=f) hW1 hl HDs.out.2.2.1 hr hd HDs.out.2.1 (by have:=HLo.out;have:=HRl.out;omega) hdb HMm.out (by have:=HM9.out;simp only[Qk]at this hmm;omega) hpc (HPa.out.ch (Ch.of_under (C:=λ_=>False) hW2) (λ_ h=>h.elim)) HOk1.out.2.2 (λy hy=>HLn.out y (by simp[hy])) (λt ht=>⟨(HT1.out.2 t (by simp[ht])).1,(HT1.out.2 t (by simp[ht])).2 _ hnw⟩) ((HE.out.under HU2.out).under hW2) HK.out.1 HK.out.2);generalize h.last=hx at *;generalize n.last=nx at *;obtain⟨hxk,hxq,hw⟩:=hx;obtain⟨nxk,np,nw⟩:=nx;simp only[sxV]at HQ1 ⊢;generalize lL l k nw p qs=FR at *;have hm1:(1:Int) < (m:Int):=by omega
        clear e0 e1 e2 hkf hkw hmo h3 HT1 HLn HOk1 HMm HK;rcases hgt with hgt|⟨hgt,hk3⟩
        all_goals
         go_wp2_with (refine vC rfl _ _ true rfl underlying56 underlying9 (gJA _) rfl HMU.out rfl ?_;rw[hg];simp only[Qf,Option.isSome_some,if_true,aQ]);have HU34:=aA (HU3.out.trans (bA (Qu w3) (.cells #[.int .i64 k,.int .i64 fn,.func (.func f) #[] #[]] 74)));have HRb:=aA (HRU.out.under (bA (Qu _) (.cells #[.int .i64 k,.int .i64 fn,.func (.func f) #[] #[]] 74)));have HF4:=aA (zA w3 #[.int .i64 k,.int .i64 fn,.func (.func f) #[] #[]] 74);obtain⟨w4,hw4⟩:∃ w4,w4=w3.alloc (.cells #[.int .i64 k,.int .i64 fn,.func (.func f) #[] #[]] 74):=⟨_,rfl⟩;rw[<- hw4]at HU34 HRb HF4 ⊢;clear hw4;generalize w3.heap.size=fb at *;have HD1:=aA (HDl.out w4 fb HU34.out HF4.out);rename_i K0 hK0;refine wp_mono (Q:=lBB w4 rb fb b off m pc p k nw) ?_ ?_
         . clear hK0;exact kU (F:=f9A rb fb b off m pc p) (by rfl) HD1.out
         rintro e a' w6 ⟨rfl,db,⟨J,rfl⟩,hdb,hU6,hge⟩;refine hK0 _ _ ?_;have HU6:=aA (HU34.out.trans hU6);have HR6:=aA (HRb.out.under hU6);have HF6:=aA (HF4.out.under hU6);have HDb:=aA hdb;have HGe:=aA (Ql HU34.out.size hge);have HFi:=aA (λJ=>j7A (fb:=fb) (b:=b) (off:=off) (m:=m) (pc:=pc) (p:=p) HR6.out HDb.out hl HLi.out (RowsV.under DcRow.mono HDs.out.2.2.1 (HDs.out.1.trans (HU2.out.trans HU6.out))) J);clear hK0 K0 hdb hU6 hge HD1 HF4 HRb HDl;unfold bSA;go_wp2_with fail;rename_i K0 hK0;refine wp_mono (Q:=tBB w6 rb fb db b off m pc p (bH nw l).isSome) ?_ ?_
         . clear hK0;exact kU (F:=bSA rb fb db b off m pc p) (by rfl) HFi.out
         rintro e a' w7 ⟨rfl,⟨J,rfl⟩,hU7⟩;refine hK0 _ _ ?_;have HU7:=aA (HU6.out.trans hU7);have HR7:=aA (HR6.out.under hU7);have HF7:=aA (HF6.out.under hU7);have HD7:=aA (HDb.out.under hU7);clear hK0 K0 hU7 HFi HR6 HF6 HDb HU6;unfold sRA;have d2:w7.cell? ⟨db,2,none⟩=some (.string nw):=HD7.out.cell 2;have dl:=HD7.out.lt;have HNm:=aA (mUA (w0:=w7) nw (by simp only[maxLen];omega));go_wp2_with fail;refine HNm.out.mono ?_;rintro e w8 ⟨rfl,hU8⟩;have HU8:=aA (HU7.out.trans hU8);have HR8:=aA (HR7.out.under hU8);have HF8:=aA (HF7.out.under hU8);have HD8:=aA (HD7.out.under hU8);have HW8:=aA (HU2.out.trans HU8.out);have cl:w8.cell? ⟨b,off+1,none⟩=some (.slice q1 (qA n).length c1):=(iA HU8.out HBl.out.1 _).trans HBl.out.2;have hb8:=Qb HBl.out.1 HU8.out.size;have HL8:=aA (HQ1.out w8 HU8.out);clear hU8 d2 dl HNm HU7 HR7 HF7 HD7 HQ1
         cases hdn:bN nw with
         | false =>
           rw[hdn]at HPS;have HPS:RowKit.Hid (RR = .error (71,np)):=aA (by rw[HPS.out];rfl);go_wp2_with fail;refine HL8.out.mono ?_;rintro e w9 ⟨rfl,hU9⟩;have HU9:=aA (HW8.out.trans hU9);have HR9:=aA (HR8.out.under hU9);clear hU9;have HWr:=aA (yF (w0:=w9) (e:=71) (at0:=np) HR9.out);go_wp2_with fail;refine HWr.out.mono ?_;rintro e wz ⟨rfl,hw⟩;have HC9:=aA (show Ch (λb=>b=rb) w9 wz by rw[hw];exact((Ch.refl (C:=λb=>b=rb) w9).set (λ_=>rfl) _ _).set (λ_=>rfl) _ _);have HR9:=aA (show BoxAt wz rb 54 #[.slice pl l.length l.length,.int .i64 np,.int .i64 71] by rw[hw];exact(HR9.out.set 2 _).set 1 _);clear hw;go_wp2;go_ret;rw[HPS.out];exact⟨oD HU9.out HC9.out,rfl,HR9.out⟩
         | true =>
           rw[hdn]at HPS
           cases hfd:(bH nw l).isSome with
           | true =>
             rw[hfd]at HPS;have HPS:RowKit.Hid (RR = .error (4,np)):=aA (by rw[HPS.out];rfl);go_wp2_with fail;refine HL8.out.mono ?_;rintro e w9 ⟨rfl,hU9⟩;have HU9:=aA (HW8.out.trans hU9);have HR9:=aA (HR8.out.under hU9);clear hU9;have HWr:=aA (yF (w0:=w9) (e:=4) (at0:=np) HR9.out);go_wp2_with fail;refine HWr.out.mono ?_;rintro e wz ⟨rfl,hw⟩;have HC9:=aA (show Ch (λb=>b=rb) w9 wz by rw[hw];exact((Ch.refl (C:=λb=>b=rb) w9).set (λ_=>rfl) _ _).set (λ_=>rfl) _ _);have HR9:=aA (show BoxAt wz rb 54 #[.slice pl l.length l.length,.int .i64 np,.int .i64 4] by rw[hw];exact(HR9.out.set 2 _).set 1 _);clear hw;go_wp2;go_ret;rw[HPS.out];exact⟨oD HU9.out HC9.out,rfl,HR9.out⟩
           | false =>
             rw[hfd]at HPS;have r0:=HR8.out.cell 0;have rl:=HR8.out.lt;clear HL8 cl;by_cases h40:40<=l.length
             . have HPS:RowKit.Hid (RR = .error (21,p)):=aA (by rw[HPS.out];simp[h40]);have h40':(40:Int)<=(l.length:Int):=by omega
               have HWr:=aA (yF (w0:=w8) (e:=21) (at0:=p) HR8.out);go_wp2_with fail;refine HWr.out.mono ?_;rintro e wz ⟨rfl,hw⟩;have HC9:=aA (show Ch (λb=>b=rb) w8 wz by rw[hw];exact((Ch.refl (C:=λb=>b=rb) w8).set (λ_=>rfl) _ _).set (λ_=>rfl) _ _);have HR9:=aA (show BoxAt wz rb 54 #[.slice pl l.length l.length,.int .i64 p,.int .i64 21] by rw[hw];exact(HR8.out.set 2 _).set 1 _);clear hw;go_wp2;go_ret;rw[HPS.out];exact⟨oD HW8.out HC9.out,rfl,HR9.out⟩
             . have HPS:RowKit.Hid (RR=FR):=aA (by rw[HPS.out];simp[h40]);have h40':¬(40:Int)<=(l.length:Int):=by omega
               have f2:=HF8.out.cell 2;have fl:=HF8.out.lt;have HFm:=aA (HF1n.out w8 (HDs.out.1.trans HW8.out) HU8.out db HGe.out x y HR8.out HD8.out);have HNe:=aA (show rb≠db by have:=HRl.out;have:=HLo.out;have:=HGe.out;have:=HU2.out.size;omega);have HB8:=aA rl;go_wp2_with fail;refine HFm.out.mono ?_;rintro e w9 ⟨hCh,h⟩;have HC9:=aA (show Ch (λb=>b=rb) w0 w9 from(Ch.of_under HW8.out).trans hCh (λi hi h=>by have:=HGe.out;have:=HU2.out.size;omega));have HW9:=aA (dB (HDs.out.1.trans HW8.out) hCh (λi h=>by have:=HDs.out.2.1;have:=HGe.out;have:=HU2.out.size;have:=HDs.out.1.size;omega));clear hCh HFm r0 rl f2 fl
               cases FR with
               | error xx =>
                 obtain⟨rfl,hR9⟩:=h;have HR9:=aA hR9;clear hR9;go_wp2;go_ret;rw[HPS.out];exact⟨HC9.out,rfl,HR9.out⟩
               | ok d =>
                 obtain⟨rfl,⟨a1,b1,hR9⟩,vt,vb,vc,hB9,ht,hbd,hc⟩:=h;have HPu:=aA (λJ=>z5A (fb:=fb) (b:=b) (off:=off) (m:=m) (pc:=pc) (p:=p) hR9 hB9 ht hbd hc HB8.out (B0:=w0.heap.size) HW8.out.size HC9.out.size HNe.out hl HW9.out HDs.out.2.2.1 HDs.out.2.2.2 J);clear hR9 hB9 ht hbd hc;go_wp2_with fail;rename_i K0 hK0;refine wp_mono (Q:=sBB w9 w0.heap.size rb l d) ?_ ?_
                 . clear hK0;exact kU (F:=sRA rb fb db b off m pc p false) (by rfl) HPu.out
                 rintro e a' w10 ⟨rfl,⟨J,rfl⟩,hC10,hL10⟩;refine hK0 _ _ ?_;have HEnd:=aA (And.intro hC10 hL10);clear hK0 K0 HPu hC10 hL10;unfold o7A;go_wp2;go_ret;rw[HPS.out];exact⟨HC9.out.trans HEnd.out.1 (λ_ _ h=>h),rfl,HEnd.out.2⟩
end
theorem rLA{fn:Func}{R:Ending->World->Prop}{A:Array Value}{wf:World}{b:Nat}{v0 v1 v2 v3 v4 v5 x y:Value}(hr:fn.results=#[.cell 4 33,.tmp 5,.tmp 6])(h2:A.getD 4 undef = .pointer (some ⟨b,0,none⟩))(h3:A.getD 5 undef=x)(h4:A.getD 6 undef=y)(hB:BoxAt wf b 33 #[v0,v1,v2,v3,v4,v5])
    (hR:R (.returned (.tuple #[.agg #[v0,v1,v2,v3,v4,v5],x,y])) wf) :
    bodyPost prog fn R .ret ⟨A,[]⟩ wf :=
  hUA (λw' h=>by
    have e0:=h.cell 0;have e1:=h.cell 1;have e2:=h.cell 2;have e3:=h.cell 3;have e4:=h.cell 4;have e5:=h.cell 5;simp[go_sem,e0,e1,e2,e3,e4,e5]) hr h2 h3 h4 hB hR
def OnOut(w0:World)(R:lS)(e:Ending)(w:World):Prop:=Under w0 w/\match R with
 | .ok d=>∃ v,e = .returned (.tuple #[v,.int .i64 0,.int .i64 0])/\DcV w v d
 | .error x=>e = .returned (.tuple #[.agg dcZ,.int .i64 x.2,.int .i64 x.1])
def lAB(l:List Dc):List ST->lS
  | [T]=>gL l T
  | _=>.error (71,0)
section
variable {w0 : World}
theorem cCB{p:Option Addr}{n c:Nat}(hn:n<=c)(h9:n<=100000)(hp:p=none->c=0):∃ q,(q=none->n=0)/\(n≠0->q=p)/\∀ w:World,(Instr.slice 22 (.slice p n c) none (some (.int .i64 (n:Int))) (some (.int .i64 (n:Int)))).run prog w = .ok (.slice q n n) w:=by
 have h1:(0:Int)<=(n:Int):=by omega
 have h2:(n:Int)<=(c:Int):=by omega
 cases p with
 | none =>
   obtain rfl:=hp rfl;obtain rfl:n=0:=by omega
   refine⟨none,λ_=>rfl,λh=>absurd rfl h,λw=>?_⟩;simp[Instr.slice,Instr.sliceBounds,Instr.sliceBound,asIntOf,run_underlying underlying22,go_sem]
 | some a =>
   refine⟨some a,λh=>by simp at h,λ_=>rfl,λw=>?_⟩;simp[Instr.slice,Instr.sliceBounds,Instr.sliceBound,asIntOf,run_underlying underlying22,go_sem,h1,h2,hn]
theorem qXA{p:Option Addr}{n c:Nat}(hn:n<=c)(h9:n<=100000)(hp:p=none->c=0):Calls prog 14 #[.slice p n c] w0 λe w=>∃ q,(q=none->n=0)/\(n≠0->q=p)/\e = .returned (.slice q n n)/\Under w0 w:=by
 obtain⟨q,h1,h2,h3⟩:=cCB hn h9 hp;have HQ:=aA (And.intro h1 h2);clear h1 h2 hp;go_enter func14,ntmps14;go_wp2;go_ret;exact⟨q,HQ.out.1,HQ.out.2,rfl,Qu _⟩
theorem d0A{l:List Dc}{pl q:Option Addr}{cl cap:Nat}{ts:List ST}(hl:l.length<=100000)(hli:∀ d∈l,Lite d)(hp:RowsV 6 DcRow w0 pl l)(hcl:l.length<=cl)(hpc:pl=none->cl=0)(hq:SxArg w0 q (rA ts))(hcap:(rA ts).length<=cap)(hn:(rA ts).length<=1000000)(hok:uI ts)(hE:StrcAt w0)
    (hT:∀ p us,ts=[.list p us]->us.length<=100000/\(∀ t∈us,t.last.word.size<=1000000)/\∀ t∈us,iCA w0 (knC l) (knD l) t/\∀ nm:ByteArray,nm.size<=1000000->∀ q r,t = .list q r->∀ u∈r,iCA w0 (knC l) (knD l++[nm]) u) :
    Calls prog 6 #[.slice pl l.length cl,.slice q (rA ts).length cap] w0 (OnOut w0 (lAB l ts)):=by
  have HI:=aA (λw (h:Under w0 w)=>oQ (w0:=w) (cap:=cap) (p:=q) (rA ts) hn hcap (hq.under h));rw[gF hok]at HI;have HC:=aA (λw=>qXA (w0:=w) hcl hl hpc);have HD:=aA (And.intro hli (And.intro hp (And.intro hq (And.intro hcap (And.intro hok (And.intro hE hT))))));have HN:=aA hn;have hl0:(0:Int)<=(l.length:Int):=by omega
  clear hli hp hcl hpc hq hcap hok hE hT hn;have HU0:=aA (bA (Qu w0) (.cells dcZ 33));have HB0:=aA (zA w0 dcZ 33);go_enter func6,ntmps6;go_wp2_with fail;refine(HI.out _ HU0.out).mono ?_;rintro e w1 ⟨hU1,vo,vs,rfl,h1,h2⟩;obtain⟨pq,pc,rfl,_⟩:=jT h1 h2;have HU:=aA (HU0.out.trans hU1);have HB:=aA (HB0.out.under hU1);have hsz:=Qb (show w0.heap.size < (w0.alloc (.cells dcZ 33)).heap.size by simp) hU1.size;have HSz:=aA hsz;clear hU1 h1 h2 HI HU0 HB0 hsz;unfold dcZ at HB;by_cases h1:ts.length=1
  . obtain⟨T,rfl⟩:∃ T,ts=[T]:=by
      match ts,h1 with
      | [T],_=>exact⟨T,rfl⟩
    have hlen:(List.map qA [T]).length=1:=rfl;have hfs:rA [T]=qA T:=by simp[rA]
    rw[hlen];rw[hfs]at HD HN ⊢;clear hlen hfs h1;go_wp2_with fail;refine(HC.out w1).mono ?_;rintro e w2 ⟨q2,c1,c2,rfl,hU2⟩;have HU2:=aA (HU.out.trans hU2);have HB2:=aA (HB.out.under hU2);have HC1:=aA c1;have HP2:=aA (show RowsV 6 DcRow w0 q2 l from by
      by_cases h:l.length=0
      . obtain rfl:=List.length_eq_zero_iff.1 h;exact⟨[],RowArg.nil,λr h=>(List.not_mem_nil h).elim,Zip.nil _⟩
      . rw[c2 h];exact HD.out.2.1)
    have HRb:=aA (zA w2 #[.slice q2 l.length l.length,.int .i64 0,.int .i64 0] 54);have HUa:=aA (bA (Qu w2) (.cells #[.slice q2 l.length l.length,.int .i64 0,.int .i64 0] 54));have HFo:=aA (fEA (w0:=w2.alloc (.cells #[.slice q2 l.length l.length,.int .i64 0,.int .i64 0] 54)));have hs2:(w2.alloc (.cells #[.slice q2 l.length l.length,.int .i64 0,.int .i64 0] 54)).heap.size=w2.heap.size+1:=by simp
    rw[hs2]at HFo;clear hU2 c1 c2 HC HU HB hs2;go_wp2_with fail;refine HFo.out.mono ?_;rintro e w4 ⟨rfl,hM,hU4⟩;have HU4:=aA (HU2.out.trans (HUa.out.trans hU4));have HR4:=aA (HRb.out.under hU4);have HB4:=aA (HB2.out.under (HUa.out.trans hU4));have HTh:=aA (pCA (W:=w0) (cap:=cap) (T:=T) HU4.out hl HD.out.1 HP2.out HC1.out HR4.out HU2.out.size hM (HD.out.2.2.1.under HU4.out) HD.out.2.2.2.1 HN.out HD.out.2.2.2.2.1.1 (HD.out.2.2.2.2.2.1.under HU4.out) (λp us e=>HD.out.2.2.2.2.2.2 p us (by rw[e])));have HPS:RowKit.Hid (lAB l [T]=gL l T):=aA rfl;have HRs:=aA HR4.out.lt;have HLr:=aA (show w0.heap.size < w2.heap.size from Qb HB2.out.lt (Qd _));generalize w2.heap.size=rb at *;clear hM hU4 HFo HUa HRb HB2 HC1 HP2;generalize gL l T=FR at *;go_wp2_with fail;refine HTh.out.mono ?_;rintro e w5 ⟨hC5,h⟩;have HU:=aA (dB HU4.out hC5 (λb hb=>by have:=HLr.out;omega));have HB:=aA (fH HB4.out hC5 (λhb=>by have:=HLr.out;omega));clear hC5 HTh HB4 HR4;have d0:=HB.out.cell 0;have d1:=HB.out.cell 1;have d2:=HB.out.cell 2;have d3:=HB.out.cell 3;have d4:=HB.out.cell 4;have d5:=HB.out.cell 5;have g0:=HB.out.free 0;have g1:=HB.out.free 1;have g2:=HB.out.free 2;have g3:=HB.out.free 3;have g4:=HB.out.free 4;have g5:=HB.out.free 5;have dl:=HB.out.lt
    cases FR with
    | error x =>
      obtain⟨rfl,hR5⟩:=h;have HR5:=aA hR5;have r1:=hR5.cell 1;have r2:=hR5.cell 2;have rl:=hR5.lt;clear hR5;go_wp2_with fail;rename_i K0 hK0;refine wp_region_noPanic ?_;refine wp_region_held_drew (S:=λw=>w.cell? ⟨rb,1,none⟩=some (.int .i64 x.2)/\w.cell? ⟨rb,2,none⟩=some (.int .i64 x.1)) (by kernel_rfl) ⟨r1,r2⟩ (λhHeld=>?_);refine dA 0 rfl ?_;refine dA 1 rfl ?_;refine dA 2 rfl ?_;refine dA 3 rfl ?_;refine dA 4 rfl ?_;refine dA 5 rfl ?_;refine dA 6 rfl ?_;refine dA 7 rfl ?_;refine dA 8 rfl ?_;refine yA 9 (by kernel_rfl) rfl λK hK=>?_
      go_simp;have hne:rb≠w0.heap.size:=by have:=HLr.out;omega
      have HRw:=aA (qNA (zXA HR5.out hne (.int .i64 0) (.int .i64 0) (.string ⟨#[]⟩) (.slice none 0 0) (.slice none 0 0) (.slice none 0 0)));refine hK.out _ _ ⟨HRw.out.cell 1,HRw.out.cell 2⟩ (λ_=>?_);clear hK K hHeld;rename_i hHeld
      try walk_nrm
      refine dA 10 rfl ?_;refine dA 11 rfl ?_
      try walk_nrm
      refine wpAnyH_done (by kernel_rfl) ?_ _;refine NoPanic.normal ?_;clear r1 r2 rl d0 d1 d2 d3 d4 d5 g0 g1 g2 g3 g4 g5 dl hHeld;refine hK0 _ _ ?_;clear hK0 K0;go_wp2;refine rLA rfl rfl rfl rfl (qNA (wD HB.out _ _ _ _ _ _)) ?_;exact⟨dB HU.out (l0A (jE _ _ _ _ _ _ _ _)) λb hb=>by omega,by rw[HPS.out];rfl⟩
    | ok d =>
      obtain⟨rfl,b,k5,a5,b5,vt,vb,vc,hR5,hgb,hb,hc,ht,hbd,B',hBB,hcs⟩:=h;have cc0:=hc 0 _ rfl;have cc1:=hc 1 _ rfl;have cc2:=hc 2 _ rfl;have cc3:=hc 3 _ rfl;have cc4:=hc 4 _ rfl;have cc5:=hc 5 _ rfl;simp only[Nat.add_zero]at cc0;have HB5:=aA HB.out;have HV:=aA (λ(w':World) (h:Ch (λg=>g=w0.heap.size) w5 w')=>(show TermV w' vt d.type/\TermV w' vb d.body/\ConsV w' vc d.cons from by
        have hx:∀ b,b=w0.heap.size->∃ T cs,BoxAt w5 b T cs/\96≠T:=λb e=>⟨33,_,e▸HB5.out,by decide⟩
        exact⟨(ht.ch h hx).val,(hbd.ch h hx).val,(hcs.keep h (λb e=>by have:=HLr.out;have:=HRs.out;omega) hx).val⟩))
      obtain⟨p1,e1,rfl,_⟩:=ht.val;obtain⟨p2,e2,rfl,_⟩:=hbd.val;obtain⟨p3,e3,us3,rfl,_⟩:=hcs.val;have r0:=hR5.cell 0;have rl:=hR5.lt;have hlt:(l.length:Int) < ((l.length+1:Nat):Int):=by omega
      clear hR5 hc ht hbd hcs hBB hgb;go_wp2;refine rLA rfl rfl rfl rfl (wD HB5.out _ _ _ _ _ _) ?_;refine⟨dB HU.out (jE _ _ _ _ _ _ _ _) λb hb=>by omega,?_⟩;rw[HPS.out];exact⟨_,rfl,_,_,_,rfl,HV.out _ (jE _ _ _ _ _ _ _ _)⟩
  . have HPS:RowKit.Hid (lAB l ts = .error (71,0)):=aA (by
      match ts,h1 with
      | [],_=>rfl
      | _::_::_,_=>rfl
      | [T],h=>exact absurd rfl h)
    have h1':((List.map qA ts).length:Int)≠1:=by simp;omega
    generalize (List.map qA ts).length=nt at *;have d0:=HB.out.cell 0;have d1:=HB.out.cell 1;have d2:=HB.out.cell 2;have d3:=HB.out.cell 3;have d4:=HB.out.cell 4;have d5:=HB.out.cell 5;have g0:=HB.out.free 0;have g1:=HB.out.free 1;have g2:=HB.out.free 2;have g3:=HB.out.free 3;have g4:=HB.out.free 4;have g5:=HB.out.free 5;have dl:=HB.out.lt;go_wp2;refine rLA rfl rfl rfl rfl (wD HB.out _ _ _ _ _ _) ?_;exact⟨dB HU.out (jE _ _ _ _ _ _ _ _) λb hb=>by omega,by rw[HPS.out];rfl⟩
end
section
variable {w0 : World}
theorem f4A{pl q:Option Addr}{n cl cap:Nat}{row:List Sx}(hq:SxArg w0 q row)(hcap:row.length<=cap)(hn:row.length<=1000000)(hb:∀ ls,qC row=some ls->ls.length≠1) :
 Calls prog 6 #[.slice pl n cl,.slice q row.length cap] w0 (OnOut w0 (.error (71,0))):=by
 have HI:=aA (λw (h:Under w0 w)=>oQ (w0:=w) (cap:=cap) (p:=q) row hn hcap (hq.under h));have HBd:=aA hb;clear hq hcap hn hb;generalize qC row=R at *;have HU0:=aA (bA (Qu w0) (.cells dcZ 33));have HB0:=aA (zA w0 dcZ 33);go_enter func6,ntmps6;go_wp2_with fail;refine(HI.out _ HU0.out).mono ?_;rintro e w1 ⟨hU1,hh⟩;have HU:=aA (HU0.out.trans hU1);have HB:=aA (HB0.out.under hU1);clear hU1 HI HU0 HB0;unfold dcZ at HB;have d0:=HB.out.cell 0;have d1:=HB.out.cell 1;have d2:=HB.out.cell 2;have d3:=HB.out.cell 3;have d4:=HB.out.cell 4;have d5:=HB.out.cell 5;have g0:=HB.out.free 0;have g1:=HB.out.free 1;have g2:=HB.out.free 2;have g3:=HB.out.free 3;have g4:=HB.out.free 4;have g5:=HB.out.free 5;have dl:=HB.out.lt
 cases R with
 | none =>
   subst hh;go_wp2;refine rLA rfl rfl rfl rfl (wD HB.out _ _ _ _ _ _) ?_;exact⟨dB HU.out (jE _ _ _ _ _ _ _ _) λb hb=>by omega,rfl⟩
 | some ls =>
   obtain⟨vo,vs,rfl,h1,h2⟩:=hh;obtain⟨pq,pc,rfl,_⟩:=jT h1 h2;have hne:=HBd.out ls rfl;have h1':(ls.length:Int)≠1:=by omega
   clear h1 h2 hne;go_wp2;refine rLA rfl rfl rfl rfl (wD HB.out _ _ _ _ _ _) ?_;exact⟨dB HU.out (jE _ _ _ _ _ _ _ _) λb hb=>by omega,rfl⟩
end
end Go.Proofs.YtpkaiodmbicjiaaGreatDoor
namespace Go.Proofs.YtpkaiodmbicjiaaGreatDoor
open Go.Proofs.Tryz
open Go.Conc Go.Lx Go.RowKit
def aLA:Option Nat->Int
  | none => -1
  | some b=>b
def oEA(w:World)(R:Option Nat)(e:Ending)(w':World):Prop:=Under w w'/\e = .returned (.int .i64 (aLA R))
noncomputable def fPA:Code:=f34.body.getD .skip
noncomputable def oPA:Code:=aB (jA (jA (jA fPA)))
noncomputable def beRound:Code:=nC (nC (jA oPA))
def bL(l:Value)(e a i:Nat)(J:Nat->Value):Array Value :=
 #[l, .int .i64 (e : Int), J 2, J 3, J 4, .int .i64 (a : Int), .int .i64 (i : Int), J 7, J 8, J 9, J 10, J 11, J 12, J 13, J 14, J 15, J 16, J 17, J 18, J 19, J 20, J 21, J 22, J 23, J 24, J 25, J 26, J 27, J 28, J 29, J 30, J 31, J 32, J 33, J 34, J 35, J 36, J 37, J 38, J 39, J 40, J 41, J 42, J 43, J 44, J 45, J 46, J 47, J 48, J 49]
def j8A(J:Nat->Value):Array Value:=#[J 0,J 1,J 2,J 3,.int .i64 (-1),J 5,J 6,J 7,J 8,J 9,J 10,J 11,J 12,J 13,J 14,J 15,J 16,J 17,J 18,J 19,J 20,J 21,J 22,J 23,J 24,J 25,J 26,J 27,J 28,J 29,J 30,J 31,J 32,J 33,J 34,J 35,J 36,J 37,J 38,J 39,J 40,J 41,J 42,J 43,J 44,J 45,J 46,J 47,J 48,J 49]
section
variable {b off n cap e : Nat} {x : Sx}
def yZA(w0:World)(l:Value)(e a i:Nat)(a':Act)(w':World):Prop:=∃ J,a'=⟨bL l e a i J,[]⟩/\Under w0 w'
def l8A(w0:World)(l:Value)(e a i:Nat)(ex:Exit)(a':Act)(w':World):Prop:=ex = .exit 0/\yZA w0 l e a i a' w'
def yCB(w0:World)(ex:Exit)(a':Act)(w':World):Prop:=ex = .ret/\∃ J,a'=⟨j8A J,[]⟩/\Under w0 w'
theorem k6A{w0:World}{a i:Nat}(he:e < n)(hi:x.many=(i:Int))(J:Nat->Value)(w:World)(hU:Under w0 w)(hb0:b < w0.heap.size)(c0:w0.cell? ⟨b,off+e * 3,none⟩=some (.int .i64 x.many)) :
 beRound.wp prog (Exit.then (λ_ _=>False) (l8A w0 (.slice (some ⟨b,off,none⟩) n cap) e a i)) ⟨bL (.slice (some ⟨b,off,none⟩) n cap) e a i J,[]⟩ w:=by
 rw[<- iA hU hb0]at c0;have h1:(e:Int) < n:=by omega
 have h2:(0:Int)<=e:=by omega
 rw[hi]at c0;have HU:=aA hU;clear hU;unfold beRound oPA fPA;simp only[f34,Qf,aB,jA,nC];unfold bL;go_wp2;exact⟨rfl,bB (F:=bL _ e a i) (by rfl) HU.out⟩
theorem wAB{w0:World}{a i:Nat}{R:Option Nat}(he:e < n)(hn:n<=1000000)(hi:(i:Int) < x.many)(hi2:i<=1000000)(ha:a<=1000000)(J:Nat->Value)(w:World)(hU:Under w0 w)(hb0:b < w0.heap.size)(c0:w0.cell? ⟨b,off+e * 3,none⟩=some (.int .i64 x.many))
    (C:Calls prog 34 #[.slice (some ⟨b,off,none⟩) n cap,.int .i64 ((a:Int) - 1)] w (oEA w R)) :
    beRound.wp prog (Exit.then (λa' w'=>∃ c,R=some c/\yZA w0 (.slice (some ⟨b,off,none⟩) n cap) e c (i+1) a' w') (λex a' w'=>R=none/\yCB w0 ex a' w')) ⟨bL (.slice (some ⟨b,off,none⟩) n cap) e a i J,[]⟩ w:=by
  rw[<- iA hU hb0]at c0;have h1:(e:Int) < n:=by omega
  have h2:(0:Int)<=e:=by omega
  have h3:(i:Int)<=1000000:=by omega
  have h4:(0:Int)<=i:=by omega
  have h5:(a:Int)<=1000000:=by omega
  have h6:(0:Int)<=a:=by omega
  have HU:=aA hU;have HC:=aA C;clear hU C;unfold beRound oPA fPA;simp only[f34,Qf,aB,jA,nC];unfold bL;go_wp2_with fail;refine HC.out.mono ?_;rintro ed w1 ⟨hU1,rfl⟩;have HU1:=aA hU1;clear hU1
  cases R with
  | none =>
    simp only[aLA];go_wp2;exact⟨by simp,rfl,bB (F:=j8A) (by rfl) (HU.out.trans HU1.out)⟩
  | some c =>
    simp only[aLA];have h7:(0:Int)<=c:=by omega
    go_wp2;exact⟨c,rfl,bB (F:=bL _ e c (i+1)) (by rfl) (HU.out.trans HU1.out)⟩
def EI(w0:World)(l:Value)(row:List Sx)(e:Nat)(m:Nat)(R:Option Nat)(g:Nat)(a:Act)(w:World):Prop :=
 ∃ k i,g=k/\k+i<=e/\i<=m/\pJ (rb row) (m - i) k=R/\yZA w0 l e k i a w
theorem dVA(row:List Sx)(hn:row.length<=1000000){w0:World}(hb0:b < w0.heap.size)(ht:wDA w0 b off row)(hx:row[e]? = some x)(hm:0<=x.many)(R:Option Nat)
    (IH:∀ k,k<=e->∀ w,Under w0 w->Calls prog 34 #[.slice (some ⟨b,off,none⟩) row.length cap,.int .i64 ((k:Int) - 1)] w (oEA w (rb row k))) (g:Nat) (a:Act) (w:World)
    (h0:EI w0 (.slice (some ⟨b,off,none⟩) row.length cap) row e x.many.toNat R g a w) :
    (Code.loop beRound).wp prog (λex a' w'=>(∃ k i,R=some k/\l8A w0 (.slice (some ⟨b,off,none⟩) row.length cap) e k i ex a' w')∨(R=none/\yCB w0 ex a' w')) a w:=by
  refine wp_loop_ghost _ g h0 ?_;clear h0;rintro g a w ⟨k,i,hg,hki,him,hR,J,rfl,hU⟩;have he:e < row.length:=(Qo.1 hx).1;obtain⟨c0,_,_⟩:=ht e x hx;by_cases hd:i=x.many.toNat
  . subst hd;rw[Nat.sub_self]at hR;refine wp_mono (k6A (cap:=cap) (a:=k) he (by omega) J w hU hb0 c0) ?_;rintro ex a' w' h
    cases ex with
    | normal=>exact h.elim
    | _=>exact .inl ⟨k,_,hR.symm,h⟩
  . obtain⟨r,hr⟩:∃ r,x.many.toNat - i=r+1:=⟨x.many.toNat - i - 1,by omega⟩;rw[hr]at hR;simp only[pJ]at hR;refine wp_mono (wAB (cap:=cap) (a:=k) he hn (by omega) (by omega) (by omega) J w hU hb0 c0 (IH k (by omega) w hU)) ?_;rintro ex a' w' h
    cases ex with
    | normal =>
      obtain⟨c,hc,h⟩:=h;rw[hc]at hR;have hlt:=rEA hc;exact⟨c,by omega,c,i+1,rfl,by omega,by omega,by rw[show x.many.toNat - (i+1)=r by omega];exact hR,h⟩
    | _ =>
      obtain⟨hc,h⟩:=h;rw[hc]at hR;exact .inr ⟨hR.symm,h⟩
theorem gYA(row:List Sx)(hn:row.length<=1000000):∀(k:Nat),k<=row.length->∀(w0:World),b < w0.heap.size->wDA w0 b off row ->
 Calls prog 34 #[.slice (some ⟨b,off,none⟩) row.length cap,.int .i64 ((k:Int) - 1)] w0 (oEA w0 (rb row k)):=by
 intro k
 induction k using Nat.strongRecOn with
 | _ k ih =>
   intro hk w0 hb0 ht
   cases k with
   | zero =>
     rw[ySA];have e0:(((0:Nat):Int) - 1) = -1:=by decide
     rw[e0];clear ih;go_enter func34,ntmps34;go_wp2;go_ret;exact⟨⟨rfl,rfl,Qd _,λ_ _=>rfl⟩,rfl⟩
   | succ e =>
     have e0:(((e+1:Nat):Int) - 1)=(e:Int):=by omega
     rw[e0];obtain⟨x,hx⟩:∃ x,row[e]? = some x:=⟨_,Qa (by omega)⟩;obtain⟨c0,_,c2⟩:=ht e x hx;have h1:(e:Int) < row.length:=by omega
     have h2:(0:Int)<=e:=by omega
     have HU0:Under w0 w0:=⟨rfl,rfl,Qd _,λ_ _=>rfl⟩;rw[bKA hx];by_cases hbad:cBA x
     . rw[if_pos hbad];have HU0:=aA HU0;obtain⟨m,q,t⟩:=x;simp only[cBA]at hbad c0 c2;clear ih hx ht;by_cases hm:m < 0
       . clear hbad;go_enter func34,ntmps34;go_wp2;go_ret;exact⟨HU0.out,rfl⟩
       . have hb':t.size≠0/\m≠0:=hbad.resolve_left hm;have hm0:(m != 0)=true:=by simp;exact hb'.2
         obtain⟨e1,e2⟩:=nJ hb'.1;clear hbad hb';go_enter func34,ntmps34;go_wp2;go_ret;exact⟨HU0.out,rfl⟩
     . rw[if_neg hbad];have hm0:0<=x.many:=by unfold cBA at hbad;omega
       have HL:=aA (λg a w h=>dVA (cap:=cap) row hn hb0 ht hx hm0 (pJ (rb row) x.many.toNat e) (λk hk w hU=>ih k (by omega) (by omega) w (Qb hb0 hU.size) (λk x hx=>by
         rw[iA hU hb0,iA hU hb0,iA hU hb0];exact ht k x hx)) g a w h)
       generalize hR:pJ (rb row) x.many.toNat e=R at *;have HR:=aA hR;clear hR ih ht hx;obtain⟨m,q,t⟩:=x;simp only[cBA]at hbad c0 c2 hm0 HR HL;have m1:¬ m < 0:=by omega
       have both:t=⟨#[]⟩∨((m != 0)=false/\¬ t.toList=[]/\t.toList.isEmpty=false):=by
        by_cases hB:t.size=0
        . exact .inl (ByteArray.ext (Array.eq_empty_of_size_eq_zero hB))
        . refine .inr ⟨?_,nJ hB⟩;have:m=0:=Decidable.byContradiction λh=>hbad (.inr ⟨hB,h⟩)
          simp[this]
       clear hbad;have HU0:=aA HU0;go_enter func34,ntmps34;rcases both with rfl|⟨e1,e2,e3⟩
       . go_wp2;rename_i K hK;refine wp_mono (HL.out e _ _ ⟨e,0,rfl,by omega,Nat.zero_le _,HR.out,_,fB (F:=bL _ e e 0) (by rfl),HU0.out⟩) ?_;rintro ex a' w' (⟨k,i,rfl,rfl,J,rfl,hU⟩|⟨rfl,rfl,J,rfl,hU⟩)
         . simp only[Exit.inBlock,if_pos,Exit.then];refine hK _ _ ?_;have HU:=aA hU;clear hU;unfold bL;go_wp2;go_ret;exact⟨HU.out,rfl⟩
         . simp only[Exit.inBlock,Exit.then];go_ret;exact⟨hU,rfl⟩
       . go_wp2;rename_i K hK;refine wp_mono (HL.out e _ _ ⟨e,0,rfl,by omega,Nat.zero_le _,HR.out,_,fB (F:=bL _ e e 0) (by rfl),HU0.out⟩) ?_;rintro ex a' w' (⟨k,i,rfl,rfl,J,rfl,hU⟩|⟨rfl,rfl,J,rfl,hU⟩)
         . simp only[Exit.inBlock,if_pos,Exit.then];refine hK _ _ ?_;have HU:=aA hU;clear hU;unfold bL;go_wp2;go_ret;exact⟨HU.out,rfl⟩
         . simp only[Exit.inBlock,Exit.then];go_ret;exact⟨hU,rfl⟩
end
def SxVals(w0:World):List Value->List (List Sx)->Prop
  | [],[]=>True
  | v::vs,l::ls=>(∃ q c,v = .slice q l.length c/\l.length<=c/\SxArg w0 q l)/\SxVals w0 vs ls
  | _,_=>False
theorem SxVals.len{w0:World}:∀ {vs:List Value} {ls:List (List Sx)},SxVals w0 vs ls->vs.length=ls.length
  | [],[],_=>rfl
  | _::_,_::_,h=>by simp[SxVals.len h.2]
  | [],_::_,h=>h.elim
  | _::_,[],h=>h.elim
theorem SxVals.one{w0:World}:∀ {vs:List Value} {ls:List (List Sx)},SxVals w0 vs ls->∀ u∈vs,u.oneCell'=true
  | [],[],_,u,hu=>by simp at hu
  | v :: vs, _ :: _, h, u, hu => by
    rcases List.mem_cons.1 hu with rfl|hu
    . obtain⟨q,c,rfl,_⟩:=h.1;rfl
    . exact SxVals.one h.2 u hu
  | [],_::_,h,_,_=>h.elim
  | _::_,[],h,_,_=>h.elim
theorem SxVals.at{w0:World}:∀ {vs:List Value} {ls:List (List Sx)},SxVals w0 vs ls->∀ {i:Nat} {l:List Sx},ls[i]? = some l->∃ q c,vs[i]? = some (.slice q l.length c)/\l.length<=c/\SxArg w0 q l
  | [],[],_,_,_,hi=>by simp at hi
  | v :: _, _ :: _, h, 0, _, hi => by
    cases hi;obtain⟨q,c,rfl,h1,h2⟩:=h.1;exact⟨q,c,rfl,h1,h2⟩
  | _::_,_::_,h,i+1,_,hi=>SxVals.at h.2 (i:=i) hi
  | [],_::_,h,_,_,_=>h.elim
  | _::_,[],h,_,_,_=>h.elim
theorem Tryz.info26:(Tryz.prog.info? 26).map (λi=>(i.zero,i.size,i.bytes))=some (some (.slice none 0 0),1,24):=by kernel_rfl
theorem row_one(w:World)(base:Nat)(hb:base<=w.heap.size)(e:TypeId)(v:Value):(w.alloc (.cells #[v] e)).ownsRow base e 1 (.slice (some ⟨w.heap.size,0,none⟩) 1 1) 1 [v] :=
 ⟨rfl,.inr ⟨w.heap.size,1,#[v],rfl,hb,heap_alloc_new w _,Qd _,by decide,rfl,rfl⟩⟩
noncomputable def yRA:Code:=f17.body.getD .skip
noncomputable def qiRound:Code:=nC (nC (aB (jA (jA (jA yRA)))))
def gM(l vo:Value)(k:Nat)(J:Nat->Value):Array Value :=
 #[l, J 1, J 2, J 3, vo, .int .i64 (k : Int), J 6, J 7, J 8, J 9, J 10, J 11, J 12, J 13, J 14, J 15, J 16, J 17, J 18, J 19, J 20, J 21, J 22, J 23, J 24, J 25, J 26, J 27, J 28]
def n8A(J:Nat->Value):Array Value:=#[J 0,J 1,.slice none 0 0,.bool false,J 4,J 5,J 6,J 7,J 8,J 9,J 10,J 11,J 12,J 13,J 14,J 15,J 16,J 17,J 18,J 19,J 20,J 21,J 22,J 23,J 24,J 25,J 26,J 27,J 28]
structure QH (w0:World) (g c:Nat) (ls:List (List Sx)) (w:World):Prop where
 out:∃ vs,w.ownsRow w0.heap.size 26 1 (.slice (some ⟨g,0,none⟩) ls.length c) ls.length vs/\SxVals w0 vs ls
 low:Under w0 w
def k2A(w0:World)(l:Value)(k:Nat)(ls:List (List Sx))(a':Act)(w':World):Prop :=
 ∃ g c J,a'=⟨gM l (.slice (some ⟨g,0,none⟩) ls.length c) k J,[]⟩/\QH w0 g c ls w'
def cDB(w0:World)(ex:Exit)(a':Act)(w':World):Prop:=ex = .ret/\∃ J,a'=⟨n8A J,[]⟩/\Under w0 w'
def mCB(l vo:Value)(w:World)(e:Exit)(a':Act)(w':World):Prop:=e = .exit 0/\∃ J,a'=⟨gM l vo 0 J,[]⟩/\w'=w
section
variable {w0 : World} {b off cap k : Nat}
theorem r5A{l vo:Value}(J:Nat->Value)(w:World) :
 qiRound.wp prog (Exit.then (λ_ _=>False) (mCB l vo w)) ⟨gM l vo 0 J,[]⟩ w:=by
 unfold qiRound yRA;simp only[f17,Qf,aB,jA,nC];unfold gM;go_wp2;exact⟨rfl,bB (F:=gM l vo 0) (by rfl) rfl⟩
theorem uZA{row:List Sx}{g gc:Nat}{ls:List (List Sx)}(hk:0 < k)(hkn:k<=row.length)(hn:row.length<=1000000)(hcap:row.length<=cap)(hls:ls.length<=1000000)(J:Nat->Value)(w:World)(hP:QH w0 g gc ls w)
    (hb0:b < w0.heap.size) (ht:wDA w0 b off row) :
    qiRound.wp prog (Exit.then (λa' w'=>∃ c,rb row k=some c/\k2A w0 (.slice (some ⟨b,off,none⟩) row.length cap) c (piece row c k::ls) a' w') (λex a' w'=>rb row k=none/\cDB w0 ex a' w')) ⟨gM (.slice (some ⟨b,off,none⟩) row.length cap) (.slice (some ⟨g,0,none⟩) ls.length gc) k J,[]⟩ w:=by
  obtain⟨vs,ho,hv⟩:=hP.out;obtain⟨i0,hi,hz0,hz1,hz2⟩:=info_parts Tryz.info26;have hU:=hP.low;have HC:=aA (gYA (cap:=cap) (off:=off) row hn k hkn w (Qb hb0 hU.size) (λk x hx=>by
    rw[iA hU hb0,iA hU hb0,iA hU hb0];exact ht k x hx))
  have HLT:=aA (λc (h:rb row k=some c)=>rEA h);have HO:=aA ho;have HV:=aA hv;have HU:=aA hU;have HT:=aA ht;clear hP ho hv hU ht;generalize rb row k=R at *;have h1:(0:Int) < k:=by omega
  have h2:(k:Int)<=cap:=by omega
  have h3:(k:Int)<=1000000:=by omega
  have hmx:1+ls.length<=maxLen:=by simp only[maxLen];omega
  have hby:(1+ls.length) * 24<=140737488355328:=by omega
  unfold qiRound yRA;simp only[f17,Qf,aB,jA,nC];unfold gM;go_wp2_with fail;refine HC.out.mono ?_;rintro ed w1 ⟨hU1,rfl⟩;have HU1:=aA hU1;clear hU1
  cases R with
  | none =>
    simp only[aLA];go_wp2;exact⟨by simp,rfl,bB (F:=n8A) (by rfl) (HU.out.trans HU1.out)⟩
  | some c =>
    simp only[aLA];have hck:=HLT.out c rfl;have h4:(0:Int)<=c:=by omega
    have h5:(c:Int)<=k:=by omega
    have h6:¬ cap=c:=by omega
    have h7:(c:Int)<=cap:=by omega
    have hsz:=HU.out.size;have hsz1:=HU1.out.size;go_wp2_with (at_builtin;refine wpList_append_own_at _ rfl _ _ 58 rfl w0.heap.size 26 i0 _ 1 24 underlying58 hi hz0 hz1 hz2 rfl (by decide) _ _ _ rfl (row_one w1 w0.heap.size (by omega) 26 _) ⟨g,0,none⟩ ls.length gc vs rfl ?c0 ?c1 ?c2 hmx hby ?c5 ?_)
    case c0=>rw[HV.out.len,Nat.mul_one]
    case c1 =>
      intro j u hj;rw[tN,Nat.zero_add];exact rD ((uA HO.out HU1.out).alloc _) rfl hj
    case c2=>exact HV.out.one
    case c5=>simp;omega
    intro v' w' hown hgrow hnil hat;obtain⟨g',c',rfl,_⟩:=yE hown (by omega);have hpl:(piece row c k).length=k - c:=l8 row hkn;have HP2:QH w0 g' c' (piece row c k::ls) w':=by
     refine⟨⟨.slice (some ⟨b,off+c * 3,none⟩) (k - c) (cap - c)::vs,by rw[Qk,Nat.add_comm];exact hown,⟨⟨_,_,by rw[hpl],by omega,λ_=>⟨b,off+c * 3,rfl,hb0,wMA HT.out⟩⟩,HV.out⟩⟩,?_⟩;exact eB (bA (HU.out.trans HU1.out) _) hgrow λg e=>by cases e;show w0.heap.size<=w1.heap.size;omega
    have HP3:=aA HP2;clear hown hgrow hnil hat HP2 hpl;go_wp2;refine⟨c,rfl,g',c',bB (F:=gM _ _ c) (by rw[Qk,Nat.add_comm ls.length 1];rfl) HP3.out⟩
def QI(w0:World)(l:Value)(row:List Sx)(R:Option (List (List Sx)))(m:Nat)(a:Act)(w:World):Prop :=
 ∃ ls,m<=row.length/\ls.length+m<=row.length/\RItems row m ls R/\k2A w0 l m ls a w
def dDB(w0:World)(l:Value)(R:Option (List (List Sx)))(e:Exit)(a:Act)(w:World):Prop :=
 (e = .exit 0/\∃ ls,R=some ls/\k2A w0 l 0 ls a w)∨(R=none/\cDB w0 e a w)
theorem yXA(row:List Sx){p:Option Addr}(hn:row.length<=1000000)(hcap:row.length<=cap)(hp:SxArg w0 p row)(R:Option (List (List Sx)))(m:Nat)(a:Act)(w:World)
    (h0:QI w0 (.slice p row.length cap) row R m a w) :
    (Code.loop qiRound).wp prog (dDB w0 (.slice p row.length cap) R) a w:=by
  refine wp_loop_ghost _ m h0 ?_;clear h0;rintro m a w ⟨ls,hm,hlm,hR,g,c,J,rfl,hi⟩
  cases hR with
  | done acc =>
    refine wp_mono (r5A J w) ?_;rintro e a' w' h
    cases e with
    | normal=>exact h.elim
    | _ =>
      obtain⟨h1,J',rfl,rfl⟩:=h;exact .inl ⟨h1,ls,rfl,g,c,J',rfl,hi⟩
  | bad hk hb =>
    obtain⟨b,off,rfl,hb0,ht⟩:=hp (λe=>by rw[e,List.length_nil]at hm;omega);refine wp_mono (uZA (cap:=cap) hk hm hn hcap (by omega) J w hi hb0 ht) ?_;rintro e a' w' h
    cases e with
    | normal=>obtain⟨c,hc,_⟩:=h;rw[hb]at hc;cases hc
    | _=>exact .inr ⟨rfl,h.2⟩
  | one hk hb hr =>
    rename_i b0;obtain⟨b,off,rfl,hb0,ht⟩:=hp (λe=>by rw[e,List.length_nil]at hm;omega);have hlt:=rEA hb;refine wp_mono (uZA (cap:=cap) hk hm hn hcap (by omega) J w hi hb0 ht) ?_;rintro e a' w' h
    cases e with
    | normal =>
      obtain⟨c,hc,h⟩:=h;rw[hb]at hc;cases hc;exact⟨b0,hlt,_,by omega,by rw[Qk];omega,hr,h⟩
    | _=>obtain⟨hc,_⟩:=h;rw[hb]at hc;cases hc
def b4A(w0:World)(R:Option (List (List Sx)))(e:Ending)(w':World):Prop :=
 Under w0 w'/\match R with
  | some ls=>∃ g c vs,e = .returned (.tuple #[.slice (some ⟨g,0,none⟩) ls.length c,.bool true])/\w'.ownsRow w0.heap.size 26 1 (.slice (some ⟨g,0,none⟩) ls.length c) ls.length vs/\SxVals w0 vs ls
  | none=>e = .returned (.tuple #[.slice none 0 0,.bool false])
theorem qN(row:List Sx){p:Option Addr}(hn:row.length<=1000000)(hcap:row.length<=cap)(hp:SxArg w0 p row) :
 Calls prog 17 #[.slice p row.length cap] w0 (b4A w0 (qC row)):=by
 obtain⟨R,hR⟩:=nCB row row.length [];have:=a1A hR;rw[<- this];clear this;have HL:=aA (λm a w h=>yXA (w0:=w0) (cap:=cap) row hn hcap hp R m a w h);have HR:=aA hR;clear hp hR;go_enter func17,ntmps17;go_wp2;rename_i K hK;refine wp_mono (HL.out row.length _ _ ⟨[],Qd _,by simp,HR.out,w0.heap.size,0,_,fB (F:=gM _ _ row.length) (by rfl),⟨⟨[],xM w0 _ _ _ (Qd _),trivial⟩,bA ⟨rfl,rfl,Qd _,λ_ _=>rfl⟩ _⟩⟩) ?_;rintro e a' w' (⟨rfl,ls,rfl,g,c,J,rfl,hi⟩|⟨rfl,rfl,J,rfl,hu⟩)
 . simp only[Exit.inBlock,if_pos,Exit.then];refine hK _ _ ?_;have HH:=aA hi;clear hi;unfold gM;go_wp2;go_ret2;obtain⟨vs,h1,h2⟩:=HH.out.out;exact⟨HH.out.low,g,c,vs,rfl,h1,h2⟩
 . simp only[Exit.inBlock,Exit.then];go_ret2;exact⟨hu,rfl⟩
end
end Go.Proofs.YtpkaiodmbicjiaaGreatDoor
