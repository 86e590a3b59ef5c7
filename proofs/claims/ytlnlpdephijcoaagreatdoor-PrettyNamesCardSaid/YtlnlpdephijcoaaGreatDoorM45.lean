/- Part 45 of what the proof rests on. -/
import Derived.Test.YtlnlpdephijcoaaGreatDoorM15
import Derived.Test.YtlnlpdephijcoaaGreatDoorM16
import Derived.Test.YtlnlpdephijcoaaGreatDoorM35
import Derived.Test.YtlnlpdephijcoaaGreatDoorM37
import Derived.Test.YtlnlpdephijcoaaGreatDoorM44
set_option linter.unusedSimpArgs false
set_option linter.unusedVariables false
namespace Go.Proofs.YtlnlpdephijcoaaGreatDoor
open Go.Conc Go.Lx Go.RowKit
theorem qEA (w : List UInt8) : ∀ l : List (List UInt8 × Int × Int × List UInt8), (pX w l).isSome = l.any fun t => w == t.1
  | []=>rfl
  | (a, y) :: l => by
    rw[List.any_cons,← qEA w l,pX];by_cases h:w=a
    · rw[if_pos h,h];simp
    · rw[if_neg h,show(w==(a,y).1)=false from beq_false_of_ne h];rfl
theorem nHA (w : List UInt8) : ∀ l : List (List UInt8 × Int), (mCA w l).isSome = l.any fun t => w == t.1
  | []=>rfl
  | (a, y) :: l => by
    rw[List.any_cons,← nHA w l,mCA];by_cases h:w=a
    · rw[if_pos h,h];simp
    · rw[if_neg h,show(w==(a,y).1)=false from beq_false_of_ne h];rfl
theorem l3A{α:Type}[BEq α][LawfulBEq α](w:α){a b:List α}(h1:(a.all fun x=>b.contains x)=true)(h2:(b.all fun x=>a.contains x)=true):(a.any fun x=>w==x)=(b.any fun x=>w==x):=by
 rw[Bool.eq_iff_iff];simp only[List.any_eq_true,List.all_eq_true,beq_iff_eq,List.contains_iff_mem]at *;constructor
 · rintro⟨x,hx,rfl⟩;exact⟨_,h1 _ hx,rfl⟩
 · rintro⟨x,hx,rfl⟩;exact⟨_,h2 _ hx,rfl⟩
def kwL:List (List UInt8):=[[84,121,112,101],[112,105],[112,105,49],[112,105,50],[112,105,51],[115,105,103],[115,105,103,49],[115,105,103,50],[115,105,103,51],[108,97,109],[97,112,112],[112,97,105,114],[102,115,116],[115,110,100],[115,117,99],[112,114,102],[114,101,99],[97,98,111,114,116],[101,113],[114,101,102,108],[99,97,115,116],[116,114,97,110,115,112],[113,117,111,116],[99,108,97,115,115],[113,101,108,105,109],[100,97,116,97],[99,111,110],[101,108,105,109],[80,114,111,112],[78,97,116],[122,101,114,111],[69,109,112,116,121],[85,110,105,116],[115,116,97,114],[116,105,99,107]]
theorem nBB(s:ByteArray):(bX s||gX s)=kwW s:=by
 unfold bX gX kwW gN zN;rw[qEA,nHA,ByteArray.toList_eq];generalize s.data.toList=w;have e1:(formT.any fun t=>w==t.1)=((formT.map (·.1)).any fun x=>w==x):=by rw[List.any_map];rfl
 have e2:(leafT.any fun t=>w==t.1)=((leafT.map (·.1)).any fun x=>w==x):=by rw[List.any_map];rfl
 rw[e1,e2,← List.any_append,← l3A w (a:=kwL) (by decide +kernel) (by decide +kernel)];simp only[kwL,List.any_cons,List.any_nil,Bool.or_false,Bool.or_assoc]
theorem uDA{t:List Nd}{av cs:List ByteArray}(hr:∀ x∈t,nA x=true)(hc:bJ (aC vG [] t)=false)(hd:bJ (aC qJ [] t)=false)(h1:∀ s∈aC vG [] t,s∈av∧s∈cs):KnownT av cs (aC qJ [] t) t:=by
 have hk:∀ {l:List ByteArray},bJ l=false→∀ s∈l,kwW s=false:=fun{l} h s hs=>by
  unfold bJ at h;rw[List.any_eq_false]at h;rw[← nBB]
  simpa using h s hs
 intro y hy;refine⟨fun e=>?_,fun e he=>?_⟩
 · have hm:y.s∈aC vG [] t:=(yJ vG y.s t []).2 (.inr ⟨y,hy,by simp[vG,e],rfl⟩);exact⟨(h1 _ hm).1,(h1 _ hm).2,hk hc _ hm⟩
 · have hm:y.s∈aC qJ [] t:=(yJ qJ y.s t []).2 (.inr ⟨y,hy,by simp[qJ,e];exact he,rfl⟩);exact⟨hm,hk hd _ hm⟩
theorem bKA{x:Nd}:∀(T:Tm),okT T→x∈flat T→nA x=true:=by
 intro T
 induction T using Tm.rec (motive_2:=fun l=>jM l→x∈qA l→nA x=true) with
 | mk y l ih =>
   rintro⟨h1,_,h3⟩ hx;rw[flat]at hx;rcases List.mem_append.1 hx with hx | hx
   · exact ih h3 hx
   · rw[List.mem_singleton.1 hx];exact h1
 | nil=>rename_i _ hx;cases hx
 | cons a l iha ihl =>
   rename_i h hx;rw[qA]at hx;rcases List.mem_append.1 hx with hx | hx
   · exact iha h.1 hx
   · exact ihl h.2 hx
theorem tZA{T:Tm}{av cs ds:List ByteArray}(hok:okT T)(hd:rC T≤60)(hl:(flat T).length≤4000)(hin:inT T 0)(hk:KnownT av cs ds (flat T))(ha:av.length≤10000):rJA cs ds (nL 0 (sxT av T [])) = .ok (flat T):=by
 have h:=k5A av T hok hk [] 0 ⟨fun s hs=>(by cases hs),fun s hs=>(by cases hs),List.nodup_nil,fun s hs=>(by cases hs),by simp;omega⟩ (by simp;omega) hin;unfold rJA;rw[h];simp only;rw[if_pos (gH hok hd hl)]
theorem d1A(c:UInt8)(h:bU c=true):oK c=true:=by
 have:=uBA (p:=fun c => !bU c||oK c) (by decide +kernel) c;rw[h]at this
 simpa using this
theorem rIA {T : Tm} {av cs ds : List ByteArray} (hok : okT T) (hd : rC T ≤ 60) (hl : (flat T).length ≤ 120) (hin : inT T 0) (hk : KnownT av cs ds (flat T)) (ha : av.length ≤ 10000) (W : World) (hE : StrcAt W) (hS : ShapesAt 0 W) {p1 p2 : Option Addr} {d1 d2 : Nat}
    (hcs:TextsV W (.slice p1 cs.length d1) cs) (hds:TextsV W (.slice p2 ds.length d2) ds) (hcn:cs.length≤1000000) (hdn:ds.length≤1000000) :
    CallsG Tryz.prog 16 #[.agg #[.slice p1 cs.length d1,.slice p2 ds.length d2],.string ⟨(aG av T []).toArray⟩] W (TermPost W (.ok (flat T))):=by
  have ho:okX oK (sxT av T []):=n3A d1A _ (tCB av T hok [] (fun s hs=>by cases hs) hin);have hlen:(xC (sxT av T [])).length≤20000:=by
   have:=wEA av (by omega) T hok [] (fun s hs=>by cases hs) (by simp;omega);rw[aPA];omega
  obtain⟨g1,g2,g3⟩:=tOA ho hlen (Nat.le_trans (t7A av T []) hd);rw[← tZA hok hd (by omega) hin hk ha,← aPA];exact yOA g1 g2 g3 cs ds W (p9A _ ho 0) (Nat.le_trans (q0A _ ho 0) hlen) (fun y hy=>Nat.le_trans (oQA _ 0 y hy) (by omega)) hE hS hcs hds hcn hdn
abbrev d3A(n e:Int):Ending:=.returned (.tuple #[.int .i64 n,.int .i64 e])
theorem nOA(t:List Nd)(av:List ByteArray)(hl:t.length≤120)(ha:av.length≤30)(hs:∀ x∈t,x.s.size≤100) :
 (∃ T, flat T = t ∧ okT T ∧ rC T ≤ 60 ∧ inT T 0 ∧ (∀ (w : World) (v va : Value), TermV w v t → TextsV w va av → Base w → Calls Tryz.prog 20 #[v, va] w fun x w' => x = gLA (aG (aC vG [] t ++ av) T []) 0 ∧ Under w w') ∧
   ∀(w:World) (v:Value),TermV w v t→Calls Tryz.prog 21 #[v] w fun x w'=>x=d3A 0 0∧Under w w') ∨
 ∃ c n f,c≠0∧(f≠0∨n≠0)∧(∀(w:World) (v va:Value),TermV w v t→TextsV w va av→Base w→Calls Tryz.prog 20 #[v,va] w fun x w'=>x=gLA [] c∧Under w w') ∧
  ∀(w:World) (v:Value),TermV w v t→Calls Tryz.prog 21 #[v] w fun x w'=>x=d3A n f∧Under w w':=by
 have hsm:∀ x∈t,x.s.size≤maxLen:=fun x hx=>by have:=hs x hx;simp only[maxLen];omega
 have hlm:t.length≤maxLen:=by simp only[maxLen];omega
 by_cases h:vB t=0
 · obtain ⟨T, rfl, hok, hd, hl4⟩ := iX h; by_cases hin : inT T 0
   · refine .inl ⟨T, rfl, hok, hd, hin, ?_, ?_⟩
     · rintro w v va ⟨p,c,rfl,hcap,hp0,hp⟩ hva hB;exact vAA T av hok hd hl4 (by omega) (fun x hx=>by have:=hs x hx;omega) hcap hp0 hp hva hB.shapes hB.pow hin
     · rintro w v hv;have h1:=(fZ T hok 0).1 hin;have h2:=oHA T hok hd hl4 hv;rw[h1]at h2;exact h2
   · refine .inr ⟨30, sJ T 0 + 1, 0, by decide, .inr ?_, ?_, ?_⟩
     · have:=(fZ T hok 0).2 hin;omega
     · rintro w v va ⟨p,c,rfl,hcap,hp0,hp⟩ hva hB;exact dCA T hok hd hl4 hcap hsm hp hB.shapes hin
     · exact fun w v hv=>oHA T hok hd hl4 hv
 · refine .inr ⟨vB t,0,vB t,h,.inl h,?_,fun w v hv=>lIA t hlm hv h⟩;rintro w v va ⟨p,c,rfl,hcap,hp0,hp⟩ hva hB;exact pDA t hcap hlm hsm hp hB.shapes h
end Go.Proofs.YtlnlpdephijcoaaGreatDoor
