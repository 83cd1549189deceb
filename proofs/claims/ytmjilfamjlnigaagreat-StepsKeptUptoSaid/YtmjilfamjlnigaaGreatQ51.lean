/- WALKS: pairs that rise, the document's way (chapter 19). -/
import Derived.Test.YtmjilfamjlnigaaGreatQ41
import Derived.Test.YtmjilfamjlnigaaGreatQ49
namespace Go.Proofs.YtmjilfamjlnigaaGreat.RefW
open Go Go.RowKit Kit SrcP SrcW Go.Proofs.YtmjilfamjlnigaaGreat.MchW
theorem rise_filter {l:List (Nat × Nat)} (hs:l.Pairwise (fun x y=>x.1<y.1)) {a k:Nat} (h1:∀p∈l.take k,p.1<a) (h2:∀p∈l.drop k,a≤p.1) (hk:k<l.length) :
  (l.filter (fun p=>p.1 == a) = []∧∀p∈l.drop k,a+1≤p.1)∨(l.filter (fun p=>p.1 == a) = [l[k]]∧l[k].1=a∧∀p∈l.drop (k+1),a+1≤p.1):=by
 have hl:l=l.take k++l[k] :: l.drop (k+1):=by rw[←List.drop_eq_getElem_cons hk,List.take_append_drop]
 have hd:l.drop k=l[k] :: l.drop (k+1):=List.drop_eq_getElem_cons hk
 have hp:∀p∈l.drop (k+1),l[k].1<p.1:=by
  have h:=hs
  rw[hl]at h
  have h3:=(List.pairwise_append.1 h).2.1
  exact(List.pairwise_cons.1 h3).1
 have h0:(l.take k).filter (fun p=>p.1 == a) = []:=List.filter_eq_nil_iff.2 fun p hp=>by have:=h1 p hp;simp;omega
 have ha:=h2 l[k] (by rw[hd];exact List.mem_cons_self)
 have hr:(l.drop (k+1)).filter (fun p=>p.1 == a) = []:=List.filter_eq_nil_iff.2 fun p hq=>by have:=hp p hq;simp;omega
 have he:l.filter (fun p=>p.1 == a)=if l[k].1=a then [l[k]]else []:=by
  conv=>lhs;rw[hl]
  rw[List.filter_append,h0,List.nil_append,List.filter_cons,hr]
  by_cases h:l[k].1=a
  ·simp[h]
  ·simp[h]
 by_cases h:l[k].1=a
 ·right
  exact⟨by rw[he,if_pos h],h,fun p hq=>by have:=hp p hq;omega⟩
 ·left
  refine⟨by rw[he,if_neg h],fun p hq=>?_⟩
  rw[hd]at hq
  rcases List.mem_cons.1 hq with rfl | hq
  ·omega
  ·have:=hp p hq;omega
def RiseOk (n:Nat) (l:List (Nat × Nat)):Prop:=l.Pairwise (fun x y=>x.1<y.1)∧∀p∈l,p.2=p.1+1∧p.2<n
def RsA (n:Nat) (l:List (Nat × Nat)) (w:World) (mm:Nat) (s5 s6:Value) (wr:World):Prop :=
 ∃(a k:Nat) (A:Option Addr) (c:Nat),s5=.slice A k c∧s6=.int .i64 a∧a≤n∧k≤l.length∧mm=n-a∧(∀p∈l.take k,p.1<a)∧(∀p∈l.drop k,a≤p.1)∧wr.ownsRow w.heap.size 51 2 (.slice A k c) k ((l.take k).flatMap RunW.pairC)∧Below w.heap.size w wr
def RsB (l:List (Nat × Nat)) (a:Nat) (w1:World) (mm:Nat) (s7 s8:Value) (wr:World):Prop :=
 ∃(i:Nat) (L:List (Nat × Nat)) (A:Option Addr) (c:Nat),s7=.slice A L.length c∧s8=.int .i64 i∧i≤l.length∧mm=l.length-i∧L=(l.take i).filter (fun p=>p.1 == a)∧wr.ownsRow w1.heap.size 51 2 (.slice A L.length c) L.length (L.flatMap RunW.pairC)∧Below w1.heap.size w1 wr
def RsC (n:Nat) (P L:List (Nat × Nat)) (a:Nat) (rv:Value) (w:World) (mm:Nat) (s5 s9:Value) (wr:World):Prop :=
 ∃(b:Nat) (X:List (Nat × Nat)) (A:Option Addr) (c:Nat),s5=.slice A X.length c∧s9=.int .i64 b∧a≤b∧b≤n∧mm=n-b∧X=P++(if a+1<b then L else [])∧wr.ownsRow w.heap.size 51 2 (.slice A X.length c) X.length (X.flatMap RunW.pairC)∧wr.ownsRow 0 51 2 rv L.length (L.flatMap RunW.pairC)∧(∀k,(Value.slice A X.length c).ownBlock=some k→rv.ownBlock≠some k)∧Below w.heap.size w wr
def RsD (X L:List (Nat × Nat)) (b:Nat) (rv:Value) (w:World) (mm:Nat) (s5 s10:Value) (wr:World):Prop :=
 ∃(j:Nat) (Y:List (Nat × Nat)) (A:Option Addr) (c:Nat),s5=.slice A Y.length c∧s10=.int .i64 j∧j≤L.length∧mm=L.length-j∧Y=X++(L.take j).filter (fun p=>p.2 == b)∧wr.ownsRow w.heap.size 51 2 (.slice A Y.length c) Y.length (Y.flatMap RunW.pairC)∧wr.ownsRow 0 51 2 rv L.length (L.flatMap RunW.pairC)∧(∀k,(Value.slice A Y.length c).ownBlock=some k→rv.ownBlock≠some k)∧Below w.heap.size w wr
theorem add0_ (g j:Nat):(⟨g,0,none⟩:Addr).add j=⟨g,j,none⟩:=by unfold Addr.add;split <;> simp_all
set_option maxRecDepth 100000 in
set_option maxHeartbeats 0 in
theorem rising_any (n:Nat) (hn:n≤1000) (l:List (Nat × Nat)) (hll:l.length≤1000) (hok:RiseOk n l) (A0:Option Addr) (c0:Nat) (w:World) (hP:∀w2,Below w.heap.size w w2→PairsAt w2 A0 l) :
  Calls Tryz.prog 50 #[.slice A0 l.length c0,.int .i64 (n:Int)] w fun e w'=>∃A c,e=.returned (.slice A l.length c)∧w'.ownsRow w.heap.size 51 2 (.slice A l.length c) l.length (l.flatMap RunW.pairC)∧Below w.heap.size w w':=by
 have HP:=Lib.hid hP
 have HOK:=Lib.hid hok
 obtain⟨nl,hnl⟩:∃nl,nl=l.length:=⟨_,rfl⟩
 have HNL:=Lib.hid hnl
 rw[←hnl]at hll ⊢
 clear hP hok hnl
 have hml:(16*1048576:Nat)≤maxLen:=by decide
 obtain⟨i0,hi0,hz0,hz1,hz2⟩:=info_parts RunW.info_pair
 go_enter Tryz.func50,Tryz.ntmps50
 go_upto_region 3 with fail
 go_loopg [5,6] n (fun mm s5 s6 wr=>RsA n l w mm s5 s6 wr)
 case atStart=>exact⟨0,0,none,0,rfl,rfl,Nat.zero_le _,Nat.zero_le _,rfl,fun p hp=>by simp at hp,fun p _=>Nat.zero_le _,⟨rfl,.inl ⟨rfl,rfl⟩⟩,Below.refl _ _⟩
 case round =>
  obtain⟨a,k,A,c,rfl,rfl,han,hkl,hmm,h1,h2,hown,hb⟩:=hrel
  have HM:=Lib.hid hmm
  have H1:=Lib.hid h1
  have H2:=Lib.hid h2
  rw[←HNL.out]at hkl
  clear hmm h1 h2
  have hexit:¬(a<n∧k<nl)→k=nl:=fun h=>by
   rcases Nat.lt_or_ge k nl with hlt | hge
   ·have hlt':k<l.length:=by rw[←HNL.out];exact hlt
    have hm:l[k]∈l.drop k:=by rw[List.drop_eq_getElem_cons hlt'];exact List.mem_cons_self
    have h3:=H2.out _ hm
    have h4:=HOK.out.2 _ (List.getElem_mem hlt')
    omega
   ·omega
  have HEX:=Lib.hid hexit
  clear hexit
  by_cases hka:a<n
  ·by_cases hkk:k<nl
   ·have q1:(a:Int)<(n:Int):=by omega
    have q2:(k:Int)<(nl:Int):=by omega
    have q3:k<nl:=hkk
    have hbs:=hb.size
    obtain⟨wo,hwo⟩:∃wo:World,wo=wr:=⟨_,rfl⟩
    rw[←hwo]at hown hb hbs ⊢
    clear hwo
    go_upto_region 7 with fail
    go_loopg [7,8] nl (fun mm s7 s8 w2=>RsB l a wo mm s7 s8 w2)
    case atStart=>exact⟨0,[],none,0,rfl,rfl,Nat.zero_le _,by rw[HNL.out];rfl,by simp,⟨rfl,.inl ⟨rfl,rfl⟩⟩,Below.refl _ _⟩
    case round =>
     obtain⟨i,L,A2,c2,rfl,rfl,hi,hmm,hL,hown2,hb2⟩:=hrel
     have HM2:=Lib.hid hmm
     have HL:=Lib.hid hL
     rw[←HNL.out]at hi
     clear hmm hL
     have hbw2:=hb.trans (hb2.mono hbs)
     by_cases hie:i<nl
     ·have g1:(i:Int)<(nl:Int):=by omega
      have g2:(0:Int)≤(i:Int):=by omega
      obtain⟨x,hx⟩:∃x,l[i]?=some x:=⟨_,Kit.eG (by rw[←HNL.out];exact hie)⟩
      obtain⟨ga,hA0,hx1,hx2⟩:=HP.out wr hbw2 i x hx
      have HA0:=Lib.hid hA0
      have HX:=Lib.hid hx
      clear hx hA0
      rw[HA0.out]
      obtain⟨x1,x2⟩:=x
      simp only at hx1 hx2
      have hLl:L.length≤i:=by rw[HL.out];exact Nat.le_trans (List.length_filter_le _ _) (by rw[List.length_take];omega)
      by_cases hxa:x1=a
      ·have e1:((x1:Int) == (a:Int))=true:=by simp;omega
       have hLn:L++[(x1,x2)]=(l.take (i+1)).filter (fun p=>p.1 == a):=by
        rw[List.take_add_one,HX.out,Option.toList_some,List.filter_append,←HL.out]
        simp[hxa]
       have HLN:=Lib.hid hLn
       have hba:Below wr.heap.size wr (wr.alloc (.cells #[.int .i64 x1,.int .i64 x2] 51)):=Kit.bl1
       have hNa:Blk (wr.alloc (.cells #[.int .i64 x1,.int .i64 x2] 51)) wr.heap.size 51 (List.toArray (RunW.pairC (x1,x2))):=Blk.new _ _ _
       have HOW:=Lib.hid (OwnR.own_stays hown2 fun k hk=>hba.block k (OwnR.own_lt hown2 hk))
       have hb2a:=hb2.trans (hba.mono hb2.size)
       have hbsx:=hb2a.size
       clear hxa hLn hown2
       go_wp2_with (at_builtin;refine wpList_append_lies _ (by rfl) _ _ _ (by rfl) wo.heap.size 51 i0 _ 2 16 Tryz.underlying28 hi0 hz0 hz1 hz2 rfl (by omega) _ L.length _ (by rfl) HOW.out ⟨wr.heap.size,0,none⟩ 1 1 (RunW.pairC (x1,x2)) (by rfl) rfl (RunW.news_one hNa) (RunW.pairC_one _) (by omega) (by omega) (by omega) hbsx _ rfl ?_;intro g8 cap8 w8 hown8 hgrow8 hat8 hlt8)
       have hb8:=hb2a.grown hgrow8 hbsx (fun k hk=>OwnR.own_base HOW.out hk)
       rw[←HA0.out]
       go_roundg (nl-(i+1))
       case measure=>have:=HM2.out;have:=HNL.out;omega
       case rel =>
        refine⟨i+1,L++[(x1,x2)],some ⟨g8,0,none⟩,cap8,by rw[List.length_append];rfl,by push_cast;rfl,by rw[←HNL.out];exact hie,by rw[HNL.out],HLN.out,?_,hb8⟩
        rw[List.length_append,List.flatMap_append]
        simpa using hown8
      ·have e1:((x1:Int) == (a:Int))=false:=by simp;omega
       have hLn:L=(l.take (i+1)).filter (fun p=>p.1 == a):=by
        rw[List.take_add_one,HX.out,Option.toList_some,List.filter_append,←HL.out]
        simp[hxa]
       have HLN:=Lib.hid hLn
       clear hxa hLn
       go_wp2_with fail
       rw[←HA0.out]
       go_roundg (nl-(i+1))
       case measure=>have:=HM2.out;have:=HNL.out;omega
       case rel=>exact⟨i+1,L,A2,c2,rfl,by push_cast;rfl,by rw[←HNL.out];exact hie,by rw[HNL.out],HLN.out,hown2,hb2⟩
     ·obtain rfl:i=nl:=by omega
      have g1:¬((i:Int)<(i:Int)):=by omega
      have hLf:L=l.filter (fun p=>p.1 == a):=by rw[HL.out,HNL.out,List.take_length]
      have hkl2:k<l.length:=by rw[←HNL.out];exact q3
      have hcase:(L = []∧∀p∈l.drop k,a+1≤p.1)∨(∃p,L = [p]∧l[k]?=some p∧p.2=a+1∧a+1<n∧∀p∈l.drop (k+1),a+1≤p.1):=by
       rcases rise_filter HOK.out.1 H1.out H2.out hkl2 with⟨h1,h2⟩ | ⟨h1,h2,h3⟩
       ·exact .inl ⟨hLf.trans h1,h2⟩
       ·have h4:=HOK.out.2 _ (List.getElem_mem hkl2)
        exact .inr ⟨l[k],hLf.trans h1,Kit.eG hkl2,by omega,by omega,h3⟩
      have HC:=Lib.hid hcase
      have hLlen:L.length≤1:=by rcases hcase with⟨h,_⟩ | ⟨p,h,_⟩ <;> rw[h] <;> simp
      have HLB:Hid (∀b,(l.take k++(if a+1<b then L else []))++L.filter (fun p=>p.2 == b)=l.take k++(if a+1<b+1 then L else [])):=Lib.hid fun b=>by
       rcases HC.out with⟨h,_⟩ | ⟨p,h,_,h2,_⟩
       ·rw[h];simp
       ·rw[h]
        by_cases hb1:a+1<b
        ·rw[if_pos hb1,if_pos (by omega)]
         simp[h2];omega
        ·by_cases hb2:b=a+1
         ·rw[if_neg hb1,if_pos (by omega)]
          simp[h2,hb2]
         ·rw[if_neg hb1,if_neg (by omega)]
          simp[h2];omega
      have HTK:Hid ((l.take k).length=k):=Lib.hid (by rw[List.length_take];omega)
      clear hLf hcase hkl2 HL
      have hownO:=RunW.own_below hown hb2
      have hnek:∀k2,(Value.slice A k c).ownBlock=some k2→(Value.slice A2 L.length c2).ownBlock≠some k2:=fun k2 e1 e2=>by
       have h1:=OwnR.own_lt hown e1
       have h2:=OwnR.own_base hown2 e2
       omega
      have HNEK:=Lib.hid hnek
      clear hnek
      have hown2':=OwnR.own_mono hown2 (Nat.zero_le _)
      obtain⟨wp,hwp⟩:∃wp:World,wp=wr:=⟨_,rfl⟩
      rw[←hwp]at hownO hown2' hbw2 ⊢
      clear hwp hown hown2 hb2 g1
      go_upto_region 12 with fail
      go_loopg [5,9] (n-a) (fun mm s5 s9 w3=>RsC n (l.take k) L a (.slice A2 L.length c2) w mm s5 s9 w3)
      case atStart =>
       refine⟨a,l.take k,A,c,by rw[HTK.out],rfl,Nat.le_refl _,han,rfl,by rw[if_neg (by omega)];simp,by rw[HTK.out];exact hownO,hown2',?_,hbw2⟩
       rw[HTK.out]
       exact HNEK.out
      case round =>
       obtain⟨b,X,A3,c3,rfl,rfl,hab,hbn,hmm,hX,hown3,hown4,hne3,hb3⟩:=hrel
       have HM3:=Lib.hid hmm
       have HX:=Lib.hid hX
       have HNE3:=Lib.hid hne3
       clear hmm hX hne3 hownO hown2' hbw2
       have hXl:X.length≤k+1:=by
        rw[HX.out,List.length_append,HTK.out]
        split
        ·omega
        ·simp
       by_cases hbn2:b<n
       ·have g1:(b:Int)<(n:Int):=by omega
        by_cases hL0:0<L.length
        ·have g2:(0:Int)<(L.length:Int):=by omega
         obtain⟨wq,hwq⟩:∃wq:World,wq=wr:=⟨_,rfl⟩
         rw[←hwq]at hown3 hown4 hb3 ⊢
         clear hwq
         go_upto_region 15 with fail
         go_loopg [5,10] L.length (fun mm s5 s10 w4=>RsD X L b (.slice A2 L.length c2) w mm s5 s10 w4)
         case atStart=>exact⟨0,X,A3,c3,rfl,rfl,Nat.zero_le _,rfl,by simp,hown3,hown4,HNE3.out,hb3⟩
         case round =>
          obtain⟨j,Y,A4,c4,rfl,rfl,hj,hmm,hY,hown5,hown6,hne5,hb5⟩:=hrel
          have HM4:=Lib.hid hmm
          have HY:=Lib.hid hY
          have HNE5:=Lib.hid hne5
          clear hmm hY hne5
          have hYl:Y.length≤k+2:=by
           rw[HY.out,List.length_append]
           have:=List.length_filter_le (fun p:Nat × Nat=>p.2 == b) (L.take j)
           rw[List.length_take]at this
           omega
          by_cases hjl:j<L.length
          ·have e0:(j:Int)<(L.length:Int):=by omega
           have e00:(0:Int)≤(j:Int):=by omega
           obtain⟨x,hx⟩:∃x,L[j]?=some x:=⟨_,Kit.eG hjl⟩
           obtain⟨gr,hA2,hx1,hx2⟩:=own_pairs hown6 rfl j x hx
           have HA2:=Lib.hid hA2
           have HXX:=Lib.hid hx
           clear hx hA2
           rw[HA2.out]
           obtain⟨x1,x2⟩:=x
           simp only at hx1 hx2
           by_cases hxa:x2=b
           ·have e1:((x2:Int) == (b:Int))=true:=by simp;omega
            have HYN:Hid (Y++[(x1,x2)]=X++(L.take (j+1)).filter (fun p=>p.2 == b)):=Lib.hid (by
             rw[List.take_add_one,HXX.out,Option.toList_some,List.filter_append,←List.append_assoc,←HY.out]
             simp[hxa])
            have hba:Below wr.heap.size wr (wr.alloc (.cells #[.int .i64 x1,.int .i64 x2] 51)):=Kit.bl1
            have hNa:Blk (wr.alloc (.cells #[.int .i64 x1,.int .i64 x2] 51)) wr.heap.size 51 (List.toArray (RunW.pairC (x1,x2))):=Blk.new _ _ _
            have HOW:=Lib.hid (OwnR.own_stays hown5 fun k hk=>hba.block k (OwnR.own_lt hown5 hk))
            have HOR:=Lib.hid (OwnR.own_stays hown6 fun k hk=>hba.block k (OwnR.own_lt hown6 hk))
            have hb5a:=hb5.trans (hba.mono hb5.size)
            have hbsx:=hb5a.size
            clear hxa hown5 hown6
            go_wp2_with (at_builtin;refine wpList_append_lies _ (by rfl) _ _ _ (by rfl) w.heap.size 51 i0 _ 2 16 Tryz.underlying28 hi0 hz0 hz1 hz2 rfl (by omega) _ Y.length _ (by rfl) HOW.out ⟨wr.heap.size,0,none⟩ 1 1 (RunW.pairC (x1,x2)) (by rfl) rfl (RunW.news_one hNa) (RunW.pairC_one _) (by omega) (by omega) (by omega) hbsx _ rfl ?_;intro g8 cap8 w8 hown8 hgrow8 hat8 hlt8)
            have hb8:=hb5a.grown hgrow8 hbsx (fun k hk=>OwnR.own_base HOW.out hk)
            have hrow8:w8.ownsRow 0 51 2 (.slice A2 L.length c2) L.length (L.flatMap RunW.pairC):=OwnR.own_stays HOR.out fun k hk=>hgrow8.block k (OwnR.own_lt HOR.out hk) (fun e=>HNE5.out k e.symm hk)
            rw[←HA2.out]
            go_roundg (L.length-(j+1))
            case measure=>have:=HM4.out;omega
            case rel =>
             refine⟨j+1,Y++[(x1,x2)],some ⟨g8,0,none⟩,cap8,by rw[List.length_append];rfl,by push_cast;rfl,hjl,rfl,HYN.out,?_,hrow8,fun k2 e1 e2=>?_,hb8⟩
             ·rw[List.length_append,List.flatMap_append]
              simpa using hown8
             ·rcases hat8 with h | h
              ·exact HNE5.out k2 (by rw[h];exact e1) e2
              ·have h3:=OwnR.own_lt HOR.out e2
               have h4:g8=k2:=by simpa [Value.ownBlock]using e1
               omega
           ·have e1:((x2:Int) == (b:Int))=false:=by simp;omega
            have HYN:Hid (Y=X++(L.take (j+1)).filter (fun p=>p.2 == b)):=Lib.hid (by
             rw[List.take_add_one,HXX.out,Option.toList_some,List.filter_append,←List.append_assoc,←HY.out]
             simp[hxa])
            clear hxa
            go_wp2_with fail
            rw[←HA2.out]
            go_roundg (L.length-(j+1))
            case measure=>have:=HM4.out;omega
            case rel=>exact⟨j+1,Y,A4,c4,rfl,by push_cast;rfl,hjl,rfl,HYN.out,hown5,hown6,HNE5.out,hb5⟩
          ·obtain rfl:j=L.length:=by omega
           have e0:¬((L.length:Int)<(L.length:Int)):=by omega
           have HYN:Hid (Y=l.take k++(if a+1<b+1 then L else [])):=Lib.hid (by rw[HY.out,List.take_length,HX.out,HLB.out])
           clear hown3 hown4 hb3
           go_wp2_with fail
           go_roundg (n-(b+1))
           case measure=>have:=HM3.out;omega
           case rel=>exact⟨b+1,Y,A4,c4,rfl,by push_cast;rfl,by omega,hbn2,rfl,HYN.out,hown5,hown6,HNE5.out,hb5⟩
        ·have g2:¬((0:Int)<(L.length:Int)):=by omega
         have HL0:Hid (L = []):=Lib.hid (List.length_eq_zero_iff.1 (by omega))
         have HXF:Hid (X=l.take k++L):=Lib.hid (by
          rw[HX.out]
          rcases HC.out with⟨h,_⟩ | ⟨p,h,_,_,h4,_⟩
          ·rw[h];simp
          ·rw[if_pos (by rw[HL0.out]at h;cases h)])
         obtain⟨k',hk'⟩:∃k',k'=X.length:=⟨_,rfl⟩
         have HK:Hid (k'≤l.length∧X=l.take k'∧(∀p∈l.take k',p.1<a+1)∧(∀p∈l.drop k',a+1≤p.1)):=Lib.hid (by
          rw[hk',HXF.out,List.length_append,HTK.out]
          rcases HC.out with⟨h,h5⟩ | ⟨p,h,h3,_,_,h5⟩
          ·rw[h]
           simp only[List.length_nil,Nat.add_zero,List.append_nil]
           exact⟨by rw[←HNL.out];omega,by first | rfl | trivial,fun p hp=>Nat.lt_succ_of_lt (H1.out p hp),h5⟩
          ·rw[h]
           have h6:l.take (k+1)=l.take k++[p]:=by rw[List.take_add_one,h3];rfl
           simp only[List.length_singleton]
           refine⟨by rw[←HNL.out];omega,h6.symm,fun q hq=>?_,h5⟩
           rw[h6,List.mem_append,List.mem_singleton]at hq
           rcases hq with hq | rfl
           ·exact Nat.lt_succ_of_lt (H1.out q hq)
           ·have h7:=HOK.out.2 _ (List.mem_of_getElem? h3)
            omega)
         have HKX:=Lib.hid hk'
         clear hk'
         go_wp2_with fail
         go_roundg (n-(a+1))
         case measure=>have:=HM.out;omega
         case rel=>exact⟨a+1,k',A3,c3,by rw[HKX.out],by push_cast;rfl,hka,HK.out.1,by first | rfl | trivial,HK.out.2.2.1,HK.out.2.2.2,by rw[←HK.out.2.1,HKX.out];exact hown3,hb3⟩
       ·have g1:¬((b:Int)<(n:Int)):=by omega
        have HXF:Hid (X=l.take k++L):=Lib.hid (by
         rw[HX.out]
         rcases HC.out with⟨h,_⟩ | ⟨p,h,_,_,h4,_⟩
         ·rw[h];simp
         ·rw[if_pos (by omega)])
        obtain⟨k',hk'⟩:∃k',k'=X.length:=⟨_,rfl⟩
        have HK:Hid (k'≤l.length∧X=l.take k'∧(∀p∈l.take k',p.1<a+1)∧(∀p∈l.drop k',a+1≤p.1)):=Lib.hid (by
         rw[hk',HXF.out,List.length_append,HTK.out]
         rcases HC.out with⟨h,h5⟩ | ⟨p,h,h3,_,_,h5⟩
         ·rw[h]
          simp only[List.length_nil,Nat.add_zero,List.append_nil]
          exact⟨by rw[←HNL.out];omega,by first | rfl | trivial,fun p hp=>Nat.lt_succ_of_lt (H1.out p hp),h5⟩
         ·rw[h]
          have h6:l.take (k+1)=l.take k++[p]:=by rw[List.take_add_one,h3];rfl
          simp only[List.length_singleton]
          refine⟨by rw[←HNL.out];omega,h6.symm,fun q hq=>?_,h5⟩
          rw[h6,List.mem_append,List.mem_singleton]at hq
          rcases hq with hq | rfl
          ·exact Nat.lt_succ_of_lt (H1.out q hq)
          ·have h7:=HOK.out.2 _ (List.mem_of_getElem? h3)
           omega)
        have HKX:=Lib.hid hk'
        clear hk'
        go_wp2_with fail
        go_roundg (n-(a+1))
        case measure=>have:=HM.out;omega
        case rel=>exact⟨a+1,k',A3,c3,by rw[HKX.out],by push_cast;rfl,hka,HK.out.1,by first | rfl | trivial,HK.out.2.2.1,HK.out.2.2.2,by rw[←HK.out.2.1,HKX.out];exact hown3,hb3⟩
   ·obtain rfl:=HEX.out (fun h=>hkk h.2)
    have q1:(a:Int)<(n:Int):=by omega
    have q2:¬((k:Int)<(k:Int)):=by omega
    have hfin:l.take k=l:=by rw[HNL.out,List.take_length]
    rw[hfin]at hown
    clear hfin hkk
    go_wp2_with fail
    go_ret
    exact⟨A,c,rfl,hown,hb⟩
  ·obtain rfl:=HEX.out (fun h=>hka h.1)
   have q1:¬((a:Int)<(n:Int)):=by omega
   have hfin:l.take k=l:=by rw[HNL.out,List.take_length]
   rw[hfin]at hown
   clear hfin hka
   go_wp2_with fail
   go_ret
   exact⟨A,c,rfl,hown,hb⟩
set_option maxRecDepth 100000 in
set_option maxHeartbeats 0 in
theorem Deps_any {mz:List Value} {w0:World} {nc:Nat} {w:World} {who:Nat→Option Dq} {V:DV} {r:RR} (h:RunAt mz w0 nc w who V r) (hev:r.events.length≤1000) (hrm:r.rmw.length≤1000) (hok:RiseOk r.events.length r.rmw) (which:Int) :
  Calls Tryz.prog 29 #[.agg (runD nc V r),.int .i64 which] w fun e w'=>∃A c,e=.returned (.slice A (if which=0 then r.rmw else []).length c)∧w'.ownsRow w.heap.size 51 2 (.slice A (if which=0 then r.rmw else []).length c) (if which=0 then r.rmw else []).length ((if which=0 then r.rmw else []).flatMap RunW.pairC)∧Below w.heap.size w w':=by
 obtain⟨aT,cT,ae,ce,af,cf,am,cm,ao,co,al,cl,ap,cp,hvT,hve,hvf,hvm,hvo,hvl,hvp⟩:=h.slices
 have hrm0:=h.own .rmw
 simp only[dT,dS,DV.val,dN,dX]at hrm0
 rw[hvm]at hrm0
 have HRM:=Lib.hid hrm0
 have hrd:runD nc V r=#[.bool false,.int .i64 nc,.slice aT V.tcs.length cT,.slice ae r.events.length ce,.slice af r.rf.length cf,.slice am r.rmw.length cm,.slice ao V.vo.length co,.slice al r.log.length cl,.slice ap r.picks.length cp,.int .i64 r.used]:=by unfold runD;rw[hvT,hve,hvf,hvm,hvo,hvl,hvp]
 rw[hrd]
 clear hrd hvT hve hvf hvm hvo hvl hvp hrm0 h
 by_cases hw:which=0
 ·simp only[if_pos hw]
  have HRs:Hid (∀w2,Below w.heap.size w w2→Calls Tryz.prog 50 #[.slice am r.rmw.length cm,.int .i64 (r.events.length:Int)] w2 fun e w'=>∃A c,e=.returned (.slice A r.rmw.length c)∧w'.ownsRow w2.heap.size 51 2 (.slice A r.rmw.length c) r.rmw.length (r.rmw.flatMap RunW.pairC)∧Below w2.heap.size w2 w'):=Lib.hid fun w2 hb =>
   rising_any r.events.length hev r.rmw hrm hok am cm w2 fun w3 hb3=>own_pairs (RunW.own_below (RunW.own_below HRM.out hb) hb3) rfl
  subst hw
  clear hok
  go_enter Tryz.func29,Tryz.ntmps29
  go_upto_region 2 with fail
  obtain⟨w1,hw1⟩:∃yy:World,yy=w.alloc (.cells #[.bool false,.int .i64 nc,.slice aT V.tcs.length cT,.slice ae r.events.length ce,.slice af r.rf.length cf,.slice am r.rmw.length cm,.slice ao V.vo.length co,.slice al r.log.length cl,.slice ap r.picks.length cp,.int .i64 r.used] 47):=⟨_,rfl⟩
  have hb1:Below w.heap.size w w1:=by rw[hw1];exact Kit.bl1
  have hD1:Blk w1 w.heap.size 47 #[.bool false,.int .i64 nc,.slice aT V.tcs.length cT,.slice ae r.events.length ce,.slice af r.rf.length cf,.slice am r.rmw.length cm,.slice ao V.vo.length co,.slice al r.log.length cl,.slice ap r.picks.length cp,.int .i64 r.used]:=by rw[hw1];exact Blk.new _ _ _
  rw[←hw1]
  clear hw1
  have k0:w1.cell? ⟨w.heap.size,0,none⟩=some (.bool false):=Blk.cell hD1 0
  have k3:w1.cell? ⟨w.heap.size,3,none⟩=some (.slice ae r.events.length ce):=Blk.cell hD1 3
  have k5:w1.cell? ⟨w.heap.size,5,none⟩=some (.slice am r.rmw.length cm):=Blk.cell hD1 5
  have HR1:=Lib.hid (HRs.out w1 hb1)
  go_wp2_with (go_at_call 50;refine HR1.out.mono ?_;rintro e w2 ⟨A,c,rfl,hown,hb2⟩)
  go_ret
  exact⟨A,c,rfl,OwnR.own_mono hown hb1.size,hb1.trans (hb2.mono hb1.size)⟩
 ·have q0:(which == 0)=false:=by simpa using hw
  simp only[if_neg hw]
  have HRs:Hid (∀w2,Below w.heap.size w w2→Calls Tryz.prog 50 #[.slice none 0 0,.int .i64 (r.events.length:Int)] w2 fun e w'=>∃A c,e=.returned (.slice A ([]:List (Nat × Nat)).length c)∧w'.ownsRow w2.heap.size 51 2 (.slice A ([]:List (Nat × Nat)).length c) ([]:List (Nat × Nat)).length (([]:List (Nat × Nat)).flatMap RunW.pairC)∧Below w2.heap.size w2 w'):=Lib.hid fun w2 hb =>
   rising_any r.events.length hev [] (Nat.zero_le _) ⟨List.Pairwise.nil,fun p hp=>by cases hp⟩ none 0 w2 fun w3 hb3=>PairsAt.nil
  clear hok hw
  go_enter Tryz.func29,Tryz.ntmps29
  go_upto_region 2 with fail
  obtain⟨w1,hw1⟩:∃yy:World,yy=w.alloc (.cells #[.bool false,.int .i64 nc,.slice aT V.tcs.length cT,.slice ae r.events.length ce,.slice af r.rf.length cf,.slice am r.rmw.length cm,.slice ao V.vo.length co,.slice al r.log.length cl,.slice ap r.picks.length cp,.int .i64 r.used] 47):=⟨_,rfl⟩
  have hb1:Below w.heap.size w w1:=by rw[hw1];exact Kit.bl1
  have hD1:Blk w1 w.heap.size 47 #[.bool false,.int .i64 nc,.slice aT V.tcs.length cT,.slice ae r.events.length ce,.slice af r.rf.length cf,.slice am r.rmw.length cm,.slice ao V.vo.length co,.slice al r.log.length cl,.slice ap r.picks.length cp,.int .i64 r.used]:=by rw[hw1];exact Blk.new _ _ _
  rw[←hw1]
  clear hw1
  have k0:w1.cell? ⟨w.heap.size,0,none⟩=some (.bool false):=Blk.cell hD1 0
  have k3:w1.cell? ⟨w.heap.size,3,none⟩=some (.slice ae r.events.length ce):=Blk.cell hD1 3
  have k5:w1.cell? ⟨w.heap.size,5,none⟩=some (.slice am r.rmw.length cm):=Blk.cell hD1 5
  have HR1:=Lib.hid (HRs.out w1 hb1)
  go_wp2_with (go_at_call 50;refine HR1.out.mono ?_;rintro e w2 ⟨A,c,rfl,hown,hb2⟩)
  go_ret
  exact⟨A,c,rfl,OwnR.own_mono hown hb1.size,hb1.trans (hb2.mono hb1.size)⟩
end Go.Proofs.YtmjilfamjlnigaaGreat.RefW
