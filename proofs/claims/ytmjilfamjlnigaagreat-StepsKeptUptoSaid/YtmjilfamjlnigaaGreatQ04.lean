/- WALKS: what a whole program is: an expression that may be. -/
import Derived.Test.YtmjilfamjlnigaaGreatQ03
import Derived.Test.YtmjilfamjlnigaaGreatQ01
import Derived.Deep.AppendLies
namespace Go.Proofs.YtmjilfamjlnigaaGreat.SrcP
theorem nodesOk_all (locals:Int) (l:List SrcP.Node) (i:Nat) (h:nodesOk locals i l=true) (j:Nat) (n:SrcP.Node) (hj:l[j]?=some n):nodeOk locals (i+j) n=true:=by
 induction l generalizing i j with
 | nil=>simp at hj
 | cons a l ih =>
  simp only[nodesOk,Bool.and_eq_true]at h
  cases j with
  | zero=>simp only[List.getElem?_cons_zero,Option.some.injEq]at hj;subst hj;exact h.1
  | succ j =>
   simp only[List.getElem?_cons_succ]at hj
   have:=ih (i+1) h.2 j hj
   rwa [show i+1+j=i+(j+1) by omega]at this
theorem nodeOk_lim (locals:Int) (i:Nat) (n:SrcP.Node) (h:nodeOk locals i n=true):(3≤n.op→0≤n.a∧n.a<i)∧(6≤n.op→0≤n.b∧n.b<i):=by
 unfold nodeOk at h
 split at h
 ·exact⟨fun _=>by omega,fun _=>by omega⟩
 ·split at h
  ·exact⟨fun _=>by omega,fun _=>by omega⟩
  ·split at h
   ·simp only[Bool.and_eq_true,decide_eq_true_eq]at h
    exact⟨fun _=>h.1,fun _=>by omega⟩
   ·simp only[Bool.and_eq_true,decide_eq_true_eq]at h
    exact⟨fun _=>h.1,fun _=>h.2.1⟩
end Go.Proofs.YtmjilfamjlnigaaGreat.SrcP
namespace Go.Proofs.YtmjilfamjlnigaaGreat.SrcW
open Go Go.RowKit Kit SrcP
def ExRel (l:List SrcP.Node) (locals:Nat) (w:World) (m:Nat) (s11:Value) (wr:World):Prop :=
 ∃k:Nat,s11=.int .i64 k∧k≤l.length∧m=l.length-k∧Below w.heap.size w wr∧nodesOk locals k (l.drop k)=nodesOk locals 0 l
set_option maxRecDepth 100000 in
set_option maxHeartbeats 4000000 in
theorem expression_any (A:Option Addr) (c:Nat) (l:List SrcP.Node) (locals:Nat) (hloc:locals≤24) (hlen:l.length≤1048576) (w:World) (hl:NodesAt w (.slice A l.length c) l) :
  Calls Tryz.prog 98 #[.slice A l.length c,.int .i64 locals] w fun r w'=>r=.returned (.bool (exprOk l locals))∧Below w.heap.size w w':=by
 have HNA:=Lib.hid hl
 obtain⟨A',c',hv,hE⟩:=hl
 obtain⟨rfl,rfl⟩:A=A'∧c=c':=by simpa using hv
 have HE:=Lib.hid hE
 clear hE hv
 go_enter Tryz.func98,Tryz.ntmps98
 go_wp2_with fail
 go_loopg [11] l.length (fun m s11 wr=>ExRel l locals w m s11 wr)
 case atStart=>exact⟨0,rfl,Nat.zero_le _,rfl,Below.refl _ _,rfl⟩
 case round =>
  obtain⟨k,rfl,hk,hm,hb,hok⟩:=hrel
  have HM:=Lib.hid hm
  clear hm
  by_cases hke:k<l.length
  ·obtain⟨hvl,ad,rfl,hC⟩:=HE.out k l[k] (by simp[hke])
   rw[List.drop_eq_getElem_cons hke]at hok
   simp only[nodesOk]at hok
   have HOK:=Lib.hid hok
   clear hok
   generalize hn:l[k]=n at *
   obtain⟨op,val,na,nb⟩:=n
   replace hC:=hC.below hb
   have n0:wr.cell? (ad.add (k*4))=some (.int .i64 op):=hC 0 _ rfl
   have n1:wr.cell? ⟨(ad.add (k*4)).block,(ad.add (k*4)).off+1,none⟩=some (.int .u64 val):=hC 1 _ rfl
   have n2:wr.cell? ⟨(ad.add (k*4)).block,(ad.add (k*4)).off+2,none⟩=some (.int .i64 na):=hC 2 _ rfl
   have n3:wr.cell? ⟨(ad.add (k*4)).block,(ad.add (k*4)).off+3,none⟩=some (.int .i64 nb):=hC 3 _ rfl
   have a1:(k:Int)<(l.length:Int):=by omega
   have a2:(0:Int)≤(k:Int):=by omega
   go_upto_region 4 with fail
   obtain⟨wx,hwx⟩:∃x,x=wr.alloc (.cells #[.int .i64 op,.int .u64 val,.int .i64 na,.int .i64 nb] 112):=⟨_,rfl⟩
   have hbx:Below w.heap.size w wx:=by rw[hwx];exact Kit.Below.al hb _
   have hBL:Blk wx wr.heap.size 112 #[.int .i64 op,.int .u64 val,.int .i64 na,.int .i64 nb]:=by rw[hwx];exact Blk.new _ _ _
   generalize wr.heap.size=gl at *
   rw[←hwx]
   clear hwx n0 n1 n2 n3 hC hb
   obtain⟨n0,n1,n2,n3⟩:=Kit.cells4 hBL
   go_cut [7,8] (fun s7 s8 wz=>s7=.bool (decide (0≤na∧na<k))∧s8=.bool (decide (0≤nb∧nb<k))∧∃z,wz=wx.drewN z)
   case first =>
    have hpa:decide (0≤na∧na<(k:Int))=(decide (0≤na)&&decide (na<(k:Int))):=Bool.decide_and _ _
    have hpb:decide (0≤nb∧nb<(k:Int))=(decide (0≤nb)&&decide (nb<(k:Int))):=Bool.decide_and _ _
    by_cases ha:0≤na
    ·by_cases hb:0≤nb
     ·go_quiet (fail)
      go_wp2_with fail
      go_meet
      exact⟨by first |(simp[ha];done) |(simp;omega),by first |(simp[hb];done) |(simp;omega),_,rfl⟩
     ·go_quiet (fail)
      go_wp2_with fail
      go_meet
      exact⟨by first |(simp[ha];done) |(simp;omega),by first |(simp;done) |(simp;omega),_,rfl⟩
    ·by_cases hb:0≤nb
     ·go_quiet (fail)
      go_wp2_with fail
      go_meet
      exact⟨by first |(simp;done) |(simp;omega),by first |(simp[hb];done) |(simp;omega),_,rfl⟩
     ·go_quiet (fail)
      go_wp2_with fail
      go_meet
      exact⟨by first |(simp;done) |(simp;omega),by first |(simp;done) |(simp;omega),_,rfl⟩
   case rest =>
    obtain⟨rfl,rfl,z,rfl⟩:=hcut
    obtain⟨wy,rfl⟩:∃y,y=wx.drewN z:=⟨_,rfl⟩
    have hby:=Kit.Below.dn (n:=z) hbx
    have hBM:Blk (wx.drewN z) gl 112 #[.int .i64 op,.int .u64 val,.int .i64 na,.int .i64 nb]:=hBL
    generalize wx.drewN z=wy at *
    clear n0 n1 n2 n3 hBL hbx
    obtain⟨n0,n1,n2,n3⟩:=Kit.cells4 hBM
    have hda:decide (0≤na∧na<(k:Int))=decide (0≤na∧na<(k:Int)):=rfl
    generalize hpa:decide (0≤na∧na<(k:Int))=pa at *
    generalize hpb:decide (0≤nb∧nb<(k:Int))=pb at *
    have HPA:=Lib.hid hpa
    have HPB:=Lib.hid hpb
    clear hpa hpb hda
    go_upto_block 2 with fail
    go_cut [7,8] (fun s7 s8 wz=>∃x y,s7=.bool x∧s8=.bool y∧nodeOk locals k ⟨op,val,na,nb⟩=(x&&y)∧∃z,wz=wy.drewN z)
    case first =>
     have hvz:((val:Int) == 0)=(val == 0):=beq_cast val 0
     have HVZ:=Lib.hid hvz
     clear hvz
     by_cases h1:op=1
     ·subst h1
      go_wp2_with fail
      go_quiet (fail)
      go_wp2_with fail
      go_meet
      refine⟨_,_,rfl,rfl,?_,by first | exact⟨_,rfl⟩ | exact⟨0,rfl⟩⟩
      simp[nodeOk]
     have q1:(op == 1)=false:=by simp[h1]
     by_cases h2:op=2
     ·subst h2
      have hw:IntKind.u64.wrap (locals:Int)=(locals:Int):=by rw[IntKind.wrap_u64];omega
      by_cases ha:na=0
      ·subst ha
       go_wp2_with fail
       go_quiet (fail)
       go_wp2_with fail
       go_meet
       refine⟨_,_,rfl,rfl,?_,by first | exact⟨_,rfl⟩ | exact⟨0,rfl⟩⟩
       simp[nodeOk]
      ·have q3:(na == 0)=false:=by simp[ha]
       go_wp2_with fail
       go_quiet (fail)
       go_wp2_with fail
       go_meet
       refine⟨_,_,rfl,rfl,?_,by first | exact⟨_,rfl⟩ | exact⟨0,rfl⟩⟩
       simp[nodeOk,ha]
     have q2:(op == 2)=false:=by simp[h2]
     by_cases h3:3≤op
     ·by_cases h5:op≤5
      ·by_cases hz:nb=0
       ·subst hz
        go_wp2_with fail
        go_meet
        refine⟨_,_,rfl,rfl,?_,by first | exact⟨_,rfl⟩ | exact⟨0,rfl⟩⟩
        simp[nodeOk,h1,h2,h3,h5,HPA.out,HVZ.out]
       ·have q3:(nb == 0)=false:=by simp[hz]
        go_wp2_with fail
        go_meet
        refine⟨_,_,rfl,rfl,?_,by first | exact⟨_,rfl⟩ | exact⟨0,rfl⟩⟩
        simp[nodeOk,h1,h2,h3,h5,HPA.out,hz]
      ·have h6:6≤op:=by omega
       have g3:¬(3≤op∧op≤5):=by omega
       by_cases h19:op≤19
       ·cases pb
        ·skip
         go_wp2_with fail
         go_meet
         refine⟨_,_,rfl,rfl,?_,by first | exact⟨_,rfl⟩ | exact⟨0,rfl⟩⟩
         simp[nodeOk,h1,h2,g3,HPA.out,HPB.out] <;> (intros;omega)
        ·skip
         go_wp2_with fail
         go_meet
         refine⟨_,_,rfl,rfl,?_,by first | exact⟨_,rfl⟩ | exact⟨0,rfl⟩⟩
         simp[nodeOk,h1,h2,g3,h6,h19,HPA.out,HPB.out,HVZ.out] <;> (intros;omega)
       ·cases pb
        ·skip
         go_wp2_with fail
         go_meet
         refine⟨_,_,rfl,rfl,?_,by first | exact⟨_,rfl⟩ | exact⟨0,rfl⟩⟩
         simp[nodeOk,h1,h2,g3,HPA.out,HPB.out] <;> (intros;omega)
        ·skip
         go_wp2_with fail
         go_meet
         refine⟨_,_,rfl,rfl,?_,by first | exact⟨_,rfl⟩ | exact⟨0,rfl⟩⟩
         simp[nodeOk,h1,h2,g3,h6,HPA.out,HPB.out] <;> (intros;omega)
     ·have h6:¬6≤op:=by omega
      have g3:¬(3≤op∧op≤5):=by omega
      cases pb
      ·skip
       go_wp2_with fail
       go_meet
       refine⟨_,_,rfl,rfl,?_,by first | exact⟨_,rfl⟩ | exact⟨0,rfl⟩⟩
       simp[nodeOk,h1,h2,g3,HPA.out,HPB.out] <;> (intros;omega)
      ·skip
       go_wp2_with fail
       go_meet
       refine⟨_,_,rfl,rfl,?_,by first | exact⟨_,rfl⟩ | exact⟨0,rfl⟩⟩
       simp[nodeOk,h1,h2,g3,HPA.out,HPB.out] <;> (intros;omega)
    case rest =>
     obtain⟨x,y,rfl,rfl,hxy,z,rfl⟩:=hcut
     rw[hxy]at HOK
     have HXY:=Lib.hid hxy
     clear hxy
     cases x
     ·go_wp2_with fail
      go_ret
      refine⟨Kit.cB (?_:false=exprOk l locals),Kit.Below.dn hby⟩
      simp[exprOk,←HOK.out]
     ·cases y
      ·go_wp2_with fail
       go_ret
       refine⟨Kit.cB (?_:false=exprOk l locals),Kit.Below.dn hby⟩
       simp[exprOk,←HOK.out]
      ·go_wp2_with fail
       go_roundg (l.length-(k+1))
       case measure=>have:=HM.out;omega
       case rel=>exact⟨k+1,by push_cast;rfl,hke,rfl,Kit.Below.dn hby,by rw[←HOK.out];simp⟩
  ·obtain rfl:k=l.length:=by omega
   rw[List.drop_length]at hok
   have hok2:nodesOk locals 0 l=true:=hok.symm
   have hlim:∀(i:Nat) (n:SrcP.Node),l[i]?=some n→(3≤n.op→0≤n.a∧n.a<l.length)∧(6≤n.op→0≤n.b∧n.b<l.length):=fun i n hi=>by
    have h:=nodeOk_lim _ _ _ (nodesOk_all locals l 0 hok2 i n hi)
    have hi2:i<l.length:=(List.getElem?_eq_some_iff.1 hi).1
    exact⟨fun h3=>by have:=h.1 h3;omega,fun h3=>by have:=h.2 h3;omega⟩
   have hex:exprOk l locals=(decide (0<l.length∧l.length≤65536)&&onceB l):=by simp[exprOk,hok2]
   have HEX:=Lib.hid hex
   clear hok hok2 hex
   by_cases h0:0<l.length
   ·by_cases h6:l.length≤65536
    ·have CO:=once_any A c l wr (HNA.out.below hb) ⟨h0,h6⟩ hlim
     generalize hob:onceB l=ob at *
     have b1:(0:Int)<(l.length:Int):=by omega
     have b2:(l.length:Int)≤65536:=by omega
     have HCO:=Lib.hid CO
     clear CO hlim
     go_wp2_with (go_at_call 138;refine HCO.out.mono ?_;rintro e w2 ⟨rfl,h2⟩)
     go_ret
     refine⟨Kit.cB (?_:ob=exprOk l locals),Kit.Below.then hb h2⟩
     rw[HEX.out];simp[h0,h6]
    ·have b1:(0:Int)<(l.length:Int):=by omega
     have b2:¬((l.length:Int)≤65536):=by omega
     go_wp2_with fail
     go_ret
     refine⟨Kit.cB (?_:false=exprOk l locals),hb⟩
     rw[HEX.out];simp[h6]
   ·have b1:¬((0:Int)<(l.length:Int)):=by omega
    go_wp2_with fail
    go_ret
    refine⟨Kit.cB (?_:false=exprOk l locals),hb⟩
    rw[HEX.out];simp[h0]
end Go.Proofs.YtmjilfamjlnigaaGreat.SrcW
namespace Go.Proofs.YtmjilfamjlnigaaGreat.SrcW
open Go Go.RowKit Kit SrcP
def actC (a:SrcP.Act) (vi ve vf:Value):Array Value:=#[.int .i64 a.op,.int .i64 a.dst,.int .i64 a.base,.int .i64 a.size,vi,ve,vf,.int .i64 a.mode,.int .i64 a.to,.int .i64 a.line,.int .i64 a.col]
def NilOk (v:Value):Prop:=∀n c,v=.slice none n c→c=0
structure ActV (w:World) (vi ve vf:Value) (a:SrcP.Act):Prop where
 index:NodesAt w vi a.index
 e:NodesAt w ve a.e
 f:NodesAt w vf a.f
 hi:a.index.length≤1048576
 he:a.e.length≤1048576
 hf:a.f.length≤1048576
 ni:NilOk vi
 ne:NilOk ve
 nf:NilOk vf
theorem ActV.below {w w':World} {vi ve vf:Value} {a:SrcP.Act} (h:ActV w vi ve vf a) (hb:Below w.heap.size w w'):ActV w' vi ve vf a:=⟨h.index.below hb,h.e.below hb,h.f.below hb,h.hi,h.he,h.hf,h.ni,h.ne,h.nf⟩
theorem ofInt_i64 (a:Nat) (ha:a<9223372036854775808):(BitVec.ofInt 64 (a:Int)).toNat=a:=by
 rw[BitVec.ofInt_natCast,BitVec.toNat_ofNat];exact Nat.mod_eq_of_lt (by omega)
theorem i64_and_nat (a b:Nat) (ha:a<9223372036854775808) (hb:b<9223372036854775808):bits .and .i64 (a:Int) (b:Int)=((a &&& b:Nat):Int):=by
 have hx:a &&& b<2 ^ 63:=Nat.and_lt_two_pow _ (by omega)
 show IntKind.i64.wrap ((BitVec.ofInt 64 (a:Int) &&& BitVec.ofInt 64 (b:Int)).toNat:Int)=_
 rw[BitVec.toNat_and,ofInt_i64 a ha,ofInt_i64 b hb,IntKind.wrap_i64]
 omega
theorem i64_and_pow (n:Nat) (h:n≤1024):bits .and .i64 (n:Int) ((n:Int)-1)=(((n:Int).toNat &&& ((n:Int)-1).toNat:Nat):Int):=by
 rcases Nat.eq_zero_or_pos n with rfl | hp
 ·decide
 ·have e:((n:Int)-1)=((n-1:Nat):Int):=by omega
  rw[e,i64_and_nat n (n-1) (by omega) (by omega)]
  simp
set_option maxRecDepth 100000 in
set_option maxHeartbeats 4000000 in
theorem wholePlace_one (a:SrcP.Act) (vi ve vf vt:Value) (cells:Int) (hc:0≤cells∧cells≤4096) (locals:Nat) (w:World) (h0:a.size=0) (ha:ActV w vi ve vf a) :
  Calls Tryz.prog 97 #[.agg (actC a vi ve vf),.agg #[.int .i64 cells,vt],.int .i64 locals] w fun r w'=>r=.returned (.bool (placeOk cells locals a))∧Below w.heap.size w w':=by
 unfold actC
 have HA:=Lib.hid ha
 obtain⟨op,dst,base,size,index,e,f,mode,to_,line,col⟩:=a
 simp only at HA h0 ⊢
 subst h0
 clear ha
 have hp0:placeOk cells locals ⟨op,dst,base,0,index,e,f,mode,to_,line,col⟩=(!decide (base<0)&&!decide (cells-1<base)&&index.isEmpty):=by
  have:max (1:Int) 0=1:=by decide
  unfold placeOk
  simp only[this]
  by_cases h4:base<0 <;> by_cases h5:cells-1<base <;> simp[h4,h5] <;> omega
 have HP0:=Lib.hid hp0
 clear hp0
 have q3:(bits .and .i64 0 (0-1) != 0)=false:=by decide
 have q3':(bits .and .i64 0 (-1) != 0)=false:=by decide
 by_cases h4:base<0
 ·skip
  go_enter Tryz.func97,Tryz.ntmps97
  go_wp2_with fail
  go_ret
  refine⟨Kit.cB (?_:false=placeOk cells locals _),Kit.bl2⟩
  rw[HP0.out];simp[h4]
 by_cases h5:cells-1<base
 ·skip
  go_enter Tryz.func97,Tryz.ntmps97
  go_wp2_with fail
  go_ret
  refine⟨Kit.cB (?_:false=placeOk cells locals _),Kit.bl2⟩
  rw[HP0.out];simp[h5]
 obtain⟨I,ci,hvi,_⟩:=HA.out.index
 simp only at hvi
 subst hvi
 cases index with
 | nil =>
  go_enter Tryz.func97,Tryz.ntmps97
  go_wp2_with fail
  go_ret
  refine⟨Kit.cB (?_:true=placeOk cells locals _),Kit.bl2⟩
  rw[HP0.out];simp[h4,h5]
 | cons n0 index =>
  have hpl:((index.length+1:Nat):Int)≠0:=by omega
  have q5:(((n0 :: index).length:Int) == 0)=false:=by rw[List.length_cons];simpa using hpl
  have HP1:Hid (placeOk cells locals ⟨op,dst,base,0,n0 :: index,e,f,mode,to_,line,col⟩=false):=Lib.hid (by rw[HP0.out];simp)
  generalize hL:(n0 :: index).length=L at *
  go_enter Tryz.func97,Tryz.ntmps97
  go_wp2_with fail
  go_ret
  exact⟨Kit.cB HP1.out.symm,Kit.bl2⟩
set_option maxRecDepth 100000 in
set_option maxHeartbeats 4000000 in
theorem wholePlace_arr (a:SrcP.Act) (vi ve vf vt:Value) (cells:Int) (hc:0≤cells∧cells≤4096) (locals:Nat) (hloc:locals≤24) (w:World) (h0:a.size≠0) (ha:ActV w vi ve vf a) :
  Calls Tryz.prog 97 #[.agg (actC a vi ve vf),.agg #[.int .i64 cells,vt],.int .i64 locals] w fun r w'=>r=.returned (.bool (placeOk cells locals a))∧Below w.heap.size w w':=by
 unfold actC
 have HA:=Lib.hid ha
 obtain⟨op,dst,base,size,index,e,f,mode,to_,line,col⟩:=a
 simp only at HA h0 ⊢
 clear ha
 by_cases h1:size<0
 ·skip
  go_enter Tryz.func97,Tryz.ntmps97
  go_wp2_with fail
  go_ret
  refine⟨Kit.cB (?_:false=placeOk cells locals _),Kit.bl2⟩
  simp[placeOk,h1]
 by_cases h2:1024<size
 ·skip
  go_enter Tryz.func97,Tryz.ntmps97
  go_wp2_with fail
  go_ret
  refine⟨Kit.cB (?_:false=placeOk cells locals _),Kit.bl2⟩
  simp[placeOk,h2]
 obtain⟨n,rfl⟩:=Int.eq_ofNat_of_zero_le (Int.not_lt.1 h1)
 have hn0:0<n:=by omega
 have hand:=i64_and_pow n (by omega)
 by_cases h3:bits .and .i64 (n:Int) ((n:Int)-1)=0
 ·have q3:(bits .and .i64 (n:Int) ((n:Int)-1) != 0)=false:=by simp[h3]
  have h3':(n:Int).toNat &&& ((n:Int)-1).toNat=0:=by rw[hand]at h3;exact_mod_cast h3
  have hmx2:max 1 (n:Int)=n:=by omega
  have hp0:placeOk cells locals ⟨op,dst,base,n,index,e,f,mode,to_,line,col⟩=(!decide (base<0)&&!decide (cells-(n:Int)<base)&&exprOk index locals):=by
   unfold placeOk
   simp only[hmx2,h3']
   have q6:(0:Int)<n:=by omega
   have q7:¬((n:Int)=0):=by omega
   have q8:((n:Int) == 0)=false:=by simp;omega
   by_cases h4:base<0 <;> by_cases h5:cells-(n:Int)<base <;> simp[h1,h2,h4,h5,hn0,q8] <;> omega
  have HP0:=Lib.hid hp0
  clear h3' hand h3 hmx2 hp0
  by_cases h4:base<0
  ·skip
   go_enter Tryz.func97,Tryz.ntmps97
   go_wp2_with fail
   go_ret
   refine⟨Kit.cB (?_:false=placeOk cells locals _),Kit.bl2⟩
   rw[HP0.out];simp[h4]
  have hn1:¬((n:Int)<1):=by omega
  have hn2:(1:Int)≤n:=by omega
  have qmx:(if (1:Int)<n then(n:Int)else 1)=n:=by split <;> omega
  by_cases h5:cells-(n:Int)<base
  ·skip
   go_enter Tryz.func97,Tryz.ntmps97
   go_wp2_with fail
   go_ret
   refine⟨Kit.cB (?_:false=placeOk cells locals _),Kit.bl2⟩
   rw[HP0.out];simp[h5]
  have q5:((n:Int) == 0)=false:=by simp;omega
  have q6:(0:Int)<n:=by omega
  have HP:=Lib.hid (show placeOk cells locals ⟨op,dst,base,n,index,e,f,mode,to_,line,col⟩=exprOk index locals by rw[HP0.out];simp[h4,h5])
  obtain⟨I,ci,hvi,_⟩:=HA.out.index
  simp only at hvi
  subst hvi
  have HE:∀w2,Below w.heap.size w w2→Hid (Calls Tryz.prog 98 #[.slice I index.length ci,.int .i64 locals] w2 fun r w'=>r=.returned (.bool (exprOk index locals))∧Below w2.heap.size w2 w') :=
   fun w2 hb2=>Lib.hid (expression_any I ci index locals hloc HA.out.hi w2 (HA.out.index.below hb2))
  generalize hL:index.length=L at *
  have HB:=Kit.Below.al (Kit.Below.al (Below.refl w.heap.size w) (.cells #[.int .i64 op,.int .i64 dst,.int .i64 base,.int .i64 n,.slice I L ci,ve,vf,.int .i64 mode,.int .i64 to_,.int .i64 line,.int .i64 col] 58)) (.cells #[.int .i64 cells,vt] 24)
  have HE2:=HE _ HB
  clear HE
  go_enter Tryz.func97,Tryz.ntmps97
  go_wp2_with (go_at_call 98;refine HE2.out.mono ?_;rintro e w2 ⟨rfl,hb2⟩)
  go_ret
  exact⟨Kit.cB HP.out.symm,Kit.Below.then HB hb2⟩
 ·have q3:(bits .and .i64 (n:Int) ((n:Int)-1) != 0)=true:=by simp[h3]
  have h3':(n:Int).toNat &&& ((n:Int)-1).toNat≠0:=by rw[hand]at h3;exact_mod_cast h3
  have H3:=Lib.hid h3'
  clear h3' hand
  go_enter Tryz.func97,Tryz.ntmps97
  go_wp2_with fail
  go_ret
  refine⟨Kit.cB (?_:false=placeOk cells locals _),Kit.bl2⟩
  simp only[placeOk,H3.out,ne_eq,not_false_eq_true,true_or,or_true,if_true]
theorem wholePlace_any (a:SrcP.Act) (vi ve vf vt:Value) (cells:Int) (hc:0≤cells∧cells≤4096) (locals:Nat) (hloc:locals≤24) (w:World) (ha:ActV w vi ve vf a) :
  Calls Tryz.prog 97 #[.agg (actC a vi ve vf),.agg #[.int .i64 cells,vt],.int .i64 locals] w fun r w'=>r=.returned (.bool (placeOk cells locals a))∧Below w.heap.size w w':=by
 by_cases h0:a.size=0
 ·exact wholePlace_one a vi ve vf vt cells hc locals w h0 ha
 ·exact wholePlace_arr a vi ve vf vt cells hc locals hloc w h0 ha
end Go.Proofs.YtmjilfamjlnigaaGreat.SrcW
namespace Go.Proofs.YtmjilfamjlnigaaGreat.SrcP
theorem exprOk_evals (l:List SrcP.Node) (locals:Nat) (h:exprOk l locals=true):EvalsAll locals l:=by
 simp only[exprOk,Bool.and_eq_true,decide_eq_true_eq]at h
 refine⟨h.2.1,fun i n hi=>?_⟩
 have hn:=nodesOk_all locals l 0 h.1 i n hi
 rw[Nat.zero_add]at hn
 unfold nodeOk at hn
 unfold Evals
 split at hn
 ·exact .inl (by assumption)
 ·split at hn
  ·rename_i h2
   simp only[Bool.and_eq_true,decide_eq_true_eq]at hn
   exact .inr (.inl ⟨h2,by omega⟩)
  ·split at hn
   ·rename_i h3
    simp only[Bool.and_eq_true,decide_eq_true_eq]at hn
    exact .inr (.inr (.inl ⟨h3.1,h3.2,hn.1⟩))
   ·simp only[Bool.and_eq_true,decide_eq_true_eq]at hn
    exact .inr (.inr (.inr ⟨hn.2.2.1.1,hn.1.1,hn.1.2,hn.2.1.1,hn.2.1.2⟩))
end Go.Proofs.YtmjilfamjlnigaaGreat.SrcP
namespace Go.Proofs.YtmjilfamjlnigaaGreat.SrcW
open Go Go.RowKit Kit SrcP
def ActsAt (w:World) (v:Value) (l:List SrcP.Act):Prop :=
 ∃A c,v=.slice A l.length c∧∀i a,l[i]?=some a→∃ad vi ve vf,A=some ad∧CellsAt w (ad.add (i*11)) (actC a vi ve vf).toList∧ActV w vi ve vf a
theorem ActsAt.below {w w':World} {v:Value} {l:List SrcP.Act} (h:ActsAt w v l) (hb:Below w.heap.size w w'):ActsAt w' v l:=by
 obtain⟨A,c,rfl,h⟩:=h
 refine⟨A,c,rfl,fun i a hi=>?_⟩
 obtain⟨ad,vi,ve,vf,h1,h2,h3⟩:=h i a hi
 exact⟨ad,vi,ve,vf,h1,h2.below hb,h3.below hb⟩
def ThreadsAt (w:World) (v:Value) (l:List SrcP.Thread):Prop :=
 ∃A c,v=.slice A l.length c∧∀i t,l[i]?=some t→∃ad va,A=some ad∧CellsAt w (ad.add (i*2)) [.int .i64 t.locals,va]∧ActsAt w va t.acts∧(t.acts.length≤1048576∧NilOk va)
theorem ThreadsAt.below {w w':World} {v:Value} {l:List SrcP.Thread} (h:ThreadsAt w v l) (hb:Below w.heap.size w w'):ThreadsAt w' v l:=by
 obtain⟨A,c,rfl,h⟩:=h
 refine⟨A,c,rfl,fun i a hi=>?_⟩
 obtain⟨ad,va,h1,h2,h3,h4⟩:=h i a hi
 exact⟨ad,va,h1,h2.below hb,h3.below hb,h4⟩
/-! What holds acts and their nodes stays. -/
def Still (T:TypeId→Prop) (w w':World):Prop:=∀(k:Nat) (cs:Array Value) (t:TypeId) (fr:Nat × Nat),w.heap[k]?=some (Obj.cells cs t fr)→T t→w'.heap[k]?=some (Obj.cells cs t fr)
section
variable {T:TypeId→Prop}
theorem Still.refl (w:World):Still T w w:=fun _ _ _ _ h _=>h
theorem Still.trans {w w1 w2:World} (h:Still T w w1) (h':Still T w1 w2):Still T w w2:=fun k cs t fr hk ht=>h' k cs t fr (h k cs t fr hk ht) ht
theorem Still.sub {T':TypeId→Prop} {w w':World} (h:Still T w w') (hs:∀t,T' t→T t):Still T' w w':=fun k cs t fr hk ht=>h k cs t fr hk (hs t ht)
theorem Still.below {w w':World} (h:Below w.heap.size w w'):Still T w w':=fun k cs t fr hk _=>by
 rw[h.block k]
 ·exact hk
 ·rcases Nat.lt_or_ge k w.heap.size with h | h
  ·exact h
  ·rw[Array.getElem?_eq_none h]at hk;cases hk
theorem Still.al (w:World) (o:Obj):Still T w (w.alloc o):=Still.below (Kit.bl1)
theorem Still.dn (w:World) (n:Nat):Still T w (w.drewN n):=fun _ _ _ _ h _=>h
theorem Still.set {w:World} {g o:Nat} {t:TypeId} {cs:Array Value} (h:Blk w g t cs) (ht:¬T t) (u:Value):Still T w (w.setCell ⟨g,o,none⟩ u):=fun k cs' t' fr hk hh=>by
 rw[Below.heap_setCell w ⟨g,o,none⟩ u k,hk]
 rintro rfl
 unfold Blk at h
 rw[h]at hk
 injection hk with hk
 injection hk with _ hk
 subst hk
 exact ht hh
theorem Still.grown {w w':World} {row:Option Nat} (h:w.grownBy w' row) (hr:∀k,row=some k→∀(cs:Array Value) (t:TypeId) (fr:Nat × Nat),w.heap[k]?=some (Obj.cells cs t fr)→¬T t):Still T w w':=fun k cs t fr hk hh=>by
 rw[h.block k]
 ·exact hk
 ·rcases Nat.lt_or_ge k w.heap.size with h | h
  ·exact h
  ·rw[Array.getElem?_eq_none h]at hk;cases hk
 ·intro e
  exact hr k e.symm cs t fr hk hh
end
def TN (t:TypeId):Prop:=t=112
def TA (t:TypeId):Prop:=t=58∨t=112
def NodesS (w:World) (v:Value) (l:List SrcP.Node):Prop:=∀w',Still TN w w'→NodesAt w' v l
def ActVS (w:World) (vi ve vf:Value) (a:SrcP.Act):Prop:=∀w',Still TA w w'→ActV w' vi ve vf a
def ActsS (w:World) (v:Value) (l:List SrcP.Act):Prop :=
 ∃A c,v=.slice A l.length c∧∀i a,l[i]?=some a→∃ad vi ve vf,A=some ad∧(∀w',Still TA w w'→CellsAt w' (ad.add (i*11)) (actC a vi ve vf).toList)∧ActVS w vi ve vf a
theorem ActVS.still {w w':World} {vi ve vf:Value} {a:SrcP.Act} (h:ActVS w vi ve vf a) (hs:Still TA w w'):ActVS w' vi ve vf a:=fun w2 h2=>h w2 (hs.trans h2)
theorem ActVS.here {w:World} {vi ve vf:Value} {a:SrcP.Act} (h:ActVS w vi ve vf a):ActV w vi ve vf a:=h w (Still.refl w)
theorem ActsS.still {w w':World} {v:Value} {l:List SrcP.Act} (h:ActsS w v l) (hs:Still TA w w'):ActsS w' v l:=by
 obtain⟨A,c,rfl,h⟩:=h
 refine⟨A,c,rfl,fun i a hi=>?_⟩
 obtain⟨ad,vi,ve,vf,h1,h2,h3⟩:=h i a hi
 exact⟨ad,vi,ve,vf,h1,fun w2 hw2=>h2 w2 (hs.trans hw2),h3.still hs⟩
theorem NodesS.still {w w':World} {v:Value} {l:List SrcP.Node} (h:NodesS w v l) (hs:Still TN w w'):NodesS w' v l:=fun w2 h2=>h w2 (hs.trans h2)
theorem NodesS.here {w:World} {v:Value} {l:List SrcP.Node} (h:NodesS w v l):NodesAt w v l:=h w (Still.refl w)
end Go.Proofs.YtmjilfamjlnigaaGreat.SrcW
namespace Go.Proofs.YtmjilfamjlnigaaGreat.OwnR
open Go Go.RowKit Kit
theorem block_add (a:Addr) (n:Nat):(a.add n).block=a.block:=by unfold Addr.add;split <;> rfl
theorem own_lt {w:World} {base e size n k:Nat} {v:Value} {xs:List Value} (h:w.ownsRow base e size v n xs) (hk:v.ownBlock=some k):k<w.heap.size:=by
 rcases h.2 with⟨rfl,_⟩ | ⟨g,cap,cur,rfl,hb,hh,_⟩
 ·cases hk
 ·obtain rfl:g=k:=by simpa [Value.ownBlock]using hk
  rcases Nat.lt_or_ge g w.heap.size with h | h
  ·exact h
  ·rw[Array.getElem?_eq_none h]at hh;cases hh
theorem own_base {w:World} {base e size n k:Nat} {v:Value} {xs:List Value} (h:w.ownsRow base e size v n xs) (hk:v.ownBlock=some k):base≤k:=by
 rcases h.2 with⟨rfl,_⟩ | ⟨g,cap,cur,rfl,hb,hh,_⟩
 ·cases hk
 ·obtain rfl:g=k:=by simpa [Value.ownBlock]using hk
  exact hb
theorem own_stays {w w':World} {base e size n:Nat} {v:Value} {xs:List Value} (h:w.ownsRow base e size v n xs) (hs:∀k,v.ownBlock=some k→w'.heap[k]?=w.heap[k]?):w'.ownsRow base e size v n xs:=by
 refine⟨h.1,?_⟩
 rcases h.2 with h2 | ⟨g,cap,cur,rfl,hb,hh,r⟩
 ·exact .inl h2
 ·exact .inr ⟨g,cap,cur,rfl,hb,(hs g rfl).trans hh,r⟩
theorem own_mono {w:World} {base base' e size n:Nat} {v:Value} {xs:List Value} (h:w.ownsRow base e size v n xs) (hb:base'≤base):w.ownsRow base' e size v n xs:=by
 refine⟨h.1,?_⟩
 rcases h.2 with h2 | ⟨g,cap,cur,rfl,hb2,r⟩
 ·exact .inl h2
 ·exact .inr ⟨g,cap,cur,rfl,Nat.le_trans hb hb2,r⟩
theorem own_type {w:World} {base e size n g:Nat} {t:TypeId} {cs:Array Value} {v:Value} {xs:List Value} (h:w.ownsRow base e size v n xs) (hg:Blk w g t cs) (hne:e≠t):v.ownBlock≠some g:=by
 rcases h.2 with⟨rfl,_⟩ | ⟨g',cap,cur,rfl,_,hh,_⟩
 ·simp[Value.ownBlock]
 ·intro he
  obtain rfl:g'=g:=by simpa [Value.ownBlock]using he
  unfold Blk at hg
  rw[hg]at hh
  injection hh with hh
  injection hh with _ ht
  exact hne ht.symm
theorem own_cells {w:World} {base e size n:Nat} {v:Value} {xs:List Value} (h:w.ownsRow base e size v n xs) (hn:0<n):∃g cap,v=.slice (some ⟨g,0,none⟩) n cap∧base≤g∧g<w.heap.size∧n≤cap∧(∀o,w.frozen? ⟨g,o,none⟩=false)∧∀j u,xs[j]?=some u→w.cell? ⟨g,j,none⟩=some u:=by
 rcases h.2 with⟨_,h0⟩ | ⟨g,cap,cur,rfl,hb,hc,hcap,_,hsz,htake⟩
 ·omega
 ·refine⟨g,cap,rfl,hb,?_,hcap,fun o=>?_,fun j u hj=>?_⟩
  ·rcases Nat.lt_or_ge g w.heap.size with h | h
   ·exact h
   ·rw[Array.getElem?_eq_none h]at hc;cases hc
  ·unfold World.frozen?
   rw[hc]
   simp
  ·rw[cell_of_row w g j cur e (0,0) hc]
   rw[←htake,List.getElem?_take]at hj
   split at hj
   ·rw[←Array.getElem?_toList];exact hj
   ·cases hj
theorem own_slice {w:World} {base e size n:Nat} {v:Value} {xs:List Value} (h:w.ownsRow base e size v n xs):∃a c,v=.slice a n c∧n≤c:=by
 rcases h.2 with⟨rfl,rfl⟩ | ⟨g',cap,cur,rfl,_,_,hc,_⟩
 ·exact⟨none,0,rfl,Nat.le_refl _⟩
 ·exact⟨_,_,rfl,hc⟩
theorem own_set {w:World} {base e size n g cap j:Nat} {xs:List Value} (h:w.ownsRow base e size (.slice (some ⟨g,0,none⟩) n cap) n xs) (_hj:j<xs.length) (u:Value):(w.setCell ⟨g,j,none⟩ u).ownsRow base e size (.slice (some ⟨g,0,none⟩) n cap) n (xs.set j u):=by
 refine⟨by rw[List.length_set];exact h.1,?_⟩
 rcases h.2 with⟨h0,_⟩ | ⟨g',cap',cur,h0,hb,hh,hc,hm,hs,ht⟩
 ·cases h0
 ·injection h0 with h0 _ h1
  injection h0 with h0
  injection h0 with h0
  subst h0 h1
  right
  have hl:=h.1
  have hlt:g<w.heap.size:=by
   rcases Nat.lt_or_ge g w.heap.size with h | h
   ·exact h
   ·rw[Array.getElem?_eq_none h]at hh;cases hh
  have hheap:(w.setCell ⟨g,j,none⟩ u).heap[g]?=some (.cells (cur.setIfInBounds j u) e (0,0)):=by
   have:=(show Blk w g e cur from hh).set j u
   exact this
  refine⟨g,cap,cur.setIfInBounds j u,rfl,hb,hheap,hc,hm,by simpa using hs,?_⟩
  rw[Array.toList_setIfInBounds,←ht,List.take_set]
end Go.Proofs.YtmjilfamjlnigaaGreat.OwnR
