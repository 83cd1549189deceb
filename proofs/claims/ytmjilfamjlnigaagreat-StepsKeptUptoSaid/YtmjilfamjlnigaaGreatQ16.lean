/- WALKS: an expression's value, the document's own way (chapter 13). -/
import Derived.Test.YtmjilfamjlnigaaGreatQ05
import Derived.Test.YtmjilfamjlnigaaGreatQ15
import Derived.Test.YtmjilfamjlnigaaGreatQ10
namespace Go.Proofs.YtmjilfamjlnigaaGreat.SrcP
open Go
def vAt (locals:List Nat) (e:List Node) (i:Nat):Nat:=(evalL locals e []).getD i 0
theorem evalL_pre (locals:List Nat):∀(l:List Node) (v:List Nat) (j:Nat),j<v.length→(evalL locals l v).getD j 0=v.getD j 0
 | [],v,j,_=>rfl
 | n :: l,v,j,h=>by
  rw[evalL,evalL_pre locals l _ j (by simp;omega)]
  simp[List.getD_eq_getElem?_getD,List.getElem?_append_left h]
theorem vAt_eq {locals:List Nat} {e:List Node} {i:Nat} {n:Node} (hi:e[i]?=some n) (hn:Evals locals.length i n):vAt locals e i=nodeV locals (evalL locals e []) n:=by
 have hil:=(List.getElem?_eq_some_iff.1 hi).1
 have he:e[i]=n:=(List.getElem?_eq_some_iff.1 hi).2
 have hs:e=e.take (i+1)++e.drop (i+1):=(List.take_append_drop _ _).symm
 have hV:evalL locals e []=evalL locals (e.drop (i+1)) (evalL locals (e.take i) []++[nodeV locals (evalL locals (e.take i) []) n]):=by
  rw[←he,←evalL_take locals e i hil,←evalL_append,List.take_append_drop]
 have hl:(evalL locals (e.take i) []).length=i:=by rw[evalL_len];simp;omega
 have hpre:∀j,j<i→(evalL locals e []).getD j 0=(evalL locals (e.take i) []).getD j 0:=fun j hj=>by
  rw[hV,evalL_pre _ _ _ _ (by simp;omega)]
  simp[List.getD_eq_getElem?_getD,List.getElem?_append_left (show j<(evalL locals (e.take i) []).length by omega)]
 have h1:vAt locals e i=nodeV locals (evalL locals (e.take i) []) n:=by
  unfold vAt
  rw[hV,evalL_pre _ _ _ _ (by simp;omega)]
  simp[List.getD_eq_getElem?_getD,hl]
 rw[h1]
 unfold nodeV
 rcases hn with h | ⟨h,_⟩ | ⟨h3,h5,ha,hai⟩ | ⟨h6,ha,hai,hb,hbi⟩
 ·simp[h]
 ·simp[h]
 ·have c1:¬n.op=1:=by omega
  have c2:¬n.op=2:=by omega
  simp only[c1,c2,h5,if_true,if_false]
  rw[hpre _ (by omega)]
 ·have c1:¬n.op=1:=by omega
  have c2:¬n.op=2:=by omega
  have c3:¬n.op≤5:=by omega
  simp only[c1,c2,c3,if_false]
  rw[hpre _ (by omega),hpre _ (by omega)]
theorem vAt_lt {locals:List Nat} {e:List Node} (hl:∀x∈locals,x<M64) (hn:∀n∈e,n.val<M64) (i:Nat):vAt locals e i<M64:=by
 have h:=evalL_lt locals hl e [] (by simp) hn
 unfold vAt
 rw[Kit.gD]
 cases hx:(evalL locals e [])[i]? with
 | none=>decide
 | some x=>exact h x (List.mem_of_getElem? hx)
theorem value_vAt {e:List Node} (locals:List Nat):value e locals=vAt locals e (e.length-1):=by
 unfold value vAt
 rw[List.getLastD_eq_getLast?,List.getLast?_eq_getElem?,evalL_len,Kit.gD]
 simp
end Go.Proofs.YtmjilfamjlnigaaGreat.SrcP
namespace Go.Proofs.YtmjilfamjlnigaaGreat.RefW
open Go Go.RowKit Kit SrcP SrcW
theorem yes_any (b:Bool) (w:World):Calls Tryz.prog 176 #[.bool b] w fun e w'=>e=.returned (.int .u64 (truth b:Nat))∧w'=w:=by
 cases b
 all_goals
  go_enter Tryz.func176,Tryz.ntmps176
  go_wp2_with fail
  go_ret
  exact⟨rfl,rfl⟩
theorem U64At.lt {w:World} {v:Value} {l:List Nat} (h:U64At w v l):∀x∈l,x<M64:=fun x hx=>by
 obtain⟨A,c,_,h⟩:=h
 obtain⟨i,hi⟩:=List.getElem?_of_mem hx
 exact(h i x hi).1
theorem NodesAt.lt {w:World} {v:Value} {l:List SrcP.Node} (h:NodesAt w v l):∀n∈l,n.val<M64:=fun x hx=>by
 obtain⟨A,c,_,h⟩:=h
 obtain⟨i,hi⟩:=List.getElem?_of_mem hx
 exact(h i x hi).1
def ShRel (f:Nat→Nat) (n:Nat) (w:World) (m:Nat) (s8 s10:Value) (wr:World):Prop:=∃k v:Nat,s10=.int .u64 (k:Int)∧s8=.int .u64 (v:Int)∧v=f k∧k≤n∧m=n-k∧wr=w
theorem dbl_wrap (x:Nat):IntKind.u64.wrap ((x:Int)+(x:Int))=(((x+x) % M64:Nat):Int):=by
 rw[IntKind.wrap_u64,Int.natCast_emod,Int.natCast_add]
 rfl
theorem shl_next (a k:Nat):(a*2 ^ k % M64+a*2 ^ k % M64) % M64=a*2 ^ (k+1) % M64:=by
 have:a*2 ^ (k+1)=a*2 ^ k+a*2 ^ k:=by rw[Nat.pow_succ,←Nat.mul_assoc,Nat.mul_two]
 rw[this,Nat.add_mod]
 simp
theorem half_wrap (v:Nat) (h:v<M64):IntKind.u64.wrap ((v:Int) / 2)=((v / 2:Nat):Int):=by
 rw[IntKind.wrap_u64]
 unfold M64 at h
 omega
theorem shr_next (a k:Nat):a / 2 ^ k / 2=a / 2 ^ (k+1):=by rw[Nat.div_div_eq_div_mul,Nat.pow_succ]
set_option maxRecDepth 100000 in
set_option maxHeartbeats 4000000 in
theorem at_any (A B:Option Addr) (c d:Nat) (e:List SrcP.Node) (locals:List Nat) (hev:EvalsAll locals.length e) (i:Nat):i<e.length→∀(w:World),NodesAt w (.slice A e.length c) e→U64At w (.slice B locals.length d) locals →
  Calls Tryz.prog 158 #[.slice A e.length c,.int .i64 (i:Int),.slice B locals.length d] w fun r w'=>r=.returned (.int .u64 (vAt locals e i:Nat))∧Below w.heap.size w w':=by
 induction i using Nat.strongRecOn with
 | ind i ih =>
  intro hi w he hl
  have hvlt:=vAt_lt (RefW.U64At.lt hl) (RefW.NodesAt.lt he)
  have HI:=Lib.hid ih
  have HEA:=Lib.hid he
  have HLA:=Lib.hid hl
  clear ih
  obtain⟨A',c',hv,hE⟩:=he
  obtain⟨rfl,rfl⟩:A=A'∧c=c':=by simpa using hv
  obtain⟨B',d',hv2,hL⟩:=hl
  obtain⟨rfl,rfl⟩:B=B'∧d=d':=by simpa using hv2
  obtain⟨hvl,ad,rfl,hC⟩:=hE i e[i] (by simp[hi])
  have hEv:=hev.2 i e[i] (by simp[hi])
  have hval:=vAt_eq (locals:=locals) (e:=e) (i:=i) (n:=e[i]) (by simp[hi]) hEv
  have HL:=Lib.hid hL
  have HYES:=fun b w=>Lib.hid (yes_any b w)
  clear hE hL hv hv2
  generalize hn:e[i]=n at *
  obtain⟨op,val,na,nb⟩:=n
  have n0:w.cell? (ad.add (i*4))=some (.int .i64 op):=hC 0 _ rfl
  have n1:w.cell? ⟨(ad.add (i*4)).block,(ad.add (i*4)).off+1,none⟩=some (.int .u64 val):=hC 1 _ rfl
  have n2:w.cell? ⟨(ad.add (i*4)).block,(ad.add (i*4)).off+2,none⟩=some (.int .i64 na):=hC 2 _ rfl
  have n3:w.cell? ⟨(ad.add (i*4)).block,(ad.add (i*4)).off+3,none⟩=some (.int .i64 nb):=hC 3 _ rfl
  have a1:(i:Int)<(e.length:Int):=by omega
  have a2:(0:Int)≤(i:Int):=by omega
  clear hn
  simp only[Evals]at hEv
  have HVAL:=Lib.hid hval
  have HEV:=Lib.hid hEv
  have HLT:=Lib.hid hvlt
  clear hval hEv hvlt hev
  go_enter Tryz.func158,Tryz.ntmps158
  go_upto_region 2 with fail
  obtain⟨wx,hwx⟩:∃x,x=w.alloc (.cells #[.int .i64 op,.int .u64 val,.int .i64 na,.int .i64 nb] 112):=⟨_,rfl⟩
  have hbx:Below w.heap.size w wx:=by rw[hwx];exact Kit.bl1
  have hBL:Blk wx w.heap.size 112 #[.int .i64 op,.int .u64 val,.int .i64 na,.int .i64 nb]:=by rw[hwx];exact Blk.new _ _ _
  rw[←hwx]
  clear hwx n0 n1 n2 n3 hC
  generalize hgl:w.heap.size=gl at *
  have HGL:=Lib.hid hgl
  clear hgl
  have n0:wx.cell? ⟨gl,0,none⟩=some (.int .i64 op):=hBL.cell 0
  have n1:wx.cell? ⟨gl,1,none⟩=some (.int .u64 val):=hBL.cell 1
  have n2:wx.cell? ⟨gl,2,none⟩=some (.int .i64 na):=hBL.cell 2
  have HEX:Hid (∀w2,Below gl w w2→NodesAt w2 (.slice (some ad) e.length c) e):=Lib.hid fun w2 h2=>HEA.out.below (HGL.out.symm ▸ h2)
  have HLX:Hid (∀w2,Below gl w w2→U64At w2 (.slice B locals.length d) locals):=Lib.hid fun w2 h2=>HLA.out.below (HGL.out.symm ▸ h2)
  have HIX:Hid (∀j,j<i→∀w2,Below gl w w2→Calls Tryz.prog 158 #[.slice (some ad) e.length c,.int .i64 (j:Int),.slice B locals.length d] w2 fun r w'=>r=.returned (.int .u64 (vAt locals e j:Nat))∧Below w2.heap.size w2 w') :=
   Lib.hid fun j hj w2 h2=>HI.out j hj (by omega) w2 (HEX.out w2 h2) (HLX.out w2 h2)
  clear HI
  rcases HEV.out with h1 | ⟨h1,h2⟩ | ⟨h1,h2,h3,h4⟩ | ⟨h1,h2,h3,h4,h5⟩
  ·subst h1
   go_wp2_with fail
   go_ret
   exact⟨by rw[HVAL.out];simp[nodeV],by rw[HGL.out];exact hbx⟩
  ·subst h1
   obtain⟨hvv,ld,rfl,c3⟩:=HL.out val (locals.getD val 0) (by simp[List.getD,h2])
   replace c3:=(hbx.cell (by rw[←HGL.out];exact World.block_lt_of_cell? w _ c3)).trans c3
   have b1:(val:Int)<(locals.length:Int):=by omega
   have b2:(0:Int)≤(val:Int):=by omega
   have hq:locals.getD val 0=nodeV locals (evalL locals e []) ⟨2,val,na,nb⟩:=by simp[nodeV]
   rw[←hq]at HVAL
   generalize locals.getD val 0=lv at *
   clear hq
   go_wp2_with fail
   go_ret
   exact⟨by rw[HVAL.out];rfl,by rw[HGL.out];exact hbx⟩
  ·obtain⟨x,rfl⟩:=Int.eq_ofNat_of_zero_le h3
   have hx:x<i:=by omega
   have HA:=fun w2 (h2:Below gl w w2)=>Lib.hid (HIX.out x hx w2 h2)
   have hav:=HLT.out x
   have hnv:nodeV locals (evalL locals e []) ⟨op,val,(x:Int),nb⟩=one op (vAt locals e x):=by
    simp only[nodeV]
    rw[if_neg (by omega),if_neg (by omega),if_pos h2]
    rfl
   rw[hnv]at HVAL
   clear hnv HIX
   generalize vAt locals e x=a at *
   have HM:Hid (∀w2,Below wx.heap.size wx w2→w2.cell? ⟨gl,0,none⟩=some (.int .i64 op)):=Lib.hid fun w2 h2=>(hBL.below' h2).cell 0
   have hglt:=hBL.lt
   have q1:(op == 1)=false:=by simp;omega
   have q2:(op == 2)=false:=by simp;omega
   go_upto_region 7 with (go_at_call 158;refine(HA _ hbx).out.mono ?_;rintro e w3 ⟨rfl,hb3⟩)
   have hbw:Below gl w w3:=hbx.trans (hb3.mono (Nat.le_of_lt hglt))
   clear n0 n1 n2
   have n0:=HM.out w3 hb3
   clear q1 q2
   by_cases p3:op=3
   ·subst p3
    go_wp2_with (go_at_call 176;refine(HYES _ _).out.mono ?_;rintro e w5 ⟨rfl,rfl⟩)
    go_ret
    refine⟨congrArg (fun x:Int=>Ending.returned (.int .u64 x)) (show _=((vAt locals e i:Nat):Int)from ?_),by rw[HGL.out];exact hbw⟩
    rw[HVAL.out]
    show IntKind.u64.wrap (-(a:Int))=(((M64-a) % M64:Nat):Int)
    rw[IntKind.wrap_u64]
    unfold M64 at *
    omega
   ·by_cases p4:op=4
    ·subst p4
     go_wp2_with (go_at_call 176;refine(HYES _ _).out.mono ?_;rintro e w5 ⟨rfl,rfl⟩)
     go_ret
     refine⟨congrArg (fun x:Int=>Ending.returned (.int .u64 x)) (show _=((vAt locals e i:Nat):Int)from ?_),by rw[HGL.out];exact hbw⟩
     rw[HVAL.out]
     show IntKind.u64.wrap _=((M64-1-a:Nat):Int)
     rw[IntKind.wrap_u64]
     unfold M64 at *
     omega
    ·obtain rfl:op=5:=by omega
     go_wp2_with (go_at_call 176;refine(HYES _ _).out.mono ?_;rintro e w5 ⟨rfl,rfl⟩)
     go_ret
     refine⟨congrArg (fun x:Int=>Ending.returned (.int .u64 x)) (show _=((vAt locals e i:Nat):Int)from ?_),by rw[HGL.out];exact hbw⟩
     rw[HVAL.out]
     show((truth ((a:Int) == ((0:Nat):Int)):Nat):Int)=_
     rw[beq_cast]
     rfl
  ·obtain⟨x,rfl⟩:=Int.eq_ofNat_of_zero_le h2
   obtain⟨y,rfl⟩:=Int.eq_ofNat_of_zero_le h4
   have hx:x<i:=by omega
   have hy:y<i:=by omega
   have HA:=fun w2 (h2:Below gl w w2)=>Lib.hid (HIX.out x hx w2 h2)
   have HB:=fun w2 (h2:Below gl w w2)=>Lib.hid (HIX.out y hy w2 h2)
   have ha:=HLT.out x
   have hb:=HLT.out y
   have hnv:nodeV locals (evalL locals e []) ⟨op,val,(x:Int),(y:Int)⟩=two op (vAt locals e x) (vAt locals e y):=by
    simp only[nodeV]
    rw[if_neg (by omega),if_neg (by omega),if_neg (by omega)]
    rfl
   rw[hnv]at HVAL
   clear hnv HIX
   generalize vAt locals e x=a at *
   generalize vAt locals e y=b at *
   have HM:Hid (∀w2,Below wx.heap.size wx w2→w2.cell? ⟨gl,0,none⟩=some (.int .i64 op)∧w2.cell? ⟨gl,3,none⟩=some (.int .i64 y)):=Lib.hid fun w2 h2=>⟨(hBL.below' h2).cell 0,(hBL.below' h2).cell 3⟩
   have hglt:=hBL.lt
   have q1:(op == 1)=false:=by simp;omega
   have q2:(op == 2)=false:=by simp;omega
   have q3:(op == 3)=false:=by simp;omega
   have q4:(op == 4)=false:=by simp;omega
   have q5:(op == 5)=false:=by simp;omega
   go_upto_region 7 with (go_at_call 158;refine(HA _ hbx).out.mono ?_;rintro e w3 ⟨rfl,hb3⟩)
   have hbw:Below gl w w3:=hbx.trans (hb3.mono (Nat.le_of_lt hglt))
   clear n0 n1 n2
   obtain⟨n0,n3⟩:=HM.out w3 hb3
   go_upto_region 15 with (go_at_call 158;refine(HB _ hbw).out.mono ?_;rintro e w4 ⟨rfl,hb4⟩)
   have hbv:=hbx.trans ((Kit.Below.then hb3 hb4).mono (Nat.le_of_lt hglt))
   clear n0 n3
   obtain⟨n0,n3⟩:=HM.out w4 (Kit.Below.then hb3 hb4)
   clear q1 q2 q3 q4 q5 HM HA HB hb3 hb4 hbw
   by_cases h6:op=6
   ·subst h6
    go_wp2_with (go_at_call 176;refine(HYES _ _).out.mono ?_;rintro e w5 ⟨rfl,rfl⟩)
    go_ret
    refine⟨congrArg (fun x:Int=>Ending.returned (.int .u64 x)) (show _=((vAt locals e i:Nat):Int)from ?_),by rw[HGL.out];exact hbv⟩
    rw[HVAL.out]
    exact(show _=((a*b % M64:Nat):Int) by rw[IntKind.wrap_u64,Int.natCast_emod,Int.natCast_mul];rfl)
   have q6:(op == 6)=false:=by simp[h6]
   by_cases h7:op=7
   ·subst h7
    go_wp2_with (go_at_call 176;refine(HYES _ _).out.mono ?_;rintro e w5 ⟨rfl,rfl⟩)
    go_ret
    refine⟨congrArg (fun x:Int=>Ending.returned (.int .u64 x)) (show _=((vAt locals e i:Nat):Int)from ?_),by rw[HGL.out];exact hbv⟩
    rw[HVAL.out]
    exact(show _=(((a+b) % M64:Nat):Int) by rw[IntKind.wrap_u64,Int.natCast_emod,Int.natCast_add];rfl)
   have q7:(op == 7)=false:=by simp[h7]
   by_cases h8:op=8
   ·subst h8
    go_wp2_with (go_at_call 176;refine(HYES _ _).out.mono ?_;rintro e w5 ⟨rfl,rfl⟩)
    go_ret
    refine⟨congrArg (fun x:Int=>Ending.returned (.int .u64 x)) (show _=((vAt locals e i:Nat):Int)from ?_),by rw[HGL.out];exact hbv⟩
    rw[HVAL.out]
    exact wrap_sub a b ha hb
   have q8:(op == 8)=false:=by simp[h8]
   by_cases h9:op=9
   ·subst h9
    go_wp2_with fail
    go_loopg [8,10] (b % 64) (fun m s8 s10 wr=>ShRel (fun k=>a*2 ^ k % M64) (b % 64) w4 m s8 s10 wr)
    case atStart=>exact⟨0,a,rfl,rfl,by show a=a*2 ^ 0 % M64;rw[Nat.pow_zero,Nat.mul_one,Nat.mod_eq_of_lt ha],Nat.zero_le _,rfl,rfl⟩
    case round =>
     obtain⟨k,v,rfl,rfl,hv,hk,hm,rfl⟩:=hrel
     have HM:=Lib.hid hm
     have HV:=Lib.hid hv
     clear hm hv
     by_cases hkb:k<b % 64
     ·have r1:(k:Int)<((b % 64:Nat):Int):=by omega
      go_wp2_with fail
      go_roundg (b % 64-(k+1))
      case measure=>have:=HM.out;omega
      case rel=>exact⟨k+1,(v+v) % M64,by push_cast;rfl,congrArg (Value.int .u64) (dbl_wrap v),by rw[HV.out];exact shl_next a k,hkb,rfl,rfl⟩
     ·obtain rfl:k=b % 64:=by omega
      have r1:¬((b:Int) % 64<(b:Int) % 64):=by omega
      clear hkb
      go_wp2_with fail
      go_ret
      exact⟨congrArg (fun x:Int=>Ending.returned (.int .u64 x)) (show((v:Nat):Int)=((vAt locals e i:Nat):Int) by rw[HVAL.out,HV.out];rfl),by rw[HGL.out];exact hbv⟩
   have q9:(op == 9)=false:=by simp[h9]
   by_cases h10:op=10
   ·subst h10
    go_wp2_with fail
    go_loopg [8,11] (b % 64) (fun m s8 s10 wr=>ShRel (fun k=>a / 2 ^ k) (b % 64) w4 m s8 s10 wr)
    case atStart=>exact⟨0,a,rfl,rfl,by show a=a / 2 ^ 0;rw[Nat.pow_zero,Nat.div_one],Nat.zero_le _,rfl,rfl⟩
    case round =>
     obtain⟨k,v,rfl,rfl,hv,hk,hm,rfl⟩:=hrel
     have HM:=Lib.hid hm
     have HV:=Lib.hid hv
     clear hm hv
     by_cases hkb:k<b % 64
     ·have r1:(k:Int)<((b % 64:Nat):Int):=by omega
      go_wp2_with fail
      go_roundg (b % 64-(k+1))
      case measure=>have:=HM.out;omega
      case rel=>exact⟨k+1,v / 2,by push_cast;rfl,congrArg (Value.int .u64) (half_wrap v (by rw[HV.out];exact Nat.lt_of_le_of_lt (Nat.div_le_self _ _) ha)),by rw[HV.out];exact shr_next a k,hkb,rfl,rfl⟩
     ·obtain rfl:k=b % 64:=by omega
      have r1:¬((b:Int) % 64<(b:Int) % 64):=by omega
      clear hkb
      go_wp2_with fail
      go_ret
      exact⟨congrArg (fun x:Int=>Ending.returned (.int .u64 x)) (show((v:Nat):Int)=((vAt locals e i:Nat):Int) by rw[HVAL.out,HV.out];rfl),by rw[HGL.out];exact hbv⟩
   have q10:(op == 10)=false:=by simp[h10]
   by_cases h11:op=11
   ·subst h11
    go_wp2_with (go_at_call 176;refine(HYES _ _).out.mono ?_;rintro e w5 ⟨rfl,rfl⟩)
    go_ret
    refine⟨congrArg (fun x:Int=>Ending.returned (.int .u64 x)) (show _=((vAt locals e i:Nat):Int)from ?_),by rw[HGL.out];exact hbv⟩
    rw[HVAL.out]
    exact u64_and_nat a b ha hb
   have q11:(op == 11)=false:=by simp[h11]
   by_cases h12:op=12
   ·subst h12
    go_wp2_with (go_at_call 176;refine(HYES _ _).out.mono ?_;rintro e w5 ⟨rfl,rfl⟩)
    go_ret
    refine⟨congrArg (fun x:Int=>Ending.returned (.int .u64 x)) (show _=((vAt locals e i:Nat):Int)from ?_),by rw[HGL.out];exact hbv⟩
    rw[HVAL.out]
    exact u64_xor_nat a b ha hb
   have q12:(op == 12)=false:=by simp[h12]
   by_cases h13:op=13
   ·subst h13
    go_wp2_with (go_at_call 176;refine(HYES _ _).out.mono ?_;rintro e w5 ⟨rfl,rfl⟩)
    go_ret
    refine⟨congrArg (fun x:Int=>Ending.returned (.int .u64 x)) (show _=((vAt locals e i:Nat):Int)from ?_),by rw[HGL.out];exact hbv⟩
    rw[HVAL.out]
    exact u64_or_nat a b ha hb
   have q13:(op == 13)=false:=by simp[h13]
   by_cases h14:op=14
   ·subst h14
    go_wp2_with (go_at_call 176;refine(HYES _ _).out.mono ?_;rintro e w5 ⟨rfl,rfl⟩)
    go_ret
    refine⟨congrArg (fun x:Int=>Ending.returned (.int .u64 x)) (show _=((vAt locals e i:Nat):Int)from ?_),by rw[HGL.out];exact hbv⟩
    rw[HVAL.out]
    exact(show((truth ((a:Int) == (b:Int)):Nat):Int)=((truth (a == b):Nat):Int) by rw[beq_cast])
   have q14:(op == 14)=false:=by simp[h14]
   by_cases h15:op=15
   ·subst h15
    go_wp2_with (go_at_call 176;refine(HYES _ _).out.mono ?_;rintro e w5 ⟨rfl,rfl⟩)
    go_ret
    refine⟨congrArg (fun x:Int=>Ending.returned (.int .u64 x)) (show _=((vAt locals e i:Nat):Int)from ?_),by rw[HGL.out];exact hbv⟩
    rw[HVAL.out]
    exact(show((truth ((a:Int) != (b:Int)):Nat):Int)=((truth (a != b):Nat):Int) by rw[bne,bne,beq_cast])
   have q15:(op == 15)=false:=by simp[h15]
   by_cases h16:op=16
   ·subst h16
    go_wp2_with (go_at_call 176;refine(HYES _ _).out.mono ?_;rintro e w5 ⟨rfl,rfl⟩)
    go_ret
    refine⟨congrArg (fun x:Int=>Ending.returned (.int .u64 x)) (show _=((vAt locals e i:Nat):Int)from ?_),by rw[HGL.out];exact hbv⟩
    rw[HVAL.out]
    rfl
   have q16:(op == 16)=false:=by simp[h16]
   by_cases h17:op=17
   ·subst h17
    go_wp2_with (go_at_call 176;refine(HYES _ _).out.mono ?_;rintro e w5 ⟨rfl,rfl⟩)
    go_ret
    refine⟨congrArg (fun x:Int=>Ending.returned (.int .u64 x)) (show _=((vAt locals e i:Nat):Int)from ?_),by rw[HGL.out];exact hbv⟩
    rw[HVAL.out]
    rfl
   have q17:(op == 17)=false:=by simp[h17]
   by_cases h18:op=18
   ·subst h18
    go_wp2_with (go_at_call 176;refine(HYES _ _).out.mono ?_;rintro e w5 ⟨rfl,rfl⟩)
    go_ret
    refine⟨congrArg (fun x:Int=>Ending.returned (.int .u64 x)) (show _=((vAt locals e i:Nat):Int)from ?_),by rw[HGL.out];exact hbv⟩
    rw[HVAL.out]
    rfl
   have q18:(op == 18)=false:=by simp[h18]
   go_wp2_with (go_at_call 176;refine(HYES _ _).out.mono ?_;rintro e w5 ⟨rfl,rfl⟩)
   go_ret
   refine⟨congrArg (fun x:Int=>Ending.returned (.int .u64 x)) (show _=((vAt locals e i:Nat):Int)from ?_),by rw[HGL.out];exact hbv⟩
   rw[HVAL.out]
   show((truth (decide (b≤a)):Nat):Int)=_
   simp[two, *]
end Go.Proofs.YtmjilfamjlnigaaGreat.RefW
namespace Go.Proofs.YtmjilfamjlnigaaGreat.SrcP
open Go
section
variable {M:Type} {K:Kd M} {nc:Nat} {r:Rn M}
structure RnOk (nc:Nat) (r:Rn M):Prop where
 cells:r.cells.length=nc
 last:r.last.length=nc
 co:r.co.length=nc
 outs:r.outs.length=r.ths.length
 vals:∀c∈r.cells,c<M64
 nums:∀x∈r.ths,x.nums.length≤r.events.length
 rf:r.rf.length≤r.events.length
 rmw:r.rmw.length≤r.events.length
 coi:∀l∈r.co,l.length≤r.events.length
 outi:∀l∈r.outs,l.length≤r.used
 log:r.log.length≤r.used+r.events.length
theorem mem_getD {α:Type} {l:List α} {P:α→Prop} (h:∀x∈l,P x) (d:α) (hd:P d) (i:Nat):P (l.getD i d):=by
 rw[Kit.gD]
 by_cases hi:i<l.length
 ·rw[Kit.eG hi];exact h _ (List.getElem_mem hi)
 ·rw[List.getElem?_eq_none (by omega)];exact hd
theorem mem_set {α:Type} {l:List α} {P:α→Prop} (h:∀x∈l,P x) {d:α} (hd:P d) (i:Nat):∀x∈l.set i d,P x:=fun x hx=>by
 rcases List.mem_or_eq_of_mem_set hx with h1 | h1
 ·exact h x h1
 ·rw[h1];exact hd
theorem RnOk.thN (h:RnOk nc r) (t:Nat):(r.th K t).nums.length≤r.events.length:=mem_getD h.nums _ (Nat.zero_le _) t
theorem RnOk.cellV (h:RnOk nc r) (c:Nat):r.cells.getD c 0<M64:=mem_getD h.vals 0 (by decide) c
theorem RnOk.setT (h:RnOk nc r) (t:Nat) {x:Th M} (hx:x.nums.length≤r.events.length):RnOk nc (r.setT t x) :=
 ⟨h.cells,h.last,h.co,by simpa [Rn.setT]using h.outs,h.vals,mem_set h.nums hx t,h.rf,h.rmw,h.coi,h.outi,h.log⟩
theorem RnOk.setM (h:RnOk nc r) (t:Nat) (m:M):RnOk nc (r.setM K t m):=h.setT t (h.thN t)
theorem RnOk.ask (h:RnOk nc r) (t:Nat):RnOk nc (r.ask K t):=h.setM t _
theorem RnOk.feed (h:RnOk nc r) (t v:Nat):RnOk nc (r.feed K t v):=h.setM t _
theorem RnOk.event (h:RnOk nc r) (t:Nat) (k l:Int) (v:Nat) (m:Int):RnOk nc (r.event K t k l v m):=by
 have hl:(r.event K t k l v m).events.length=r.events.length+1:=by simp[Rn.event]
 refine⟨h.cells,h.last,h.co,by simpa [Rn.event]using h.outs,h.vals,?_,?_,?_,?_,h.outi,?_⟩
 ·rw[hl]
  refine mem_set (fun x hx=>Nat.le_succ_of_le (h.nums x hx)) ?_ t
  simpa using h.thN t
 ·rw[hl];exact Nat.le_succ_of_le h.rf
 ·rw[hl];exact Nat.le_succ_of_le h.rmw
 ·rw[hl];exact fun l hl'=>Nat.le_succ_of_le (h.coi l hl')
 ·rw[hl];exact Nat.le_succ_of_le h.log
theorem RnOk.exd (h:RnOk nc r) (t:Nat) (w:Want):RnOk nc (r.exd K t w):=by
 unfold Rn.exd
 split
 ·exact h.setT t (h.thN t)
 ·exact h
theorem RnOk.load (h:RnOk nc r) (t:Nat) (w:Want):RnOk nc (r.load K t w):=by
 have h1:=h.event (K:=K) t 1 w.loc (r.cell w) w.mode
 have h2:RnOk nc ((r.event K t 1 w.loc (r.cell w) w.mode).read r.events.length w) :=
  ⟨h1.cells,h1.last,h1.co,h1.outs,h1.vals,h1.nums,by have:=h.rf;simp[Rn.read,Rn.event];omega,h1.rmw,h1.coi,h1.outi,h1.log⟩
 exact(h2.exd t w).feed t _
theorem RnOk.wrote (h:RnOk nc r) (t:Nat) (k l:Int) (v:Nat) (m:Int) (w:Want) (hv:w.val<M64):RnOk nc ((r.event K t k l v m).wrote r.events.length w):=by
 have h1:=h.event (K:=K) t k l v m
 refine⟨by simpa [Rn.wrote]using h1.cells,by simpa [Rn.wrote]using h1.last,by simpa [Rn.wrote]using h1.co,h1.outs,mem_set h1.vals hv _,h1.nums,h1.rf,h1.rmw,?_,h1.outi,h1.log⟩
 refine mem_set h1.coi ?_ _
 have:=mem_getD (P:=fun l=>l.length≤r.events.length) h.coi [] (Nat.zero_le _) w.loc.toNat
 simp only[Rn.event,List.length_append,List.length_singleton]at this ⊢
 omega
theorem RnOk.store (h:RnOk nc r) (t:Nat) (w:Want) (hv:w.val<M64):RnOk nc (r.store K t w):=(h.wrote t 2 w.loc w.val w.mode w hv).feed t 1
theorem store_events (t:Nat) (w:Want):(r.store K t w).events.length=r.events.length+1:=by simp[Rn.store,Rn.feed,Rn.setM,Rn.setT,Rn.wrote,Rn.event]
theorem load_events (t:Nat) (w:Want):(r.load K t w).events.length=r.events.length+1:=by
 have:∀r':Rn M,(r'.exd K t w).events=r'.events:=fun r'=>by unfold Rn.exd;split <;> rfl
 simp[Rn.load,Rn.feed,Rn.setM,Rn.setT,this,Rn.read,Rn.event]
theorem RnOk.second (h:RnOk nc r) (t n:Nat) (hv:(r.wants K t).val<M64):RnOk nc (r.second K t n):=by
 unfold Rn.second
 simp only
 split
 ·exact h
 ·have h3:=h.store (K:=K) t (r.wants K t) hv
  have e1:=store_events (K:=K) (r:=r) t (r.wants K t)
  have e2:(r.store K t (r.wants K t)).rmw=r.rmw:=rfl
  have e3:(r.store K t (r.wants K t)).log=r.log:=rfl
  have e4:(r.store K t (r.wants K t)).used=r.used:=rfl
  have i1:=h.rmw
  have i2:=h.log
  split
  ·exact h3
  ·split
   ·exact⟨h3.cells,h3.last,h3.co,h3.outs,h3.vals,h3.nums,h3.rf,by simp only[e1,e2,List.length_append,List.length_singleton];omega,h3.coi,h3.outi,h3.log⟩
   ·exact⟨h3.cells,h3.last,h3.co,h3.outs,h3.vals,h3.nums,h3.rf,by simp only[e1,e2,List.length_append,List.length_singleton];omega,h3.coi,h3.outi,by simp only[e1,e3,e4,List.length_append,List.length_singleton];omega⟩
theorem RnOk.did (h:RnOk nc r) (t:Nat):RnOk nc (r.did t):=by
 have i:=h.log
 exact⟨h.cells,h.last,h.co,h.outs,h.vals,h.nums,h.rf,h.rmw,h.coi,fun l hl=>Nat.le_succ_of_le (h.outi l hl),by simp only[Rn.did,List.length_append,List.length_singleton];omega⟩
theorem RnOk.didOut (h:RnOk nc r) (t v:Nat):RnOk nc ((r.did t).out t v):=by
 have h1:=h.did t
 refine⟨h1.cells,h1.last,h1.co,by simpa [Rn.out]using h1.outs,h1.vals,h1.nums,h1.rf,h1.rmw,h1.coi,?_,h1.log⟩
 refine mem_set h1.outi ?_ _
 have:=mem_getD (P:=fun l=>l.length≤r.used) h.outi [] (Nat.zero_le _) t
 simp only[Rn.did,List.length_append,List.length_singleton]
 exact Nat.succ_le_succ this
theorem RnOk.didDoo (h:RnOk nc r) (t:Nat) (w:Want) (hv:w.val<M64) (hv2:w.what=1→((((r.did t).load K t w).ask K t).wants K t).val<M64):RnOk nc ((r.did t).doo K t w):=by
 have h1:=h.did t
 unfold Rn.doo
 by_cases c1:w.what=1
 ·rw[if_pos c1]
  by_cases c2:(if K.words then w.one else w.ex)=false
  ·rw[if_pos c2];exact h1.load t w
  ·rw[if_neg c2];exact((h1.load t w).ask t).second t _ (hv2 c1)
 ·rw[if_neg c1]
  split
  ·split
   ·exact h1.feed t 0
   ·exact h1.store t w hv
  ·split
   ·exact(h1.event t _ _ _ _).feed t 0
   ·split
    ·exact(h.didOut t _).feed t 0
    ·exact h1
theorem RnOk.pick (h:RnOk nc r) (t:Int) (hv:∀t:Nat,((r.ask K t).wants K t).val<M64) (hv2:∀t:Nat,((r.ask K t).wants K t).what=1→(((((r.ask K t).did t).load K t ((r.ask K t).wants K t)).ask K t).wants K t).val<M64):RnOk nc (r.pick K t):=by
 unfold Rn.pick
 simp only
 split
 ·exact h
 ·split
  ·exact(h.ask t.toNat).didDoo t.toNat _ (hv _) (hv2 _)
  ·exact h.ask t.toNat
theorem doo_used (t:Nat) (w:Want):(r.doo K t w).used=r.used:=by
 have h1:∀r':Rn M,(r'.load K t w).used=r'.used:=fun r'=>by
  have:∀r':Rn M,(r'.exd K t w).used=r'.used:=fun r'=>by unfold Rn.exd;split <;> rfl
  show(((r'.event K t 1 w.loc (r'.cell w) w.mode).read r'.events.length w).exd K t w).used=_
  rw[this];rfl
 unfold Rn.doo Rn.second
 simp only
 repeat' split
 all_goals first | rfl | exact h1 r
theorem pick_used (t:Int):(r.pick K t).used≤r.used+1:=by
 unfold Rn.pick
 simp only
 split
 ·exact Nat.le_succ _
 ·split
  ·rw[doo_used];exact Nat.le_refl _
  ·exact Nat.le_succ _
theorem RnOk.start (K:Kd M) (n:Nat) (ms:List M):RnOk n (K.start n ms):=by
 rw[K.start_eq]
 refine⟨by simp[Kd.beginR],by simp[Kd.beginR],by simp[Kd.beginR],by simp,?_,?_,by simp[Kd.beginR],by simp[Kd.beginR],?_,?_,by simp[Kd.beginR]⟩
 ·intro c hc
  simp only[Kd.beginR,List.mem_replicate]at hc
  rw[hc.2];decide
 ·intro x hx
  simp only[List.mem_map]at hx
  obtain⟨m,_,rfl⟩:=hx
  exact Nat.zero_le _
 ·intro l hl
  simp only[Kd.beginR,List.mem_map,List.mem_range]at hl
  obtain⟨a,ha,rfl⟩:=hl
  simp[Kd.beginR];omega
 ·intro l hl
  simp only[List.mem_map]at hl
  obtain⟨m,_,rfl⟩:=hl
  exact Nat.zero_le _
end
end Go.Proofs.YtmjilfamjlnigaaGreat.SrcP
