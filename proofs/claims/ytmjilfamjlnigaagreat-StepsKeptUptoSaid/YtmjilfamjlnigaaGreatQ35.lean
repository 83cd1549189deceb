/- MEMORY: a play that was told, as it lies; WALKS: a program's run, told. -/
import Derived.Test.YtmjilfamjlnigaaGreatQ32
import Derived.Test.YtmjilfamjlnigaaGreatQ34
import Derived.Test.YtmjilfamjlnigaaGreatQ17
namespace Go.Proofs.YtmjilfamjlnigaaGreat.RunW
open Go Go.RowKit Kit SrcP SrcW MchW OwnR
def lePB (x y:Nat × Nat):Bool:=decide (x.1<y.1∨(x.1=y.1∧x.2≤y.2))
def sortP (l:List (Nat × Nat)):List (Nat × Nat):=l.mergeSort lePB
theorem sortP_eq {d l:List (Nat × Nat)} (hp:d.Perm l) (hs:SortedP d):d=sortP l:=by
 have h1:(sortP l).Pairwise fun x y=>lePB x y=true:=List.pairwise_mergeSort (by intro a b c;simp only[lePB,decide_eq_true_eq];omega) (by intro a b;simp only[lePB,Bool.or_eq_true,decide_eq_true_eq];omega) l
 unfold SortedP at hs
 refine List.Perm.eq_of_pairwise (le:=fun x y=>x.1<y.1∨(x.1=y.1∧x.2≤y.2)) ?_ hs ?_ (hp.trans (List.mergeSort_perm l lePB).symm)
 ·intro a b _ _ hab hba
  have:a.1=b.1∧a.2=b.2:=by omega
  exact Prod.ext this.1 this.2
 ·exact h1.imp fun {a b} h=>by simpa [lePB]using h
def toldR (r:Rn Mch):Rn Mch:={ r with rmw:=sortP r.rmw }
structure PV where
 ev:Value
 rf:Value
 co:Value
 rmw:Value
 cells:Value
 outs:Value
 hv:Value
 coi:List Value
 outi:List Value
structure PlayW (lo:Nat) (w:World) (P:PV) (r:Rn Mch) (hl:List Bool):Prop where
 ev:w.ownsRow lo 42 5 P.ev r.events.length (r.events.flatMap evC)
 rf:w.ownsRow lo 51 2 P.rf r.rf.length (r.rf.flatMap pairC)
 rmw:w.ownsRow lo 51 2 P.rmw r.rmw.length (r.rmw.flatMap pairC)
 co:w.ownsRow lo 25 1 P.co P.coi.length P.coi
 col:P.coi.length=r.co.length
 coi:∀c,w.ownsRow lo 3 1 (P.coi.getD c nilV) (r.co.getD c []).length ((r.co.getD c []).map i64V)
 cells:w.ownsRow lo 40 1 P.cells r.cells.length (r.cells.map u64V)
 outs:w.ownsRow lo 32 1 P.outs P.outi.length P.outi
 outl:P.outi.length=r.outs.length
 outi:∀c,w.ownsRow lo 40 1 (P.outi.getD c nilV) (r.outs.getD c []).length ((r.outs.getD c []).map u64V)
 hv:w.ownsRow lo 4 1 P.hv hl.length (hl.map Value.bool)
theorem own_mono {w:World} {lo lo':Nat} {e:TypeId} {size n:Nat} {v:Value} {xs:List Value} (h:w.ownsRow lo e size v n xs) (hl:lo'≤lo):w.ownsRow lo' e size v n xs:=by
 refine⟨h.1,?_⟩
 rcases h.2 with h1 | ⟨g,cap,cur,hv,hb,h2⟩
 ·exact .inl h1
 ·exact .inr ⟨g,cap,cur,hv,Nat.le_trans hl hb,h2⟩
theorem own_below {w w':World} {lo:Nat} {e:TypeId} {size n:Nat} {v:Value} {xs:List Value} (h:w.ownsRow lo e size v n xs) (hb:Below w.heap.size w w'):w'.ownsRow lo e size v n xs :=
 own_stays h fun k hk=>hb.block k (own_lt h hk)
theorem PlayW.below {lo:Nat} {w w':World} {P:PV} {r:Rn Mch} {hl:List Bool} (h:PlayW lo w P r hl) (hb:Below w.heap.size w w'):PlayW lo w' P r hl :=
 ⟨own_below h.ev hb,own_below h.rf hb,own_below h.rmw hb,own_below h.co hb,h.col,fun c=>own_below (h.coi c) hb,own_below h.cells hb,own_below h.outs hb,h.outl,fun c=>own_below (h.outi c) hb,own_below h.hv hb⟩
theorem RunW.play {K:Kd Mch} {base gr nc lo:Nat} {w:World} {who:Nat→Option Pt} {V:RV} {r:Rn Mch} (h:RunW (srcX nc) K base gr nc w who V r) (hlo:lo≤base) {hv:Value} {hl:List Bool} (hh:w.ownsRow lo 4 1 hv hl.length (hl.map Value.bool)) :
  PlayW lo w ⟨V.ev,V.rf,V.co,V.rmw,V.cells,V.outs,hv,V.coi,V.outi⟩ r hl :=
 ⟨own_mono (h.own .ev) hlo,own_mono (h.own .rf) hlo,own_mono (h.own .rmw) hlo,own_mono (h.own .co) hlo,h.col,fun c=>own_mono (h.own (.coi c)) hlo,own_mono (h.own .cells) hlo,own_mono (h.own .outs) hlo,h.outl,fun c=>own_mono (h.own (.outi c)) hlo,hh⟩
theorem play_le {M:Type} (K:Kd M) (fuel:Int):∀(l:List Int) (r x:Rn M),K.play fuel l r=(x,false)→x.events.length≤256
 | [],r,x,h=>by
  simp only[Kd.play,Prod.mk.injEq,decide_eq_false_iff_not]at h
  obtain⟨rfl,h⟩:=h
  omega
 | t :: l,r,x,h=>by
  unfold Kd.play at h
  split at h
  ·cases h
  ·split at h
   ·injection h with h _
    subst h
    omega
   ·exact play_le K fuel l _ x h
theorem source_le {p:SrcP.Prog} {picks:List Int} {fuel:Int} {lse:Bool} {r:Rn Mch} (h:sourceS p picks fuel lse=.ok r):r.events.length≤256:=by
 unfold sourceS at h
 split at h
 ·cases h
 ·unfold Kd.run at h
  cases hp:(srcK lse).play fuel picks ((srcK lse).start p.cells.toNat (p.threads.map newM))with
  | mk x b =>
   rw[hp]at h
   cases b with
   | true=>cases h
   | false =>
    obtain rfl:x=r:=by simpa using h
    exact play_le _ _ _ _ _ hp
theorem source_err {p:SrcP.Prog} {picks:List Int} {fuel:Int} {lse:Bool} {n:Nat} (h:sourceS p picks fuel lse=.error n):n=1∨n=2:=by
 unfold sourceS at h
 split at h
 ·injection h with h;exact .inl h.symm
 ·split at h
  ·injection h with h;exact .inr h.symm
  ·cases h
theorem source_whole {p:SrcP.Prog} {picks:List Int} {fuel:Int} {lse:Bool} {r:Rn Mch} (h:sourceS p picks fuel lse=.ok r):wholeP p=true:=by
 unfold sourceS at h
 split at h
 ·cases h
 ·rename_i h1
  cases hw:wholeP p with
  | true=>rfl
  | false=>exact absurd (.inr hw) h1
theorem source_ths {p:SrcP.Prog} {picks:List Int} {fuel:Int} {lse:Bool} {r:Rn Mch} (h:sourceS p picks fuel lse=.ok r):r.ths.length=p.threads.length∧r.outs.length=p.threads.length:=by
 unfold sourceS at h
 split at h
 ·cases h
 ·unfold Kd.run at h
  cases hp:(srcK lse).play fuel picks ((srcK lse).start p.cells.toNat (p.threads.map newM))with
  | mk x b =>
   rw[hp]at h
   cases b with
   | true=>cases h
   | false =>
    obtain rfl:x=r:=by simpa using h
    have hg:=play_grows (srcK lse) fuel picks ((srcK lse).start p.cells.toNat (p.threads.map newM))
    rw[hp,Kd.start_eq]at hg
    exact⟨by rw[hg.ths];simp,by rw[hg.outs];simp⟩
def putL (w:World) (g:Nat):Nat→List Value→World
 | _,[]=>w
 | i,v :: l=>putL (w.setCell ⟨g,i,none⟩ v) g (i+1) l
theorem putL_blk {g:Nat} {t:TypeId} (l:List Value):∀(w:World) (pre suf:List Value),Blk w g t (pre++suf).toArray→suf.length=l.length→Blk (putL w g pre.length l) g t (pre++l).toArray:=by
 induction l with
 | nil=>intro w pre suf h hl;obtain rfl:suf = []:=List.length_eq_zero_iff.1 hl;exact h
 | cons v l ih =>
  intro w pre suf h hl
  cases suf with
  | nil=>simp at hl
  | cons s suf =>
   have h1:=h.set pre.length v
   have e:((pre++s :: suf).toArray).setIfInBounds pre.length v=((pre++[v])++suf).toArray:=by
    apply Array.ext'
    simp
   rw[e]at h1
   have:=ih _ (pre++[v]) suf h1 (by simpa using hl)
   simp only[List.length_append,List.length_singleton,List.append_assoc,List.singleton_append]at this
   exact this
theorem putL_all {g:Nat} {t:TypeId} {w:World} {cs:Array Value} (h:Blk w g t cs) (l:List Value) (hl:cs.size=l.length):Blk (putL w g 0 l) g t l.toArray:=by
 have:=putL_blk l w [] cs.toList (by simpa using h) (by simpa using hl)
 simpa using this
theorem putL_kept {g:Nat} (l:List Value):∀(w:World) (i:Nat),KeptS (fun k=>k=g) w (putL w g i l):=by
 induction l with
 | nil=>intro w i;exact KeptS.refl _ _
 | cons v l ih =>
  intro w i
  exact(KeptS.set (S:=fun k=>k=g) (g:=g) (KeptS.refl _ w) rfl i v).trans (ih _ _)
theorem putL_go {P:World→Prop}{w:World}{g:Nat}{t:TypeId}{cs:Array Value}{l:List Value}(hB:Blk w g t cs)(hl:cs.size=l.length)(h:∀w',Blk w' g t l.toArray→KeptS (fun k=>k=g) w w'→P w'):P (putL w g 0 l):=h _ (putL_all hB l hl) (putL_kept l w 0)
theorem own_else {S:Nat→Prop} {w w':World} {lo e size n g:Nat} {v:Value} {xs:List Value} {t:TypeId} {cs:Array Value} (h:w.ownsRow lo e size v n xs) (hb:Blk w g t cs) (hne:e≠t) (hk:KeptS S w w') (hS:∀k,S k→k=g):w'.ownsRow lo e size v n xs :=
 own_stays h (fun k hk'=>hk.2.2.2.2 k (own_lt h hk') (fun e'=>own_type h hb hne (by rw[hk',hS k e'])))
theorem PlayW.else_ {S:Nat→Prop} {lo g:Nat} {w w':World} {P:PV} {r:Rn Mch} {hl:List Bool} {cs:Array Value} (h:PlayW lo w P r hl) (hb:Blk w g 36 cs) (hk:KeptS S w w') (hS:∀k,S k→k=g):PlayW lo w' P r hl :=
 ⟨own_else h.ev hb (by decide) hk hS,own_else h.rf hb (by decide) hk hS,own_else h.rmw hb (by decide) hk hS,own_else h.co hb (by decide) hk hS,h.col,fun c=>own_else (h.coi c) hb (by decide) hk hS,own_else h.cells hb (by decide) hk hS,own_else h.outs hb (by decide) hk hS,h.outl,fun c=>own_else (h.outi c) hb (by decide) hk hS,own_else h.hv hb (by decide) hk hS⟩
theorem haltL_len (K:Kd Mch) (l:List (Th Mch)):(haltL K l).length=l.length:=by simp[haltL]
theorem sortP_len (l:List (Nat × Nat)):(sortP l).length=l.length:=(List.mergeSort_perm l lePB).length_eq
def SourcePost (p:SrcP.Prog) (picks:List Int) (fuel:Int) (w:World) (e:Ending) (w':World):Prop :=
 Below w.heap.size w w'∧match sourceS p picks fuel false with
  | .error n=>e=.returned (.tuple #[.agg play0,.int .i64 (n:Int)])
  | .ok r=>∃(Ae:Option Addr) (ce:Nat) (Af:Option Addr) (cf:Nat) (Ao:Option Addr) (no co:Nat) (Am:Option Addr) (cm:Nat) (Ac:Option Addr) (cc:Nat) (Au:Option Addr) (nu cu:Nat) (Ah:Option Addr) (ch:Nat) (coi outi:List Value),
   e=.returned (.tuple #[.agg #[.int .i64 (p.cells.toNat:Int),.slice Ae r.events.length ce,.slice Af r.rf.length cf,.slice Ao no co,.slice Am r.rmw.length cm,.slice none 0 0,.slice none 0 0,.slice none 0 0,.slice Ac r.cells.length cc,.slice Au nu cu,.slice Ah r.ths.length ch,.int .i64 (r.used:Int)],.int .i64 0]) ∧
   PlayW w.heap.size w' ⟨.slice Ae r.events.length ce,.slice Af r.rf.length cf,.slice Ao no co,.slice Am r.rmw.length cm,.slice Ac r.cells.length cc,.slice Au nu cu,.slice Ah r.ths.length ch,coi,outi⟩ (toldR r) (haltL (srcK false) r.ths)
structure PlayWD (lo:Nat) (w:World) (P:PV) (r:Rn Mch) (hl:List Bool):Prop where
 pw:PlayW lo w P r hl
 dc:∀c c' k,c≠c'→(P.coi.getD c nilV).ownBlock=some k→(P.coi.getD c' nilV).ownBlock≠some k
 du:∀c c' k,c≠c'→(P.outi.getD c nilV).ownBlock=some k→(P.outi.getD c' nilV).ownBlock≠some k
 dx:∀t k,P.cells.ownBlock=some k→(P.outi.getD t nilV).ownBlock≠some k
theorem PlayWD.else_ {S:Nat→Prop} {lo g:Nat} {w w':World} {P:PV} {r:Rn Mch} {hl:List Bool} {cs:Array Value} (h:PlayWD lo w P r hl) (hb:Blk w g 36 cs) (hk:KeptS S w w') (hS:∀k,S k→k=g):PlayWD lo w' P r hl:=⟨h.pw.else_ hb hk hS,h.dc,h.du,h.dx⟩
theorem PlayWD.below {lo:Nat} {w w':World} {P:PV} {r:Rn Mch} {hl:List Bool} (h:PlayWD lo w P r hl) (hb:Below w.heap.size w w'):PlayWD lo w' P r hl:=⟨h.pw.below hb,h.dc,h.du,h.dx⟩
def TOut3 (lo base nc:Nat) (w:World) (r:Rn Mch) (hl:List Bool) (e:Ending) (w':World):Prop :=
 ∃(Ae:Option Addr) (ce:Nat) (Af:Option Addr) (cf:Nat) (Ao:Option Addr) (no co:Nat) (Am:Option Addr) (cm:Nat) (Ac:Option Addr) (cc:Nat) (Au:Option Addr) (nu cu:Nat) (Ah:Option Addr) (ch:Nat) (coi outi:List Value),
  e=.returned (.agg #[.int .i64 (nc:Int),.slice Ae r.events.length ce,.slice Af r.rf.length cf,.slice Ao no co,.slice Am r.rmw.length cm,.slice none 0 0,.slice none 0 0,.slice none 0 0,.slice Ac r.cells.length cc,.slice Au nu cu,.slice Ah hl.length ch,.int .i64 (r.used:Int)]) ∧
  PlayWD lo w' ⟨.slice Ae r.events.length ce,.slice Af r.rf.length cf,.slice Ao no co,.slice Am r.rmw.length cm,.slice Ac r.cells.length cc,.slice Au nu cu,.slice Ah hl.length ch,coi,outi⟩ (toldR r) hl∧Below base w w'
theorem told_any3 {K:Kd Mch} {base gr nc lo:Nat} {w:World} {who:Nat→Option Pt} {V:RV} {r:Rn Mch} (hX:MkC (srcX nc) K nc) (h:RunW (srcX nc) K base gr nc w who V r) (hok:RnOk nc r) (hev:r.events.length≤1000) (hth:r.ths.length≤1048576) (hlo:lo≤base) :
  Calls Tryz.prog 23 #[ptrV gr] w fun e w'=>TOut3 lo base nc w r (haltL K r.ths) e w':=by
 have hbl:=RunW.base_le h
 refine(told_any hX h hok hev hth).mono ?_
 rintro e w' ⟨who',ths,hv,d,rfl,hR,hp,hs,hm,hlen,ho,hn⟩
 obtain rfl:=sortP_eq hp hs
 obtain⟨Ae,ce,ve,_⟩:=own_slice (hR.own .ev)
 obtain⟨Af,cf,vf,_⟩:=own_slice (hR.own .rf)
 obtain⟨Ao,co,vo,_⟩:=own_slice (hR.own .co)
 obtain⟨Am,cm,vm,_⟩:=own_slice (hR.own .rmw)
 obtain⟨Ac,cc,vc,_⟩:=own_slice (hR.own .cells)
 obtain⟨Au,cu,vu,_⟩:=own_slice (hR.own .outs)
 obtain⟨Ah,ch,vh,_⟩:=own_slice ho
 simp only[RV.val,rowN,sortP_len]at ve vf vo vm vc vu
 have hP0:PlayW lo w' ⟨V.ev,V.rf,V.co,V.rmw,V.cells,V.outs,hv,V.coi,V.outi⟩ (toldR r) (haltL K r.ths):=by
  have hh:w'.ownsRow lo 4 1 hv (haltL K r.ths).length ((haltL K r.ths).map Value.bool):=by
   rw[haltL_len]
   exact own_mono ho (Nat.le_trans hlo hbl)
  have:=hR.play hlo hh
  exact⟨this.ev,this.rf,this.rmw,this.co,this.col,this.coi,this.cells,this.outs,this.outl,this.outi,this.hv⟩
 have hW:=fun q k=>RunW.ownW hR q k
 have hP:PlayWD lo w' ⟨V.ev,V.rf,V.co,V.rmw,V.cells,V.outs,hv,V.coi,V.outi⟩ (toldR r) (haltL K r.ths):=⟨hP0,fun c c' k hc h1 h2=>by
   have e1:=hW (.coi c) k h1
   have e2:=hW (.coi c') k h2
   rw[e1]at e2
   injection e2 with e2
   injection e2 with e2
   injection e2 with e2
   exact hc e2,fun c c' k hc h1 h2=>by
   have e1:=hW (.outi c) k h1
   have e2:=hW (.outi c') k h2
   rw[e1]at e2
   injection e2 with e2
   injection e2 with e2
   injection e2 with e2
   exact hc e2,fun t k h1 h2=>by
   have e1:=hW .cells k h1
   have e2:=hW (.outi t) k h2
   rw[e1]at e2
   injection e2 with e2
   injection e2 with e2
   cases e2⟩
 refine⟨Ae,ce,Af,cf,Ao,V.coi.length,co,Am,cm,Ac,cc,Au,V.outi.length,cu,Ah,ch,V.coi,V.outi,?_,?_,hm.belowBase h hbl⟩
 ·unfold playC
  rw[ve,vf,vo,vm,vc,vu,vh,haltL_len]
 ·rw[ve,vf,vo,vm,vc,vu,vh]at hP
  rw[haltL_len]
  exact hP
def SourcePost3 (p:SrcP.Prog) (picks:List Int) (fuel:Int) (w:World) (e:Ending) (w':World):Prop :=
 Below w.heap.size w w'∧match sourceS p picks fuel false with
  | .error n=>e=.returned (.tuple #[.agg play0,.int .i64 (n:Int)])
  | .ok r=>∃(Ae:Option Addr) (ce:Nat) (Af:Option Addr) (cf:Nat) (Ao:Option Addr) (no co:Nat) (Am:Option Addr) (cm:Nat) (Ac:Option Addr) (cc:Nat) (Au:Option Addr) (nu cu:Nat) (Ah:Option Addr) (ch:Nat) (coi outi:List Value),
   e=.returned (.tuple #[.agg #[.int .i64 (p.cells.toNat:Int),.slice Ae r.events.length ce,.slice Af r.rf.length cf,.slice Ao no co,.slice Am r.rmw.length cm,.slice none 0 0,.slice none 0 0,.slice none 0 0,.slice Ac r.cells.length cc,.slice Au nu cu,.slice Ah r.ths.length ch,.int .i64 (r.used:Int)],.int .i64 0]) ∧
   PlayWD w.heap.size w' ⟨.slice Ae r.events.length ce,.slice Af r.rf.length cf,.slice Ao no co,.slice Am r.rmw.length cm,.slice Ac r.cells.length cc,.slice Au nu cu,.slice Ah r.ths.length ch,coi,outi⟩ (toldR r) (haltL (srcK false) r.ths)
set_option maxRecDepth 100000 in
set_option maxHeartbeats 0 in
theorem Source_any3 (p:SrcP.Prog) (hv:ProgV p) (vt:Value) (hlen:p.threads.length≤1048576) (picks:List Int) (hpl:picks.length≤4194304) (fuel:Int) (hfu:fuel≤4194304) (w:World) (h:ThreadsAt w vt p.threads)
  (A:Option Addr) (cA:Nat) (hI:IntsAt w A picks) (hA:∀ad,A=some ad→ad.block<w.heap.size) :
  Calls Tryz.prog 9 #[.agg #[.int .i64 p.cells,vt],.slice A picks.length cA,.int .i64 fuel] w fun e w'=>SourcePost3 p picks fuel w e w':=by
 have HT:=Lib.hid h
 have HS:∀w2,Below w.heap.size w w2→Hid (Calls Tryz.prog 22 #[.agg #[.int .i64 p.cells,vt],.slice A picks.length cA,.int .i64 fuel,.bool false] w2 fun e w'=>SrcPost p picks fuel false w2 e w') :=
  fun w2 hb=>Lib.hid (source_any p hv vt hlen picks hpl fuel hfu false w2 (HT.out.below hb) A cA (fun i q hq=>by
   obtain⟨ad,hA1,hc⟩:=hI i q hq
   refine⟨ad,hA1,?_⟩
   have hb':(ad.add i).block=ad.block:=by unfold Addr.add;split <;> rfl
   rw[World.cell?_of_block (w:=w) (hb.block _ (by rw[hb'];exact hA ad hA1))]
   exact hc) (fun ad hA1=>Nat.lt_of_lt_of_le (hA ad hA1) hb.size))
 clear h hI hA
 obtain⟨B,cB,rfl,_⟩:=HT.out
 unfold SourcePost3
 unfold SrcPost at HS
 cases hS:sourceS p picks fuel false with
 | error n =>
  simp only[hS]at HS ⊢
  have hn:=source_err hS
  clear hS
  go_enter Tryz.func9,Tryz.ntmps9
  go_upto_region 1 with fail
  obtain⟨w0,hw0⟩:∃y,y=(w.alloc (.cells #[.int .i64 p.cells,.slice B p.threads.length cB] 24)).alloc (.cells #[.int .i64 0,.slice none 0 0,.slice none 0 0,.slice none 0 0,.slice none 0 0,.slice none 0 0,.slice none 0 0,.slice none 0 0,.slice none 0 0,.slice none 0 0,.slice none 0 0,.int .i64 0] 36):=⟨_,rfl⟩
  have hb0:Below w.heap.size w w0:=by rw[hw0];exact Kit.bl2
  have hP0:Blk w0 w.heap.size 24 #[.int .i64 p.cells,.slice B p.threads.length cB]:=by rw[hw0];exact(Blk.new w _ _).alloc _
  have hQ0:Blk w0 (w.heap.size+1) 36 play0:=by rw[hw0];exact Blk.newAt (sizeA w _) _ _
  rw[←hw0]
  clear hw0
  obtain⟨gq,hgq⟩:∃y,y=w.heap.size+1:=⟨_,rfl⟩
  have hgw:w.heap.size≤gq:=by omega
  rw[←hgq]at hQ0 ⊢
  clear hgq
  have k0:w0.cell? ⟨w.heap.size,0,none⟩=some (.int .i64 p.cells):=hP0.cell 0
  have k1:w0.cell? ⟨w.heap.size,1,none⟩=some (.slice B p.threads.length cB):=hP0.cell 1
  have HS0:=HS w0 hb0
  clear HS hP0
  rcases hn with rfl | rfl
  all_goals
   go_upto_region 2 with (go_at_call 22;refine HS0.out.mono ?_;rintro e w1 ⟨hb1,v,rfl⟩)
   clear k0 k1 HS0
   have hQ1:=hQ0.below' hb1
   have hbw1:=Kit.Below.then hb0 hb1
   obtain⟨q0,q1,q2,q3,q4,q5,q6,q7,q8,q9,q10,q11⟩:=Kit.cells12 hQ1
   have kf:=fun i=>hQ1.frozen i
   go_wp2_with fail
   clear kf q0 q1 q2 q3 q4 q5 q6 q7 q8 q9 q10 q11
   refine(show bodyPost _ _ _ _ _ (putL w1 gq 0 [.int .i64 0,.slice none 0 0,.slice none 0 0,.slice none 0 0,.slice none 0 0,.slice none 0 0,.slice none 0 0,.slice none 0 0,.slice none 0 0,.slice none 0 0,.slice none 0 0,.int .i64 0])from putL_go hQ1 rfl fun w9 hQ9 hk9=>?_)
   obtain⟨z0,z1,z2,z3,z4,z5,z6,z7,z8,z9,z10,z11⟩:=Kit.cells12 hQ9
   refine bodyPost_ret (v:=.tuple #[.agg #[.int .i64 0,.slice none 0 0,.slice none 0 0,.slice none 0 0,.slice none 0 0,.slice none 0 0,.slice none 0 0,.slice none 0 0,.slice none 0 0,.slice none 0 0,.slice none 0 0,.int .i64 0],.int .i64 _]) (by simp[results,Tryz.results9,go_sem,z0,z1,z2,z3,z4,z5,z6,z7,z8,z9,z10,z11]) rfl ⟨NewW.kept_below hbw1 hk9 (fun j hj=>by rw[hj];exact hgw),rfl⟩
 | ok r =>
  simp only[hS]at HS ⊢
  have hnc:p.cells.toNat≤4096:=by
   have hw:=source_whole hS
   simp only[wholeP,Bool.and_eq_true,decide_eq_true_eq]at hw
   omega
  have hle:=source_le hS
  have hth:r.ths.length≤1048576:=by have:=(source_ths hS).1;omega
  have HSO:=Lib.hid hS
  clear hS
  obtain⟨nc,hncq⟩:∃nc,nc=p.cells.toNat:=⟨_,rfl⟩
  simp only[←hncq]at HS hnc ⊢
  clear hncq
  go_enter Tryz.func9,Tryz.ntmps9
  go_upto_region 1 with fail
  obtain⟨w0,hw0⟩:∃y,y=(w.alloc (.cells #[.int .i64 p.cells,.slice B p.threads.length cB] 24)).alloc (.cells #[.int .i64 0,.slice none 0 0,.slice none 0 0,.slice none 0 0,.slice none 0 0,.slice none 0 0,.slice none 0 0,.slice none 0 0,.slice none 0 0,.slice none 0 0,.slice none 0 0,.int .i64 0] 36):=⟨_,rfl⟩
  have hb0:Below w.heap.size w w0:=by rw[hw0];exact Kit.bl2
  have hP0:Blk w0 w.heap.size 24 #[.int .i64 p.cells,.slice B p.threads.length cB]:=by rw[hw0];exact(Blk.new w _ _).alloc _
  have hQ0:Blk w0 (w.heap.size+1) 36 play0:=by rw[hw0];exact Blk.newAt (sizeA w _) _ _
  rw[←hw0]
  clear hw0
  obtain⟨gq,hgq⟩:∃y,y=w.heap.size+1:=⟨_,rfl⟩
  have hgw:w.heap.size≤gq:=by omega
  rw[←hgq]at hQ0 ⊢
  clear hgq
  have k0:w0.cell? ⟨w.heap.size,0,none⟩=some (.int .i64 p.cells):=hP0.cell 0
  have k1:w0.cell? ⟨w.heap.size,1,none⟩=some (.slice B p.threads.length cB):=hP0.cell 1
  have HS0:=HS w0 hb0
  clear HS hP0
  go_upto_region 4 with (go_at_call 22;refine HS0.out.mono ?_;rintro e w1 ⟨hb1,base,gr,who,V,rfl,hlo,hR,hok⟩)
  clear k0 k1 HS0
  have hQ1:=hQ0.below' hb1
  have hbw1:=Kit.Below.then hb0 hb1
  have hlow:w.heap.size≤base:=Nat.le_trans hb0.size hlo
  have HTO:=Lib.hid (told_any3 (lo:=w.heap.size) (srcC nc hnc false) hR hok (by omega) (by omega) hlow)
  unfold ptrV TOut3 at HTO
  rw[haltL_len]at HTO
  have hgb:gq<base:=Nat.lt_of_lt_of_le hQ0.lt hlo
  clear hR hok
  go_wp2_with (go_at_call 23;refine HTO.out.mono ?_;rintro e w2 ⟨Ae,ce,Af,cf,Ao,no,co,Am,cm,Ac,cc,Au,nu,cu,Ah,ch,coi,outi,rfl,hPW,hb2⟩;have hQ2:Blk w2 gq 36 play0:=(hb2.block gq hgb).trans hQ1;obtain⟨q0,q1,q2,q3,q4,q5,q6,q7,q8,q9,q10,q11⟩:=Kit.cells12 hQ2;have kf:=fun i=>hQ2.frozen i)
  clear kf q0 q1 q2 q3 q4 q5 q6 q7 q8 q9 q10 q11
  have hbw2:=hbw1.trans (hb2.mono hlow)
  refine(show bodyPost _ _ _ _ _ (putL w2 gq 0 [.int .i64 (nc:Int),.slice Ae r.events.length ce,.slice Af r.rf.length cf,.slice Ao no co,.slice Am r.rmw.length cm,.slice none 0 0,.slice none 0 0,.slice none 0 0,.slice Ac r.cells.length cc,.slice Au nu cu,.slice Ah r.ths.length ch,.int .i64 (r.used:Int)])from putL_go hQ2 rfl fun w9 hQ9 hk9=>?_)
  obtain⟨z0,z1,z2,z3,z4,z5,z6,z7,z8,z9,z10,z11⟩:=Kit.cells12 hQ9
  refine bodyPost_ret (v:=.tuple #[.agg #[.int .i64 (nc:Int),.slice Ae r.events.length ce,.slice Af r.rf.length cf,.slice Ao no co,.slice Am r.rmw.length cm,.slice none 0 0,.slice none 0 0,.slice none 0 0,.slice Ac r.cells.length cc,.slice Au nu cu,.slice Ah r.ths.length ch,.int .i64 (r.used:Int)],.int .i64 0]) (by simp[results,Tryz.results9,go_sem,z0,z1,z2,z3,z4,z5,z6,z7,z8,z9,z10,z11]) rfl ⟨NewW.kept_below hbw2 hk9 (fun j hj=>by rw[hj];exact hgw),Ae,ce,Af,cf,Ao,no,co,Am,cm,Ac,cc,Au,nu,cu,Ah,ch,coi,outi,rfl,hPW.else_ hQ2 hk9 (fun k hk=>hk)⟩
theorem Source_any (p:SrcP.Prog) (hv:ProgV p) (vt:Value) (hlen:p.threads.length≤1048576) (picks:List Int) (hpl:picks.length≤4194304) (fuel:Int) (hfu:fuel≤4194304) (w:World) (h:ThreadsAt w vt p.threads)
  (A:Option Addr) (cA:Nat) (hI:IntsAt w A picks) (hA:∀ad,A=some ad→ad.block<w.heap.size) :
  Calls Tryz.prog 9 #[.agg #[.int .i64 p.cells,vt],.slice A picks.length cA,.int .i64 fuel] w fun e w'=>SourcePost p picks fuel w e w':=by
 refine(Source_any3 p hv vt hlen picks hpl fuel hfu w h A cA hI hA).mono fun e w' hp=>?_
 unfold SourcePost3 at hp
 unfold SourcePost
 refine⟨hp.1,?_⟩
 have h2:=hp.2
 cases hS:sourceS p picks fuel false with
 | error n=>simp only[hS]at h2 ⊢;exact h2
 | ok r =>
  simp only[hS]at h2 ⊢
  obtain⟨Ae,ce,Af,cf,Ao,no,co,Am,cm,Ac,cc,Au,nu,cu,Ah,ch,coi,outi,he,hP⟩:=h2
  exact⟨Ae,ce,Af,cf,Ao,no,co,Am,cm,Ac,cc,Au,nu,cu,Ah,ch,coi,outi,he,hP.pw⟩
def ev0 (c:Nat):Ev:=⟨-1,2,(c:Int),0,1⟩
theorem begin_last (c:Nat):∀n:Nat,lastR ((List.range n).map ev0) (c:Int)=if c<n then(c:Int)else -1
 | 0=>by simp[lastR,lastG]
 | n+1=>by
  have ih:=begin_last c n
  unfold lastR at ih ⊢
  rw[List.range_succ,List.map_append,List.map_singleton,lastG_snoc,ih]
  simp only[List.length_map,List.length_range,ev0,true_and]
  by_cases h:n=c
  ·subst h;simp
  ·rw[if_neg (by omega)]
   by_cases h2:c<n
   ·rw[if_pos h2,if_pos (by omega)]
   ·rw[if_neg h2,if_neg (by omega)]
theorem begin_co (c:Nat):∀n:Nat,coG (c:Int) 0 ((List.range n).map ev0)=if c<n then [c]else []
 | 0=>by simp[coG]
 | n+1=>by
  have ih:=begin_co c n
  rw[List.range_succ,List.map_append,List.map_singleton,coG_snoc,ih]
  simp only[List.length_map,List.length_range,ev0,true_and]
  by_cases h:n=c
  ·subst h;simp
  ·rw[if_neg (show ¬((n:Int)=(c:Int)) by omega),List.append_nil]
   by_cases h2:c<n
   ·rw[if_pos h2,if_pos (by omega)]
   ·rw[if_neg h2,if_neg (by omega)]
theorem start_of (p:SrcP.Prog):RR.start p.cells.toNat p.threads=RR.of (SK.start p.cells.toNat (p.threads.map newM)) [] []:=by
 rw[Kd.start_eq]
 unfold RR.start RR.of Kd.beginR
 simp only[List.map_map]
 rfl
theorem start_th (p:SrcP.Prog) (t:Nat):((SK.start p.cells.toNat (p.threads.map newM)).th SK t).m=match p.threads[t]? with | some x=>newM x | none=>noM:=by
 rw[Kd.start_eq]
 unfold Rn.th
 simp only[List.getD_eq_getElem?_getD,List.getElem?_map]
 cases p.threads[t]? <;> rfl
theorem start_ri (p:SrcP.Prog) (hv:ProgV p) (hw:wholeP p=true):RI p.cells.toNat (SK.start p.cells.toNat (p.threads.map newM)):=by
 simp only[wholeP,Bool.and_eq_true,decide_eq_true_eq,List.all_eq_true]at hw
 obtain⟨hw1,hw2⟩:=hw
 refine⟨⟨fun c hc=>?_⟩,fun t=>?_,fun t ht=>?_⟩
 ·rw[Kd.start_eq]
  show lastR ((List.range p.cells.toNat).map ev0) (c:Int)=((List.range p.cells.toNat).getD c 0:Nat)∧(((List.range p.cells.toNat).map ev0)[(List.range p.cells.toNat).getD c 0]?).map Ev.val=some ((List.replicate p.cells.toNat 0).getD c 0)∧((List.range p.cells.toNat).map fun c=>[c]).getD c []=coG (c:Int) 0 ((List.range p.cells.toNat).map ev0)
  rw[begin_last,begin_co,if_pos hc,if_pos hc]
  simp[List.getD_eq_getElem?_getD,hc,ev0]
 ·rw[start_th]
  split
  ·exact⟨rfl,fun h=>by cases h⟩
  ·exact noM_ms
 ·rw[start_th]
  rw[Kd.start_eq]at ht
  simp only[List.length_map]at ht
  have hx:p.threads[t]?=some p.threads[t]:=Kit.eG ht
  rw[hx]
  have hm:p.threads[t]∈p.threads:=List.getElem_mem ht
  refine⟨_,newM_ok (th:=p.threads[t]) ?_ (hv _ hm)⟩
  rw[show((p.cells.toNat:Nat):Int)=p.cells by omega]
  exact hw2 _ hm
structure RefOk (p:SrcP.Prog) (picks:List Int) (fuel:Int) (r:Rn Mch) (lg pk:List Nat):Prop where
 eq:refS p picks fuel=.ok (RR.of r lg pk)
 ri:RI p.cells.toNat r
 rn:RnOk p.cells.toNat r
 lg:lg.length≤r.used+r.events.length
 pk:pk.length≤r.used
theorem refS_of (p:SrcP.Prog) (hv:ProgV p) (picks:List Int) (fuel:Int):match sourceS p picks fuel false with
  | .error n=>refS p picks fuel=.error n
  | .ok r=>∃lg pk,RefOk p picks fuel r lg pk:=by
 by_cases hf:fuel<0∨wholeP p=false
 ·have e:sourceS p picks fuel false=.error 1:=if_pos hf
  rw[e]
  exact if_pos hf
 ·have hw:wholeP p=true:=by
   cases h:wholeP p with
   | true=>rfl
   | false=>exact absurd (.inr h) hf
  rw[source_play (by omega) hw]
  have hR:refS p picks fuel=(match (RR.start p.cells.toNat p.threads).play p.cells.toNat fuel picks with
   |(_,true)=>.error 2
   |(r,false)=>.ok r):=if_neg hf
  obtain⟨lg,pk,e,a1,a2,a3,a4⟩:=play_of (nc:=p.cells.toNat) fuel picks (SK.start p.cells.toNat (p.threads.map newM)) [] [] (start_ri p hv hw) (RnOk.start SK _ _) (Nat.zero_le _) (Nat.zero_le _)
  rw[start_of,e]at hR
  show match outR (SK.play fuel picks (SK.start p.cells.toNat (p.threads.map newM)))with
   | .error n=>refS p picks fuel=.error n
   | .ok r=>∃lg pk,RefOk p picks fuel r lg pk
  cases hp:SK.play fuel picks (SK.start p.cells.toNat (p.threads.map newM))with
  | mk r b =>
   rw[hp]at hR a1 a2 a3 a4
   cases b with
   | true=>exact hR
   | false=>exact⟨lg,pk,hR,a1,a2,a3,a4⟩
/-! The pairs rise. -/
def RmwOk (r:Rn Mch):Prop:=r.rmw.Pairwise (fun x y=>x.1<y.1)∧∀p∈r.rmw,p.2=p.1+1∧p.2<r.events.length
theorem RmwOk.same {r r':Rn Mch} (h:RmwOk r) (h1:r'.rmw=r.rmw) (h2:r.events.length≤r'.events.length):RmwOk r':=by
 unfold RmwOk
 rw[h1]
 exact⟨h.1,fun p hp=>⟨(h.2 p hp).1,Nat.lt_of_lt_of_le (h.2 p hp).2 h2⟩⟩
theorem RmwOk.more {r r':Rn Mch} (h:RmwOk r) (h1:r'.rmw=r.rmw++[(r.events.length,r.events.length+1)]) (h2:r.events.length+2≤r'.events.length):RmwOk r':=by
 unfold RmwOk
 rw[h1]
 refine⟨List.pairwise_append.2 ⟨h.1,List.pairwise_singleton _ _,fun x hx y hy=>?_⟩,fun p hp=>?_⟩
 ·rw[List.mem_singleton]at hy
  subst hy
  have:=h.2 x hx
  show x.1<r.events.length
  omega
 ·rw[List.mem_append,List.mem_singleton]at hp
  rcases hp with hp | rfl
  ·exact⟨(h.2 p hp).1,by have:=(h.2 p hp).2;omega⟩
  ·exact⟨rfl,by show r.events.length+1<_;omega⟩
theorem load_rmw (r:Rn Mch) (t:Nat) (w:Want):(r.load SK t w).rmw=r.rmw∧(r.load SK t w).events.length=r.events.length+1:=by
 refine⟨?_,load_events t w⟩
 unfold Rn.load Rn.feed Rn.setM Rn.setT Rn.exd
 split <;> rfl
theorem doo_rmwOk {r:Rn Mch} (h:RmwOk r) (t:Nat) (w:Want):RmwOk (r.doo SK t w):=by
 unfold Rn.doo
 split
 ·rw[show(if SK.words=true then w.one else w.ex)=w.ex from rfl]
  split
  ·exact h.same (load_rmw r t w).1 (by rw[(load_rmw r t w).2];omega)
  ·unfold Rn.second
   simp only
   have h1:(((r.load SK t w).ask SK t)).rmw=r.rmw:=(load_rmw r t w).1
   have h2:(((r.load SK t w).ask SK t)).events.length=r.events.length+1:=(load_rmw r t w).2
   split
   ·exact h.same h1 (by omega)
   ·have h3:(((r.load SK t w).ask SK t).store SK t (((r.load SK t w).ask SK t).wants SK t)).rmw=r.rmw:=h1
    have h4:=store_events (K:=SK) (r:=(r.load SK t w).ask SK t) t (((r.load SK t w).ask SK t).wants SK t)
    split
    ·exact h.same h3 (by omega)
    ·split
     ·refine h.more ?_ ?_
      ·show _++_=_
       rw[h3,h2]
      ·show r.events.length+2≤(((r.load SK t w).ask SK t).store SK t (((r.load SK t w).ask SK t).wants SK t)).events.length
       omega
     ·refine h.more ?_ ?_
      ·show _++_=_
       rw[h3,h2]
      ·show r.events.length+2≤(((r.load SK t w).ask SK t).store SK t (((r.load SK t w).ask SK t).wants SK t)).events.length
       omega
 ·split
  ·split
   ·exact h.same rfl (Nat.le_refl _)
   ·exact h.same rfl (by rw[store_events];omega)
  ·split
   ·exact h.same rfl (by simp[Rn.feed,Rn.setM,Rn.setT,Rn.event])
   ·split
    ·exact h.same rfl (Nat.le_refl _)
    ·exact h
theorem pick_rmwOk {r:Rn Mch} (h:RmwOk r) (t:Int):RmwOk (r.pick SK t):=by
 unfold Rn.pick
 simp only
 split
 ·exact h
 ·split
  ·exact doo_rmwOk (h.same (r':=(r.ask SK t.toNat).did t.toNat) rfl (Nat.le_refl _)) _ _
  ·exact h.same rfl (Nat.le_refl _)
theorem play_rmwOk (fuel:Int):∀(l:List Int) (r:Rn Mch),RmwOk r→RmwOk (SK.play fuel l r).1
 | [],r,h=>h
 | t :: l,r,h=>by
  unfold Kd.play
  split
  ·exact h
  ·split
   ·exact h
   ·exact play_rmwOk fuel l _ (pick_rmwOk h t)
theorem source_rmwOk {p:SrcP.Prog} {picks:List Int} {fuel:Int} {r:Rn Mch} (h:sourceS p picks fuel false=.ok r):RmwOk r:=by
 unfold sourceS at h
 split at h
 ·cases h
 ·unfold Kd.run at h
  have hs:RmwOk (SK.start p.cells.toNat (p.threads.map newM)):=by
   rw[Kd.start_eq]
   exact⟨List.Pairwise.nil,fun p hp=>by cases hp⟩
  have h1:=play_rmwOk fuel picks _ hs
  cases hp:(srcK false).play fuel picks ((srcK false).start p.cells.toNat (p.threads.map newM))with
  | mk x b =>
   rw[hp]at h h1
   cases b with
   | true=>cases h
   | false =>
    obtain rfl:x=r:=by simpa using h
    exact h1
theorem rmw_sorted {r:Rn Mch} (h:RmwOk r):sortP r.rmw=r.rmw :=
 (sortP_eq (List.Perm.refl _) (h.1.imp fun {_a _b} hab=>.inl hab)).symm
end Go.Proofs.YtmjilfamjlnigaaGreat.RunW
