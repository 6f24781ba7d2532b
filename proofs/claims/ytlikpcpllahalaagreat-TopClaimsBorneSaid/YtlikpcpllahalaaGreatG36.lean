/- Parts of the proof. -/
import Derived.Test.YtlikpcpllahalaaGreatG35
set_option maxHeartbeats 16000000
set_option linter.unusedSimpArgs false
set_option linter.unusedVariables false
namespace Go.Proofs.YtlikpcpllahalaaGreat.V
open Go.RowKit
set_option maxRecDepth 100000
attribute [local go_sem] Option.toList_some Option.toList_none Int.reduceEq Int.reduceNe
def bu:List AV:=[int 0,int 0,int 0,int 0,int 0]
def dZ (h:History) (T:List Version) (c:Claim):Int×Option Cover:=
 if c.right=true then(if c.loss≤c.booked then(if c.policy=h.id then(if kE h T c.booked=0 then(match nk (kS h T c.booked) c.loss with
  |some s=>if s.st.on=true then(match nI s.st.covers c.peril with|some q=>(0,some q)|none=>(11,none)) else(11,none)
  |none=>(11,none)) else(kE h T c.booked,none)) else(7,none)) else(4,none)) else(1,none)
def qF (x:Int×Option Cover):AV:= .tup [.agg (match x.2 with|some q=>q.flat|none=>bu),int x.1]
attribute [local go_sem] lH rZ
theorem WL (h:History) (T:List Version) (c:Claim) (k1:Fun Tryz.prog 82 [.agg c.flat] (bool false)):Fun Tryz.prog 39 [.agg h.flat,.agg [dh T],.agg c.flat] (.tup [.agg bu,int (1)]):=by
 unfold bu
 refine jO 1 (ns:=[24,32]) (g:=80) Tryz.func39 rfl (Nat.le_of_ble_eq_true rfl) pR qE ai (by simp only[List.take_succ_cons,List.take_zero];rfl) rfl rfl aA rfl fun cx hN hR hF hL=> ?_
 apply dS;(case hA=>(simp only[go_sem,↓reduceIte];rfl))
 refine aL ?_
 refine' run tt (V.l1 ?_)
 refine⟨rfl,?_⟩
 try dsimp only
 refine' run tt (V.l1 ?_)
 refine⟨⟨⟨_,_,[],[.ptr 24 0,.ptr 32 0],rfl,rfl,.inl rfl,rfl⟩,rfl,rfl⟩,(by simp[ah,ax]),fun cx' hN hR hF=> ?_⟩
 try dsimp only
 refine eX ?_
 refine mU 2 (ch:=qD (1)) (by simp only[List.take_succ_cons,List.take_zero];rfl) rfl (by rw[hN];kernel_rfl) rfl ?_
 intro K hK
 (revert K;refine bK ?_;refine' aj tt k1 (V.l1 ?_))
 refine⟨lu rfl rfl rC rfl (by simp[go_sem]) (si (1)),_,[(24,44,[.int .i64 0,.int .i64 0,.int .i64 0,.int .i64 0,.int .i64 0]),(32,37,[.int .i64 (1)])],rfl,rfl,sj (1),?_,?_⟩
 ·intro p hp
  simp at hp
  rcases hp with rfl|rfl
  ·exact⟨⟨⟨44,bu⟩,by simp[ah,ax,bu],rfl,by simp[bu],by simp[bu]⟩,by simp[Value.oneCell']⟩
  ·exact⟨⟨⟨37,[int 0]⟩,by simp[ah,ax],rfl,by simp,by simp⟩,by simp[Value.oneCell']⟩
 ·simp only[iN,List.map_cons,List.map_nil]
  exact run tt tt
theorem WM (h:History) (T:List Version) (c:Claim) (k1:Fun Tryz.prog 82 [.agg c.flat] (bool true)) (h2:¬c.loss≤c.booked):Fun Tryz.prog 39 [.agg h.flat,.agg [dh T],.agg c.flat] (.tup [.agg bu,int (4)]):=by
 unfold bu
 have g2:(c.loss≤c.booked)=False:=eq_false h2
 refine jO 1 (ns:=[24,32]) (g:=80) Tryz.func39 rfl (Nat.le_of_ble_eq_true rfl) pR qE ai (by simp only[List.take_succ_cons,List.take_zero];rfl) rfl rfl aA rfl fun cx hN hR hF hL=> ?_
 apply dS;(case hA=>(simp only[go_sem,↓reduceIte];rfl))
 refine aL ?_
 refine' run tt (V.l1 ?_)
 refine⟨rfl,?_⟩
 try dsimp only
 refine' run tt (V.l1 ?_)
 refine⟨⟨⟨_,_,[],[.ptr 24 0,.ptr 32 0],rfl,rfl,.inl rfl,rfl⟩,rfl,rfl⟩,(by simp[ah,ax]),fun cx' hN hR hF=> ?_⟩
 try dsimp only
 (refine aD ?_)
 refine' aj tt (I k1 eH) (V.l1 ?_)
 refine eX ?_
 refine mU 5 (ch:=qD (4)) (by simp only[List.take_succ_cons,List.take_zero];rfl) rfl (by rw[hN];kernel_rfl) rfl ?_
 intro K hK
 (revert K;refine bK ?_;refine' run (I (@ge_iff_le Int _) (I g2 (decide_eq_false h2))) (V.l1 ?_))
 refine⟨lu rfl rfl rC rfl (by simp[go_sem]) (si (4)),_,[(24,44,[.int .i64 0,.int .i64 0,.int .i64 0,.int .i64 0,.int .i64 0]),(32,37,[.int .i64 (4)])],rfl,rfl,sj (4),?_,?_⟩
 ·intro p hp
  simp at hp
  rcases hp with rfl|rfl
  ·exact⟨⟨⟨44,bu⟩,by simp[ah,ax,bu],rfl,by simp[bu],by simp[bu]⟩,by simp[Value.oneCell']⟩
  ·exact⟨⟨⟨37,[int 0]⟩,by simp[ah,ax],rfl,by simp,by simp⟩,by simp[Value.oneCell']⟩
 ·simp only[iN,List.map_cons,List.map_nil]
  exact run tt tt
theorem WN (h:History) (T:List Version) (c:Claim) (k1:Fun Tryz.prog 82 [.agg c.flat] (bool true)) (h2:c.loss≤c.booked) (h3:¬c.policy=h.id):Fun Tryz.prog 39 [.agg h.flat,.agg [dh T],.agg c.flat] (.tup [.agg bu,int (7)]):=by
 unfold bu
 have g2:(c.loss≤c.booked)=True:=eq_true h2
 refine jO 1 (ns:=[24,32]) (g:=80) Tryz.func39 rfl (Nat.le_of_ble_eq_true rfl) pR qE ai (by simp only[List.take_succ_cons,List.take_zero];rfl) rfl rfl aA rfl fun cx hN hR hF hL=> ?_
 apply dS;(case hA=>(simp only[go_sem,↓reduceIte];rfl))
 refine aL ?_
 refine' run tt (V.l1 ?_)
 refine⟨rfl,?_⟩
 try dsimp only
 refine' run tt (V.l1 ?_)
 refine⟨⟨⟨_,_,[],[.ptr 24 0,.ptr 32 0],rfl,rfl,.inl rfl,rfl⟩,rfl,rfl⟩,(by simp[ah,ax]),fun cx' hN hR hF=> ?_⟩
 try dsimp only
 (refine aD ?_)
 refine' aj tt (I k1 eH) (V.l1 ?_)
 (refine aD ?_)
 refine' aj (I (@ge_iff_le Int _) (I g2 (decide_eq_true h2))) eH (V.l1 ?_)
 refine eX ?_
 refine mU 5 (ch:=qD (7)) (by simp only[List.take_succ_cons,List.take_zero];rfl) rfl (by rw[hN];kernel_rfl) rfl ?_
 intro K hK
 (revert K;refine bK ?_;refine' run (I (eq_false h3) (decide_eq_false h3)) (V.l1 ?_))
 refine⟨lu rfl rfl rC rfl (by simp[go_sem]) (si (7)),_,[(24,44,[.int .i64 0,.int .i64 0,.int .i64 0,.int .i64 0,.int .i64 0]),(32,37,[.int .i64 (7)])],rfl,rfl,sj (7),?_,?_⟩
 ·intro p hp
  simp at hp
  rcases hp with rfl|rfl
  ·exact⟨⟨⟨44,bu⟩,by simp[ah,ax,bu],rfl,by simp[bu],by simp[bu]⟩,by simp[Value.oneCell']⟩
  ·exact⟨⟨⟨37,[int 0]⟩,by simp[ah,ax],rfl,by simp,by simp⟩,by simp[Value.oneCell']⟩
 ·simp only[iN,List.map_cons,List.map_nil]
  exact run tt tt
theorem WO (h:History) (T:List Version) (c:Claim) (k1:Fun Tryz.prog 82 [.agg c.flat] (bool true)) (h2:c.loss≤c.booked) (h3:c.policy=h.id) (L:List Sl) (e:Int) (k4:Fun Tryz.prog 83 [.agg h.flat,.agg [dh T],int c.booked] (.tup [cK L,int e])) (h4:¬e=0):Fun Tryz.prog 39 [.agg h.flat,.agg [dh T],.agg c.flat] (.tup [.agg bu,int (e)]):=by
 unfold bu
 have g2:(c.loss≤c.booked)=True:=eq_true h2
 refine jO 1 (ns:=[24,32]) (g:=80) Tryz.func39 rfl (Nat.le_of_ble_eq_true rfl) pR qE ai (by simp only[List.take_succ_cons,List.take_zero];rfl) rfl rfl aA rfl fun cx hN hR hF hL=> ?_
 apply dS;(case hA=>(simp only[go_sem,↓reduceIte];rfl))
 refine aL ?_
 refine' run tt (V.l1 ?_)
 refine⟨rfl,?_⟩
 try dsimp only
 refine' run tt (V.l1 ?_)
 refine⟨⟨⟨_,_,[],[.ptr 24 0,.ptr 32 0],rfl,rfl,.inl rfl,rfl⟩,rfl,rfl⟩,(by simp[ah,ax]),fun cx' hN hR hF=> ?_⟩
 try dsimp only
 (refine aD ?_)
 refine' aj tt (I k1 eH) (V.l1 ?_)
 (refine aD ?_)
 refine' aj (I (@ge_iff_le Int _) (I g2 (decide_eq_true h2))) eH (V.l1 ?_)
 (refine aD ?_)
 refine' aj (I (eq_true h3) (decide_eq_true h3)) eH (V.l1 ?_)
 (refine aD ?_)
 refine' aj tt k4 (V.l1 ?_)
 refine eX ?_
 refine mU 3 (ch:=qD (e)) (by simp only[List.take_succ_cons,List.take_zero];rfl) rfl (by rw[hN];kernel_rfl) rfl ?_
 intro K hK
 (revert K;refine bK ?_;refine' run (I (eq_false h4) (decide_eq_false h4)) (V.l1 ?_))
 refine⟨lu rfl rfl rC rfl (by simp[go_sem]) (si (e)),_,[(24,44,[.int .i64 0,.int .i64 0,.int .i64 0,.int .i64 0,.int .i64 0]),(32,37,[.int .i64 (e)])],rfl,rfl,sj (e),?_,?_⟩
 ·intro p hp
  simp at hp
  rcases hp with rfl|rfl
  ·exact⟨⟨⟨44,bu⟩,by simp[ah,ax,bu],rfl,by simp[bu],by simp[bu]⟩,by simp[Value.oneCell']⟩
  ·exact⟨⟨⟨37,[int 0]⟩,by simp[ah,ax],rfl,by simp,by simp⟩,by simp[Value.oneCell']⟩
 ·simp only[iN,List.map_cons,List.map_nil]
  exact run tt tt
theorem WP (h:History) (T:List Version) (c:Claim) (k1:Fun Tryz.prog 82 [.agg c.flat] (bool true)) (h2:c.loss≤c.booked) (h3:c.policy=h.id) (L:List Sl) (k4:Fun Tryz.prog 83 [.agg h.flat,.agg [dh T],int c.booked] (.tup [cK L,int 0])) (k5:Fun Tryz.prog 84 [cK L,int c.loss] (lH none)):Fun Tryz.prog 39 [.agg h.flat,.agg [dh T],.agg c.flat] (.tup [.agg bu,int (11)]):=by
 unfold bu
 simp only[lH] at k5
 have g2:(c.loss≤c.booked)=True:=eq_true h2
 refine jO 1 (ns:=[24,32]) (g:=80) Tryz.func39 rfl (Nat.le_of_ble_eq_true rfl) pR qE ai (by simp only[List.take_succ_cons,List.take_zero];rfl) rfl rfl aA rfl fun cx hN hR hF hL=> ?_
 apply dS;(case hA=>(simp only[go_sem,↓reduceIte];rfl))
 refine aL ?_
 refine' run tt (V.l1 ?_)
 refine⟨rfl,?_⟩
 try dsimp only
 refine' run tt (V.l1 ?_)
 refine⟨⟨⟨_,_,[],[.ptr 24 0,.ptr 32 0],rfl,rfl,.inl rfl,rfl⟩,rfl,rfl⟩,(by simp[ah,ax]),fun cx' hN hR hF=> ?_⟩
 try dsimp only
 (refine aD ?_)
 refine' aj tt (I k1 eH) (V.l1 ?_)
 (refine aD ?_)
 refine' aj (I (@ge_iff_le Int _) (I g2 (decide_eq_true h2))) eH (V.l1 ?_)
 (refine aD ?_)
 refine' aj (I (eq_true h3) (decide_eq_true h3)) eH (V.l1 ?_)
 (refine aD ?_)
 refine' aj tt k4 (V.l1 ?_)
 (refine aD ?_)
 refine' aj tt eH (V.l1 ?_)
 (refine aD ?_)
 refine' aj tt k5 (V.l1 ?_)
 refine eX ?_
 refine mU 5 (ch:=qD (11)) (by simp only[List.take_succ_cons,List.take_zero];rfl) rfl (by rw[hN];kernel_rfl) rfl ?_
 intro K hK
 (revert K;refine bK ?_;refine' run tt (V.l1 ?_))
 refine⟨lu rfl rfl rC rfl (by simp[go_sem]) (si (11)),_,[(24,44,[.int .i64 0,.int .i64 0,.int .i64 0,.int .i64 0,.int .i64 0]),(32,37,[.int .i64 (11)])],rfl,rfl,sj (11),?_,?_⟩
 ·intro p hp
  simp at hp
  rcases hp with rfl|rfl
  ·exact⟨⟨⟨44,bu⟩,by simp[ah,ax,bu],rfl,by simp[bu],by simp[bu]⟩,by simp[Value.oneCell']⟩
  ·exact⟨⟨⟨37,[int 0]⟩,by simp[ah,ax],rfl,by simp,by simp⟩,by simp[Value.oneCell']⟩
 ·simp only[iN,List.map_cons,List.map_nil]
  exact run tt tt
theorem WQ (h:History) (T:List Version) (c:Claim) (k1:Fun Tryz.prog 82 [.agg c.flat] (bool true)) (h2:c.loss≤c.booked) (h3:c.policy=h.id) (L:List Sl) (k4:Fun Tryz.prog 83 [.agg h.flat,.agg [dh T],int c.booked] (.tup [cK L,int 0])) (s:Sl) (k5:Fun Tryz.prog 84 [cK L,int c.loss] (lH (some s))) (h6:s.st.on=false):Fun Tryz.prog 39 [.agg h.flat,.agg [dh T],.agg c.flat] (.tup [.agg bu,int (11)]):=by
 unfold bu
 simp only[lH] at k5
 have g2:(c.loss≤c.booked)=True:=eq_true h2
 refine jO 1 (ns:=[24,32]) (g:=80) Tryz.func39 rfl (Nat.le_of_ble_eq_true rfl) pR qE ai (by simp only[List.take_succ_cons,List.take_zero];rfl) rfl rfl aA rfl fun cx hN hR hF hL=> ?_
 apply dS;(case hA=>(simp only[go_sem,↓reduceIte];rfl))
 refine aL ?_
 refine' run tt (V.l1 ?_)
 refine⟨rfl,?_⟩
 try dsimp only
 refine' run tt (V.l1 ?_)
 refine⟨⟨⟨_,_,[],[.ptr 24 0,.ptr 32 0],rfl,rfl,.inl rfl,rfl⟩,rfl,rfl⟩,(by simp[ah,ax]),fun cx' hN hR hF=> ?_⟩
 try dsimp only
 (refine aD ?_)
 refine' aj tt (I k1 eH) (V.l1 ?_)
 (refine aD ?_)
 refine' aj (I (@ge_iff_le Int _) (I g2 (decide_eq_true h2))) eH (V.l1 ?_)
 (refine aD ?_)
 refine' aj (I (eq_true h3) (decide_eq_true h3)) eH (V.l1 ?_)
 (refine aD ?_)
 refine' aj tt k4 (V.l1 ?_)
 (refine aD ?_)
 refine' aj tt eH (V.l1 ?_)
 (refine aD ?_)
 refine' aj tt k5 (V.l1 ?_)
 refine eX ?_
 refine mU 5 (ch:=qD (11)) (by simp only[List.take_succ_cons,List.take_zero];rfl) rfl (by rw[hN];kernel_rfl) rfl ?_
 intro K hK
 (revert K;refine bK ?_;refine' run h6 (V.l1 ?_))
 refine⟨lu rfl rfl rC rfl (by simp[go_sem]) (si (11)),_,[(24,44,[.int .i64 0,.int .i64 0,.int .i64 0,.int .i64 0,.int .i64 0]),(32,37,[.int .i64 (11)])],rfl,rfl,sj (11),?_,?_⟩
 ·intro p hp
  simp at hp
  rcases hp with rfl|rfl
  ·exact⟨⟨⟨44,bu⟩,by simp[ah,ax,bu],rfl,by simp[bu],by simp[bu]⟩,by simp[Value.oneCell']⟩
  ·exact⟨⟨⟨37,[int 0]⟩,by simp[ah,ax],rfl,by simp,by simp⟩,by simp[Value.oneCell']⟩
 ·simp only[iN,List.map_cons,List.map_nil]
  exact run tt tt
theorem WR (h:History) (T:List Version) (c:Claim) (k1:Fun Tryz.prog 82 [.agg c.flat] (bool true)) (h2:c.loss≤c.booked) (h3:c.policy=h.id) (L:List Sl) (k4:Fun Tryz.prog 83 [.agg h.flat,.agg [dh T],int c.booked] (.tup [cK L,int 0])) (s:Sl) (k5:Fun Tryz.prog 84 [cK L,int c.loss] (lH (some s))) (h6:s.st.on=true) (k7:Fun Tryz.prog 85 [dz s.st.covers,int c.peril] (rZ none)):Fun Tryz.prog 39 [.agg h.flat,.agg [dh T],.agg c.flat] (.tup [.agg bu,int (11)]):=by
 unfold bu
 simp only[lH] at k5
 simp only[rZ] at k7
 have g2:(c.loss≤c.booked)=True:=eq_true h2
 refine jO 1 (ns:=[24,32]) (g:=80) Tryz.func39 rfl (Nat.le_of_ble_eq_true rfl) pR qE ai (by simp only[List.take_succ_cons,List.take_zero];rfl) rfl rfl aA rfl fun cx hN hR hF hL=> ?_
 apply dS;(case hA=>(simp only[go_sem,↓reduceIte];rfl))
 refine aL ?_
 refine' run tt (V.l1 ?_)
 refine⟨rfl,?_⟩
 try dsimp only
 refine' run tt (V.l1 ?_)
 refine⟨⟨⟨_,_,[],[.ptr 24 0,.ptr 32 0],rfl,rfl,.inl rfl,rfl⟩,rfl,rfl⟩,(by simp[ah,ax]),fun cx' hN hR hF=> ?_⟩
 try dsimp only
 (refine aD ?_)
 refine' aj tt (I k1 eH) (V.l1 ?_)
 (refine aD ?_)
 refine' aj (I (@ge_iff_le Int _) (I g2 (decide_eq_true h2))) eH (V.l1 ?_)
 (refine aD ?_)
 refine' aj (I (eq_true h3) (decide_eq_true h3)) eH (V.l1 ?_)
 (refine aD ?_)
 refine' aj tt k4 (V.l1 ?_)
 (refine aD ?_)
 refine' aj tt eH (V.l1 ?_)
 (refine aD ?_)
 refine' aj tt k5 (V.l1 ?_)
 (refine aD ?_)
 refine' aj h6 eH (V.l1 ?_)
 (refine aD ?_)
 refine' aj tt k7 (V.l1 ?_)
 refine eX ?_
 refine mU 1 (ch:=qD (11)) (by simp only[List.take_succ_cons,List.take_zero];rfl) rfl (by rw[hN];kernel_rfl) rfl ?_
 intro K hK
 (revert K;refine bK ?_;refine' run tt (V.l1 ?_))
 refine⟨lu rfl rfl rC rfl (by simp[go_sem]) (si (11)),_,[(24,44,[.int .i64 0,.int .i64 0,.int .i64 0,.int .i64 0,.int .i64 0]),(32,37,[.int .i64 (11)])],rfl,rfl,sj (11),?_,?_⟩
 ·intro p hp
  simp at hp
  rcases hp with rfl|rfl
  ·exact⟨⟨⟨44,bu⟩,by simp[ah,ax,bu],rfl,by simp[bu],by simp[bu]⟩,by simp[Value.oneCell']⟩
  ·exact⟨⟨⟨37,[int 0]⟩,by simp[ah,ax],rfl,by simp,by simp⟩,by simp[Value.oneCell']⟩
 ·simp only[iN,List.map_cons,List.map_nil]
  exact run tt tt
theorem WS (h:History) (T:List Version) (c:Claim) (k1:Fun Tryz.prog 82 [.agg c.flat] (bool true)) (h2:c.loss≤c.booked) (h3:c.policy=h.id) (L:List Sl) (k4:Fun Tryz.prog 83 [.agg h.flat,.agg [dh T],int c.booked] (.tup [cK L,int 0])) (s:Sl) (k5:Fun Tryz.prog 84 [cK L,int c.loss] (lH (some s))) (h6:s.st.on=true) (q:Cover) (k7:Fun Tryz.prog 85 [dz s.st.covers,int c.peril] (rZ (some q))):Fun Tryz.prog 39 [.agg h.flat,.agg [dh T],.agg c.flat] (.tup [.agg q.flat,int 0]):=by
 simp only[lH] at k5
 simp only[rZ] at k7
 have g2:(c.loss≤c.booked)=True:=eq_true h2
 refine jO 1 (ns:=[24,32]) (g:=80) Tryz.func39 rfl (Nat.le_of_ble_eq_true rfl) pR qE ai (by simp only[List.take_succ_cons,List.take_zero];rfl) rfl rfl aA rfl fun cx hN hR hF hL=> ?_
 apply dS;(case hA=>(simp only[go_sem,↓reduceIte];rfl))
 refine aL ?_
 refine' run tt (V.l1 ?_)
 refine⟨rfl,?_⟩
 try dsimp only
 refine' run tt (V.l1 ?_)
 refine⟨⟨⟨_,_,[],[.ptr 24 0,.ptr 32 0],rfl,rfl,.inl rfl,rfl⟩,rfl,rfl⟩,(by simp[ah,ax]),fun cx' hN hR hF=> ?_⟩
 try dsimp only
 (refine aD ?_)
 refine' aj tt (I k1 eH) (V.l1 ?_)
 (refine aD ?_)
 refine' aj (I (@ge_iff_le Int _) (I g2 (decide_eq_true h2))) eH (V.l1 ?_)
 (refine aD ?_)
 refine' aj (I (eq_true h3) (decide_eq_true h3)) eH (V.l1 ?_)
 (refine aD ?_)
 refine' aj tt k4 (V.l1 ?_)
 (refine aD ?_)
 refine' aj tt eH (V.l1 ?_)
 (refine aD ?_)
 refine' aj tt k5 (V.l1 ?_)
 (refine aD ?_)
 refine' aj h6 eH (V.l1 ?_)
 (refine aD ?_)
 refine' aj tt k7 (V.l1 ?_)
 (refine aD ?_)
 refine' aj tt eH (V.l1 ?_)
 refine aL ?_
 refine' run tt (V.l1 ?_)
 refine DW ?_
 exact run tt tt
theorem yn (h:History) (T:List Version) (c:Claim) (hs:Small h T) (hl:(kS h T c.booked).length≤1000000) (hq:∀s,s∈kS h T c.booked→s.st.covers.length≤1000000):Fun Tryz.prog 39 [.agg h.flat,.agg [dh T],.agg c.flat] (qF (dZ h T c)):=by
 have k1:=WH c
 unfold dZ
 by_cases h1:c.right=true
 ·rw[h1] at k1
  rw[if_pos h1]
  by_cases h2:c.loss≤c.booked
  ·rw[if_pos h2]
   by_cases h3:c.policy=h.id
   ·rw[if_pos h3]
    have k4:=Vq h T c.booked hs
    by_cases h4:kE h T c.booked=0
    ·rw[if_pos h4]
     rw[h4] at k4
     have k5:=TA (kS h T c.booked) false c.loss _ rfl hl
     cases h5:nk (kS h T c.booked) c.loss with
     |none=>rw[h5] at k5;exact WP h T c k1 h2 h3 _ k4 k5
     |some s=>
      rw[h5] at k5
      simp only
      by_cases h6:s.st.on=true
      ·rw[if_pos h6]
       have k7:=WK s.st.covers c.peril _ rfl (hq s (List.mem_of_find?_eq_some h5))
       cases h7:nI s.st.covers c.peril with
       |none=>rw[h7] at k7;exact WR h T c k1 h2 h3 _ k4 s k5 h6 k7
       |some q=>rw[h7] at k7;exact WS h T c k1 h2 h3 _ k4 s k5 h6 q k7
      ·rw[if_neg h6]
       exact WQ h T c k1 h2 h3 _ k4 s k5 (by simpa using h6)
    ·rw[if_neg h4];exact WO h T c k1 h2 h3 _ _ k4 h4
   ·rw[if_neg h3];exact WN h T c k1 h2 h3
  ·rw[if_neg h2];exact WM h T c k1 h2
 ·rw[if_neg h1]
  have h1:c.right=false:=by simpa using h1
  rw[h1] at k1
  exact WL h T c k1
end Go.Proofs.YtlikpcpllahalaaGreat.V
